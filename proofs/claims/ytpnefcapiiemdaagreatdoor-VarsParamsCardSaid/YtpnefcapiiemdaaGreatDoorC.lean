/- The walks of the functions, printed by a program of this proof, each held against the loaded program by the kernel. Conditions: none. -/
import Derived.Test.YtpnefcapiiemdaaGreatDoorProg
import Derived.Test.YtpnefcapiiemdaaGreatDoorF6
namespace Go.Proofs.YtpnefcapiiemdaaGreatDoor
open E
set_option maxRecDepth 100000
set_option linter.unusedVariables false

/- conch conchlaw08.VarsParams -/
def F3 (ops_0 p_1 : Value) (s : AS) (k : Value → AS → Prop) : Prop :=
 kJoin (fun _ s =>
 kCall Tryz.prog 6 [(.string (bs [122, 101, 114, 111])), (.slice none 0 0)] s fun v21 s =>
 kBuild [(.slice none 0 0), (.string (bs [])), (.slice none 0 0), (.int .i64 0)] [(1, 1, (.string (bs [122, 101, 114, 111])))] fun v22 =>
 kNew s (cellsV v22) fun v23 s =>
 kJoin (fun _ s =>
 kCall Tryz.prog 9 [v21, p_1] s fun v45 s =>
 kExt 0 v45 fun v46 =>
 kExt 1 v45 fun v47 =>
 kCall Tryz.prog 10 [v23, p_1] s fun v51 s =>
 kExt 0 v51 fun v52 =>
 kExt 1 v51 fun v53 =>
 kBin .eql v46 v52 fun v56 =>
 kGrd v56 true (fun k =>
 kEq 4 false v47 v53 fun v60 =>
 k [v60] s) [undef] s fun xs s =>
 un1 xs fun v60 =>
 kPick v56 v60 (.bool false) fun v61 =>
 kGrd v61 true (fun k =>
 kCall Tryz.prog 5 [] s fun v63 s =>
 k [v63] s) [undef] s fun xs s =>
 un1 xs fun v63 =>
 kPick v61 v63 (.bool false) fun v64 =>
 k v64 s) fun J2 =>
 kLoop (fun again3 xs s =>
 un1 xs fun i_7 =>
 kJoin (fun _ s =>
 kJoin (fun _ s =>
 kBin .add i_7 (.int .i64 1) fun v29 =>
 again3 [v29] s) fun J5 =>
 kIdx 5 ops_0 i_7 fun v33 =>
 kLdN s 5 v33 fun v34 =>
 kCall Tryz.prog 7 [v21, v34] s fun v35 s =>
 kIdx 5 ops_0 i_7 fun v39 =>
 kLdN s 5 v39 fun v40 =>
 kCall Tryz.prog 8 [v23, v40] s fun v41 s =>
 J5 [] s) fun J4 =>
 kLen false ops_0 fun v26 =>
 kBin .lss i_7 v26 fun v27 =>
 kCond v27 (
 J4 [] s) (
 J2 [] s)) [(.int .i64 0)] s) fun J1 =>
 kCall Tryz.prog 4 [ops_0] s fun v13 s =>
 kUn .not v13 fun v14 =>
 kGrd v14 false (fun k =>
 kLen true p_1 fun v17 =>
 kBin .gtr v17 (.int .i64 200) fun v18 =>
 k [v18] s) [undef] s fun xs s =>
 un1 xs fun v18 =>
 kPick v14 (.bool true) v18 fun v19 =>
 kCond v19 (
 kCall Tryz.prog 5 [] s fun v20 s =>
 k v20 s) (
 J1 [] s)
theorem F3_ok (ops_0 p_1 : Value) (s : AS) (k : Value → AS → Prop) : denFn Tryz.prog [] 3 [ops_0, p_1] s k = F3 ops_0 p_1 s k := by kernel_rfl
theorem f3 {ops_0 p_1 : Value} {s : AS} {k : Value → AS → Prop} (h : F3 ops_0 p_1 s k) : kCall Tryz.prog 3 [ops_0, p_1] s k := fn_by (F3_ok ops_0 p_1 s k) h
theorem k3_ok : okFn Tryz.prog 3 = true := by kernel_rfl

/- conch conchlaw08.few -/
def F4 (l_0 : Value) (s : AS) (k : Value → AS → Prop) : Prop :=
 kJoin (fun _ s =>
 kJoin (fun _ s =>
 k (.bool true) s) fun J2 =>
 kLoop (fun again3 xs s =>
 un1 xs fun i_3 =>
 kJoin (fun _ s =>
 kJoin (fun _ s =>
 kBin .add i_3 (.int .i64 1) fun v12 =>
 again3 [v12] s) fun J5 =>
 kIdx 5 l_0 i_3 fun v15 =>
 kFld 1 v15 fun v16 =>
 kLd s v16 fun v17 =>
 kLen true v17 fun v18 =>
 kBin .gtr v18 (.int .i64 200) fun v19 =>
 kGrd v19 false (fun k =>
 kIdx 5 l_0 i_3 fun v23 =>
 kFld 2 v23 fun v24 =>
 kLd s v24 fun v25 =>
 kLen true v25 fun v26 =>
 kBin .gtr v26 (.int .i64 200) fun v27 =>
 k [v27] s) [undef] s fun xs s =>
 un1 xs fun v27 =>
 kPick v19 (.bool true) v27 fun v28 =>
 kGrd v28 false (fun k =>
 kIdx 5 l_0 i_3 fun v32 =>
 kFld 4 v32 fun v33 =>
 kLd s v33 fun v34 =>
 kCall Tryz.prog 11 [v34] s fun v35 s =>
 kUn .not v35 fun v36 =>
 k [v36] s) [undef] s fun xs s =>
 un1 xs fun v36 =>
 kPick v28 (.bool true) v36 fun v37 =>
 kCond v37 (
 k (.bool false) s) (
 J5 [] s)) fun J4 =>
 kLen false l_0 fun v9 =>
 kBin .lss i_3 v9 fun v10 =>
 kCond v10 (
 J4 [] s) (
 J2 [] s)) [(.int .i64 0)] s) fun J1 =>
 kLen false l_0 fun v5 =>
 kBin .gtr v5 (.int .i64 60) fun v6 =>
 kCond v6 (
 k (.bool false) s) (
 J1 [] s)
theorem F4_ok (l_0 : Value) (s : AS) (k : Value → AS → Prop) : denFn Tryz.prog [] 4 [l_0] s k = F4 l_0 s k := by kernel_rfl
theorem f4 {l_0 : Value} {s : AS} {k : Value → AS → Prop} (h : F4 l_0 s k) : kCall Tryz.prog 4 [l_0] s k := fn_by (F4_ok l_0 s k) h
theorem k4_ok : okFn Tryz.prog 4 = true := by kernel_rfl

/- conch conchlaw08.awake -/
def F5 (s : AS) (k : Value → AS → Prop) : Prop :=
 (fun v14 s =>
 kCall Tryz.prog 6 [(.string (bs [115, 104])), v14] s fun v15 s =>
 kCall Tryz.prog 9 [v15, (.string (bs [49]))] s fun v18 s =>
 kExt 0 v18 fun v19 =>
 kExt 1 v18 fun v20 =>
 kCall Tryz.prog 9 [v15, (.string (bs [51]))] s fun v23 s =>
 kExt 0 v23 fun v24 =>
 kExt 1 v23 fun v25 =>
 kCall Tryz.prog 12 [v15, (.string (bs [120])), (.string (bs [49]))] s fun v27 s =>
 kCall Tryz.prog 13 [v15, (.string (bs [120]))] s fun v29 s =>
 kCall Tryz.prog 12 [v15, (.string (bs [120])), (.string (bs [50]))] s fun v31 s =>
 kCall Tryz.prog 14 [v15, (.string (bs [120]))] s fun v34 s =>
 kExt 0 v34 fun v35 =>
 kExt 1 v34 fun v36 =>
 kCall Tryz.prog 15 [v15, (.int .i64 3)] s fun v38 s =>
 kCall Tryz.prog 15 [v15, (.int .i64 1)] s fun v40 s =>
 kCall Tryz.prog 16 [v15] s fun v42 s =>
 kBin .eql v19 (.string (bs [97])) fun v44 =>
 kGrd v44 true (fun k =>
 k [v20] s) [undef] s fun xs s =>
 un1 xs fun v46 =>
 kPick v44 v46 (.bool false) fun v47 =>
 kGrd v47 true (fun k =>
 kUn .not v25 fun v50 =>
 k [v50] s) [undef] s fun xs s =>
 un1 xs fun v50 =>
 kPick v47 v50 (.bool false) fun v51 =>
 kGrd v51 true (fun k =>
 kBin .eql v27 (.int .i64 0) fun v54 =>
 k [v54] s) [undef] s fun xs s =>
 un1 xs fun v54 =>
 kPick v51 v54 (.bool false) fun v55 =>
 kGrd v55 true (fun k =>
 kBin .eql v29 (.int .i64 0) fun v58 =>
 k [v58] s) [undef] s fun xs s =>
 un1 xs fun v58 =>
 kPick v55 v58 (.bool false) fun v59 =>
 kGrd v59 true (fun k =>
 kBin .eql v31 (.int .i64 15) fun v62 =>
 k [v62] s) [undef] s fun xs s =>
 un1 xs fun v62 =>
 kPick v59 v62 (.bool false) fun v63 =>
 kGrd v63 true (fun k =>
 kBin .eql v35 (.string (bs [49])) fun v66 =>
 k [v66] s) [undef] s fun xs s =>
 un1 xs fun v66 =>
 kPick v63 v66 (.bool false) fun v67 =>
 kGrd v67 true (fun k =>
 k [v36] s) [undef] s fun xs s =>
 un1 xs fun v69 =>
 kPick v67 v69 (.bool false) fun v70 =>
 kGrd v70 true (fun k =>
 kBin .eql v38 (.int .i64 1) fun v73 =>
 k [v73] s) [undef] s fun xs s =>
 un1 xs fun v73 =>
 kPick v70 v73 (.bool false) fun v74 =>
 kGrd v74 true (fun k =>
 kBin .eql v40 (.int .i64 0) fun v77 =>
 k [v77] s) [undef] s fun xs s =>
 un1 xs fun v77 =>
 kPick v74 v77 (.bool false) fun v78 =>
 kGrd v78 true (fun k =>
 kLen false v42 fun v81 =>
 kBin .eql v81 (.int .i64 1) fun v82 =>
 k [v82] s) [undef] s fun xs s =>
 un1 xs fun v82 =>
 kPick v78 v82 (.bool false) fun v83 =>
 kGrd v83 true (fun k =>
 kIdx 1 v42 (.int .i64 0) fun v86 =>
 kLd s v86 fun v87 =>
 kBin .eql v87 (.string (bs [98])) fun v88 =>
 k [v88] s) [undef] s fun xs s =>
 un1 xs fun v88 =>
 kPick v83 v88 (.bool false) fun v89 =>
 k v89 s) (.slice (some ⟨s.n, 0, none⟩) 2 2) (s.new (.cells [(.string (bs [97])), (.string (bs [98]))]))
theorem F5_ok (s : AS) (k : Value → AS → Prop) : denFn Tryz.prog [] 5 [] s k = F5 s k := by kernel_rfl
theorem f5 {s : AS} {k : Value → AS → Prop} (h : F5 s k) : kCall Tryz.prog 5 [] s k := fn_by (F5_ok s k) h
theorem k5_ok : okFn Tryz.prog 5 = true := by kernel_rfl

/- conch vars.New -/
def F6 (zero_0 args_1 : Value) (s : AS) (k : Value → AS → Prop) : Prop :=
 kCall Tryz.prog 17 [args_1] s fun v7 s =>
 kBuild [(.string (bs [])), (.slice none 0 0)] [(0, 1, zero_0), (1, 1, v7)] fun v8 =>
 kMkm s fun v9 s =>
 kBuild [(.string (bs [])), (.slice none 0 0), (.map none), (.int .i64 0)] [(0, 2, v8), (2, 1, v9)] fun v10 =>
 kNew s (cellsV v10) fun v11 s =>
 k v11 s
theorem F6_ok (zero_0 args_1 : Value) (s : AS) (k : Value → AS → Prop) : denFn Tryz.prog [] 6 [zero_0, args_1] s k = F6 zero_0 args_1 s k := by kernel_rfl
theorem f6 {zero_0 args_1 : Value} {s : AS} {k : Value → AS → Prop} (h : F6 zero_0 args_1 s k) : kCall Tryz.prog 6 [zero_0, args_1] s k := fn_by (F6_ok zero_0 args_1 s k) h
theorem k6_ok : okFn Tryz.prog 6 = true := by kernel_rfl

/- conch conchlaw08.do -/
def F7 (v_0 o_1 : Value) (s : AS) (k : Value → AS → Prop) : Prop :=
 kNew s (cellsV o_1) fun o_3 s =>
 kJoin (fun _ s =>
 kFld 1 o_3 fun v44 =>
 kLd s v44 fun v45 =>
 kFld 2 o_3 fun v46 =>
 kLd s v46 fun v47 =>
 kCall Tryz.prog 12 [v_0, v45, v47] s fun v48 s =>
 k v48 s) fun J1 =>
 kLdN s 5 o_3 fun v5 =>
 kCall Tryz.prog 18 [v5] s fun v6 s =>
 kBin .eql v6 (.int .i64 2) fun v8 =>
 kCond v8 (
 kFld 1 o_3 fun v10 =>
 kLd s v10 fun v11 =>
 kCall Tryz.prog 19 [v_0, v11] s fun v12 s =>
 k v12 s) (
 kBin .eql v6 (.int .i64 3) fun v14 =>
 kCond v14 (
 kFld 1 o_3 fun v16 =>
 kLd s v16 fun v17 =>
 kCall Tryz.prog 20 [v_0, v17] s fun v18 s =>
 k v18 s) (
 kBin .eql v6 (.int .i64 4) fun v20 =>
 kCond v20 (
 kFld 1 o_3 fun v22 =>
 kLd s v22 fun v23 =>
 kCall Tryz.prog 13 [v_0, v23] s fun v24 s =>
 k v24 s) (
 kBin .eql v6 (.int .i64 5) fun v26 =>
 kCond v26 (
 kFld 4 o_3 fun v28 =>
 kLd s v28 fun v29 =>
 kCall Tryz.prog 21 [v_0, v29] s fun v30 s =>
 k (.int .i64 0) s) (
 kBin .eql v6 (.int .i64 6) fun v32 =>
 kCond v32 (
 kFld 3 o_3 fun v34 =>
 kLd s v34 fun v35 =>
 kCall Tryz.prog 15 [v_0, v35] s fun v36 s =>
 k v36 s) (
 kBin .eql v6 (.int .i64 7) fun v38 =>
 kCond v38 (
 kFld 3 o_3 fun v40 =>
 kLd s v40 fun v41 =>
 kCall Tryz.prog 22 [v_0, v41] s fun v42 s =>
 k (.int .i64 0) s) (
 J1 [] s))))))
theorem F7_ok (v_0 o_1 : Value) (s : AS) (k : Value → AS → Prop) : denFn Tryz.prog [] 7 [v_0, o_1] s k = F7 v_0 o_1 s k := by kernel_rfl
theorem f7 {v_0 o_1 : Value} {s : AS} {k : Value → AS → Prop} (h : F7 v_0 o_1 s k) : kCall Tryz.prog 7 [v_0, o_1] s k := fn_by (F7_ok v_0 o_1 s k) h
theorem k7_ok : okFn Tryz.prog 7 = true := by kernel_rfl

/- conch conchlaw08.asked -/
def F8 (v_0 o_1 : Value) (s : AS) (k : Value → AS → Prop) : Prop :=
 kNew s (cellsV o_1) fun o_3 s =>
 kJoin (fun _ s =>
 kFld 1 o_3 fun v46 =>
 kLd s v46 fun v47 =>
 kFld 2 o_3 fun v48 =>
 kLd s v48 fun v49 =>
 kCall Tryz.prog 26 [v_0, v47, v49] s fun v50 s =>
 k v50 s) fun J1 =>
 kLdN s 5 o_3 fun v5 =>
 kCall Tryz.prog 18 [v5] s fun v6 s =>
 kBin .eql v6 (.int .i64 2) fun v8 =>
 kCond v8 (
 kFld 1 o_3 fun v10 =>
 kLd s v10 fun v11 =>
 kCall Tryz.prog 23 [v_0, v11] s fun v12 s =>
 k v12 s) (
 kBin .eql v6 (.int .i64 3) fun v14 =>
 kCond v14 (
 kFld 1 o_3 fun v16 =>
 kLd s v16 fun v17 =>
 kCall Tryz.prog 24 [v_0, v17, (.bool false)] s fun v18 s =>
 k v18 s) (
 kBin .eql v6 (.int .i64 4) fun v20 =>
 kCond v20 (
 kFld 1 o_3 fun v22 =>
 kLd s v22 fun v23 =>
 kCall Tryz.prog 24 [v_0, v23, (.bool true)] s fun v24 s =>
 k v24 s) (
 kBin .eql v6 (.int .i64 5) fun v26 =>
 kCond v26 (
 kFld 4 o_3 fun v28 =>
 kLd s v28 fun v29 =>
 kNck v_0 fun v30 =>
 kFld 2 v30 fun v31 =>
 kSt s 1 v31 v29 fun s =>
 k (.int .i64 0) s) (
 kBin .eql v6 (.int .i64 6) fun v33 =>
 kCond v33 (
 kFld 3 o_3 fun v35 =>
 kLd s v35 fun v36 =>
 kCall Tryz.prog 25 [v_0, v36] s fun v37 s =>
 k v37 s) (
 kBin .eql v6 (.int .i64 7) fun v39 =>
 kCond v39 (
 kFld 3 o_3 fun v41 =>
 kLd s v41 fun v42 =>
 kNck v_0 fun v43 =>
 kFld 3 v43 fun v44 =>
 kSt s 1 v44 v42 fun s =>
 k (.int .i64 0) s) (
 J1 [] s))))))
theorem F8_ok (v_0 o_1 : Value) (s : AS) (k : Value → AS → Prop) : denFn Tryz.prog [] 8 [v_0, o_1] s k = F8 v_0 o_1 s k := by kernel_rfl
theorem f8 {v_0 o_1 : Value} {s : AS} {k : Value → AS → Prop} (h : F8 v_0 o_1 s k) : kCall Tryz.prog 8 [v_0, o_1] s k := fn_by (F8_ok v_0 o_1 s k) h
theorem k8_ok : okFn Tryz.prog 8 = true := by kernel_rfl

/- (*conch vars.Vars).Param -/
def F9 (v_0 p_1 : Value) (s : AS) (k : Value → AS → Prop) : Prop :=
 kJoin (fun _ s =>
 kJoin (fun _ s =>
 kJoin (fun _ s =>
 kNck v_0 fun v49 =>
 kFld 0 v49 fun v50 =>
 kCall Tryz.prog 30 [v50, p_1] s fun v52 s =>
 kExt 0 v52 fun v53 =>
 kExt 1 v52 fun v54 =>
 k (.tuple #[v53, v54]) s) fun J3 =>
 kCall Tryz.prog 29 [p_1] s fun v42 s =>
 kCond v42 (
 kCall Tryz.prog 14 [v_0, p_1] s fun v45 s =>
 kExt 0 v45 fun v46 =>
 kExt 1 v45 fun v47 =>
 k (.tuple #[v46, v47]) s) (
 J3 [] s)) fun J2 =>
 kBin .eql p_1 (.string (bs [35])) fun v10 =>
 kCond v10 (
 kNck v_0 fun v12 =>
 kFld 0 v12 fun v13 =>
 kFld 1 v13 fun v14 =>
 kLd s v14 fun v15 =>
 kLen false v15 fun v16 =>
 kCall Tryz.prog 27 [v16] s fun v17 s =>
 k (.tuple #[v17, (.bool true)]) s) (
 kBin .eql p_1 (.string (bs [63])) fun v19 =>
 kCond v19 (
 kNck v_0 fun v21 =>
 kFld 3 v21 fun v22 =>
 kLd s v22 fun v23 =>
 kCall Tryz.prog 27 [v23] s fun v24 s =>
 k (.tuple #[v24, (.bool true)]) s) (
 kJoin (fun xs s =>
 un1 xs fun v25 =>
 kCond v25 (
 kNck v_0 fun v29 =>
 kFld 0 v29 fun v30 =>
 kFld 1 v30 fun v31 =>
 kNck v_0 fun v35 =>
 kFld 0 v35 fun v36 =>
 kFld 1 v36 fun v37 =>
 kLd s v31 fun v32 =>
 kLd s v37 fun v38 =>
 kLen false v38 fun v39 =>
 kBin .gtr v39 (.int .i64 0) fun v40 =>
 kCall Tryz.prog 28 [(.string (bs [32])), v32] s fun v33 s =>
 kChk s v37 v38 (
 k (.tuple #[v33, v40]) s)) (
 J2 [] s)) fun J4 =>
 kBin .eql p_1 (.string (bs [64])) fun v26 =>
 kCond v26 (
 J4 [v26] s) (
 kBin .eql p_1 (.string (bs [42])) fun v27 =>
 J4 [v27] s)))) fun J1 =>
 kEq 0 false v_0 (.pointer none) fun v7 =>
 kCond v7 (
 k (.tuple #[(.string (bs [])), (.bool false)]) s) (
 J1 [] s)
theorem F9_ok (v_0 p_1 : Value) (s : AS) (k : Value → AS → Prop) : denFn Tryz.prog [(10, (.go 0 (.go 1 (.go 2 (.go 3 (.go 6 (.go 7 (.go 8 (.go 9 (.go 4 (.go 10 (.go 11 (.go 12 (.go 5 (.go 13 (.go 14 .done))))))))))))))))] 9 [v_0, p_1] s k = F9 v_0 p_1 s k := by kernel_rfl
theorem f9 {v_0 p_1 : Value} {s : AS} {k : Value → AS → Prop} (h : F9 v_0 p_1 s k) : kCall Tryz.prog 9 [v_0, p_1] s k := fn_by (F9_ok v_0 p_1 s k) h
theorem k9_ok : okFn Tryz.prog 9 = true := by kernel_rfl

/- (*conch conchref08.Vars).Param -/
def F10 (v_0 p_1 : Value) (s : AS) (k : Value → AS → Prop) : Prop :=
 kJoin (fun _ s =>
 kJoin (fun _ s =>
 kJoin (fun _ s =>
 k (.tuple #[(.string (bs [])), (.bool false)]) s) fun J3 =>
 kLoop (fun again4 xs s =>
 un1 xs fun i_6 =>
 kJoin (fun _ s =>
 kJoin (fun _ s =>
 kBin .add i_6 (.int .i64 1) fun v58 =>
 again4 [v58] s) fun J6 =>
 kBin .add i_6 (.int .i64 1) fun v60 =>
 kCall Tryz.prog 33 [v60] s fun v61 s =>
 kBin .eql v61 p_1 fun v63 =>
 kCond v63 (
 kNck v_0 fun v65 =>
 kFld 2 v65 fun v66 =>
 kLd s v66 fun v67 =>
 kIdx 1 v67 i_6 fun v69 =>
 kLd s v69 fun v70 =>
 k (.tuple #[v70, (.bool true)]) s) (
 J6 [] s)) fun J5 =>
 kNck v_0 fun v52 =>
 kFld 2 v52 fun v53 =>
 kLd s v53 fun v54 =>
 kLen false v54 fun v55 =>
 kBin .lss i_6 v55 fun v56 =>
 kCond v56 (
 J5 [] s) (
 J3 [] s)) [(.int .i64 0)] s) fun J2 =>
 kBin .eql p_1 (.string (bs [48])) fun v16 =>
 kCond v16 (
 kNck v_0 fun v18 =>
 kFld 1 v18 fun v19 =>
 kLd s v19 fun v20 =>
 k (.tuple #[v20, (.bool true)]) s) (
 kBin .eql p_1 (.string (bs [35])) fun v22 =>
 kCond v22 (
 kNck v_0 fun v24 =>
 kFld 2 v24 fun v25 =>
 kLd s v25 fun v26 =>
 kLen false v26 fun v27 =>
 kCall Tryz.prog 33 [v27] s fun v28 s =>
 k (.tuple #[v28, (.bool true)]) s) (
 kBin .eql p_1 (.string (bs [63])) fun v30 =>
 kCond v30 (
 kNck v_0 fun v32 =>
 kFld 3 v32 fun v33 =>
 kLd s v33 fun v34 =>
 kCall Tryz.prog 33 [v34] s fun v35 s =>
 k (.tuple #[v35, (.bool true)]) s) (
 kJoin (fun xs s =>
 un1 xs fun v36 =>
 kCond v36 (
 kNck v_0 fun v40 =>
 kFld 2 v40 fun v41 =>
 kNck v_0 fun v45 =>
 kFld 2 v45 fun v46 =>
 kLd s v41 fun v42 =>
 kLd s v46 fun v47 =>
 kLen false v47 fun v48 =>
 kBin .gtr v48 (.int .i64 0) fun v49 =>
 kCall Tryz.prog 34 [(.string (bs [32])), v42] s fun v43 s =>
 kChk s v46 v47 (
 k (.tuple #[v43, v49]) s)) (
 J2 [] s)) fun J7 =>
 kBin .eql p_1 (.string (bs [64])) fun v37 =>
 kCond v37 (
 J7 [v37] s) (
 kBin .eql p_1 (.string (bs [42])) fun v38 =>
 J7 [v38] s))))) fun J1 =>
 kCall Tryz.prog 31 [p_1] s fun v8 s =>
 kCond v8 (
 kCall Tryz.prog 32 [v_0, p_1] s fun v11 s =>
 kExt 0 v11 fun v12 =>
 kExt 1 v11 fun v13 =>
 k (.tuple #[v12, v13]) s) (
 J1 [] s)
theorem F10_ok (v_0 p_1 : Value) (s : AS) (k : Value → AS → Prop) : denFn Tryz.prog [(12, (.go 0 (.go 1 (.go 2 (.go 5 (.go 6 (.go 7 (.go 3 (.go 8 (.go 9 (.go 10 (.go 4 (.go 11 (.go 12 .done))))))))))))))] 10 [v_0, p_1] s k = F10 v_0 p_1 s k := by kernel_rfl
theorem f10 {v_0 p_1 : Value} {s : AS} {k : Value → AS → Prop} (h : F10 v_0 p_1 s k) : kCall Tryz.prog 10 [v_0, p_1] s k := fn_by (F10_ok v_0 p_1 s k) h
theorem k10_ok : okFn Tryz.prog 10 = true := by kernel_rfl

/- conch conchlaw08.Texts -/
def F11 (l_0 : Value) (s : AS) (k : Value → AS → Prop) : Prop :=
 kJoin (fun _ s =>
 kJoin (fun _ s =>
 k (.bool true) s) fun J2 =>
 kLoop (fun again3 xs s =>
 un1 xs fun i_3 =>
 kJoin (fun _ s =>
 kJoin (fun _ s =>
 kBin .add i_3 (.int .i64 1) fun v12 =>
 again3 [v12] s) fun J5 =>
 kIdx 1 l_0 i_3 fun v15 =>
 kLd s v15 fun v16 =>
 kLen true v16 fun v17 =>
 kBin .gtr v17 (.int .i64 200) fun v18 =>
 kCond v18 (
 k (.bool false) s) (
 J5 [] s)) fun J4 =>
 kLen false l_0 fun v9 =>
 kBin .lss i_3 v9 fun v10 =>
 kCond v10 (
 J4 [] s) (
 J2 [] s)) [(.int .i64 0)] s) fun J1 =>
 kLen false l_0 fun v5 =>
 kBin .gtr v5 (.int .i64 20) fun v6 =>
 kCond v6 (
 k (.bool false) s) (
 J1 [] s)
theorem F11_ok (l_0 : Value) (s : AS) (k : Value → AS → Prop) : denFn Tryz.prog [] 11 [l_0] s k = F11 l_0 s k := by kernel_rfl
theorem f11 {l_0 : Value} {s : AS} {k : Value → AS → Prop} (h : F11 l_0 s k) : kCall Tryz.prog 11 [l_0] s k := fn_by (F11_ok l_0 s k) h
theorem k11_ok : okFn Tryz.prog 11 = true := by kernel_rfl

/- (*conch vars.Vars).Set -/
def F12 (v_0 name_1 value_2 : Value) (s : AS) (k : Value → AS → Prop) : Prop :=
 kNew s (cellsV value_2) fun value_5 s =>
 kCall Tryz.prog 35 [v_0, name_1, (.bool true), (.func (.func 36) #[] #[value_5])] s fun v10 s =>
 k v10 s
theorem F12_ok (v_0 name_1 value_2 : Value) (s : AS) (k : Value → AS → Prop) : denFn Tryz.prog [] 12 [v_0, name_1, value_2] s k = F12 v_0 name_1 value_2 s k := by kernel_rfl
theorem f12 {v_0 name_1 value_2 : Value} {s : AS} {k : Value → AS → Prop} (h : F12 v_0 name_1 value_2 s k) : kCall Tryz.prog 12 [v_0, name_1, value_2] s k := fn_by (F12_ok v_0 name_1 value_2 s k) h
theorem k12_ok : okFn Tryz.prog 12 = true := by kernel_rfl

/- (*conch vars.Vars).Readonly -/
def F13 (v_0 name_1 : Value) (s : AS) (k : Value → AS → Prop) : Prop :=
 kCall Tryz.prog 35 [v_0, name_1, (.bool false), (.func (.func 37) #[] #[])] s fun v7 s =>
 k v7 s
theorem F13_ok (v_0 name_1 : Value) (s : AS) (k : Value → AS → Prop) : denFn Tryz.prog [] 13 [v_0, name_1] s k = F13 v_0 name_1 s k := by kernel_rfl
theorem f13 {v_0 name_1 : Value} {s : AS} {k : Value → AS → Prop} (h : F13 v_0 name_1 s k) : kCall Tryz.prog 13 [v_0, name_1] s k := fn_by (F13_ok v_0 name_1 s k) h
theorem k13_ok : okFn Tryz.prog 13 = true := by kernel_rfl

/- (*conch vars.Vars).Get -/
def F14 (v_0 name_1 : Value) (s : AS) (k : Value → AS → Prop) : Prop :=
 kJoin (fun _ s =>
 kNck v_0 fun v10 =>
 kFld 2 v10 fun v11 =>
 kLd s v11 fun v12 =>
 kGen Tryz.prog (.lk 48 false) [v12, name_1] s fun v14 s =>
 kNew s [(.string (bs [])), (.string (bs [])), (.bool false), (.bool false), (.bool false)] fun x_6 s =>
 kSt s 5 x_6 v14 fun s =>
 kFld 1 x_6 fun v15 =>
 kFld 2 x_6 fun v17 =>
 kLd s v15 fun v16 =>
 kLd s v17 fun v18 =>
 k (.tuple #[v16, v18]) s) fun J1 =>
 kEq 0 false v_0 (.pointer none) fun v8 =>
 kCond v8 (
 k (.tuple #[(.string (bs [])), (.bool false)]) s) (
 J1 [] s)
theorem F14_ok (v_0 name_1 : Value) (s : AS) (k : Value → AS → Prop) : denFn Tryz.prog [(4, (.go 0 (.go 2 (.go 1 (.go 4 (.go 3 (.go 5 .done)))))))] 14 [v_0, name_1] s k = F14 v_0 name_1 s k := by kernel_rfl
theorem f14 {v_0 name_1 : Value} {s : AS} {k : Value → AS → Prop} (h : F14 v_0 name_1 s k) : kCall Tryz.prog 14 [v_0, name_1] s k := fn_by (F14_ok v_0 name_1 s k) h
theorem k14_ok : okFn Tryz.prog 14 = true := by kernel_rfl

/- (*conch vars.Vars).Shift -/
def F15 (v_0 n_1 : Value) (s : AS) (k : Value → AS → Prop) : Prop :=
 kJoin (fun _ s =>
 kNck v_0 fun v8 =>
 kFld 0 v8 fun v9 =>
 kCall Tryz.prog 38 [v9, n_1] s fun v11 s =>
 k v11 s) fun J1 =>
 kEq 0 false v_0 (.pointer none) fun v6 =>
 kCond v6 (
 k (.int .i64 2) s) (
 J1 [] s)
theorem F15_ok (v_0 n_1 : Value) (s : AS) (k : Value → AS → Prop) : denFn Tryz.prog [] 15 [v_0, n_1] s k = F15 v_0 n_1 s k := by kernel_rfl
theorem f15 {v_0 n_1 : Value} {s : AS} {k : Value → AS → Prop} (h : F15 v_0 n_1 s k) : kCall Tryz.prog 15 [v_0, n_1] s k := fn_by (F15_ok v_0 n_1 s k) h
theorem k15_ok : okFn Tryz.prog 15 = true := by kernel_rfl

/- (*conch vars.Vars).Args -/
def F16 (v_0 : Value) (s : AS) (k : Value → AS → Prop) : Prop :=
 kJoin (fun _ s =>
 kNck v_0 fun v6 =>
 kFld 0 v6 fun v7 =>
 kFld 1 v7 fun v8 =>
 kLd s v8 fun v9 =>
 kCall Tryz.prog 17 [v9] s fun v10 s =>
 k v10 s) fun J1 =>
 kEq 0 false v_0 (.pointer none) fun v4 =>
 kCond v4 (
 k (.slice none 0 0) s) (
 J1 [] s)
theorem F16_ok (v_0 : Value) (s : AS) (k : Value → AS → Prop) : denFn Tryz.prog [] 16 [v_0] s k = F16 v_0 s k := by kernel_rfl
theorem f16 {v_0 : Value} {s : AS} {k : Value → AS → Prop} (h : F16 v_0 s k) : kCall Tryz.prog 16 [v_0] s k := fn_by (F16_ok v_0 s k) h
theorem k16_ok : okFn Tryz.prog 16 = true := by kernel_rfl

/- slices.Clone[[]string,string] -/
def F17 (s_0 : Value) (s : AS) (k : Value → AS → Prop) : Prop :=
 kJoin (fun _ s =>
 kBsl s 0 [] [] fun v5 s =>
 kApp Tryz.prog 29 29 v5 s_0 s fun v7 s =>
 k v7 s) fun J1 =>
 kEq 1 false s_0 (.slice none 0 0) fun v4 =>
 kCond v4 (
 k (.slice none 0 0) s) (
 J1 [] s)
theorem F17_ok (s_0 : Value) (s : AS) (k : Value → AS → Prop) : denFn Tryz.prog [] 17 [s_0] s k = F17 s_0 s k := by kernel_rfl
theorem f17 {s_0 : Value} {s : AS} {k : Value → AS → Prop} (h : F17 s_0 s k) : kCall Tryz.prog 17 [s_0] s k := fn_by (F17_ok s_0 s k) h
theorem k17_ok : okFn Tryz.prog 17 = true := by kernel_rfl

/- conch conchlaw08.kind -/
def F18 (o_0 : Value) (s : AS) (k : Value → AS → Prop) : Prop :=
 kNew s (cellsV o_0) fun o_1 s =>
 kFld 0 o_1 fun v3 =>
 kLd s v3 fun v4 =>
 kBin .rem v4 (.int .i64 8) fun v5 =>
 kBin .add v5 (.int .i64 8) fun v6 =>
 kBin .rem v6 (.int .i64 8) fun v7 =>
 k v7 s
theorem F18_ok (o_0 : Value) (s : AS) (k : Value → AS → Prop) : denFn Tryz.prog [] 18 [o_0] s k = F18 o_0 s k := by kernel_rfl
theorem f18 {o_0 : Value} {s : AS} {k : Value → AS → Prop} (h : F18 o_0 s k) : kCall Tryz.prog 18 [o_0] s k := fn_by (F18_ok o_0 s k) h
theorem k18_ok : okFn Tryz.prog 18 = true := by kernel_rfl

/- (*conch vars.Vars).Unset -/
def F19 (v_0 name_1 : Value) (s : AS) (k : Value → AS → Prop) : Prop :=
 kCall Tryz.prog 35 [v_0, name_1, (.bool true), (.func (.func 39) #[] #[])] s fun v7 s =>
 k v7 s
theorem F19_ok (v_0 name_1 : Value) (s : AS) (k : Value → AS → Prop) : denFn Tryz.prog [] 19 [v_0, name_1] s k = F19 v_0 name_1 s k := by kernel_rfl
theorem f19 {v_0 name_1 : Value} {s : AS} {k : Value → AS → Prop} (h : F19 v_0 name_1 s k) : kCall Tryz.prog 19 [v_0, name_1] s k := fn_by (F19_ok v_0 name_1 s k) h
theorem k19_ok : okFn Tryz.prog 19 = true := by kernel_rfl

/- (*conch vars.Vars).Export -/
def F20 (v_0 name_1 : Value) (s : AS) (k : Value → AS → Prop) : Prop :=
 kCall Tryz.prog 35 [v_0, name_1, (.bool false), (.func (.func 40) #[] #[])] s fun v7 s =>
 k v7 s
theorem F20_ok (v_0 name_1 : Value) (s : AS) (k : Value → AS → Prop) : denFn Tryz.prog [] 20 [v_0, name_1] s k = F20 v_0 name_1 s k := by kernel_rfl
theorem f20 {v_0 name_1 : Value} {s : AS} {k : Value → AS → Prop} (h : F20 v_0 name_1 s k) : kCall Tryz.prog 20 [v_0, name_1] s k := fn_by (F20_ok v_0 name_1 s k) h
theorem k20_ok : okFn Tryz.prog 20 = true := by kernel_rfl

/- (*conch vars.Vars).SetArgs -/
def F21 (v_0 args_1 : Value) (s : AS) (k : Value → AS → Prop) : Prop :=
 kEq 0 true v_0 (.pointer none) fun v5 =>
 kCond v5 (
 kCall Tryz.prog 17 [args_1] s fun v8 s =>
 kNck v_0 fun v9 =>
 kFld 0 v9 fun v10 =>
 kFld 1 v10 fun v11 =>
 kSt s 1 v11 v8 fun s =>
 k undef s) (
 k undef s)
theorem F21_ok (v_0 args_1 : Value) (s : AS) (k : Value → AS → Prop) : denFn Tryz.prog [] 21 [v_0, args_1] s k = F21 v_0 args_1 s k := by kernel_rfl
theorem f21 {v_0 args_1 : Value} {s : AS} {k : Value → AS → Prop} (h : F21 v_0 args_1 s k) : kCall Tryz.prog 21 [v_0, args_1] s k := fn_by (F21_ok v_0 args_1 s k) h
theorem k21_ok : okFn Tryz.prog 21 = true := by kernel_rfl

/- (*conch vars.Vars).SetStatus -/
def F22 (v_0 n_1 : Value) (s : AS) (k : Value → AS → Prop) : Prop :=
 kEq 0 true v_0 (.pointer none) fun v5 =>
 kCond v5 (
 kNck v_0 fun v8 =>
 kFld 3 v8 fun v9 =>
 kSt s 1 v9 n_1 fun s =>
 k undef s) (
 k undef s)
theorem F22_ok (v_0 n_1 : Value) (s : AS) (k : Value → AS → Prop) : denFn Tryz.prog [] 22 [v_0, n_1] s k = F22 v_0 n_1 s k := by kernel_rfl
theorem f22 {v_0 n_1 : Value} {s : AS} {k : Value → AS → Prop} (h : F22 v_0 n_1 s k) : kCall Tryz.prog 22 [v_0, n_1] s k := fn_by (F22_ok v_0 n_1 s k) h
theorem k22_ok : okFn Tryz.prog 22 = true := by kernel_rfl

/- (*conch conchref08.Vars).Unset -/
def F23 (v_0 name_1 : Value) (s : AS) (k : Value → AS → Prop) : Prop :=
 kJoin (fun _ s =>
 kJoin (fun _ s =>
 kBuild [(.string (bs [])), (.string (bs [])), (.bool false), (.bool false), (.bool false)] [(0, 1, name_1)] fun v14 =>
 kCall Tryz.prog 42 [v_0, v14] s fun v15 s =>
 k (.int .i64 0) s) fun J2 =>
 kCall Tryz.prog 41 [v_0, name_1] s fun v10 s =>
 kGet 4 v10 fun v11 =>
 kCond v11 (
 k (.int .i64 15) s) (
 J2 [] s)) fun J1 =>
 kCall Tryz.prog 31 [name_1] s fun v6 s =>
 kUn .not v6 fun v7 =>
 kCond v7 (
 k (.int .i64 16) s) (
 J1 [] s)
theorem F23_ok (v_0 name_1 : Value) (s : AS) (k : Value → AS → Prop) : denFn Tryz.prog [] 23 [v_0, name_1] s k = F23 v_0 name_1 s k := by kernel_rfl
theorem f23 {v_0 name_1 : Value} {s : AS} {k : Value → AS → Prop} (h : F23 v_0 name_1 s k) : kCall Tryz.prog 23 [v_0, name_1] s k := fn_by (F23_ok v_0 name_1 s k) h
theorem k23_ok : okFn Tryz.prog 23 = true := by kernel_rfl

/- (*conch conchref08.Vars).Mark -/
def F24 (v_0 name_1 read_2 : Value) (s : AS) (k : Value → AS → Prop) : Prop :=
 kJoin (fun _ s =>
 kCall Tryz.prog 41 [v_0, name_1] s fun v13 s =>
 kNew s [(.string (bs [])), (.string (bs [])), (.bool false), (.bool false), (.bool false)] fun x_7 s =>
 kSt s 5 x_7 v13 fun s =>
 kFld 0 x_7 fun v15 =>
 kSt s 1 v15 name_1 fun s =>
 kJoin (fun _ s =>
 kLdN s 5 x_7 fun v20 =>
 kCall Tryz.prog 42 [v_0, v20] s fun v21 s =>
 k (.int .i64 0) s) fun J2 =>
 kCond read_2 (
 kFld 4 x_7 fun v17 =>
 kSt s 1 v17 (.bool true) fun s =>
 J2 [] s) (
 kFld 3 x_7 fun v18 =>
 kSt s 1 v18 (.bool true) fun s =>
 J2 [] s)) fun J1 =>
 kCall Tryz.prog 31 [name_1] s fun v9 s =>
 kUn .not v9 fun v10 =>
 kCond v10 (
 k (.int .i64 16) s) (
 J1 [] s)
theorem F24_ok (v_0 name_1 read_2 : Value) (s : AS) (k : Value → AS → Prop) : denFn Tryz.prog [] 24 [v_0, name_1, read_2] s k = F24 v_0 name_1 read_2 s k := by kernel_rfl
theorem f24 {v_0 name_1 read_2 : Value} {s : AS} {k : Value → AS → Prop} (h : F24 v_0 name_1 read_2 s k) : kCall Tryz.prog 24 [v_0, name_1, read_2] s k := fn_by (F24_ok v_0 name_1 read_2 s k) h
theorem k24_ok : okFn Tryz.prog 24 = true := by kernel_rfl

/- (*conch conchref08.Vars).Shift -/
def F25 (v_0 n_1 : Value) (s : AS) (k : Value → AS → Prop) : Prop :=
 kJoin (fun _ s =>
 kNck v_0 fun v18 =>
 kFld 2 v18 fun v19 =>
 kLd s v19 fun v20 =>
 kSubL 1 v20 (some n_1) none fun v22 =>
 kNck v_0 fun v23 =>
 kFld 2 v23 fun v24 =>
 kSt s 1 v24 v22 fun s =>
 k (.int .i64 0) s) fun J1 =>
 kBin .lss n_1 (.int .i64 0) fun v6 =>
 kGrd v6 false (fun k =>
 kNck v_0 fun v10 =>
 kFld 2 v10 fun v11 =>
 kLd s v11 fun v12 =>
 kLen false v12 fun v13 =>
 kBin .gtr n_1 v13 fun v14 =>
 k [v14] s) [undef] s fun xs s =>
 un1 xs fun v14 =>
 kPick v6 (.bool true) v14 fun v15 =>
 kCond v15 (
 k (.int .i64 1) s) (
 J1 [] s)
theorem F25_ok (v_0 n_1 : Value) (s : AS) (k : Value → AS → Prop) : denFn Tryz.prog [] 25 [v_0, n_1] s k = F25 v_0 n_1 s k := by kernel_rfl
theorem f25 {v_0 n_1 : Value} {s : AS} {k : Value → AS → Prop} (h : F25 v_0 n_1 s k) : kCall Tryz.prog 25 [v_0, n_1] s k := fn_by (F25_ok v_0 n_1 s k) h
theorem k25_ok : okFn Tryz.prog 25 = true := by kernel_rfl

/- (*conch conchref08.Vars).Set -/
def F26 (v_0 name_1 value_2 : Value) (s : AS) (k : Value → AS → Prop) : Prop :=
 kJoin (fun _ s =>
 kCall Tryz.prog 41 [v_0, name_1] s fun v13 s =>
 kNew s [(.string (bs [])), (.string (bs [])), (.bool false), (.bool false), (.bool false)] fun x_7 s =>
 kSt s 5 x_7 v13 fun s =>
 kJoin (fun _ s =>
 kFld 3 x_7 fun v19 =>
 kLd s v19 fun v20 =>
 kBuild [(.string (bs [])), (.string (bs [])), (.bool false), (.bool false), (.bool false)] [(0, 1, name_1), (1, 1, value_2), (2, 1, (.bool true)), (3, 1, v20)] fun v21 =>
 kCall Tryz.prog 42 [v_0, v21] s fun v22 s =>
 k (.int .i64 0) s) fun J2 =>
 kFld 4 x_7 fun v14 =>
 kLd s v14 fun v15 =>
 kCond v15 (
 k (.int .i64 15) s) (
 J2 [] s)) fun J1 =>
 kCall Tryz.prog 31 [name_1] s fun v9 s =>
 kUn .not v9 fun v10 =>
 kCond v10 (
 k (.int .i64 16) s) (
 J1 [] s)
theorem F26_ok (v_0 name_1 value_2 : Value) (s : AS) (k : Value → AS → Prop) : denFn Tryz.prog [] 26 [v_0, name_1, value_2] s k = F26 v_0 name_1 value_2 s k := by kernel_rfl
theorem f26 {v_0 name_1 value_2 : Value} {s : AS} {k : Value → AS → Prop} (h : F26 v_0 name_1 value_2 s k) : kCall Tryz.prog 26 [v_0, name_1, value_2] s k := fn_by (F26_ok v_0 name_1 value_2 s k) h
theorem k26_ok : okFn Tryz.prog 26 = true := by kernel_rfl

/- conch chars.Text -/
def F27 (n_0 : Value) (s : AS) (k : Value → AS → Prop) : Prop :=
 kCall Tryz.prog 43 [n_0] s fun v4 s =>
 k v4 s
theorem F27_ok (n_0 : Value) (s : AS) (k : Value → AS → Prop) : denFn Tryz.prog [] 27 [n_0] s k = F27 n_0 s k := by kernel_rfl
theorem f27 {n_0 : Value} {s : AS} {k : Value → AS → Prop} (h : F27 n_0 s k) : kCall Tryz.prog 27 [n_0] s k := fn_by (F27_ok n_0 s k) h
theorem k27_ok : okFn Tryz.prog 27 = true := by kernel_rfl

/- conch chars.Join -/
def F28 (by_0 l_1 : Value) (s : AS) (k : Value → AS → Prop) : Prop :=
 kCall Tryz.prog 44 [l_1, by_0] s fun v7 s =>
 k v7 s
theorem F28_ok (by_0 l_1 : Value) (s : AS) (k : Value → AS → Prop) : denFn Tryz.prog [] 28 [by_0, l_1] s k = F28 by_0 l_1 s k := by kernel_rfl
theorem f28 {by_0 l_1 : Value} {s : AS} {k : Value → AS → Prop} (h : F28 by_0 l_1 s k) : kCall Tryz.prog 28 [by_0, l_1] s k := fn_by (F28_ok by_0 l_1 s k) h
theorem k28_ok : okFn Tryz.prog 28 = true := by kernel_rfl

/- conch chars.Name -/
def F29 (s_0 : Value) (s : AS) (k : Value → AS → Prop) : Prop :=
 kBin .neq s_0 (.string (bs [])) fun v4 =>
 kGrd v4 true (fun k =>
 kCall Tryz.prog 45 [s_0] s fun v7 s =>
 kLen true s_0 fun v9 =>
 kBin .eql v7 v9 fun v10 =>
 k [v10] s) [undef] s fun xs s =>
 un1 xs fun v10 =>
 kPick v4 v10 (.bool false) fun v11 =>
 k v11 s
theorem F29_ok (s_0 : Value) (s : AS) (k : Value → AS → Prop) : denFn Tryz.prog [] 29 [s_0] s k = F29 s_0 s k := by kernel_rfl
theorem f29 {s_0 : Value} {s : AS} {k : Value → AS → Prop} (h : F29 s_0 s k) : kCall Tryz.prog 29 [s_0] s k := fn_by (F29_ok s_0 s k) h
theorem k29_ok : okFn Tryz.prog 29 = true := by kernel_rfl

/- (*conch vars.arguments).numbered -/
def F30 (a_0 p_1 : Value) (s : AS) (k : Value → AS → Prop) : Prop :=
 kNck a_0 fun v11 =>
 kFld 1 v11 fun v12 =>
 kLd s v12 fun v13 =>
 kLen false v13 fun v14 =>
 kCall Tryz.prog 46 [p_1, v14] s fun v15 s =>
 kExt 0 v15 fun v16 =>
 kExt 1 v15 fun v17 =>
 kJoin (fun _ s =>
 kNck a_0 fun v34 =>
 kFld 1 v34 fun v35 =>
 kLd s v35 fun v36 =>
 kBin .sub v16 (.int .i64 1) fun v38 =>
 kIdx 1 v36 v38 fun v39 =>
 kLd s v39 fun v40 =>
 k (.tuple #[v40, (.bool true)]) s) fun J1 =>
 kBin .eql p_1 (.string (bs [48])) fun v20 =>
 kCond v20 (
 kNck a_0 fun v22 =>
 kFld 0 v22 fun v23 =>
 kLd s v23 fun v24 =>
 k (.tuple #[v24, (.bool true)]) s) (
 kBin .neq v17 (.int .i64 0) fun v27 =>
 kGrd v27 false (fun k =>
 kIxS p_1 (.int .i64 0) fun v30 =>
 kBin .eql v30 (.int .u8 48) fun v31 =>
 k [v31] s) [undef] s fun xs s =>
 un1 xs fun v31 =>
 kPick v27 (.bool true) v31 fun v32 =>
 kCond v32 (
 k (.tuple #[(.string (bs [])), (.bool false)]) s) (
 J1 [] s))
theorem F30_ok (a_0 p_1 : Value) (s : AS) (k : Value → AS → Prop) : denFn Tryz.prog [] 30 [a_0, p_1] s k = F30 a_0 p_1 s k := by kernel_rfl
theorem f30 {a_0 p_1 : Value} {s : AS} {k : Value → AS → Prop} (h : F30 a_0 p_1 s k) : kCall Tryz.prog 30 [a_0, p_1] s k := fn_by (F30_ok a_0 p_1 s k) h
theorem k30_ok : okFn Tryz.prog 30 = true := by kernel_rfl

/- conch conchref01.Name -/
def F31 (s_0 : Value) (s : AS) (k : Value → AS → Prop) : Prop :=
 kBin .neq s_0 (.string (bs [])) fun v4 =>
 kGrd v4 true (fun k =>
 kCall Tryz.prog 47 [s_0] s fun v7 s =>
 kLen true s_0 fun v9 =>
 kBin .eql v7 v9 fun v10 =>
 k [v10] s) [undef] s fun xs s =>
 un1 xs fun v10 =>
 kPick v4 v10 (.bool false) fun v11 =>
 k v11 s
theorem F31_ok (s_0 : Value) (s : AS) (k : Value → AS → Prop) : denFn Tryz.prog [] 31 [s_0] s k = F31 s_0 s k := by kernel_rfl
theorem f31 {s_0 : Value} {s : AS} {k : Value → AS → Prop} (h : F31 s_0 s k) : kCall Tryz.prog 31 [s_0] s k := fn_by (F31_ok s_0 s k) h
theorem k31_ok : okFn Tryz.prog 31 = true := by kernel_rfl

/- (*conch conchref08.Vars).Get -/
def F32 (v_0 name_1 : Value) (s : AS) (k : Value → AS → Prop) : Prop :=
 kCall Tryz.prog 41 [v_0, name_1] s fun v9 s =>
 kNew s [(.string (bs [])), (.string (bs [])), (.bool false), (.bool false), (.bool false)] fun x_6 s =>
 kSt s 5 x_6 v9 fun s =>
 kFld 1 x_6 fun v10 =>
 kFld 2 x_6 fun v12 =>
 kLd s v10 fun v11 =>
 kLd s v12 fun v13 =>
 k (.tuple #[v11, v13]) s
theorem F32_ok (v_0 name_1 : Value) (s : AS) (k : Value → AS → Prop) : denFn Tryz.prog [(2, (.go 0 (.go 2 (.go 1 (.go 4 (.go 3 (.go 5 .done)))))))] 32 [v_0, name_1] s k = F32 v_0 name_1 s k := by kernel_rfl
theorem f32 {v_0 name_1 : Value} {s : AS} {k : Value → AS → Prop} (h : F32 v_0 name_1 s k) : kCall Tryz.prog 32 [v_0, name_1] s k := fn_by (F32_ok v_0 name_1 s k) h
theorem k32_ok : okFn Tryz.prog 32 = true := by kernel_rfl

/- conch conchref01.Text -/
def F33 (n_0 : Value) (s : AS) (k : Value → AS → Prop) : Prop :=
 kJoin (fun _ s =>
 kJoin (fun xs s =>
 un1 xs fun out_3 =>
 kJoin (fun xs s =>
 un1 xs fun out_3 =>
 kJoin (fun xs s =>
 un1 xs fun s_6 =>
 kCvBS s s_6 fun v47 =>
 k v47 s) fun J4 =>
 kLen false out_3 fun v33 =>
 kBin .sub v33 (.int .i64 1) fun v34 =>
 kLoop (fun again5 xs s =>
 un2 xs fun s_6 i_7 =>
 kJoin (fun _ s =>
 kJoin (fun xs s =>
 un1 xs fun s_6 =>
 kBin .sub i_7 (.int .i64 1) fun v38 =>
 again5 [s_6, v38] s) fun J7 =>
 kIdx 1 out_3 i_7 fun v42 =>
 kLd s v42 fun v43 =>
 kBsl s 1 [(.int .u8 0)] [(0, 1, v43)] fun v44 s =>
 kApp Tryz.prog 72 72 s_6 v44 s fun v45 s =>
 J7 [v45] s) fun J6 =>
 kBin .geq i_7 (.int .i64 0) fun v36 =>
 kCond v36 (
 J6 [] s) (
 J4 [s_6] s)) [(.slice none 0 0), v34] s) fun J3 =>
 kBin .lss n_0 (.int .i64 0) fun v28 =>
 kCond v28 (
 kBsl s 1 [(.int .u8 0)] [(0, 1, (.int .u8 45))] fun v30 s =>
 kApp Tryz.prog 72 72 out_3 v30 s fun v31 s =>
 J3 [v31] s) (
 J3 [out_3] s)) fun J2 =>
 kLoop (fun again8 xs s =>
 un2 xs fun out_3 m_4 =>
 kJoin (fun _ s =>
 kJoin (fun xs s =>
 un1 xs fun out_3 =>
 kBin .quo m_4 (.int .i64 10) fun v14 =>
 again8 [out_3, v14] s) fun J10 =>
 kBin .rem m_4 (.int .i64 10) fun v16 =>
 kJoin (fun xs s =>
 un1 xs fun d_5 =>
 kBin .add (.int .i64 48) d_5 fun v23 =>
 kCvi .u8 v23 fun v24 =>
 kBsl s 1 [(.int .u8 0)] [(0, 1, v24)] fun v25 s =>
 kApp Tryz.prog 72 72 out_3 v25 s fun v26 s =>
 J10 [v26] s) fun J11 =>
 kBin .lss v16 (.int .i64 0) fun v18 =>
 kCond v18 (
 kUn .neg v16 fun v20 =>
 J11 [v20] s) (
 J11 [v16] s)) fun J9 =>
 kBin .neq m_4 (.int .i64 0) fun v12 =>
 kCond v12 (
 J9 [] s) (
 J2 [out_3] s)) [(.slice none 0 0), n_0] s) fun J1 =>
 kBin .eql n_0 (.int .i64 0) fun v9 =>
 kCond v9 (
 k (.string (bs [48])) s) (
 J1 [] s)
theorem F33_ok (n_0 : Value) (s : AS) (k : Value → AS → Prop) : denFn Tryz.prog [] 33 [n_0] s k = F33 n_0 s k := by kernel_rfl
theorem f33 {n_0 : Value} {s : AS} {k : Value → AS → Prop} (h : F33 n_0 s k) : kCall Tryz.prog 33 [n_0] s k := fn_by (F33_ok n_0 s k) h
theorem k33_ok : okFn Tryz.prog 33 = true := by kernel_rfl

/- conch conchref01.Join -/
def F34 (by_0 l_1 : Value) (s : AS) (k : Value → AS → Prop) : Prop :=
 kJoin (fun xs s =>
 un1 xs fun out_5 =>
 k out_5 s) fun J1 =>
 kLoop (fun again2 xs s =>
 un2 xs fun out_5 i_6 =>
 kJoin (fun _ s =>
 kJoin (fun xs s =>
 un1 xs fun out_5 =>
 kBin .add i_6 (.int .i64 1) fun v12 =>
 again2 [out_5, v12] s) fun J4 =>
 kJoin (fun xs s =>
 un1 xs fun out_5 =>
 kIdx 1 l_1 i_6 fun v21 =>
 kLd s v21 fun v22 =>
 kBin .add out_5 v22 fun v23 =>
 J4 [v23] s) fun J5 =>
 kBin .gtr i_6 (.int .i64 0) fun v14 =>
 kCond v14 (
 kBin .add out_5 by_0 fun v17 =>
 J5 [v17] s) (
 J5 [out_5] s)) fun J3 =>
 kLen false l_1 fun v9 =>
 kBin .lss i_6 v9 fun v10 =>
 kCond v10 (
 J3 [] s) (
 J1 [out_5] s)) [(.string (bs [])), (.int .i64 0)] s
theorem F34_ok (by_0 l_1 : Value) (s : AS) (k : Value → AS → Prop) : denFn Tryz.prog [] 34 [by_0, l_1] s k = F34 by_0 l_1 s k := by kernel_rfl
theorem f34 {by_0 l_1 : Value} {s : AS} {k : Value → AS → Prop} (h : F34 by_0 l_1 s k) : kCall Tryz.prog 34 [by_0, l_1] s k := fn_by (F34_ok by_0 l_1 s k) h
theorem k34_ok : okFn Tryz.prog 34 = true := by kernel_rfl

/- (*conch vars.Vars).turn -/
def F35 (v_0 name_1 writes_2 how_3 : Value) (s : AS) (k : Value → AS → Prop) : Prop :=
 kJoin (fun _ s =>
 kNck v_0 fun v29 =>
 kFld 2 v29 fun v30 =>
 kLd s v30 fun v31 =>
 kGen Tryz.prog (.lk 48 false) [v31, name_1] s fun v33 s =>
 kNew s [(.string (bs [])), (.string (bs [])), (.bool false), (.bool false), (.bool false)] fun x_9 s =>
 kSt s 5 x_9 v33 fun s =>
 kFld 0 x_9 fun v35 =>
 kSt s 1 v35 name_1 fun s =>
 kCallv Tryz.prog how_3 [x_9] s fun v37 s =>
 kNck v_0 fun v39 =>
 kFld 2 v39 fun v40 =>
 kLd s v40 fun v41 =>
 kLdN s 5 x_9 fun v43 =>
 kGen Tryz.prog (.mup 48) [v41, name_1, v43] s fun _ s =>
 kJoin (fun _ s =>
 k (.int .i64 0) s) fun J2 =>
 kFld 2 x_9 fun v44 =>
 kLd s v44 fun v45 =>
 kUn .not v45 fun v46 =>
 kGrd v46 true (fun k =>
 kFld 3 x_9 fun v48 =>
 kLd s v48 fun v49 =>
 kUn .not v49 fun v50 =>
 k [v50] s) [undef] s fun xs s =>
 un1 xs fun v50 =>
 kPick v46 v50 (.bool false) fun v51 =>
 kGrd v51 true (fun k =>
 kFld 4 x_9 fun v53 =>
 kLd s v53 fun v54 =>
 kUn .not v54 fun v55 =>
 k [v55] s) [undef] s fun xs s =>
 un1 xs fun v55 =>
 kPick v51 v55 (.bool false) fun v56 =>
 kCond v56 (
 kNck v_0 fun v58 =>
 kFld 2 v58 fun v59 =>
 kLd s v59 fun v60 =>
 kGen Tryz.prog (.blt .delete [48, 9] 0) [v60, name_1] s fun _ s =>
 J2 [] s) (
 J2 [] s)) fun J1 =>
 kEq 0 false v_0 (.pointer none) fun v12 =>
 kCond v12 (
 k (.int .i64 2) s) (
 kCall Tryz.prog 29 [name_1] s fun v15 s =>
 kUn .not v15 fun v16 =>
 kCond v16 (
 k (.int .i64 16) s) (
 kGrd writes_2 true (fun k =>
 kNck v_0 fun v21 =>
 kFld 2 v21 fun v22 =>
 kLd s v22 fun v23 =>
 kGen Tryz.prog (.lk 48 false) [v23, name_1] s fun v25 s =>
 kGet 4 v25 fun v26 =>
 k [v26] s) [undef] s fun xs s =>
 un1 xs fun v26 =>
 kPick writes_2 v26 (.bool false) fun v27 =>
 kCond v27 (
 k (.int .i64 15) s) (
 J1 [] s)))
theorem F35_ok (v_0 name_1 writes_2 how_3 : Value) (s : AS) (k : Value → AS → Prop) : denFn Tryz.prog [(10, (.go 0 (.go 1 (.go 2 (.go 4 (.go 3 (.go 5 (.go 6 .done))))))))] 35 [v_0, name_1, writes_2, how_3] s k = F35 v_0 name_1 writes_2 how_3 s k := by kernel_rfl
theorem f35 {v_0 name_1 writes_2 how_3 : Value} {s : AS} {k : Value → AS → Prop} (h : F35 v_0 name_1 writes_2 how_3 s k) : kCall Tryz.prog 35 [v_0, name_1, writes_2, how_3] s k := fn_by (F35_ok v_0 name_1 writes_2 how_3 s k) h
theorem k35_ok : okFn Tryz.prog 35 = true := by kernel_rfl

/- (*conch vars.Vars).Set$1 -/
def F36 (x_0 v1 : Value) (s : AS) (k : Value → AS → Prop) : Prop :=
 kLd s v1 fun v5 =>
 kNck x_0 fun v6 =>
 kFld 1 v6 fun v7 =>
 kSt s 1 v7 v5 fun s =>
 kNck x_0 fun v8 =>
 kFld 2 v8 fun v9 =>
 kSt s 1 v9 (.bool true) fun s =>
 k undef s
theorem F36_ok (x_0 v1 : Value) (s : AS) (k : Value → AS → Prop) : denFn Tryz.prog [] 36 [x_0, v1] s k = F36 x_0 v1 s k := by kernel_rfl
theorem f36 {x_0 v1 : Value} {s : AS} {k : Value → AS → Prop} (h : F36 x_0 v1 s k) : kCall Tryz.prog 36 [x_0, v1] s k := fn_by (F36_ok x_0 v1 s k) h
theorem k36_ok : okFn Tryz.prog 36 = true := by kernel_rfl

/- (*conch vars.Vars).Readonly$1 -/
def F37 (x_0 : Value) (s : AS) (k : Value → AS → Prop) : Prop :=
 kNck x_0 fun v3 =>
 kFld 4 v3 fun v4 =>
 kSt s 1 v4 (.bool true) fun s =>
 k undef s
theorem F37_ok (x_0 : Value) (s : AS) (k : Value → AS → Prop) : denFn Tryz.prog [] 37 [x_0] s k = F37 x_0 s k := by kernel_rfl
theorem f37 {x_0 : Value} {s : AS} {k : Value → AS → Prop} (h : F37 x_0 s k) : kCall Tryz.prog 37 [x_0] s k := fn_by (F37_ok x_0 s k) h
theorem k37_ok : okFn Tryz.prog 37 = true := by kernel_rfl

/- (*conch vars.arguments).shift -/
def F38 (a_0 n_1 : Value) (s : AS) (k : Value → AS → Prop) : Prop :=
 kJoin (fun _ s =>
 kNck a_0 fun v18 =>
 kFld 1 v18 fun v19 =>
 kLd s v19 fun v20 =>
 kSubL 1 v20 (some n_1) none fun v22 =>
 kNck a_0 fun v23 =>
 kFld 1 v23 fun v24 =>
 kSt s 1 v24 v22 fun s =>
 k (.int .i64 0) s) fun J1 =>
 kBin .lss n_1 (.int .i64 0) fun v6 =>
 kGrd v6 false (fun k =>
 kNck a_0 fun v10 =>
 kFld 1 v10 fun v11 =>
 kLd s v11 fun v12 =>
 kLen false v12 fun v13 =>
 kBin .gtr n_1 v13 fun v14 =>
 k [v14] s) [undef] s fun xs s =>
 un1 xs fun v14 =>
 kPick v6 (.bool true) v14 fun v15 =>
 kCond v15 (
 k (.int .i64 1) s) (
 J1 [] s)
theorem F38_ok (a_0 n_1 : Value) (s : AS) (k : Value → AS → Prop) : denFn Tryz.prog [] 38 [a_0, n_1] s k = F38 a_0 n_1 s k := by kernel_rfl
theorem f38 {a_0 n_1 : Value} {s : AS} {k : Value → AS → Prop} (h : F38 a_0 n_1 s k) : kCall Tryz.prog 38 [a_0, n_1] s k := fn_by (F38_ok a_0 n_1 s k) h
theorem k38_ok : okFn Tryz.prog 38 = true := by kernel_rfl

/- (*conch vars.Vars).Unset$1 -/
def F39 (x_0 : Value) (s : AS) (k : Value → AS → Prop) : Prop :=
 kBuild [(.string (bs [])), (.string (bs [])), (.bool false), (.bool false), (.bool false)] [] fun v3 =>
 kNck x_0 fun v4 =>
 kSt s 5 v4 v3 fun s =>
 k undef s
theorem F39_ok (x_0 : Value) (s : AS) (k : Value → AS → Prop) : denFn Tryz.prog [] 39 [x_0] s k = F39 x_0 s k := by kernel_rfl
theorem f39 {x_0 : Value} {s : AS} {k : Value → AS → Prop} (h : F39 x_0 s k) : kCall Tryz.prog 39 [x_0] s k := fn_by (F39_ok x_0 s k) h
theorem k39_ok : okFn Tryz.prog 39 = true := by kernel_rfl

/- (*conch vars.Vars).Export$1 -/
def F40 (x_0 : Value) (s : AS) (k : Value → AS → Prop) : Prop :=
 kNck x_0 fun v3 =>
 kFld 3 v3 fun v4 =>
 kSt s 1 v4 (.bool true) fun s =>
 k undef s
theorem F40_ok (x_0 : Value) (s : AS) (k : Value → AS → Prop) : denFn Tryz.prog [] 40 [x_0] s k = F40 x_0 s k := by kernel_rfl
theorem f40 {x_0 : Value} {s : AS} {k : Value → AS → Prop} (h : F40 x_0 s k) : kCall Tryz.prog 40 [x_0] s k := fn_by (F40_ok x_0 s k) h
theorem k40_ok : okFn Tryz.prog 40 = true := by kernel_rfl

/- (*conch conchref08.Vars).find -/
def F41 (v_0 name_1 : Value) (s : AS) (k : Value → AS → Prop) : Prop :=
 kNew s [(.string (bs [])), (.string (bs [])), (.bool false), (.bool false), (.bool false)] fun v4 s =>
 kJoin (fun _ s =>
 kBuild [(.string (bs [])), (.string (bs [])), (.bool false), (.bool false), (.bool false)] [] fun v32 =>
 kSt s 5 v4 v32 fun s =>
 kLdN s 5 v4 fun r0 =>
 k r0 s) fun J1 =>
 kLoop (fun again2 xs s =>
 un1 xs fun i_5 =>
 kJoin (fun _ s =>
 kJoin (fun _ s =>
 kBin .add i_5 (.int .i64 1) fun v14 =>
 again2 [v14] s) fun J4 =>
 kNck v_0 fun v16 =>
 kFld 0 v16 fun v17 =>
 kLd s v17 fun v18 =>
 kIdx 5 v18 i_5 fun v20 =>
 kFld 0 v20 fun v21 =>
 kLd s v21 fun v22 =>
 kBin .eql v22 name_1 fun v24 =>
 kCond v24 (
 kNck v_0 fun v26 =>
 kFld 0 v26 fun v27 =>
 kLd s v27 fun v28 =>
 kIdx 5 v28 i_5 fun v30 =>
 kLdN s 5 v30 fun v31 =>
 kSt s 5 v4 v31 fun s =>
 kLdN s 5 v4 fun r0 =>
 k r0 s) (
 J4 [] s)) fun J3 =>
 kNck v_0 fun v8 =>
 kFld 0 v8 fun v9 =>
 kLd s v9 fun v10 =>
 kLen false v10 fun v11 =>
 kBin .lss i_5 v11 fun v12 =>
 kCond v12 (
 J3 [] s) (
 J1 [] s)) [(.int .i64 0)] s
theorem F41_ok (v_0 name_1 : Value) (s : AS) (k : Value → AS → Prop) : denFn Tryz.prog [] 41 [v_0, name_1] s k = F41 v_0 name_1 s k := by kernel_rfl
theorem f41 {v_0 name_1 : Value} {s : AS} {k : Value → AS → Prop} (h : F41 v_0 name_1 s k) : kCall Tryz.prog 41 [v_0, name_1] s k := fn_by (F41_ok v_0 name_1 s k) h
theorem k41_ok : okFn Tryz.prog 41 = true := by kernel_rfl

/- (*conch conchref08.Vars).put -/
def F42 (v_0 x_1 : Value) (s : AS) (k : Value → AS → Prop) : Prop :=
 kNew s (cellsV x_1) fun x_3 s =>
 kFld 2 x_3 fun v7 =>
 kLd s v7 fun v8 =>
 kUn .not v8 fun v9 =>
 kGrd v9 true (fun k =>
 kFld 3 x_3 fun v11 =>
 kLd s v11 fun v12 =>
 kUn .not v12 fun v13 =>
 k [v13] s) [undef] s fun xs s =>
 un1 xs fun v13 =>
 kPick v9 v13 (.bool false) fun v14 =>
 kGrd v14 true (fun k =>
 kFld 4 x_3 fun v16 =>
 kLd s v16 fun v17 =>
 kUn .not v17 fun v18 =>
 k [v18] s) [undef] s fun xs s =>
 un1 xs fun v18 =>
 kPick v14 v18 (.bool false) fun v19 =>
 kJoin (fun xs s =>
 un2 xs fun out_4 done_5 =>
 kJoin (fun xs s =>
 un1 xs fun out_4 =>
 kNck v_0 fun v77 =>
 kFld 0 v77 fun v78 =>
 kSt s 1 v78 out_4 fun s =>
 k undef s) fun J2 =>
 kUn .not done_5 fun v70 =>
 kCond v70 (
 kLdN s 5 x_3 fun v72 =>
 kBsl s 1 [(.string (bs [])), (.string (bs [])), (.bool false), (.bool false), (.bool false)] [(0, 5, v72)] fun v73 s =>
 kApp Tryz.prog 28 28 out_4 v73 s fun v74 s =>
 J2 [v74] s) (
 J2 [out_4] s)) fun J1 =>
 kLoop (fun again3 xs s =>
 un3 xs fun out_4 done_5 i_6 =>
 kJoin (fun _ s =>
 kJoin (fun xs s =>
 un2 xs fun out_4 done_5 =>
 kBin .add i_6 (.int .i64 1) fun v28 =>
 again3 [out_4, done_5, v28] s) fun J5 =>
 kJoin (fun xs s =>
 un2 xs fun out_4 done_5 =>
 kNck v_0 fun v49 =>
 kFld 0 v49 fun v50 =>
 kFld 0 x_3 fun v56 =>
 kLd s v50 fun v51 =>
 kIdx 5 v51 i_6 fun v53 =>
 kFld 0 v53 fun v54 =>
 kLd s v54 fun v55 =>
 kLd s v56 fun v57 =>
 kBin .neq v55 v57 fun v58 =>
 kCond v58 (
 kNck v_0 fun v61 =>
 kFld 0 v61 fun v62 =>
 kLd s v62 fun v63 =>
 kIdx 5 v63 i_6 fun v65 =>
 kLdN s 5 v65 fun v66 =>
 kBsl s 1 [(.string (bs [])), (.string (bs [])), (.bool false), (.bool false), (.bool false)] [(0, 5, v66)] fun v67 s =>
 kApp Tryz.prog 28 28 out_4 v67 s fun v68 s =>
 J5 [v68, done_5] s) (
 J5 [out_4, done_5] s)) fun J6 =>
 kUn .not done_5 fun v30 =>
 kGrd v30 true (fun k =>
 kNck v_0 fun v33 =>
 kFld 0 v33 fun v34 =>
 kFld 0 x_3 fun v40 =>
 kLd s v34 fun v35 =>
 kIdx 5 v35 i_6 fun v37 =>
 kFld 0 v37 fun v38 =>
 kLd s v38 fun v39 =>
 kLd s v40 fun v41 =>
 kBin .gtr v39 v41 fun v42 =>
 k [v42] s) [undef] s fun xs s =>
 un1 xs fun v42 =>
 kPick v30 v42 (.bool false) fun v43 =>
 kCond v43 (
 kLdN s 5 x_3 fun v45 =>
 kBsl s 1 [(.string (bs [])), (.string (bs [])), (.bool false), (.bool false), (.bool false)] [(0, 5, v45)] fun v46 s =>
 kApp Tryz.prog 28 28 out_4 v46 s fun v47 s =>
 J6 [v47, (.bool true)] s) (
 J6 [out_4, done_5] s)) fun J4 =>
 kNck v_0 fun v22 =>
 kFld 0 v22 fun v23 =>
 kLd s v23 fun v24 =>
 kLen false v24 fun v25 =>
 kBin .lss i_6 v25 fun v26 =>
 kCond v26 (
 J4 [] s) (
 J1 [out_4, done_5] s)) [(.slice none 0 0), v19, (.int .i64 0)] s
theorem F42_ok (v_0 x_1 : Value) (s : AS) (k : Value → AS → Prop) : denFn Tryz.prog [(6, (.go 0 (.go 1 (.go 2 (.go 3 (.go 4 (.go 5 (.go 7 (.go 11 (.go 6 (.go 8 (.go 9 (.go 10 (.go 12 (.go 13 (.go 14 .done)))))))))))))))), (9, (.go 0 (.go 1 (.go 2 (.go 4 (.go 8 (.go 3 (.go 5 (.go 6 (.go 7 (.go 9 (.go 10 .done))))))))))))] 42 [v_0, x_1] s k = F42 v_0 x_1 s k := by kernel_rfl
theorem f42 {v_0 x_1 : Value} {s : AS} {k : Value → AS → Prop} (h : F42 v_0 x_1 s k) : kCall Tryz.prog 42 [v_0, x_1] s k := fn_by (F42_ok v_0 x_1 s k) h
theorem k42_ok : okFn Tryz.prog 42 = true := by kernel_rfl

/- strconv.Itoa -/
def F43 (i_0 : Value) (s : AS) (k : Value → AS → Prop) : Prop :=
 kCall Tryz.prog 48 [i_0] s fun v4 s =>
 k v4 s
theorem F43_ok (i_0 : Value) (s : AS) (k : Value → AS → Prop) : denFn Tryz.prog [] 43 [i_0] s k = F43 i_0 s k := by kernel_rfl
theorem f43 {i_0 : Value} {s : AS} {k : Value → AS → Prop} (h : F43 i_0 s k) : kCall Tryz.prog 43 [i_0] s k := fn_by (F43_ok i_0 s k) h
theorem k43_ok : okFn Tryz.prog 43 = true := by kernel_rfl

/- strings.Join -/
def F44 (elems_0 sep_1 : Value) (s : AS) (k : Value → AS → Prop) : Prop :=
 kJoin (fun _ s =>
 kJoin (fun xs s =>
 un1 xs fun n_5 =>
 kJoin (fun xs s =>
 un1 xs fun n_5 =>
 kNewT s 75 [(.pointer none), (.slice none 0 0)] fun b_8 s =>
 kCall Tryz.prog 49 [b_8, n_5] s fun v57 s =>
 kIdx 1 elems_0 (.int .i64 0) fun v59 =>
 kLd s v59 fun v60 =>
 kCall Tryz.prog 50 [b_8, v60] s fun v61 s =>
 kJoin (fun _ s =>
 kCall Tryz.prog 51 [b_8] s fun v74 s =>
 k v74 s) fun J4 =>
 kSubL 1 elems_0 (some (.int .i64 1)) none fun v63 =>
 kLen false v63 fun v64 =>
 kLoop (fun again5 xs s =>
 un1 xs fun v65 =>
 kBin .lss v65 v64 fun v66 =>
 kJoin (fun _ s =>
 kJoin (fun _ s =>
 kBin .add v65 (.int .i64 1) fun v73 =>
 again5 [v73] s) fun J7 =>
 kIdx 1 v63 v65 fun v67 =>
 kLd s v67 fun v68 =>
 kCall Tryz.prog 50 [b_8, sep_1] s fun v70 s =>
 kCall Tryz.prog 50 [b_8, v68] s fun v72 s =>
 J7 [] s) fun J6 =>
 kCond v66 (
 J6 [] s) (
 J4 [] s)) [(.int .i64 0)] s) fun J3 =>
 kLen false elems_0 fun v40 =>
 kLoop (fun again8 xs s =>
 un2 xs fun n_5 v41 =>
 kBin .lss v41 v40 fun v42 =>
 kJoin (fun _ s =>
 kJoin (fun xs s =>
 un1 xs fun n_5 =>
 kBin .add v41 (.int .i64 1) fun v55 =>
 again8 [n_5, v55] s) fun J10 =>
 kIdx 1 elems_0 v41 fun v43 =>
 kLd s v43 fun v44 =>
 kJoin (fun _ s =>
 kLen true v44 fun v53 =>
 kBin .add n_5 v53 fun v54 =>
 J10 [v54] s) fun J11 =>
 kLen true v44 fun v46 =>
 kBin .sub (.int .i64 9223372036854775807) n_5 fun v48 =>
 kBin .gtr v46 v48 fun v49 =>
 kCond v49 (
 kGen Tryz.prog (.mki 9) [(.string (bs [115, 116, 114, 105, 110, 103, 115, 58, 32, 74, 111, 105, 110, 32, 111, 117, 116, 112, 117, 116, 32, 108, 101, 110, 103, 116, 104, 32, 111, 118, 101, 114, 102, 108, 111, 119]))] s fun v50 s =>
 False) (
 J11 [] s)) fun J9 =>
 kCond v42 (
 J9 [] s) (
 J3 [n_5] s)) [n_5, (.int .i64 0)] s) fun J2 =>
 kLen true sep_1 fun v21 =>
 kBin .gtr v21 (.int .i64 0) fun v22 =>
 kCond v22 (
 kJoin (fun _ s =>
 kLen true sep_1 fun v33 =>
 kLen false elems_0 fun v35 =>
 kBin .sub v35 (.int .i64 1) fun v36 =>
 kBin .mul v33 v36 fun v37 =>
 kBin .add (.int .i64 0) v37 fun v38 =>
 J2 [v38] s) fun J12 =>
 kLen true sep_1 fun v24 =>
 kLen false elems_0 fun v26 =>
 kBin .sub v26 (.int .i64 1) fun v27 =>
 kBin .quo (.int .i64 9223372036854775807) v27 fun v28 =>
 kBin .geq v24 v28 fun v29 =>
 kCond v29 (
 kGen Tryz.prog (.mki 9) [(.string (bs [115, 116, 114, 105, 110, 103, 115, 58, 32, 74, 111, 105, 110, 32, 111, 117, 116, 112, 117, 116, 32, 108, 101, 110, 103, 116, 104, 32, 111, 118, 101, 114, 102, 108, 111, 119]))] s fun v30 s =>
 False) (
 J12 [] s)) (
 J2 [(.int .i64 0)] s)) fun J1 =>
 kLen false elems_0 fun v12 =>
 kBin .eql v12 (.int .i64 0) fun v14 =>
 kCond v14 (
 k (.string (bs [])) s) (
 kBin .eql v12 (.int .i64 1) fun v16 =>
 kCond v16 (
 kIdx 1 elems_0 (.int .i64 0) fun v18 =>
 kLd s v18 fun v19 =>
 k v19 s) (
 J1 [] s))
theorem F44_ok (elems_0 sep_1 : Value) (s : AS) (k : Value → AS → Prop) : denFn Tryz.prog [] 44 [elems_0, sep_1] s k = F44 elems_0 sep_1 s k := by kernel_rfl
theorem f44 {elems_0 sep_1 : Value} {s : AS} {k : Value → AS → Prop} (h : F44 elems_0 sep_1 s k) : kCall Tryz.prog 44 [elems_0, sep_1] s k := fn_by (F44_ok elems_0 sep_1 s k) h
theorem k44_ok : okFn Tryz.prog 44 = true := by kernel_rfl

/- conch chars.Front -/
def F45 (s_0 : Value) (s : AS) (k : Value → AS → Prop) : Prop :=
 kJoin (fun xs s =>
 un1 xs fun n_3 =>
 k n_3 s) fun J1 =>
 kLoop (fun again2 xs s =>
 un1 xs fun n_3 =>
 kJoin (fun _ s =>
 kBin .add n_3 (.int .i64 1) fun v25 =>
 again2 [v25] s) fun J3 =>
 kLen true s_0 fun v6 =>
 kBin .lss n_3 v6 fun v7 =>
 kGrd v7 true (fun k =>
 kIxS s_0 n_3 fun v11 =>
 kCall Tryz.prog 52 [v11] s fun v12 s =>
 k [v12] s) [undef] s fun xs s =>
 un1 xs fun v13 =>
 kGrd v13 false (fun k =>
 kBin .gtr n_3 (.int .i64 0) fun v15 =>
 k [v15] s) [undef] s fun xs s =>
 un1 xs fun v16 =>
 kGrd v16 true (fun k =>
 kIxS s_0 n_3 fun v19 =>
 kCall Tryz.prog 53 [v19] s fun v20 s =>
 k [v20] s) [undef] s fun xs s =>
 un1 xs fun v20 =>
 kGrd v13 false (fun k =>
 kPick v16 v20 (.bool false) fun v21 =>
 k [v21] s) [undef] s fun xs s =>
 un1 xs fun v21 =>
 kGrd v7 true (fun k =>
 kPick v13 (.bool true) v21 fun v22 =>
 k [v22] s) [undef] s fun xs s =>
 un1 xs fun v22 =>
 kPick v7 v22 (.bool false) fun v23 =>
 kCond v23 (
 J3 [] s) (
 J1 [n_3] s)) [(.int .i64 0)] s
theorem F45_ok (s_0 : Value) (s : AS) (k : Value → AS → Prop) : denFn Tryz.prog [] 45 [s_0] s k = F45 s_0 s k := by kernel_rfl
theorem f45 {s_0 : Value} {s : AS} {k : Value → AS → Prop} (h : F45 s_0 s k) : kCall Tryz.prog 45 [s_0] s k := fn_by (F45_ok s_0 s k) h
theorem k45_ok : okFn Tryz.prog 45 = true := by kernel_rfl

/- conch chars.Number -/
def F46 (s_0 most_1 : Value) (s : AS) (k : Value → AS → Prop) : Prop :=
 kJoin (fun _ s =>
 kCall Tryz.prog 55 [s_0] s fun v17 s =>
 kExt 0 v17 fun v18 =>
 kExt 1 v17 fun v19 =>
 kJoin (fun _ s =>
 k (.tuple #[v18, (.int .i64 0)]) s) fun J2 =>
 kEqi true v19 .nilIface fun v21 =>
 kGrd v21 false (fun k =>
 kBin .gtr v18 most_1 fun v25 =>
 k [v25] s) [undef] s fun xs s =>
 un1 xs fun v25 =>
 kPick v21 (.bool true) v25 fun v26 =>
 kCond v26 (
 k (.tuple #[(.int .i64 0), (.int .i64 3)]) s) (
 J2 [] s)) fun J1 =>
 kBin .eql s_0 (.string (bs [])) fun v9 =>
 kGrd v9 false (fun k =>
 kCall Tryz.prog 54 [s_0, (.string (bs [48, 49, 50, 51, 52, 53, 54, 55, 56, 57]))] s fun v12 s =>
 kBin .neq v12 (.string (bs [])) fun v13 =>
 k [v13] s) [undef] s fun xs s =>
 un1 xs fun v13 =>
 kPick v9 (.bool true) v13 fun v14 =>
 kCond v14 (
 k (.tuple #[(.int .i64 0), (.int .i64 10)]) s) (
 J1 [] s)
theorem F46_ok (s_0 most_1 : Value) (s : AS) (k : Value → AS → Prop) : denFn Tryz.prog [] 46 [s_0, most_1] s k = F46 s_0 most_1 s k := by kernel_rfl
theorem f46 {s_0 most_1 : Value} {s : AS} {k : Value → AS → Prop} (h : F46 s_0 most_1 s k) : kCall Tryz.prog 46 [s_0, most_1] s k := fn_by (F46_ok s_0 most_1 s k) h
theorem k46_ok : okFn Tryz.prog 46 = true := by kernel_rfl

/- conch conchref01.Front -/
def F47 (s_0 : Value) (s : AS) (k : Value → AS → Prop) : Prop :=
 kJoin (fun _ s =>
 kJoin (fun xs s =>
 un1 xs fun n_3 =>
 k n_3 s) fun J2 =>
 kLoop (fun again3 xs s =>
 un1 xs fun n_3 =>
 kJoin (fun _ s =>
 kBin .add n_3 (.int .i64 1) fun v29 =>
 again3 [v29] s) fun J4 =>
 kLen true s_0 fun v14 =>
 kBin .lss n_3 v14 fun v15 =>
 kGrd v15 true (fun k =>
 kIxS s_0 n_3 fun v19 =>
 kCall Tryz.prog 56 [v19] s fun v20 s =>
 k [v20] s) [undef] s fun xs s =>
 un1 xs fun v21 =>
 kGrd v21 false (fun k =>
 kIxS s_0 n_3 fun v24 =>
 kCall Tryz.prog 57 [v24] s fun v25 s =>
 k [v25] s) [undef] s fun xs s =>
 un1 xs fun v25 =>
 kGrd v15 true (fun k =>
 kPick v21 (.bool true) v25 fun v26 =>
 k [v26] s) [undef] s fun xs s =>
 un1 xs fun v26 =>
 kPick v15 v26 (.bool false) fun v27 =>
 kCond v27 (
 J4 [] s) (
 J2 [n_3] s)) [(.int .i64 1)] s) fun J1 =>
 kBin .eql s_0 (.string (bs [])) fun v5 =>
 kGrd v5 false (fun k =>
 kIxS s_0 (.int .i64 0) fun v8 =>
 kCall Tryz.prog 56 [v8] s fun v9 s =>
 kUn .not v9 fun v10 =>
 k [v10] s) [undef] s fun xs s =>
 un1 xs fun v10 =>
 kPick v5 (.bool true) v10 fun v11 =>
 kCond v11 (
 k (.int .i64 0) s) (
 J1 [] s)
theorem F47_ok (s_0 : Value) (s : AS) (k : Value → AS → Prop) : denFn Tryz.prog [] 47 [s_0] s k = F47 s_0 s k := by kernel_rfl
theorem f47 {s_0 : Value} {s : AS} {k : Value → AS → Prop} (h : F47 s_0 s k) : kCall Tryz.prog 47 [s_0] s k := fn_by (F47_ok s_0 s k) h
theorem k47_ok : okFn Tryz.prog 47 = true := by kernel_rfl

/- internal strconv.Itoa -/
def F48 (i_0 : Value) (s : AS) (k : Value → AS → Prop) : Prop :=
 kCall Tryz.prog 58 [i_0, (.int .i64 10)] s fun v4 s =>
 k v4 s
theorem F48_ok (i_0 : Value) (s : AS) (k : Value → AS → Prop) : denFn Tryz.prog [] 48 [i_0] s k = F48 i_0 s k := by kernel_rfl
theorem f48 {i_0 : Value} {s : AS} {k : Value → AS → Prop} (h : F48 i_0 s k) : kCall Tryz.prog 48 [i_0] s k := fn_by (F48_ok i_0 s k) h
theorem k48_ok : okFn Tryz.prog 48 = true := by kernel_rfl

/- (*strings.Builder).Grow -/
def F49 (b_0 n_1 : Value) (s : AS) (k : Value → AS → Prop) : Prop :=
 kCall Tryz.prog 59 [b_0] s fun v5 s =>
 kJoin (fun _ s =>
 kNck b_0 fun v10 =>
 kFld 1 v10 fun v11 =>
 kNck b_0 fun v15 =>
 kFld 1 v15 fun v16 =>
 kLd s v11 fun v12 =>
 kLd s v16 fun v17 =>
 kLen false v17 fun v18 =>
 kGen Tryz.prog (.blt .cap [72] 3) [v12] s fun v13 s =>
 kChk s v16 v17 (
 kBin .sub v13 v18 fun v19 =>
 kBin .lss v19 n_1 fun v21 =>
 kCond v21 (
 kCall Tryz.prog 60 [b_0, n_1] s fun v24 s =>
 k undef s) (
 k undef s))) fun J1 =>
 kBin .lss n_1 (.int .i64 0) fun v7 =>
 kCond v7 (
 kGen Tryz.prog (.mki 9) [(.string (bs [115, 116, 114, 105, 110, 103, 115, 46, 66, 117, 105, 108, 100, 101, 114, 46, 71, 114, 111, 119, 58, 32, 110, 101, 103, 97, 116, 105, 118, 101, 32, 99, 111, 117, 110, 116]))] s fun v8 s =>
 False) (
 J1 [] s)
theorem F49_ok (b_0 n_1 : Value) (s : AS) (k : Value → AS → Prop) : denFn Tryz.prog [(3, (.go 0 (.go 1 (.go 2 (.go 5 (.go 6 (.go 7 (.go 11 (.go 3 (.go 8 (.go 9 (.go 4 (.go 10 (.go 12 .done))))))))))))))] 49 [b_0, n_1] s k = F49 b_0 n_1 s k := by kernel_rfl
theorem f49 {b_0 n_1 : Value} {s : AS} {k : Value → AS → Prop} (h : F49 b_0 n_1 s k) : kCall Tryz.prog 49 [b_0, n_1] s k := fn_by (F49_ok b_0 n_1 s k) h
theorem k49_ok : okFn Tryz.prog 49 = true := by kernel_rfl

/- (*strings.Builder).WriteString -/
def F50 (b_0 s_1 : Value) (s : AS) (k : Value → AS → Prop) : Prop :=
 kCall Tryz.prog 59 [b_0] s fun v7 s =>
 kNck b_0 fun v10 =>
 kFld 1 v10 fun v11 =>
 kLd s v11 fun v12 =>
 kApp Tryz.prog 72 9 v12 s_1 s fun v14 s =>
 kNck b_0 fun v15 =>
 kFld 1 v15 fun v16 =>
 kSt s 1 v16 v14 fun s =>
 kLen true s_1 fun v18 =>
 k (.tuple #[v18, .nilIface]) s
theorem F50_ok (b_0 s_1 : Value) (s : AS) (k : Value → AS → Prop) : denFn Tryz.prog [] 50 [b_0, s_1] s k = F50 b_0 s_1 s k := by kernel_rfl
theorem f50 {b_0 s_1 : Value} {s : AS} {k : Value → AS → Prop} (h : F50 b_0 s_1 s k) : kCall Tryz.prog 50 [b_0, s_1] s k := fn_by (F50_ok b_0 s_1 s k) h
theorem k50_ok : okFn Tryz.prog 50 = true := by kernel_rfl

/- (*strings.Builder).String -/
def F51 (b_0 : Value) (s : AS) (k : Value → AS → Prop) : Prop :=
 kNck b_0 fun v4 =>
 kFld 1 v4 fun v5 =>
 kNck b_0 fun v9 =>
 kFld 1 v9 fun v10 =>
 kLd s v5 fun v6 =>
 kLd s v10 fun v11 =>
 kLen false v11 fun v12 =>
 kGen Tryz.prog (.blt .unsafeSliceData [72] 84) [v6] s fun v7 s =>
 kChk s v10 v11 (
 kGen Tryz.prog (.blt .unsafeString [84, 3] 9) [v7, v12] s fun v13 s =>
 k v13 s)
theorem F51_ok (b_0 : Value) (s : AS) (k : Value → AS → Prop) : denFn Tryz.prog [(1, (.go 0 (.go 1 (.go 2 (.go 5 (.go 6 (.go 7 (.go 3 (.go 8 (.go 9 (.go 4 (.go 10 (.go 11 .done)))))))))))))] 51 [b_0] s k = F51 b_0 s k := by kernel_rfl
theorem f51 {b_0 : Value} {s : AS} {k : Value → AS → Prop} (h : F51 b_0 s k) : kCall Tryz.prog 51 [b_0] s k := fn_by (F51_ok b_0 s k) h
theorem k51_ok : okFn Tryz.prog 51 = true := by kernel_rfl

/- conch chars.Alpha -/
def F52 (c_0 : Value) (s : AS) (k : Value → AS → Prop) : Prop :=
 kBin .eql c_0 (.int .u8 95) fun v4 =>
 kGrd v4 false (fun k =>
 kBin .or c_0 (.int .u8 32) fun v7 =>
 kBin .geq v7 (.int .u8 97) fun v8 =>
 k [v8] s) [undef] s fun xs s =>
 un1 xs fun v9 =>
 kGrd v9 true (fun k =>
 kBin .or c_0 (.int .u8 32) fun v11 =>
 kBin .leq v11 (.int .u8 122) fun v12 =>
 k [v12] s) [undef] s fun xs s =>
 un1 xs fun v12 =>
 kGrd v4 false (fun k =>
 kPick v9 v12 (.bool false) fun v13 =>
 k [v13] s) [undef] s fun xs s =>
 un1 xs fun v13 =>
 kPick v4 (.bool true) v13 fun v14 =>
 k v14 s
theorem F52_ok (c_0 : Value) (s : AS) (k : Value → AS → Prop) : denFn Tryz.prog [] 52 [c_0] s k = F52 c_0 s k := by kernel_rfl
theorem f52 {c_0 : Value} {s : AS} {k : Value → AS → Prop} (h : F52 c_0 s k) : kCall Tryz.prog 52 [c_0] s k := fn_by (F52_ok c_0 s k) h
theorem k52_ok : okFn Tryz.prog 52 = true := by kernel_rfl

/- conch chars.Digit -/
def F53 (c_0 : Value) (s : AS) (k : Value → AS → Prop) : Prop :=
 kBin .geq c_0 (.int .u8 48) fun v4 =>
 kGrd v4 true (fun k =>
 kBin .leq c_0 (.int .u8 57) fun v7 =>
 k [v7] s) [undef] s fun xs s =>
 un1 xs fun v7 =>
 kPick v4 v7 (.bool false) fun v8 =>
 k v8 s
theorem F53_ok (c_0 : Value) (s : AS) (k : Value → AS → Prop) : denFn Tryz.prog [] 53 [c_0] s k = F53 c_0 s k := by kernel_rfl
theorem f53 {c_0 : Value} {s : AS} {k : Value → AS → Prop} (h : F53 c_0 s k) : kCall Tryz.prog 53 [c_0] s k := fn_by (F53_ok c_0 s k) h
theorem k53_ok : okFn Tryz.prog 53 = true := by kernel_rfl

/- strings.Trim -/
def F54 (s_0 cutset_1 : Value) (s : AS) (k : Value → AS → Prop) : Prop :=
 kJoin (fun _ s =>
 kJoin (fun _ s =>
 kJoin (fun _ s =>
 kCall Tryz.prog 67 [s_0, cutset_1] s fun v40 s =>
 kCall Tryz.prog 66 [v40, cutset_1] s fun v42 s =>
 k v42 s) fun J3 =>
 kCall Tryz.prog 63 [cutset_1] s fun v31 s =>
 kExt 0 v31 fun v32 =>
 kExt 1 v31 fun v33 =>
 kNew s (List.replicate 256 (.bool false)) fun as_5 s =>
 kSt s 256 as_5 v32 fun s =>
 kCond v33 (
 kCall Tryz.prog 65 [s_0, as_5] s fun v36 s =>
 kCall Tryz.prog 64 [v36, as_5] s fun v37 s =>
 k v37 s) (
 J3 [] s)) fun J2 =>
 kLen true cutset_1 fun v15 =>
 kBin .eql v15 (.int .i64 1) fun v16 =>
 kGrd v16 true (fun k =>
 kIxS cutset_1 (.int .i64 0) fun v19 =>
 kBin .lss v19 (.int .u8 128) fun v20 =>
 k [v20] s) [undef] s fun xs s =>
 un1 xs fun v20 =>
 kPick v16 v20 (.bool false) fun v21 =>
 kCond v21 (
 kIxS cutset_1 (.int .i64 0) fun v24 =>
 kIxS cutset_1 (.int .i64 0) fun v27 =>
 kCall Tryz.prog 62 [s_0, v24] s fun v25 s =>
 kCall Tryz.prog 61 [v25, v27] s fun v28 s =>
 k v28 s) (
 J2 [] s)) fun J1 =>
 kBin .eql s_0 (.string (bs [])) fun v8 =>
 kGrd v8 false (fun k =>
 kBin .eql cutset_1 (.string (bs [])) fun v11 =>
 k [v11] s) [undef] s fun xs s =>
 un1 xs fun v11 =>
 kPick v8 (.bool true) v11 fun v12 =>
 kCond v12 (
 k s_0 s) (
 J1 [] s)
theorem F54_ok (s_0 cutset_1 : Value) (s : AS) (k : Value → AS → Prop) : denFn Tryz.prog [(4, (.go 0 (.go 1 (.go 2 (.go 4 (.go 5 (.go 3 (.go 6 (.go 7 .done)))))))))] 54 [s_0, cutset_1] s k = F54 s_0 cutset_1 s k := by kernel_rfl
theorem f54 {s_0 cutset_1 : Value} {s : AS} {k : Value → AS → Prop} (h : F54 s_0 cutset_1 s k) : kCall Tryz.prog 54 [s_0, cutset_1] s k := fn_by (F54_ok s_0 cutset_1 s k) h
theorem k54_ok : okFn Tryz.prog 54 = true := by kernel_rfl

/- strconv.Atoi -/
def F55 (s_0 : Value) (s : AS) (k : Value → AS → Prop) : Prop :=
 kCall Tryz.prog 68 [s_0] s fun v8 s =>
 kExt 0 v8 fun v9 =>
 kExt 1 v8 fun v10 =>
 kJoin (fun _ s =>
 k (.tuple #[v9, .nilIface]) s) fun J1 =>
 kEqi true v10 .nilIface fun v12 =>
 kCond v12 (
 kCall Tryz.prog 69 [(.string (bs [65, 116, 111, 105])), s_0, (.int .i64 0), (.int .i64 0), v10] s fun v16 s =>
 k (.tuple #[v9, v16]) s) (
 J1 [] s)
theorem F55_ok (s_0 : Value) (s : AS) (k : Value → AS → Prop) : denFn Tryz.prog [] 55 [s_0] s k = F55 s_0 s k := by kernel_rfl
theorem f55 {s_0 : Value} {s : AS} {k : Value → AS → Prop} (h : F55 s_0 s k) : kCall Tryz.prog 55 [s_0] s k := fn_by (F55_ok s_0 s k) h
theorem k55_ok : okFn Tryz.prog 55 = true := by kernel_rfl

/- conch conchref01.Alpha -/
def F56 (c_0 : Value) (s : AS) (k : Value → AS → Prop) : Prop :=
 kBin .geq c_0 (.int .u8 97) fun v4 =>
 kGrd v4 true (fun k =>
 kBin .leq c_0 (.int .u8 122) fun v7 =>
 k [v7] s) [undef] s fun xs s =>
 un1 xs fun v7 =>
 kPick v4 v7 (.bool false) fun v8 =>
 kGrd v8 false (fun k =>
 kBin .geq c_0 (.int .u8 65) fun v11 =>
 k [v11] s) [undef] s fun xs s =>
 un1 xs fun v12 =>
 kGrd v12 true (fun k =>
 kBin .leq c_0 (.int .u8 90) fun v14 =>
 k [v14] s) [undef] s fun xs s =>
 un1 xs fun v14 =>
 kGrd v8 false (fun k =>
 kPick v12 v14 (.bool false) fun v15 =>
 k [v15] s) [undef] s fun xs s =>
 un1 xs fun v15 =>
 kPick v8 (.bool true) v15 fun v16 =>
 kGrd v16 false (fun k =>
 kBin .eql c_0 (.int .u8 95) fun v19 =>
 k [v19] s) [undef] s fun xs s =>
 un1 xs fun v19 =>
 kPick v16 (.bool true) v19 fun v20 =>
 k v20 s
theorem F56_ok (c_0 : Value) (s : AS) (k : Value → AS → Prop) : denFn Tryz.prog [] 56 [c_0] s k = F56 c_0 s k := by kernel_rfl
theorem f56 {c_0 : Value} {s : AS} {k : Value → AS → Prop} (h : F56 c_0 s k) : kCall Tryz.prog 56 [c_0] s k := fn_by (F56_ok c_0 s k) h
theorem k56_ok : okFn Tryz.prog 56 = true := by kernel_rfl

/- conch conchref01.Digit -/
def F57 (c_0 : Value) (s : AS) (k : Value → AS → Prop) : Prop :=
 kBin .geq c_0 (.int .u8 48) fun v4 =>
 kGrd v4 true (fun k =>
 kBin .leq c_0 (.int .u8 57) fun v7 =>
 k [v7] s) [undef] s fun xs s =>
 un1 xs fun v7 =>
 kPick v4 v7 (.bool false) fun v8 =>
 k v8 s
theorem F57_ok (c_0 : Value) (s : AS) (k : Value → AS → Prop) : denFn Tryz.prog [] 57 [c_0] s k = F57 c_0 s k := by kernel_rfl
theorem f57 {c_0 : Value} {s : AS} {k : Value → AS → Prop} (h : F57 c_0 s k) : kCall Tryz.prog 57 [c_0] s k := fn_by (F57_ok c_0 s k) h
theorem k57_ok : okFn Tryz.prog 57 = true := by kernel_rfl

/- internal strconv.FormatInt -/
def F58 (i_0 base_1 : Value) (s : AS) (k : Value → AS → Prop) : Prop :=
 kJoin (fun _ s =>
 kCvi .u64 i_0 fun v46 =>
 kBin .lss i_0 (.int .i64 0) fun v49 =>
 kCall Tryz.prog 73 [(.slice none 0 0), v46, base_1, v49, (.bool false)] s fun v50 s =>
 kExt 0 v50 fun v51 =>
 kExt 1 v50 fun v52 =>
 k v52 s) fun J1 =>
 kBin .eql base_1 (.int .i64 10) fun v11 =>
 kCond v11 (
 kJoin (fun _ s =>
 kNew s (List.replicate 24 (.int .u8 0)) fun a_5 s =>
 kCvi .u64 i_0 fun v21 =>
 kJoin (fun xs s =>
 un1 xs fun u_6 =>
 kCall Tryz.prog 71 [u_6] s fun v27 s =>
 kBin .add (.int .i64 1) v27 fun v29 =>
 kSubA 24 1 a_5 (some (.int .i64 1)) (some v29) fun v30 =>
 kCall Tryz.prog 72 [v30, u_6] s fun v32 s =>
 kJoin (fun _ s =>
 kBin .add (.int .i64 1) v27 fun v41 =>
 kSubA 24 1 a_5 (some (.int .i64 1)) (some v41) fun v42 =>
 kCvBS s v42 fun v43 =>
 k v43 s) fun J4 =>
 kBin .lss i_0 (.int .i64 0) fun v34 =>
 kCond v34 (
 kIdxA 24 1 a_5 (.int .i64 0) fun v35 =>
 kSt s 1 v35 (.int .u8 45) fun s =>
 kBin .add (.int .i64 1) v27 fun v37 =>
 kSubA 24 1 a_5 none (some v37) fun v38 =>
 kCvBS s v38 fun v39 =>
 k v39 s) (
 J4 [] s)) fun J3 =>
 kBin .lss i_0 (.int .i64 0) fun v23 =>
 kCond v23 (
 kUn .neg v21 fun v25 =>
 J3 [v25] s) (
 J3 [v21] s)) fun J2 =>
 kBin .leq (.int .i64 0) i_0 fun v13 =>
 kGrd v13 true (fun k =>
 kBin .lss i_0 (.int .i64 100) fun v16 =>
 k [v16] s) [undef] s fun xs s =>
 un1 xs fun v16 =>
 kPick v13 v16 (.bool false) fun v17 =>
 kCond v17 (
 kCall Tryz.prog 70 [i_0] s fun v19 s =>
 k v19 s) (
 J2 [] s)) (
 J1 [] s)
theorem F58_ok (i_0 base_1 : Value) (s : AS) (k : Value → AS → Prop) : denFn Tryz.prog [] 58 [i_0, base_1] s k = F58 i_0 base_1 s k := by kernel_rfl
theorem f58 {i_0 base_1 : Value} {s : AS} {k : Value → AS → Prop} (h : F58 i_0 base_1 s k) : kCall Tryz.prog 58 [i_0, base_1] s k := fn_by (F58_ok i_0 base_1 s k) h
theorem k58_ok : okFn Tryz.prog 58 = true := by kernel_rfl

/- (*strings.Builder).copyCheck -/
def F59 (b_0 : Value) (s : AS) (k : Value → AS → Prop) : Prop :=
 kNck b_0 fun v3 =>
 kFld 0 v3 fun v4 =>
 kLd s v4 fun v5 =>
 kEq 0 false v5 (.pointer none) fun v6 =>
 kCond v6 (
 kGen Tryz.prog (.cv 73 99) [b_0] s fun v9 s =>
 kGen Tryz.prog (.ext 74) [v9] s fun v10 s =>
 kGen Tryz.prog (.cv 99 73) [v10] s fun v11 s =>
 kNck b_0 fun v12 =>
 kFld 0 v12 fun v13 =>
 kSt s 1 v13 v11 fun s =>
 k undef s) (
 kNck b_0 fun v15 =>
 kFld 0 v15 fun v16 =>
 kLd s v16 fun v17 =>
 kGen Tryz.prog (.bop .neq 73 (.tmp 17) (.tmp 18)) [v17, b_0] s fun v19 s =>
 kCond v19 (
 False) (
 k undef s))
theorem F59_ok (b_0 : Value) (s : AS) (k : Value → AS → Prop) : denFn Tryz.prog [] 59 [b_0] s k = F59 b_0 s k := by kernel_rfl
theorem f59 {b_0 : Value} {s : AS} {k : Value → AS → Prop} (h : F59 b_0 s k) : kCall Tryz.prog 59 [b_0] s k := fn_by (F59_ok b_0 s k) h
theorem k59_ok : okFn Tryz.prog 59 = true := by kernel_rfl

/- (*strings.Builder).grow -/
def F60 (b_0 n_1 : Value) (s : AS) (k : Value → AS → Prop) : Prop :=
 kNck b_0 fun v6 =>
 kFld 1 v6 fun v7 =>
 kNck b_0 fun v15 =>
 kFld 1 v15 fun v16 =>
 kLd s v7 fun v8 =>
 kLd s v16 fun v17 =>
 kLen false v17 fun v18 =>
 kGen Tryz.prog (.blt .cap [72] 3) [v8] s fun v9 s =>
 kChk s v16 v17 (
 kBin .mul (.int .i64 2) v9 fun v10 =>
 kBin .add v10 n_1 fun v12 =>
 kGen Tryz.prog (.ext 75) [v12] s fun v13 s =>
 kChk s v16 v17 (
 kSubL 1 v13 none (some v18) fun v19 =>
 kNck b_0 fun v22 =>
 kFld 1 v22 fun v23 =>
 kLd s v23 fun v24 =>
 kCpy Tryz.prog 72 72 v19 v24 s fun v25 s =>
 kNck b_0 fun v28 =>
 kFld 1 v28 fun v29 =>
 kSt s 1 v29 v19 fun s =>
 k undef s))
theorem F60_ok (b_0 n_1 : Value) (s : AS) (k : Value → AS → Prop) : denFn Tryz.prog [(0, (.go 0 (.go 1 (.go 2 (.go 6 (.go 9 (.go 10 (.go 11 (.go 3 (.go 12 (.go 13 (.go 4 (.go 5 (.go 7 (.go 8 (.go 14 (.go 15 .done)))))))))))))))))] 60 [b_0, n_1] s k = F60 b_0 n_1 s k := by kernel_rfl
theorem f60 {b_0 n_1 : Value} {s : AS} {k : Value → AS → Prop} (h : F60 b_0 n_1 s k) : kCall Tryz.prog 60 [b_0, n_1] s k := fn_by (F60_ok b_0 n_1 s k) h
theorem k60_ok : okFn Tryz.prog 60 = true := by kernel_rfl

/- strings.trimLeftByte -/
def F61 (s_0 c_1 : Value) (s : AS) (k : Value → AS → Prop) : Prop :=
 kJoin (fun xs s =>
 un1 xs fun s_0 =>
 k s_0 s) fun J1 =>
 kLoop (fun again2 xs s =>
 un1 xs fun s_0 =>
 kJoin (fun _ s =>
 kSubS s_0 (some (.int .i64 1)) none fun v15 =>
 again2 [v15] s) fun J3 =>
 kLen true s_0 fun v6 =>
 kBin .gtr v6 (.int .i64 0) fun v7 =>
 kGrd v7 true (fun k =>
 kIxS s_0 (.int .i64 0) fun v10 =>
 kBin .eql v10 c_1 fun v12 =>
 k [v12] s) [undef] s fun xs s =>
 un1 xs fun v12 =>
 kPick v7 v12 (.bool false) fun v13 =>
 kCond v13 (
 J3 [] s) (
 J1 [s_0] s)) [s_0] s
theorem F61_ok (s_0 c_1 : Value) (s : AS) (k : Value → AS → Prop) : denFn Tryz.prog [] 61 [s_0, c_1] s k = F61 s_0 c_1 s k := by kernel_rfl
theorem f61 {s_0 c_1 : Value} {s : AS} {k : Value → AS → Prop} (h : F61 s_0 c_1 s k) : kCall Tryz.prog 61 [s_0, c_1] s k := fn_by (F61_ok s_0 c_1 s k) h
theorem k61_ok : okFn Tryz.prog 61 = true := by kernel_rfl

/- strings.trimRightByte -/
def F62 (s_0 c_1 : Value) (s : AS) (k : Value → AS → Prop) : Prop :=
 kJoin (fun xs s =>
 un1 xs fun s_0 =>
 k s_0 s) fun J1 =>
 kLoop (fun again2 xs s =>
 un1 xs fun s_0 =>
 kJoin (fun _ s =>
 kLen true s_0 fun v19 =>
 kBin .sub v19 (.int .i64 1) fun v20 =>
 kSubS s_0 none (some v20) fun v21 =>
 again2 [v21] s) fun J3 =>
 kLen true s_0 fun v6 =>
 kBin .gtr v6 (.int .i64 0) fun v7 =>
 kGrd v7 true (fun k =>
 kLen true s_0 fun v11 =>
 kBin .sub v11 (.int .i64 1) fun v12 =>
 kIxS s_0 v12 fun v13 =>
 kBin .eql v13 c_1 fun v15 =>
 k [v15] s) [undef] s fun xs s =>
 un1 xs fun v15 =>
 kPick v7 v15 (.bool false) fun v16 =>
 kCond v16 (
 J3 [] s) (
 J1 [s_0] s)) [s_0] s
theorem F62_ok (s_0 c_1 : Value) (s : AS) (k : Value → AS → Prop) : denFn Tryz.prog [] 62 [s_0, c_1] s k = F62 s_0 c_1 s k := by kernel_rfl
theorem f62 {s_0 c_1 : Value} {s : AS} {k : Value → AS → Prop} (h : F62 s_0 c_1 s k) : kCall Tryz.prog 62 [s_0, c_1] s k := fn_by (F62_ok s_0 c_1 s k) h
theorem k62_ok : okFn Tryz.prog 62 = true := by kernel_rfl

/- strings.makeASCIISet -/
def F63 (chars_0 : Value) (s : AS) (k : Value → AS → Prop) : Prop :=
 kNew s (List.replicate 256 (.bool false)) fun as_2 s =>
 kJoin (fun _ s =>
 kLdN s 256 as_2 fun v20 =>
 kSt s 256 as_2 v20 fun s =>
 kLdN s 256 as_2 fun r0 =>
 k (.tuple #[r0, (.bool true)]) s) fun J1 =>
 kLoop (fun again2 xs s =>
 un1 xs fun i_4 =>
 kJoin (fun _ s =>
 kJoin (fun _ s =>
 kBin .add i_4 (.int .i64 1) fun v11 =>
 again2 [v11] s) fun J4 =>
 kIxS chars_0 i_4 fun v14 =>
 kJoin (fun _ s =>
 kIdxA 256 1 as_2 v14 fun v19 =>
 kSt s 1 v19 (.bool true) fun s =>
 J4 [] s) fun J5 =>
 kBin .geq v14 (.int .u8 128) fun v16 =>
 kCond v16 (
 kLdN s 256 as_2 fun v17 =>
 kSt s 256 as_2 v17 fun s =>
 kLdN s 256 as_2 fun r0 =>
 k (.tuple #[r0, (.bool false)]) s) (
 J5 [] s)) fun J3 =>
 kLen true chars_0 fun v8 =>
 kBin .lss i_4 v8 fun v9 =>
 kCond v9 (
 J3 [] s) (
 J1 [] s)) [(.int .i64 0)] s
theorem F63_ok (chars_0 : Value) (s : AS) (k : Value → AS → Prop) : denFn Tryz.prog [] 63 [chars_0] s k = F63 chars_0 s k := by kernel_rfl
theorem f63 {chars_0 : Value} {s : AS} {k : Value → AS → Prop} (h : F63 chars_0 s k) : kCall Tryz.prog 63 [chars_0] s k := fn_by (F63_ok chars_0 s k) h
theorem k63_ok : okFn Tryz.prog 63 = true := by kernel_rfl

/- strings.trimLeftASCII -/
def F64 (s_0 as_1 : Value) (s : AS) (k : Value → AS → Prop) : Prop :=
 kJoin (fun xs s =>
 un1 xs fun s_0 =>
 k s_0 s) fun J1 =>
 kLoop (fun again2 xs s =>
 un1 xs fun s_0 =>
 kJoin (fun _ s =>
 kJoin (fun _ s =>
 kSubS s_0 (some (.int .i64 1)) none fun v14 =>
 again2 [v14] s) fun J4 =>
 kIxS s_0 (.int .i64 0) fun v10 =>
 kCall Tryz.prog 76 [as_1, v10] s fun v11 s =>
 kUn .not v11 fun v12 =>
 kCond v12 (
 J1 [s_0] s) (
 J4 [] s)) fun J3 =>
 kLen true s_0 fun v6 =>
 kBin .gtr v6 (.int .i64 0) fun v7 =>
 kCond v7 (
 J3 [] s) (
 J1 [s_0] s)) [s_0] s
theorem F64_ok (s_0 as_1 : Value) (s : AS) (k : Value → AS → Prop) : denFn Tryz.prog [] 64 [s_0, as_1] s k = F64 s_0 as_1 s k := by kernel_rfl
theorem f64 {s_0 as_1 : Value} {s : AS} {k : Value → AS → Prop} (h : F64 s_0 as_1 s k) : kCall Tryz.prog 64 [s_0, as_1] s k := fn_by (F64_ok s_0 as_1 s k) h
theorem k64_ok : okFn Tryz.prog 64 = true := by kernel_rfl

/- strings.trimRightASCII -/
def F65 (s_0 as_1 : Value) (s : AS) (k : Value → AS → Prop) : Prop :=
 kJoin (fun xs s =>
 un1 xs fun s_0 =>
 k s_0 s) fun J1 =>
 kLoop (fun again2 xs s =>
 un1 xs fun s_0 =>
 kJoin (fun _ s =>
 kJoin (fun _ s =>
 kLen true s_0 fun v18 =>
 kBin .sub v18 (.int .i64 1) fun v19 =>
 kSubS s_0 none (some v19) fun v20 =>
 again2 [v20] s) fun J4 =>
 kLen true s_0 fun v11 =>
 kBin .sub v11 (.int .i64 1) fun v12 =>
 kIxS s_0 v12 fun v13 =>
 kCall Tryz.prog 76 [as_1, v13] s fun v14 s =>
 kUn .not v14 fun v15 =>
 kCond v15 (
 J1 [s_0] s) (
 J4 [] s)) fun J3 =>
 kLen true s_0 fun v6 =>
 kBin .gtr v6 (.int .i64 0) fun v7 =>
 kCond v7 (
 J3 [] s) (
 J1 [s_0] s)) [s_0] s
theorem F65_ok (s_0 as_1 : Value) (s : AS) (k : Value → AS → Prop) : denFn Tryz.prog [] 65 [s_0, as_1] s k = F65 s_0 as_1 s k := by kernel_rfl
theorem f65 {s_0 as_1 : Value} {s : AS} {k : Value → AS → Prop} (h : F65 s_0 as_1 s k) : kCall Tryz.prog 65 [s_0, as_1] s k := fn_by (F65_ok s_0 as_1 s k) h
theorem k65_ok : okFn Tryz.prog 65 = true := by kernel_rfl

/- strings.trimLeftUnicode -/
def F66 (s_0 cutset_1 : Value) (s : AS) (k : Value → AS → Prop) : Prop :=
 kJoin (fun xs s =>
 un1 xs fun s_0 =>
 k s_0 s) fun J1 =>
 kLoop (fun again2 xs s =>
 un1 xs fun s_0 =>
 kJoin (fun _ s =>
 kCall Tryz.prog 77 [s_0] s fun v12 s =>
 kExt 0 v12 fun v13 =>
 kExt 1 v12 fun v14 =>
 kJoin (fun _ s =>
 kSubS s_0 (some v14) none fun v21 =>
 again2 [v21] s) fun J4 =>
 kCall Tryz.prog 78 [cutset_1, v13] s fun v17 s =>
 kUn .not v17 fun v18 =>
 kCond v18 (
 J1 [s_0] s) (
 J4 [] s)) fun J3 =>
 kLen true s_0 fun v8 =>
 kBin .gtr v8 (.int .i64 0) fun v9 =>
 kCond v9 (
 J3 [] s) (
 J1 [s_0] s)) [s_0] s
theorem F66_ok (s_0 cutset_1 : Value) (s : AS) (k : Value → AS → Prop) : denFn Tryz.prog [] 66 [s_0, cutset_1] s k = F66 s_0 cutset_1 s k := by kernel_rfl
theorem f66 {s_0 cutset_1 : Value} {s : AS} {k : Value → AS → Prop} (h : F66 s_0 cutset_1 s k) : kCall Tryz.prog 66 [s_0, cutset_1] s k := fn_by (F66_ok s_0 cutset_1 s k) h
theorem k66_ok : okFn Tryz.prog 66 = true := by kernel_rfl

/- strings.trimRightUnicode -/
def F67 (s_0 cutset_1 : Value) (s : AS) (k : Value → AS → Prop) : Prop :=
 kJoin (fun xs s =>
 un1 xs fun s_0 =>
 k s_0 s) fun J1 =>
 kLoop (fun again2 xs s =>
 un1 xs fun s_0 =>
 kJoin (fun _ s =>
 kLen true s_0 fun v12 =>
 kBin .sub v12 (.int .i64 1) fun v13 =>
 kIxS s_0 v13 fun v14 =>
 kCvi .i32 v14 fun v15 =>
 kJoin (fun xs s =>
 un2 xs fun r_5 n_6 =>
 kJoin (fun _ s =>
 kLen true s_0 fun v29 =>
 kBin .sub v29 n_6 fun v31 =>
 kSubS s_0 none (some v31) fun v32 =>
 again2 [v32] s) fun J5 =>
 kCall Tryz.prog 78 [cutset_1, r_5] s fun v25 s =>
 kUn .not v25 fun v26 =>
 kCond v26 (
 J1 [s_0] s) (
 J5 [] s)) fun J4 =>
 kBin .geq v15 (.int .i32 128) fun v17 =>
 kCond v17 (
 kCall Tryz.prog 79 [s_0] s fun v20 s =>
 kExt 0 v20 fun v21 =>
 kExt 1 v20 fun v22 =>
 J4 [v21, v22] s) (
 J4 [v15, (.int .i64 1)] s)) fun J3 =>
 kLen true s_0 fun v8 =>
 kBin .gtr v8 (.int .i64 0) fun v9 =>
 kCond v9 (
 J3 [] s) (
 J1 [s_0] s)) [s_0] s
theorem F67_ok (s_0 cutset_1 : Value) (s : AS) (k : Value → AS → Prop) : denFn Tryz.prog [] 67 [s_0, cutset_1] s k = F67 s_0 cutset_1 s k := by kernel_rfl
theorem f67 {s_0 cutset_1 : Value} {s : AS} {k : Value → AS → Prop} (h : F67 s_0 cutset_1 s k) : kCall Tryz.prog 67 [s_0, cutset_1] s k := fn_by (F67_ok s_0 cutset_1 s k) h
theorem k67_ok : okFn Tryz.prog 67 = true := by kernel_rfl

/- internal strconv.Atoi -/
def F68 (s_0 : Value) (s : AS) (k : Value → AS → Prop) : Prop :=
 kLen true s_0 fun v12 =>
 kJoin (fun xs s =>
 un1 xs fun s_0' =>
 kCall Tryz.prog 80 [s_0', (.int .i64 10), (.int .i64 0)] s fun v72 s =>
 kExt 0 v72 fun v73 =>
 kExt 1 v72 fun v74 =>
 k (.tuple #[v73, v74]) s) fun J1 =>
 kGrd (.bool false) true (fun k =>
 kBin .lss (.int .i64 0) v12 fun v15 =>
 k [v15] s) [undef] s fun xs s =>
 un1 xs fun v16 =>
 kGrd v16 true (fun k =>
 kBin .lss v12 (.int .i64 10) fun v18 =>
 k [v18] s) [undef] s fun xs s =>
 un1 xs fun v18 =>
 kGrd (.bool false) true (fun k =>
 kPick v16 v18 (.bool false) fun v19 =>
 k [v19] s) [undef] s fun xs s =>
 un1 xs fun v19 =>
 kPick (.bool false) v19 (.bool false) fun v20 =>
 kGrd v20 false (fun k =>
 k [(.bool true)] s) [undef] s fun xs s =>
 un1 xs fun v22 =>
 kGrd v22 true (fun k =>
 kBin .lss (.int .i64 0) v12 fun v24 =>
 k [v24] s) [undef] s fun xs s =>
 un1 xs fun v25 =>
 kGrd v25 true (fun k =>
 kBin .lss v12 (.int .i64 19) fun v27 =>
 k [v27] s) [undef] s fun xs s =>
 un1 xs fun v27 =>
 kGrd v22 true (fun k =>
 kPick v25 v27 (.bool false) fun v28 =>
 k [v28] s) [undef] s fun xs s =>
 un1 xs fun v28 =>
 kGrd v20 false (fun k =>
 kPick v22 v28 (.bool false) fun v29 =>
 k [v29] s) [undef] s fun xs s =>
 un1 xs fun v29 =>
 kPick v20 (.bool true) v29 fun v30 =>
 kCond v30 (
 kJoin (fun xs s =>
 un1 xs fun s_0' =>
 kJoin (fun xs s =>
 un1 xs fun n_6 =>
 kJoin (fun xs s =>
 un1 xs fun n_6 =>
 k (.tuple #[n_6, .nilIface]) s) fun J4 =>
 kIxS s_0 (.int .i64 0) fun v65 =>
 kBin .eql v65 (.int .u8 45) fun v66 =>
 kCond v66 (
 kUn .neg n_6 fun v68 =>
 J4 [v68] s) (
 J4 [n_6] s)) fun J3 =>
 kGen Tryz.prog (.cv 9 72) [s_0'] s fun v47 s =>
 kLen false v47 fun v48 =>
 kLoop (fun again5 xs s =>
 un2 xs fun n_6 v49 =>
 kBin .lss v49 v48 fun v50 =>
 kJoin (fun _ s =>
 kJoin (fun xs s =>
 un1 xs fun n_6 =>
 kBin .add v49 (.int .i64 1) fun v63 =>
 again5 [n_6, v63] s) fun J7 =>
 kIdx 1 v47 v49 fun v51 =>
 kLd s v51 fun v52 =>
 kBin .sub v52 (.int .u8 48) fun v54 =>
 kJoin (fun _ s =>
 kBin .mul n_6 (.int .i64 10) fun v59 =>
 kCvi .i64 v54 fun v61 =>
 kBin .add v59 v61 fun v62 =>
 J7 [v62] s) fun J8 =>
 kBin .gtr v54 (.int .u8 9) fun v56 =>
 kCond v56 (
 kGen Tryz.prog (.mki 105) [(.int .i64 2)] s fun v57 s =>
 k (.tuple #[(.int .i64 0), v57]) s) (
 J8 [] s)) fun J6 =>
 kCond v50 (
 J6 [] s) (
 J3 [n_6] s)) [(.int .i64 0), (.int .i64 0)] s) fun J2 =>
 kIxS s_0 (.int .i64 0) fun v33 =>
 kBin .eql v33 (.int .u8 45) fun v34 =>
 kGrd v34 false (fun k =>
 kIxS s_0 (.int .i64 0) fun v37 =>
 kBin .eql v37 (.int .u8 43) fun v38 =>
 k [v38] s) [undef] s fun xs s =>
 un1 xs fun v38 =>
 kPick v34 (.bool true) v38 fun v39 =>
 kCond v39 (
 kSubS s_0 (some (.int .i64 1)) none fun v41 =>
 kLen true v41 fun v43 =>
 kBin .lss v43 (.int .i64 1) fun v44 =>
 kCond v44 (
 kGen Tryz.prog (.mki 105) [(.int .i64 2)] s fun v45 s =>
 k (.tuple #[(.int .i64 0), v45]) s) (
 J2 [v41] s)) (
 J2 [s_0] s)) (
 J1 [s_0] s)
theorem F68_ok (s_0 : Value) (s : AS) (k : Value → AS → Prop) : denFn Tryz.prog [] 68 [s_0] s k = F68 s_0 s k := by kernel_rfl
theorem f68 {s_0 : Value} {s : AS} {k : Value → AS → Prop} (h : F68 s_0 s k) : kCall Tryz.prog 68 [s_0] s k := fn_by (F68_ok s_0 s k) h
theorem k68_ok : okFn Tryz.prog 68 = true := by kernel_rfl

/- strconv.toError -/
def F69 (fn_0 s_1 base_2 bitSize_3 err_4 : Value) (s : AS) (k : Value → AS → Prop) : Prop :=
 kJoin (fun _ s =>
 k err_4 s) fun J1 =>
 kGen Tryz.prog (.mki 105) [(.int .i64 2)] s fun v13 s =>
 kGen Tryz.prog (.bop .eql 77 (.tmp 11) (.tmp 13)) [err_4, v13] s fun v14 s =>
 kCond v14 (
 kCall Tryz.prog 81 [fn_0, s_1] s fun v17 s =>
 kGen Tryz.prog (.mki 108) [v17] s fun v18 s =>
 k v18 s) (
 kGen Tryz.prog (.mki 105) [(.int .i64 1)] s fun v20 s =>
 kGen Tryz.prog (.bop .eql 77 (.tmp 11) (.tmp 20)) [err_4, v20] s fun v21 s =>
 kCond v21 (
 kCall Tryz.prog 82 [fn_0, s_1] s fun v24 s =>
 kGen Tryz.prog (.mki 108) [v24] s fun v25 s =>
 k v25 s) (
 kGen Tryz.prog (.mki 105) [(.int .i64 3)] s fun v27 s =>
 kGen Tryz.prog (.bop .eql 77 (.tmp 11) (.tmp 27)) [err_4, v27] s fun v28 s =>
 kCond v28 (
 kCall Tryz.prog 83 [fn_0, s_1, base_2] s fun v32 s =>
 kGen Tryz.prog (.mki 108) [v32] s fun v33 s =>
 k v33 s) (
 kGen Tryz.prog (.mki 105) [(.int .i64 4)] s fun v35 s =>
 kGen Tryz.prog (.bop .eql 77 (.tmp 11) (.tmp 35)) [err_4, v35] s fun v36 s =>
 kCond v36 (
 kCall Tryz.prog 84 [fn_0, s_1, bitSize_3] s fun v40 s =>
 kGen Tryz.prog (.mki 108) [v40] s fun v41 s =>
 k v41 s) (
 J1 [] s))))
theorem F69_ok (fn_0 s_1 base_2 bitSize_3 err_4 : Value) (s : AS) (k : Value → AS → Prop) : denFn Tryz.prog [] 69 [fn_0, s_1, base_2, bitSize_3, err_4] s k = F69 fn_0 s_1 base_2 bitSize_3 err_4 s k := by kernel_rfl
theorem f69 {fn_0 s_1 base_2 bitSize_3 err_4 : Value} {s : AS} {k : Value → AS → Prop} (h : F69 fn_0 s_1 base_2 bitSize_3 err_4 s k) : kCall Tryz.prog 69 [fn_0, s_1, base_2, bitSize_3, err_4] s k := fn_by (F69_ok fn_0 s_1 base_2 bitSize_3 err_4 s k) h
theorem k69_ok : okFn Tryz.prog 69 = true := by kernel_rfl

/- internal strconv.small -/
def F70 (i_0 : Value) (s : AS) (k : Value → AS → Prop) : Prop :=
 kJoin (fun _ s =>
 kBin .mul i_0 (.int .i64 2) fun v10 =>
 kBin .mul i_0 (.int .i64 2) fun v12 =>
 kBin .add v12 (.int .i64 2) fun v13 =>
 kSubS (.string (bs [48, 48, 48, 49, 48, 50, 48, 51, 48, 52, 48, 53, 48, 54, 48, 55, 48, 56, 48, 57, 49, 48, 49, 49, 49, 50, 49, 51, 49, 52, 49, 53, 49, 54, 49, 55, 49, 56, 49, 57, 50, 48, 50, 49, 50, 50, 50, 51, 50, 52, 50, 53, 50, 54, 50, 55, 50, 56, 50, 57, 51, 48, 51, 49, 51, 50, 51, 51, 51, 52, 51, 53, 51, 54, 51, 55, 51, 56, 51, 57, 52, 48, 52, 49, 52, 50, 52, 51, 52, 52, 52, 53, 52, 54, 52, 55, 52, 56, 52, 57, 53, 48, 53, 49, 53, 50, 53, 51, 53, 52, 53, 53, 53, 54, 53, 55, 53, 56, 53, 57, 54, 48, 54, 49, 54, 50, 54, 51, 54, 52, 54, 53, 54, 54, 54, 55, 54, 56, 54, 57, 55, 48, 55, 49, 55, 50, 55, 51, 55, 52, 55, 53, 55, 54, 55, 55, 55, 56, 55, 57, 56, 48, 56, 49, 56, 50, 56, 51, 56, 52, 56, 53, 56, 54, 56, 55, 56, 56, 56, 57, 57, 48, 57, 49, 57, 50, 57, 51, 57, 52, 57, 53, 57, 54, 57, 55, 57, 56, 57, 57])) (some v10) (some v13) fun v14 =>
 k v14 s) fun J1 =>
 kBin .lss i_0 (.int .i64 10) fun v4 =>
 kCond v4 (
 kBin .add i_0 (.int .i64 1) fun v7 =>
 kSubS (.string (bs [48, 49, 50, 51, 52, 53, 54, 55, 56, 57, 97, 98, 99, 100, 101, 102, 103, 104, 105, 106, 107, 108, 109, 110, 111, 112, 113, 114, 115, 116, 117, 118, 119, 120, 121, 122])) (some i_0) (some v7) fun v8 =>
 k v8 s) (
 J1 [] s)
theorem F70_ok (i_0 : Value) (s : AS) (k : Value → AS → Prop) : denFn Tryz.prog [] 70 [i_0] s k = F70 i_0 s k := by kernel_rfl
theorem f70 {i_0 : Value} {s : AS} {k : Value → AS → Prop} (h : F70 i_0 s k) : kCall Tryz.prog 70 [i_0] s k := fn_by (F70_ok i_0 s k) h
theorem k70_ok : okFn Tryz.prog 70 = true := by kernel_rfl

/- internal strconv.numDigits -/
def F71 (d_0 : Value) (s : AS) (k : Value → AS → Prop) : Prop :=
 kCall Tryz.prog 86 [d_0] s fun v5 s =>
 kCall Tryz.prog 85 [v5] s fun v6 s =>
 kIdxA 20 1 (.pointer (some ⟨0, 0, none⟩)) v6 fun v10 =>
 kLd s v10 fun v11 =>
 kBin .geq d_0 v11 fun v12 =>
 kCall Tryz.prog 87 [v12] s fun v13 s =>
 kBin .add v6 v13 fun v14 =>
 k v14 s
theorem F71_ok (d_0 : Value) (s : AS) (k : Value → AS → Prop) : denFn Tryz.prog [] 71 [d_0] s k = F71 d_0 s k := by kernel_rfl
theorem f71 {d_0 : Value} {s : AS} {k : Value → AS → Prop} (h : F71 d_0 s k) : kCall Tryz.prog 71 [d_0] s k := fn_by (F71_ok d_0 s k) h
theorem k71_ok : okFn Tryz.prog 71 = true := by kernel_rfl

/- internal strconv.formatBase10 -/
def F72 (a_0 u_1 : Value) (s : AS) (k : Value → AS → Prop) : Prop :=
 kLen false a_0 fun v18 =>
 kJoin (fun xs s =>
 un2 xs fun u_1 nd_4 =>
 kCvi .u32 u_1 fun v97 =>
 kJoin (fun xs s =>
 un2 xs fun nd_4 x_12 =>
 kJoin (fun xs s =>
 un2 xs fun nd_4 x_12 =>
 kBin .gtr nd_4 (.int .i64 0) fun v161 =>
 kCond v161 (
 kBin .add (.int .u32 48) x_12 fun v164 =>
 kCvi .u8 v164 fun v165 =>
 kIdx 1 a_0 (.int .i64 0) fun v166 =>
 kSt s 1 v166 v165 fun s =>
 k undef s) (
 k undef s)) fun J3 =>
 kBin .geq nd_4 (.int .i64 2) fun v139 =>
 kCond v139 (
 kBin .rem x_12 (.int .u32 100) fun v141 =>
 kBin .mul v141 (.int .u32 2) fun v142 =>
 kBin .quo x_12 (.int .u32 100) fun v144 =>
 kBin .sub nd_4 (.int .i64 1) fun v147 =>
 kBin .sub nd_4 (.int .i64 2) fun v150 =>
 kBin .add v142 (.int .u32 1) fun v152 =>
 kIxS (.string (bs [48, 48, 48, 49, 48, 50, 48, 51, 48, 52, 48, 53, 48, 54, 48, 55, 48, 56, 48, 57, 49, 48, 49, 49, 49, 50, 49, 51, 49, 52, 49, 53, 49, 54, 49, 55, 49, 56, 49, 57, 50, 48, 50, 49, 50, 50, 50, 51, 50, 52, 50, 53, 50, 54, 50, 55, 50, 56, 50, 57, 51, 48, 51, 49, 51, 50, 51, 51, 51, 52, 51, 53, 51, 54, 51, 55, 51, 56, 51, 57, 52, 48, 52, 49, 52, 50, 52, 51, 52, 52, 52, 53, 52, 54, 52, 55, 52, 56, 52, 57, 53, 48, 53, 49, 53, 50, 53, 51, 53, 52, 53, 53, 53, 54, 53, 55, 53, 56, 53, 57, 54, 48, 54, 49, 54, 50, 54, 51, 54, 52, 54, 53, 54, 54, 54, 55, 54, 56, 54, 57, 55, 48, 55, 49, 55, 50, 55, 51, 55, 52, 55, 53, 55, 54, 55, 55, 55, 56, 55, 57, 56, 48, 56, 49, 56, 50, 56, 51, 56, 52, 56, 53, 56, 54, 56, 55, 56, 56, 56, 57, 57, 48, 57, 49, 57, 50, 57, 51, 57, 52, 57, 53, 57, 54, 57, 55, 57, 56, 57, 57])) v152 fun v153 =>
 kIxS (.string (bs [48, 48, 48, 49, 48, 50, 48, 51, 48, 52, 48, 53, 48, 54, 48, 55, 48, 56, 48, 57, 49, 48, 49, 49, 49, 50, 49, 51, 49, 52, 49, 53, 49, 54, 49, 55, 49, 56, 49, 57, 50, 48, 50, 49, 50, 50, 50, 51, 50, 52, 50, 53, 50, 54, 50, 55, 50, 56, 50, 57, 51, 48, 51, 49, 51, 50, 51, 51, 51, 52, 51, 53, 51, 54, 51, 55, 51, 56, 51, 57, 52, 48, 52, 49, 52, 50, 52, 51, 52, 52, 52, 53, 52, 54, 52, 55, 52, 56, 52, 57, 53, 48, 53, 49, 53, 50, 53, 51, 53, 52, 53, 53, 53, 54, 53, 55, 53, 56, 53, 57, 54, 48, 54, 49, 54, 50, 54, 51, 54, 52, 54, 53, 54, 54, 54, 55, 54, 56, 54, 57, 55, 48, 55, 49, 55, 50, 55, 51, 55, 52, 55, 53, 55, 54, 55, 55, 55, 56, 55, 57, 56, 48, 56, 49, 56, 50, 56, 51, 56, 52, 56, 53, 56, 54, 56, 55, 56, 56, 56, 57, 57, 48, 57, 49, 57, 50, 57, 51, 57, 52, 57, 53, 57, 54, 57, 55, 57, 56, 57, 57])) v142 fun v155 =>
 kIdx 1 a_0 v147 fun v156 =>
 kSt s 1 v156 v153 fun s =>
 kIdx 1 a_0 v150 fun v157 =>
 kSt s 1 v157 v155 fun s =>
 kBin .sub nd_4 (.int .i64 2) fun v159 =>
 J3 [v159, v144] s) (
 J3 [nd_4, x_12] s)) fun J2 =>
 kBin .geq nd_4 (.int .i64 4) fun v99 =>
 kCond v99 (
 kBin .rem v97 (.int .u32 10000) fun v101 =>
 kBin .quo v97 (.int .u32 10000) fun v103 =>
 kBin .quo v101 (.int .u32 100) fun v105 =>
 kBin .mul v105 (.int .u32 2) fun v106 =>
 kBin .rem v101 (.int .u32 100) fun v108 =>
 kBin .mul v108 (.int .u32 2) fun v109 =>
 kBin .sub nd_4 (.int .i64 1) fun v112 =>
 kBin .sub nd_4 (.int .i64 2) fun v115 =>
 kBin .add v109 (.int .u32 1) fun v117 =>
 kIxS (.string (bs [48, 48, 48, 49, 48, 50, 48, 51, 48, 52, 48, 53, 48, 54, 48, 55, 48, 56, 48, 57, 49, 48, 49, 49, 49, 50, 49, 51, 49, 52, 49, 53, 49, 54, 49, 55, 49, 56, 49, 57, 50, 48, 50, 49, 50, 50, 50, 51, 50, 52, 50, 53, 50, 54, 50, 55, 50, 56, 50, 57, 51, 48, 51, 49, 51, 50, 51, 51, 51, 52, 51, 53, 51, 54, 51, 55, 51, 56, 51, 57, 52, 48, 52, 49, 52, 50, 52, 51, 52, 52, 52, 53, 52, 54, 52, 55, 52, 56, 52, 57, 53, 48, 53, 49, 53, 50, 53, 51, 53, 52, 53, 53, 53, 54, 53, 55, 53, 56, 53, 57, 54, 48, 54, 49, 54, 50, 54, 51, 54, 52, 54, 53, 54, 54, 54, 55, 54, 56, 54, 57, 55, 48, 55, 49, 55, 50, 55, 51, 55, 52, 55, 53, 55, 54, 55, 55, 55, 56, 55, 57, 56, 48, 56, 49, 56, 50, 56, 51, 56, 52, 56, 53, 56, 54, 56, 55, 56, 56, 56, 57, 57, 48, 57, 49, 57, 50, 57, 51, 57, 52, 57, 53, 57, 54, 57, 55, 57, 56, 57, 57])) v117 fun v118 =>
 kIxS (.string (bs [48, 48, 48, 49, 48, 50, 48, 51, 48, 52, 48, 53, 48, 54, 48, 55, 48, 56, 48, 57, 49, 48, 49, 49, 49, 50, 49, 51, 49, 52, 49, 53, 49, 54, 49, 55, 49, 56, 49, 57, 50, 48, 50, 49, 50, 50, 50, 51, 50, 52, 50, 53, 50, 54, 50, 55, 50, 56, 50, 57, 51, 48, 51, 49, 51, 50, 51, 51, 51, 52, 51, 53, 51, 54, 51, 55, 51, 56, 51, 57, 52, 48, 52, 49, 52, 50, 52, 51, 52, 52, 52, 53, 52, 54, 52, 55, 52, 56, 52, 57, 53, 48, 53, 49, 53, 50, 53, 51, 53, 52, 53, 53, 53, 54, 53, 55, 53, 56, 53, 57, 54, 48, 54, 49, 54, 50, 54, 51, 54, 52, 54, 53, 54, 54, 54, 55, 54, 56, 54, 57, 55, 48, 55, 49, 55, 50, 55, 51, 55, 52, 55, 53, 55, 54, 55, 55, 55, 56, 55, 57, 56, 48, 56, 49, 56, 50, 56, 51, 56, 52, 56, 53, 56, 54, 56, 55, 56, 56, 56, 57, 57, 48, 57, 49, 57, 50, 57, 51, 57, 52, 57, 53, 57, 54, 57, 55, 57, 56, 57, 57])) v109 fun v120 =>
 kIdx 1 a_0 v112 fun v121 =>
 kSt s 1 v121 v118 fun s =>
 kIdx 1 a_0 v115 fun v122 =>
 kSt s 1 v122 v120 fun s =>
 kBin .sub nd_4 (.int .i64 3) fun v125 =>
 kBin .sub nd_4 (.int .i64 4) fun v128 =>
 kBin .add v106 (.int .u32 1) fun v130 =>
 kIxS (.string (bs [48, 48, 48, 49, 48, 50, 48, 51, 48, 52, 48, 53, 48, 54, 48, 55, 48, 56, 48, 57, 49, 48, 49, 49, 49, 50, 49, 51, 49, 52, 49, 53, 49, 54, 49, 55, 49, 56, 49, 57, 50, 48, 50, 49, 50, 50, 50, 51, 50, 52, 50, 53, 50, 54, 50, 55, 50, 56, 50, 57, 51, 48, 51, 49, 51, 50, 51, 51, 51, 52, 51, 53, 51, 54, 51, 55, 51, 56, 51, 57, 52, 48, 52, 49, 52, 50, 52, 51, 52, 52, 52, 53, 52, 54, 52, 55, 52, 56, 52, 57, 53, 48, 53, 49, 53, 50, 53, 51, 53, 52, 53, 53, 53, 54, 53, 55, 53, 56, 53, 57, 54, 48, 54, 49, 54, 50, 54, 51, 54, 52, 54, 53, 54, 54, 54, 55, 54, 56, 54, 57, 55, 48, 55, 49, 55, 50, 55, 51, 55, 52, 55, 53, 55, 54, 55, 55, 55, 56, 55, 57, 56, 48, 56, 49, 56, 50, 56, 51, 56, 52, 56, 53, 56, 54, 56, 55, 56, 56, 56, 57, 57, 48, 57, 49, 57, 50, 57, 51, 57, 52, 57, 53, 57, 54, 57, 55, 57, 56, 57, 57])) v130 fun v131 =>
 kIxS (.string (bs [48, 48, 48, 49, 48, 50, 48, 51, 48, 52, 48, 53, 48, 54, 48, 55, 48, 56, 48, 57, 49, 48, 49, 49, 49, 50, 49, 51, 49, 52, 49, 53, 49, 54, 49, 55, 49, 56, 49, 57, 50, 48, 50, 49, 50, 50, 50, 51, 50, 52, 50, 53, 50, 54, 50, 55, 50, 56, 50, 57, 51, 48, 51, 49, 51, 50, 51, 51, 51, 52, 51, 53, 51, 54, 51, 55, 51, 56, 51, 57, 52, 48, 52, 49, 52, 50, 52, 51, 52, 52, 52, 53, 52, 54, 52, 55, 52, 56, 52, 57, 53, 48, 53, 49, 53, 50, 53, 51, 53, 52, 53, 53, 53, 54, 53, 55, 53, 56, 53, 57, 54, 48, 54, 49, 54, 50, 54, 51, 54, 52, 54, 53, 54, 54, 54, 55, 54, 56, 54, 57, 55, 48, 55, 49, 55, 50, 55, 51, 55, 52, 55, 53, 55, 54, 55, 55, 55, 56, 55, 57, 56, 48, 56, 49, 56, 50, 56, 51, 56, 52, 56, 53, 56, 54, 56, 55, 56, 56, 56, 57, 57, 48, 57, 49, 57, 50, 57, 51, 57, 52, 57, 53, 57, 54, 57, 55, 57, 56, 57, 57])) v106 fun v133 =>
 kIdx 1 a_0 v125 fun v134 =>
 kSt s 1 v134 v131 fun s =>
 kIdx 1 a_0 v128 fun v135 =>
 kSt s 1 v135 v133 fun s =>
 kBin .sub nd_4 (.int .i64 4) fun v137 =>
 J2 [v137, v103] s) (
 J2 [nd_4, v97] s)) fun J1 =>
 kLoop (fun again4 xs s =>
 un2 xs fun u_1 nd_4 =>
 kJoin (fun _ s =>
 kBin .rem u_1 (.int .u64 100000000) fun v22 =>
 kCvi .u32 v22 fun v23 =>
 kBin .quo u_1 (.int .u64 100000000) fun v25 =>
 kBin .quo v23 (.int .u32 10000) fun v27 =>
 kBin .rem v23 (.int .u32 10000) fun v29 =>
 kBin .quo v29 (.int .u32 100) fun v31 =>
 kBin .mul v31 (.int .u32 2) fun v32 =>
 kBin .rem v29 (.int .u32 100) fun v34 =>
 kBin .mul v34 (.int .u32 2) fun v35 =>
 kBin .quo v27 (.int .u32 100) fun v37 =>
 kBin .mul v37 (.int .u32 2) fun v38 =>
 kBin .rem v27 (.int .u32 100) fun v40 =>
 kBin .mul v40 (.int .u32 2) fun v41 =>
 kBin .sub nd_4 (.int .i64 1) fun v44 =>
 kBin .sub nd_4 (.int .i64 2) fun v47 =>
 kBin .add v35 (.int .u32 1) fun v49 =>
 kIxS (.string (bs [48, 48, 48, 49, 48, 50, 48, 51, 48, 52, 48, 53, 48, 54, 48, 55, 48, 56, 48, 57, 49, 48, 49, 49, 49, 50, 49, 51, 49, 52, 49, 53, 49, 54, 49, 55, 49, 56, 49, 57, 50, 48, 50, 49, 50, 50, 50, 51, 50, 52, 50, 53, 50, 54, 50, 55, 50, 56, 50, 57, 51, 48, 51, 49, 51, 50, 51, 51, 51, 52, 51, 53, 51, 54, 51, 55, 51, 56, 51, 57, 52, 48, 52, 49, 52, 50, 52, 51, 52, 52, 52, 53, 52, 54, 52, 55, 52, 56, 52, 57, 53, 48, 53, 49, 53, 50, 53, 51, 53, 52, 53, 53, 53, 54, 53, 55, 53, 56, 53, 57, 54, 48, 54, 49, 54, 50, 54, 51, 54, 52, 54, 53, 54, 54, 54, 55, 54, 56, 54, 57, 55, 48, 55, 49, 55, 50, 55, 51, 55, 52, 55, 53, 55, 54, 55, 55, 55, 56, 55, 57, 56, 48, 56, 49, 56, 50, 56, 51, 56, 52, 56, 53, 56, 54, 56, 55, 56, 56, 56, 57, 57, 48, 57, 49, 57, 50, 57, 51, 57, 52, 57, 53, 57, 54, 57, 55, 57, 56, 57, 57])) v49 fun v50 =>
 kIxS (.string (bs [48, 48, 48, 49, 48, 50, 48, 51, 48, 52, 48, 53, 48, 54, 48, 55, 48, 56, 48, 57, 49, 48, 49, 49, 49, 50, 49, 51, 49, 52, 49, 53, 49, 54, 49, 55, 49, 56, 49, 57, 50, 48, 50, 49, 50, 50, 50, 51, 50, 52, 50, 53, 50, 54, 50, 55, 50, 56, 50, 57, 51, 48, 51, 49, 51, 50, 51, 51, 51, 52, 51, 53, 51, 54, 51, 55, 51, 56, 51, 57, 52, 48, 52, 49, 52, 50, 52, 51, 52, 52, 52, 53, 52, 54, 52, 55, 52, 56, 52, 57, 53, 48, 53, 49, 53, 50, 53, 51, 53, 52, 53, 53, 53, 54, 53, 55, 53, 56, 53, 57, 54, 48, 54, 49, 54, 50, 54, 51, 54, 52, 54, 53, 54, 54, 54, 55, 54, 56, 54, 57, 55, 48, 55, 49, 55, 50, 55, 51, 55, 52, 55, 53, 55, 54, 55, 55, 55, 56, 55, 57, 56, 48, 56, 49, 56, 50, 56, 51, 56, 52, 56, 53, 56, 54, 56, 55, 56, 56, 56, 57, 57, 48, 57, 49, 57, 50, 57, 51, 57, 52, 57, 53, 57, 54, 57, 55, 57, 56, 57, 57])) v35 fun v52 =>
 kIdx 1 a_0 v44 fun v53 =>
 kSt s 1 v53 v50 fun s =>
 kIdx 1 a_0 v47 fun v54 =>
 kSt s 1 v54 v52 fun s =>
 kBin .sub nd_4 (.int .i64 3) fun v57 =>
 kBin .sub nd_4 (.int .i64 4) fun v60 =>
 kBin .add v32 (.int .u32 1) fun v62 =>
 kIxS (.string (bs [48, 48, 48, 49, 48, 50, 48, 51, 48, 52, 48, 53, 48, 54, 48, 55, 48, 56, 48, 57, 49, 48, 49, 49, 49, 50, 49, 51, 49, 52, 49, 53, 49, 54, 49, 55, 49, 56, 49, 57, 50, 48, 50, 49, 50, 50, 50, 51, 50, 52, 50, 53, 50, 54, 50, 55, 50, 56, 50, 57, 51, 48, 51, 49, 51, 50, 51, 51, 51, 52, 51, 53, 51, 54, 51, 55, 51, 56, 51, 57, 52, 48, 52, 49, 52, 50, 52, 51, 52, 52, 52, 53, 52, 54, 52, 55, 52, 56, 52, 57, 53, 48, 53, 49, 53, 50, 53, 51, 53, 52, 53, 53, 53, 54, 53, 55, 53, 56, 53, 57, 54, 48, 54, 49, 54, 50, 54, 51, 54, 52, 54, 53, 54, 54, 54, 55, 54, 56, 54, 57, 55, 48, 55, 49, 55, 50, 55, 51, 55, 52, 55, 53, 55, 54, 55, 55, 55, 56, 55, 57, 56, 48, 56, 49, 56, 50, 56, 51, 56, 52, 56, 53, 56, 54, 56, 55, 56, 56, 56, 57, 57, 48, 57, 49, 57, 50, 57, 51, 57, 52, 57, 53, 57, 54, 57, 55, 57, 56, 57, 57])) v62 fun v63 =>
 kIxS (.string (bs [48, 48, 48, 49, 48, 50, 48, 51, 48, 52, 48, 53, 48, 54, 48, 55, 48, 56, 48, 57, 49, 48, 49, 49, 49, 50, 49, 51, 49, 52, 49, 53, 49, 54, 49, 55, 49, 56, 49, 57, 50, 48, 50, 49, 50, 50, 50, 51, 50, 52, 50, 53, 50, 54, 50, 55, 50, 56, 50, 57, 51, 48, 51, 49, 51, 50, 51, 51, 51, 52, 51, 53, 51, 54, 51, 55, 51, 56, 51, 57, 52, 48, 52, 49, 52, 50, 52, 51, 52, 52, 52, 53, 52, 54, 52, 55, 52, 56, 52, 57, 53, 48, 53, 49, 53, 50, 53, 51, 53, 52, 53, 53, 53, 54, 53, 55, 53, 56, 53, 57, 54, 48, 54, 49, 54, 50, 54, 51, 54, 52, 54, 53, 54, 54, 54, 55, 54, 56, 54, 57, 55, 48, 55, 49, 55, 50, 55, 51, 55, 52, 55, 53, 55, 54, 55, 55, 55, 56, 55, 57, 56, 48, 56, 49, 56, 50, 56, 51, 56, 52, 56, 53, 56, 54, 56, 55, 56, 56, 56, 57, 57, 48, 57, 49, 57, 50, 57, 51, 57, 52, 57, 53, 57, 54, 57, 55, 57, 56, 57, 57])) v32 fun v65 =>
 kIdx 1 a_0 v57 fun v66 =>
 kSt s 1 v66 v63 fun s =>
 kIdx 1 a_0 v60 fun v67 =>
 kSt s 1 v67 v65 fun s =>
 kBin .sub nd_4 (.int .i64 5) fun v70 =>
 kBin .sub nd_4 (.int .i64 6) fun v73 =>
 kBin .add v41 (.int .u32 1) fun v75 =>
 kIxS (.string (bs [48, 48, 48, 49, 48, 50, 48, 51, 48, 52, 48, 53, 48, 54, 48, 55, 48, 56, 48, 57, 49, 48, 49, 49, 49, 50, 49, 51, 49, 52, 49, 53, 49, 54, 49, 55, 49, 56, 49, 57, 50, 48, 50, 49, 50, 50, 50, 51, 50, 52, 50, 53, 50, 54, 50, 55, 50, 56, 50, 57, 51, 48, 51, 49, 51, 50, 51, 51, 51, 52, 51, 53, 51, 54, 51, 55, 51, 56, 51, 57, 52, 48, 52, 49, 52, 50, 52, 51, 52, 52, 52, 53, 52, 54, 52, 55, 52, 56, 52, 57, 53, 48, 53, 49, 53, 50, 53, 51, 53, 52, 53, 53, 53, 54, 53, 55, 53, 56, 53, 57, 54, 48, 54, 49, 54, 50, 54, 51, 54, 52, 54, 53, 54, 54, 54, 55, 54, 56, 54, 57, 55, 48, 55, 49, 55, 50, 55, 51, 55, 52, 55, 53, 55, 54, 55, 55, 55, 56, 55, 57, 56, 48, 56, 49, 56, 50, 56, 51, 56, 52, 56, 53, 56, 54, 56, 55, 56, 56, 56, 57, 57, 48, 57, 49, 57, 50, 57, 51, 57, 52, 57, 53, 57, 54, 57, 55, 57, 56, 57, 57])) v75 fun v76 =>
 kIxS (.string (bs [48, 48, 48, 49, 48, 50, 48, 51, 48, 52, 48, 53, 48, 54, 48, 55, 48, 56, 48, 57, 49, 48, 49, 49, 49, 50, 49, 51, 49, 52, 49, 53, 49, 54, 49, 55, 49, 56, 49, 57, 50, 48, 50, 49, 50, 50, 50, 51, 50, 52, 50, 53, 50, 54, 50, 55, 50, 56, 50, 57, 51, 48, 51, 49, 51, 50, 51, 51, 51, 52, 51, 53, 51, 54, 51, 55, 51, 56, 51, 57, 52, 48, 52, 49, 52, 50, 52, 51, 52, 52, 52, 53, 52, 54, 52, 55, 52, 56, 52, 57, 53, 48, 53, 49, 53, 50, 53, 51, 53, 52, 53, 53, 53, 54, 53, 55, 53, 56, 53, 57, 54, 48, 54, 49, 54, 50, 54, 51, 54, 52, 54, 53, 54, 54, 54, 55, 54, 56, 54, 57, 55, 48, 55, 49, 55, 50, 55, 51, 55, 52, 55, 53, 55, 54, 55, 55, 55, 56, 55, 57, 56, 48, 56, 49, 56, 50, 56, 51, 56, 52, 56, 53, 56, 54, 56, 55, 56, 56, 56, 57, 57, 48, 57, 49, 57, 50, 57, 51, 57, 52, 57, 53, 57, 54, 57, 55, 57, 56, 57, 57])) v41 fun v78 =>
 kIdx 1 a_0 v70 fun v79 =>
 kSt s 1 v79 v76 fun s =>
 kIdx 1 a_0 v73 fun v80 =>
 kSt s 1 v80 v78 fun s =>
 kBin .sub nd_4 (.int .i64 7) fun v83 =>
 kBin .sub nd_4 (.int .i64 8) fun v86 =>
 kBin .add v38 (.int .u32 1) fun v88 =>
 kIxS (.string (bs [48, 48, 48, 49, 48, 50, 48, 51, 48, 52, 48, 53, 48, 54, 48, 55, 48, 56, 48, 57, 49, 48, 49, 49, 49, 50, 49, 51, 49, 52, 49, 53, 49, 54, 49, 55, 49, 56, 49, 57, 50, 48, 50, 49, 50, 50, 50, 51, 50, 52, 50, 53, 50, 54, 50, 55, 50, 56, 50, 57, 51, 48, 51, 49, 51, 50, 51, 51, 51, 52, 51, 53, 51, 54, 51, 55, 51, 56, 51, 57, 52, 48, 52, 49, 52, 50, 52, 51, 52, 52, 52, 53, 52, 54, 52, 55, 52, 56, 52, 57, 53, 48, 53, 49, 53, 50, 53, 51, 53, 52, 53, 53, 53, 54, 53, 55, 53, 56, 53, 57, 54, 48, 54, 49, 54, 50, 54, 51, 54, 52, 54, 53, 54, 54, 54, 55, 54, 56, 54, 57, 55, 48, 55, 49, 55, 50, 55, 51, 55, 52, 55, 53, 55, 54, 55, 55, 55, 56, 55, 57, 56, 48, 56, 49, 56, 50, 56, 51, 56, 52, 56, 53, 56, 54, 56, 55, 56, 56, 56, 57, 57, 48, 57, 49, 57, 50, 57, 51, 57, 52, 57, 53, 57, 54, 57, 55, 57, 56, 57, 57])) v88 fun v89 =>
 kIxS (.string (bs [48, 48, 48, 49, 48, 50, 48, 51, 48, 52, 48, 53, 48, 54, 48, 55, 48, 56, 48, 57, 49, 48, 49, 49, 49, 50, 49, 51, 49, 52, 49, 53, 49, 54, 49, 55, 49, 56, 49, 57, 50, 48, 50, 49, 50, 50, 50, 51, 50, 52, 50, 53, 50, 54, 50, 55, 50, 56, 50, 57, 51, 48, 51, 49, 51, 50, 51, 51, 51, 52, 51, 53, 51, 54, 51, 55, 51, 56, 51, 57, 52, 48, 52, 49, 52, 50, 52, 51, 52, 52, 52, 53, 52, 54, 52, 55, 52, 56, 52, 57, 53, 48, 53, 49, 53, 50, 53, 51, 53, 52, 53, 53, 53, 54, 53, 55, 53, 56, 53, 57, 54, 48, 54, 49, 54, 50, 54, 51, 54, 52, 54, 53, 54, 54, 54, 55, 54, 56, 54, 57, 55, 48, 55, 49, 55, 50, 55, 51, 55, 52, 55, 53, 55, 54, 55, 55, 55, 56, 55, 57, 56, 48, 56, 49, 56, 50, 56, 51, 56, 52, 56, 53, 56, 54, 56, 55, 56, 56, 56, 57, 57, 48, 57, 49, 57, 50, 57, 51, 57, 52, 57, 53, 57, 54, 57, 55, 57, 56, 57, 57])) v38 fun v91 =>
 kIdx 1 a_0 v83 fun v92 =>
 kSt s 1 v92 v89 fun s =>
 kIdx 1 a_0 v86 fun v93 =>
 kSt s 1 v93 v91 fun s =>
 kBin .sub nd_4 (.int .i64 8) fun v95 =>
 again4 [v25, v95] s) fun J5 =>
 kBin .geq nd_4 (.int .i64 8) fun v20 =>
 kCond v20 (
 J5 [] s) (
 J1 [u_1, nd_4] s)) [u_1, v18] s
theorem F72_ok (a_0 u_1 : Value) (s : AS) (k : Value → AS → Prop) : denFn Tryz.prog [(7, (.go 0 (.go 1 (.go 2 (.go 3 (.go 4 (.go 5 (.go 6 (.go 7 (.go 8 (.go 9 (.go 10 (.go 11 (.go 12 (.go 13 (.go 14 .done)))))))))))))))), (8, (.go 0 (.go 1 (.go 2 (.go 3 (.go 4 (.go 5 (.go 6 (.go 7 (.go 8 (.go 9 (.go 10 (.go 11 (.go 12 (.go 13 (.go 14 .done)))))))))))))))), (9, (.go 0 (.go 1 (.go 2 (.go 3 (.go 4 (.go 5 (.go 6 (.go 7 (.go 8 (.go 9 (.go 10 (.go 11 (.go 12 (.go 13 (.go 14 .done)))))))))))))))), (10, (.go 0 (.go 1 (.go 2 (.go 3 (.go 4 (.go 5 (.go 6 (.go 7 (.go 8 (.go 9 (.go 10 (.go 11 (.go 12 (.go 13 (.go 14 .done)))))))))))))))), (17, (.go 0 (.go 1 (.go 2 (.go 3 (.go 4 (.go 5 (.go 6 (.go 7 (.go 8 (.go 9 (.go 10 (.go 11 (.go 12 (.go 13 (.go 14 .done)))))))))))))))), (18, (.go 0 (.go 1 (.go 2 (.go 3 (.go 4 (.go 5 (.go 6 (.go 7 (.go 8 (.go 9 (.go 10 (.go 11 (.go 12 (.go 13 (.go 14 .done)))))))))))))))), (23, (.go 0 (.go 1 (.go 2 (.go 3 (.go 4 (.go 5 (.go 6 (.go 7 (.go 8 (.go 9 (.go 10 (.go 11 (.go 12 (.go 13 (.go 14 .done))))))))))))))))] 72 [a_0, u_1] s k = F72 a_0 u_1 s k := by kernel_rfl
theorem f72 {a_0 u_1 : Value} {s : AS} {k : Value → AS → Prop} (h : F72 a_0 u_1 s k) : kCall Tryz.prog 72 [a_0, u_1] s k := fn_by (F72_ok a_0 u_1 s k) h
theorem k72_ok : okFn Tryz.prog 72 = true := by kernel_rfl

/- internal strconv.formatBits -/
def F73 (dst_0 u_1 base_2 neg_3 append_4 : Value) (s : AS) (k : Value → AS → Prop) : Prop :=
 kJoin (fun _ s =>
 kNew s (List.replicate 65 (.int .u8 0)) fun a_12 s =>
 kJoin (fun xs s =>
 un1 xs fun u_1 =>
 kJoin (fun xs s =>
 un1 xs fun i_13 =>
 kJoin (fun xs s =>
 un1 xs fun i_13 =>
 kJoin (fun xs s =>
 un1 xs fun d_10 =>
 kSubA 65 1 a_12 (some i_13) none fun v100 =>
 kCvBS s v100 fun v101 =>
 k (.tuple #[d_10, v101]) s) fun J5 =>
 kCond append_4 (
 kSubA 65 1 a_12 (some i_13) none fun v97 =>
 kApp Tryz.prog 72 72 dst_0 v97 s fun v98 s =>
 k (.tuple #[v98, (.string (bs []))]) s) (
 J5 [(.slice none 0 0)] s)) fun J4 =>
 kCond neg_3 (
 kBin .sub i_13 (.int .i64 1) fun v91 =>
 kIdxA 65 1 a_12 v91 fun v93 =>
 kSt s 1 v93 (.int .u8 45) fun s =>
 J4 [v91] s) (
 J4 [i_13] s)) fun J3 =>
 kCall Tryz.prog 88 [base_2] s fun v34 s =>
 kCond v34 (
 kCvi .u64 base_2 fun v36 =>
 kCall Tryz.prog 89 [v36] s fun v37 s =>
 kCvi .u64 v37 fun v38 =>
 kCvi .u64 base_2 fun v40 =>
 kCvi .u64 base_2 fun v42 =>
 kBin .sub v42 (.int .u64 1) fun v43 =>
 kJoin (fun xs s =>
 un2 xs fun u_1 i_13 =>
 kBin .sub i_13 (.int .i64 1) fun v59 =>
 kIxS (.string (bs [48, 49, 50, 51, 52, 53, 54, 55, 56, 57, 97, 98, 99, 100, 101, 102, 103, 104, 105, 106, 107, 108, 109, 110, 111, 112, 113, 114, 115, 116, 117, 118, 119, 120, 121, 122])) u_1 fun v62 =>
 kIdxA 65 1 a_12 v59 fun v63 =>
 kSt s 1 v63 v62 fun s =>
 J3 [v59] s) fun J6 =>
 kLoop (fun again7 xs s =>
 un2 xs fun u_1 i_13 =>
 kJoin (fun _ s =>
 kBin .sub i_13 (.int .i64 1) fun v48 =>
 kBin .and u_1 v43 fun v52 =>
 kIxS (.string (bs [48, 49, 50, 51, 52, 53, 54, 55, 56, 57, 97, 98, 99, 100, 101, 102, 103, 104, 105, 106, 107, 108, 109, 110, 111, 112, 113, 114, 115, 116, 117, 118, 119, 120, 121, 122])) v52 fun v53 =>
 kIdxA 65 1 a_12 v48 fun v54 =>
 kSt s 1 v54 v53 fun s =>
 kSft .shr u_1 v38 fun v57 =>
 again7 [v57, v48] s) fun J8 =>
 kBin .geq u_1 v40 fun v46 =>
 kCond v46 (
 J8 [] s) (
 J6 [u_1, i_13] s)) [u_1, (.int .i64 65)] s) (
 kCvi .u64 base_2 fun v65 =>
 kJoin (fun xs s =>
 un2 xs fun u_1 i_13 =>
 kBin .sub i_13 (.int .i64 1) fun v84 =>
 kIxS (.string (bs [48, 49, 50, 51, 52, 53, 54, 55, 56, 57, 97, 98, 99, 100, 101, 102, 103, 104, 105, 106, 107, 108, 109, 110, 111, 112, 113, 114, 115, 116, 117, 118, 119, 120, 121, 122])) u_1 fun v87 =>
 kIdxA 65 1 a_12 v84 fun v88 =>
 kSt s 1 v88 v87 fun s =>
 J3 [v84] s) fun J9 =>
 kLoop (fun again10 xs s =>
 un2 xs fun u_1 i_13 =>
 kJoin (fun _ s =>
 kBin .sub i_13 (.int .i64 1) fun v70 =>
 kBin .quo u_1 v65 fun v73 =>
 kBin .mul v73 v65 fun v78 =>
 kBin .sub u_1 v78 fun v79 =>
 kIxS (.string (bs [48, 49, 50, 51, 52, 53, 54, 55, 56, 57, 97, 98, 99, 100, 101, 102, 103, 104, 105, 106, 107, 108, 109, 110, 111, 112, 113, 114, 115, 116, 117, 118, 119, 120, 121, 122])) v79 fun v80 =>
 kIdxA 65 1 a_12 v70 fun v81 =>
 kSt s 1 v81 v80 fun s =>
 again10 [v73, v70] s) fun J11 =>
 kBin .geq u_1 v65 fun v68 =>
 kCond v68 (
 J11 [] s) (
 J9 [u_1, i_13] s)) [u_1, (.int .i64 65)] s)) fun J2 =>
 kCond neg_3 (
 kUn .neg u_1 fun v32 =>
 J2 [v32] s) (
 J2 [u_1] s)) fun J1 =>
 kBin .lss base_2 (.int .i64 2) fun v20 =>
 kGrd v20 false (fun k =>
 kBin .eql base_2 (.int .i64 10) fun v23 =>
 k [v23] s) [undef] s fun xs s =>
 un1 xs fun v23 =>
 kPick v20 (.bool true) v23 fun v24 =>
 kGrd v24 false (fun k =>
 kBin .gtr base_2 (.int .i64 36) fun v27 =>
 k [v27] s) [undef] s fun xs s =>
 un1 xs fun v27 =>
 kPick v24 (.bool true) v27 fun v28 =>
 kCond v28 (
 kGen Tryz.prog (.mki 9) [(.string (bs [115, 116, 114, 99, 111, 110, 118, 58, 32, 105, 108, 108, 101, 103, 97, 108, 32, 65, 112, 112, 101, 110, 100, 73, 110, 116, 47, 70, 111, 114, 109, 97, 116, 73, 110, 116, 32, 98, 97, 115, 101]))] s fun v29 s =>
 False) (
 J1 [] s)
theorem F73_ok (dst_0 u_1 base_2 neg_3 append_4 : Value) (s : AS) (k : Value → AS → Prop) : denFn Tryz.prog [] 73 [dst_0, u_1, base_2, neg_3, append_4] s k = F73 dst_0 u_1 base_2 neg_3 append_4 s k := by kernel_rfl
theorem f73 {dst_0 u_1 base_2 neg_3 append_4 : Value} {s : AS} {k : Value → AS → Prop} (h : F73 dst_0 u_1 base_2 neg_3 append_4 s k) : kCall Tryz.prog 73 [dst_0, u_1, base_2, neg_3, append_4] s k := fn_by (F73_ok dst_0 u_1 base_2 neg_3 append_4 s k) h
theorem k73_ok : okFn Tryz.prog 73 = true := by kernel_rfl

/- (*strings.asciiSet).contains -/
def F76 (as_0 c_1 : Value) (s : AS) (k : Value → AS → Prop) : Prop :=
 kNck as_0 fun v7 =>
 kIdxA 256 1 v7 c_1 fun v8 =>
 kLd s v8 fun v9 =>
 k v9 s
theorem F76_ok (as_0 c_1 : Value) (s : AS) (k : Value → AS → Prop) : denFn Tryz.prog [] 76 [as_0, c_1] s k = F76 as_0 c_1 s k := by kernel_rfl
theorem f76 {as_0 c_1 : Value} {s : AS} {k : Value → AS → Prop} (h : F76 as_0 c_1 s k) : kCall Tryz.prog 76 [as_0, c_1] s k := fn_by (F76_ok as_0 c_1 s k) h
theorem k76_ok : okFn Tryz.prog 76 = true := by kernel_rfl

/- unicode utf8.DecodeRuneInString -/
def F77 (s_0 : Value) (s : AS) (k : Value → AS → Prop) : Prop :=
 kBin .neq s_0 (.string (bs [])) fun v5 =>
 kGrd v5 true (fun k =>
 kIxS s_0 (.int .i64 0) fun v8 =>
 kBin .lss v8 (.int .u8 128) fun v9 =>
 k [v9] s) [undef] s fun xs s =>
 un1 xs fun v9 =>
 kPick v5 v9 (.bool false) fun v10 =>
 kCond v10 (
 kIxS s_0 (.int .i64 0) fun v12 =>
 kCvi .i32 v12 fun v13 =>
 k (.tuple #[v13, (.int .i64 1)]) s) (
 kCall Tryz.prog 90 [s_0] s fun v16 s =>
 kExt 0 v16 fun v17 =>
 kExt 1 v16 fun v18 =>
 k (.tuple #[v17, v18]) s)
theorem F77_ok (s_0 : Value) (s : AS) (k : Value → AS → Prop) : denFn Tryz.prog [] 77 [s_0] s k = F77 s_0 s k := by kernel_rfl
theorem f77 {s_0 : Value} {s : AS} {k : Value → AS → Prop} (h : F77 s_0 s k) : kCall Tryz.prog 77 [s_0] s k := fn_by (F77_ok s_0 s k) h
theorem k77_ok : okFn Tryz.prog 77 = true := by kernel_rfl

/- strings.ContainsRune -/
def F78 (s_0 r_1 : Value) (s : AS) (k : Value → AS → Prop) : Prop :=
 kCall Tryz.prog 91 [s_0, r_1] s fun v7 s =>
 kBin .geq v7 (.int .i64 0) fun v8 =>
 k v8 s
theorem F78_ok (s_0 r_1 : Value) (s : AS) (k : Value → AS → Prop) : denFn Tryz.prog [] 78 [s_0, r_1] s k = F78 s_0 r_1 s k := by kernel_rfl
theorem f78 {s_0 r_1 : Value} {s : AS} {k : Value → AS → Prop} (h : F78 s_0 r_1 s k) : kCall Tryz.prog 78 [s_0, r_1] s k := fn_by (F78_ok s_0 r_1 s k) h
theorem k78_ok : okFn Tryz.prog 78 = true := by kernel_rfl

/- unicode utf8.DecodeLastRuneInString -/
def F79 (s_0 : Value) (s : AS) (k : Value → AS → Prop) : Prop :=
 kLen true s_0 fun v8 =>
 kJoin (fun _ s =>
 kBin .sub v8 (.int .i64 1) fun v12 =>
 kIxS s_0 v12 fun v15 =>
 kCvi .i32 v15 fun v16 =>
 kJoin (fun _ s =>
 kBin .sub v8 (.int .i64 4) fun v21 =>
 kMax v21 (.int .i64 0) fun v22 =>
 kJoin (fun xs s =>
 un1 xs fun start_5 =>
 kJoin (fun xs s =>
 un1 xs fun start_5 =>
 kSubS s_0 (some start_5) (some v8) fun v40 =>
 kCall Tryz.prog 77 [v40] s fun v41 s =>
 kExt 0 v41 fun v42 =>
 kExt 1 v41 fun v43 =>
 kJoin (fun xs s =>
 un2 xs fun r_2 size_3 =>
 k (.tuple #[r_2, size_3]) s) fun J5 =>
 kBin .add start_5 v43 fun v46 =>
 kBin .neq v46 v8 fun v48 =>
 kCond v48 (
 k (.tuple #[(.int .i32 65533), (.int .i64 1)]) s) (
 J5 [v42, v43] s)) fun J4 =>
 kBin .lss start_5 (.int .i64 0) fun v35 =>
 kCond v35 (
 J4 [(.int .i64 0)] s) (
 J4 [start_5] s)) fun J3 =>
 kBin .sub v12 (.int .i64 1) fun v24 =>
 kLoop (fun again6 xs s =>
 un1 xs fun start_5 =>
 kJoin (fun _ s =>
 kJoin (fun _ s =>
 kBin .sub start_5 (.int .i64 1) fun v29 =>
 again6 [v29] s) fun J8 =>
 kIxS s_0 start_5 fun v32 =>
 kCall Tryz.prog 92 [v32] s fun v33 s =>
 kCond v33 (
 J3 [start_5] s) (
 J8 [] s)) fun J7 =>
 kBin .geq start_5 v22 fun v27 =>
 kCond v27 (
 J7 [] s) (
 J3 [start_5] s)) [v24] s) fun J2 =>
 kBin .lss v16 (.int .i32 128) fun v18 =>
 kCond v18 (
 k (.tuple #[v16, (.int .i64 1)]) s) (
 J2 [] s)) fun J1 =>
 kBin .eql v8 (.int .i64 0) fun v10 =>
 kCond v10 (
 k (.tuple #[(.int .i32 65533), (.int .i64 0)]) s) (
 J1 [] s)
theorem F79_ok (s_0 : Value) (s : AS) (k : Value → AS → Prop) : denFn Tryz.prog [] 79 [s_0] s k = F79 s_0 s k := by kernel_rfl
theorem f79 {s_0 : Value} {s : AS} {k : Value → AS → Prop} (h : F79 s_0 s k) : kCall Tryz.prog 79 [s_0] s k := fn_by (F79_ok s_0 s k) h
theorem k79_ok : okFn Tryz.prog 79 = true := by kernel_rfl

/- internal strconv.ParseInt -/
def F80 (s_0 base_1 bitSize_2 : Value) (s : AS) (k : Value → AS → Prop) : Prop :=
 kJoin (fun _ s =>
 kJoin (fun xs s =>
 un2 xs fun s_0 neg_8 =>
 kCall Tryz.prog 93 [s_0, base_1, bitSize_2] s fun v29 s =>
 kExt 0 v29 fun v30 =>
 kExt 1 v29 fun v31 =>
 kJoin (fun _ s =>
 kJoin (fun xs s =>
 un1 xs fun bitSize_2' =>
 kBin .sub bitSize_2' (.int .i64 1) fun v43 =>
 kCvi .u64 v43 fun v44 =>
 kSft .shl (.int .u64 1) v44 fun v45 =>
 kJoin (fun _ s =>
 kJoin (fun _ s =>
 kCvi .i64 v30 fun v68 =>
 kJoin (fun xs s =>
 un1 xs fun n_11 =>
 k (.tuple #[n_11, .nilIface]) s) fun J7 =>
 kCond neg_8 (
 kUn .neg v68 fun v71 =>
 J7 [v71] s) (
 J7 [v68] s)) fun J6 =>
 kGrd neg_8 true (fun k =>
 kBin .gtr v30 v45 fun v61 =>
 k [v61] s) [undef] s fun xs s =>
 un1 xs fun v61 =>
 kPick neg_8 v61 (.bool false) fun v62 =>
 kCond v62 (
 kCvi .i64 v45 fun v64 =>
 kUn .neg v64 fun v65 =>
 kGen Tryz.prog (.mki 105) [(.int .i64 1)] s fun v66 s =>
 k (.tuple #[v65, v66]) s) (
 J6 [] s)) fun J5 =>
 kUn .not neg_8 fun v47 =>
 kGrd v47 true (fun k =>
 kBin .geq v30 v45 fun v51 =>
 k [v51] s) [undef] s fun xs s =>
 un1 xs fun v51 =>
 kPick v47 v51 (.bool false) fun v52 =>
 kCond v52 (
 kBin .sub v45 (.int .u64 1) fun v54 =>
 kCvi .i64 v54 fun v55 =>
 kGen Tryz.prog (.mki 105) [(.int .i64 1)] s fun v56 s =>
 k (.tuple #[v55, v56]) s) (
 J5 [] s)) fun J4 =>
 kBin .eql bitSize_2 (.int .i64 0) fun v41 =>
 kCond v41 (
 J4 [(.int .i64 64)] s) (
 J4 [bitSize_2] s)) fun J3 =>
 kEqi true v31 .nilIface fun v33 =>
 kGrd v33 true (fun k =>
 kGen Tryz.prog (.mki 105) [(.int .i64 1)] s fun v36 s =>
 kGen Tryz.prog (.bop .neq 77 (.tmp 35) (.tmp 36)) [v31, v36] s fun v37 s =>
 k [v37] s) [undef] s fun xs s =>
 un1 xs fun v37 =>
 kPick v33 v37 (.bool false) fun v38 =>
 kCond v38 (
 k (.tuple #[(.int .i64 0), v31]) s) (
 J3 [] s)) fun J2 =>
 kIxS s_0 (.int .i64 0) fun v16 =>
 kBin .eql v16 (.int .u8 43) fun v18 =>
 kCond v18 (
 kSubS s_0 (some (.int .i64 1)) none fun v20 =>
 J2 [v20, (.bool false)] s) (
 kBin .eql v16 (.int .u8 45) fun v22 =>
 kCond v22 (
 kSubS s_0 (some (.int .i64 1)) none fun v24 =>
 J2 [v24, (.bool true)] s) (
 J2 [s_0, (.bool false)] s))) fun J1 =>
 kBin .eql s_0 (.string (bs [])) fun v13 =>
 kCond v13 (
 kGen Tryz.prog (.mki 105) [(.int .i64 2)] s fun v14 s =>
 k (.tuple #[(.int .i64 0), v14]) s) (
 J1 [] s)
theorem F80_ok (s_0 base_1 bitSize_2 : Value) (s : AS) (k : Value → AS → Prop) : denFn Tryz.prog [] 80 [s_0, base_1, bitSize_2] s k = F80 s_0 base_1 bitSize_2 s k := by kernel_rfl
theorem f80 {s_0 base_1 bitSize_2 : Value} {s : AS} {k : Value → AS → Prop} (h : F80 s_0 base_1 bitSize_2 s k) : kCall Tryz.prog 80 [s_0, base_1, bitSize_2] s k := fn_by (F80_ok s_0 base_1 bitSize_2 s k) h
theorem k80_ok : okFn Tryz.prog 80 = true := by kernel_rfl

/- strconv.syntaxError -/
def F81 (fn_0 str_1 : Value) (s : AS) (k : Value → AS → Prop) : Prop :=
 kLd s (.pointer (some ⟨2, 0, none⟩)) fun v8 =>
 kCall Tryz.prog 94 [str_1] s fun v7 s =>
 kChk s (.pointer (some ⟨2, 0, none⟩)) v8 (
 kBuild [(.string (bs [])), (.string (bs [])), .nilIface] [(0, 1, fn_0), (1, 1, v7), (2, 1, v8)] fun v9 =>
 kNew s (cellsV v9) fun v10 s =>
 k v10 s)
theorem F81_ok (fn_0 str_1 : Value) (s : AS) (k : Value → AS → Prop) : denFn Tryz.prog [(1, (.go 0 (.go 1 (.go 3 (.go 2 (.go 4 (.go 5 (.go 6 .done))))))))] 81 [fn_0, str_1] s k = F81 fn_0 str_1 s k := by kernel_rfl
theorem f81 {fn_0 str_1 : Value} {s : AS} {k : Value → AS → Prop} (h : F81 fn_0 str_1 s k) : kCall Tryz.prog 81 [fn_0, str_1] s k := fn_by (F81_ok fn_0 str_1 s k) h
theorem k81_ok : okFn Tryz.prog 81 = true := by kernel_rfl

/- strconv.rangeError -/
def F82 (fn_0 str_1 : Value) (s : AS) (k : Value → AS → Prop) : Prop :=
 kLd s (.pointer (some ⟨3, 0, none⟩)) fun v8 =>
 kCall Tryz.prog 94 [str_1] s fun v7 s =>
 kChk s (.pointer (some ⟨3, 0, none⟩)) v8 (
 kBuild [(.string (bs [])), (.string (bs [])), .nilIface] [(0, 1, fn_0), (1, 1, v7), (2, 1, v8)] fun v9 =>
 kNew s (cellsV v9) fun v10 s =>
 k v10 s)
theorem F82_ok (fn_0 str_1 : Value) (s : AS) (k : Value → AS → Prop) : denFn Tryz.prog [(1, (.go 0 (.go 1 (.go 3 (.go 2 (.go 4 (.go 5 (.go 6 .done))))))))] 82 [fn_0, str_1] s k = F82 fn_0 str_1 s k := by kernel_rfl
theorem f82 {fn_0 str_1 : Value} {s : AS} {k : Value → AS → Prop} (h : F82 fn_0 str_1 s k) : kCall Tryz.prog 82 [fn_0, str_1] s k := fn_by (F82_ok fn_0 str_1 s k) h
theorem k82_ok : okFn Tryz.prog 82 = true := by kernel_rfl

/- strconv.baseError -/
def F83 (fn_0 str_1 base_2 : Value) (s : AS) (k : Value → AS → Prop) : Prop :=
 kCall Tryz.prog 94 [str_1] s fun v9 s =>
 kCall Tryz.prog 43 [base_2] s fun v11 s =>
 kBin .add (.string (bs [105, 110, 118, 97, 108, 105, 100, 32, 98, 97, 115, 101, 32])) v11 fun v12 =>
 kCall Tryz.prog 95 [v12] s fun v13 s =>
 kBuild [(.string (bs [])), (.string (bs [])), .nilIface] [(0, 1, fn_0), (1, 1, v9), (2, 1, v13)] fun v14 =>
 kNew s (cellsV v14) fun v15 s =>
 k v15 s
theorem F83_ok (fn_0 str_1 base_2 : Value) (s : AS) (k : Value → AS → Prop) : denFn Tryz.prog [] 83 [fn_0, str_1, base_2] s k = F83 fn_0 str_1 base_2 s k := by kernel_rfl
theorem f83 {fn_0 str_1 base_2 : Value} {s : AS} {k : Value → AS → Prop} (h : F83 fn_0 str_1 base_2 s k) : kCall Tryz.prog 83 [fn_0, str_1, base_2] s k := fn_by (F83_ok fn_0 str_1 base_2 s k) h
theorem k83_ok : okFn Tryz.prog 83 = true := by kernel_rfl

/- strconv.bitSizeError -/
def F84 (fn_0 str_1 bitSize_2 : Value) (s : AS) (k : Value → AS → Prop) : Prop :=
 kCall Tryz.prog 94 [str_1] s fun v9 s =>
 kCall Tryz.prog 43 [bitSize_2] s fun v11 s =>
 kBin .add (.string (bs [105, 110, 118, 97, 108, 105, 100, 32, 98, 105, 116, 32, 115, 105, 122, 101, 32])) v11 fun v12 =>
 kCall Tryz.prog 95 [v12] s fun v13 s =>
 kBuild [(.string (bs [])), (.string (bs [])), .nilIface] [(0, 1, fn_0), (1, 1, v9), (2, 1, v13)] fun v14 =>
 kNew s (cellsV v14) fun v15 s =>
 k v15 s
theorem F84_ok (fn_0 str_1 bitSize_2 : Value) (s : AS) (k : Value → AS → Prop) : denFn Tryz.prog [] 84 [fn_0, str_1, bitSize_2] s k = F84 fn_0 str_1 bitSize_2 s k := by kernel_rfl
theorem f84 {fn_0 str_1 bitSize_2 : Value} {s : AS} {k : Value → AS → Prop} (h : F84 fn_0 str_1 bitSize_2 s k) : kCall Tryz.prog 84 [fn_0, str_1, bitSize_2] s k := fn_by (F84_ok fn_0 str_1 bitSize_2 s k) h
theorem k84_ok : okFn Tryz.prog 84 = true := by kernel_rfl

/- internal strconv.log10Pow2 -/
def F85 (x_0 : Value) (s : AS) (k : Value → AS → Prop) : Prop :=
 kBin .mul x_0 (.int .i64 78913) fun v4 =>
 kSft .shr v4 (.int .u64 18) fun v5 =>
 k v5 s
theorem F85_ok (x_0 : Value) (s : AS) (k : Value → AS → Prop) : denFn Tryz.prog [] 85 [x_0] s k = F85 x_0 s k := by kernel_rfl
theorem f85 {x_0 : Value} {s : AS} {k : Value → AS → Prop} (h : F85 x_0 s k) : kCall Tryz.prog 85 [x_0] s k := fn_by (F85_ok x_0 s k) h
theorem k85_ok : okFn Tryz.prog 85 = true := by kernel_rfl

/- math bits.Len64 -/
def F86 (x_0 : Value) (s : AS) (k : Value → AS → Prop) : Prop :=
 kJoin (fun xs s =>
 un2 xs fun x_0 n_2 =>
 kJoin (fun xs s =>
 un2 xs fun x_0 n_2 =>
 kJoin (fun xs s =>
 un2 xs fun x_0 n_2 =>
 kCvi .u8 x_0 fun v21 =>
 kIxS (.string (bs [0, 1, 2, 2, 3, 3, 3, 3, 4, 4, 4, 4, 4, 4, 4, 4, 5, 5, 5, 5, 5, 5, 5, 5, 5, 5, 5, 5, 5, 5, 5, 5, 6, 6, 6, 6, 6, 6, 6, 6, 6, 6, 6, 6, 6, 6, 6, 6, 6, 6, 6, 6, 6, 6, 6, 6, 6, 6, 6, 6, 6, 6, 6, 6, 7, 7, 7, 7, 7, 7, 7, 7, 7, 7, 7, 7, 7, 7, 7, 7, 7, 7, 7, 7, 7, 7, 7, 7, 7, 7, 7, 7, 7, 7, 7, 7, 7, 7, 7, 7, 7, 7, 7, 7, 7, 7, 7, 7, 7, 7, 7, 7, 7, 7, 7, 7, 7, 7, 7, 7, 7, 7, 7, 7, 7, 7, 7, 7, 8, 8, 8, 8, 8, 8, 8, 8, 8, 8, 8, 8, 8, 8, 8, 8, 8, 8, 8, 8, 8, 8, 8, 8, 8, 8, 8, 8, 8, 8, 8, 8, 8, 8, 8, 8, 8, 8, 8, 8, 8, 8, 8, 8, 8, 8, 8, 8, 8, 8, 8, 8, 8, 8, 8, 8, 8, 8, 8, 8, 8, 8, 8, 8, 8, 8, 8, 8, 8, 8, 8, 8, 8, 8, 8, 8, 8, 8, 8, 8, 8, 8, 8, 8, 8, 8, 8, 8, 8, 8, 8, 8, 8, 8, 8, 8, 8, 8, 8, 8, 8, 8, 8, 8, 8, 8, 8, 8, 8, 8, 8, 8, 8, 8, 8, 8, 8, 8, 8, 8, 8, 8, 8, 8, 8, 8, 8, 8])) v21 fun v22 =>
 kCvi .i64 v22 fun v23 =>
 kBin .add n_2 v23 fun v24 =>
 k v24 s) fun J3 =>
 kBin .geq x_0 (.int .u64 256) fun v14 =>
 kCond v14 (
 kSft .shr x_0 (.int .u64 8) fun v16 =>
 kBin .add n_2 (.int .i64 8) fun v18 =>
 J3 [v16, v18] s) (
 J3 [x_0, n_2] s)) fun J2 =>
 kBin .geq x_0 (.int .u64 65536) fun v8 =>
 kCond v8 (
 kSft .shr x_0 (.int .u64 16) fun v10 =>
 kBin .add n_2 (.int .i64 16) fun v12 =>
 J2 [v10, v12] s) (
 J2 [x_0, n_2] s)) fun J1 =>
 kBin .geq x_0 (.int .u64 4294967296) fun v4 =>
 kCond v4 (
 kSft .shr x_0 (.int .u64 32) fun v6 =>
 J1 [v6, (.int .i64 32)] s) (
 J1 [x_0, (.int .i64 0)] s)
theorem F86_ok (x_0 : Value) (s : AS) (k : Value → AS → Prop) : denFn Tryz.prog [] 86 [x_0] s k = F86 x_0 s k := by kernel_rfl
theorem f86 {x_0 : Value} {s : AS} {k : Value → AS → Prop} (h : F86 x_0 s k) : kCall Tryz.prog 86 [x_0] s k := fn_by (F86_ok x_0 s k) h
theorem k86_ok : okFn Tryz.prog 86 = true := by kernel_rfl

/- internal strconv.bool2[int] -/
def F87 (b_0 : Value) (s : AS) (k : Value → AS → Prop) : Prop :=
 kJoin (fun _ s =>
 k (.int .i64 0) s) fun J1 =>
 kCond b_0 (
 k (.int .i64 1) s) (
 J1 [] s)
theorem F87_ok (b_0 : Value) (s : AS) (k : Value → AS → Prop) : denFn Tryz.prog [] 87 [b_0] s k = F87 b_0 s k := by kernel_rfl
theorem f87 {b_0 : Value} {s : AS} {k : Value → AS → Prop} (h : F87 b_0 s k) : kCall Tryz.prog 87 [b_0] s k := fn_by (F87_ok b_0 s k) h
theorem k87_ok : okFn Tryz.prog 87 = true := by kernel_rfl

/- internal strconv.isPowerOfTwo -/
def F88 (x_0 : Value) (s : AS) (k : Value → AS → Prop) : Prop :=
 kBin .sub x_0 (.int .i64 1) fun v5 =>
 kBin .and x_0 v5 fun v6 =>
 kBin .eql v6 (.int .i64 0) fun v7 =>
 k v7 s
theorem F88_ok (x_0 : Value) (s : AS) (k : Value → AS → Prop) : denFn Tryz.prog [] 88 [x_0] s k = F88 x_0 s k := by kernel_rfl
theorem f88 {x_0 : Value} {s : AS} {k : Value → AS → Prop} (h : F88 x_0 s k) : kCall Tryz.prog 88 [x_0] s k := fn_by (F88_ok x_0 s k) h
theorem k88_ok : okFn Tryz.prog 88 = true := by kernel_rfl

/- math bits.TrailingZeros -/
def F89 (x_0 : Value) (s : AS) (k : Value → AS → Prop) : Prop :=
 kJoin (fun _ s =>
 kCall Tryz.prog 97 [x_0] s fun v7 s =>
 k v7 s) fun J1 =>
 kCond (.bool false) (
 kCvi .u32 x_0 fun v4 =>
 kCall Tryz.prog 96 [v4] s fun v5 s =>
 k v5 s) (
 J1 [] s)
theorem F89_ok (x_0 : Value) (s : AS) (k : Value → AS → Prop) : denFn Tryz.prog [] 89 [x_0] s k = F89 x_0 s k := by kernel_rfl
theorem f89 {x_0 : Value} {s : AS} {k : Value → AS → Prop} (h : F89 x_0 s k) : kCall Tryz.prog 89 [x_0] s k := fn_by (F89_ok x_0 s k) h
theorem k89_ok : okFn Tryz.prog 89 = true := by kernel_rfl

/- unicode utf8.decodeRuneInStringSlow -/
def F90 (s_0 : Value) (s : AS) (k : Value → AS → Prop) : Prop :=
 kLen true s_0 fun v14 =>
 kJoin (fun _ s =>
 kIxS s_0 (.int .i64 0) fun v18 =>
 kIdxA 256 1 (.pointer (some ⟨4, 0, none⟩)) v18 fun v20 =>
 kLd s v20 fun v21 =>
 kJoin (fun _ s =>
 kBin .and v21 (.int .u8 7) fun v37 =>
 kCvi .i64 v37 fun v38 =>
 kSft .shr v21 (.int .u64 4) fun v40 =>
 kIdxA 16 2 (.pointer (some ⟨5, 0, none⟩)) v40 fun v41 =>
 kLdN s 2 v41 fun v42 =>
 kNew s [(.int .u8 0), (.int .u8 0)] fun accept_9 s =>
 kSt s 2 accept_9 v42 fun s =>
 kJoin (fun _ s =>
 kIxS s_0 (.int .i64 1) fun v47 =>
 kJoin (fun _ s =>
 kJoin (fun _ s =>
 kIxS s_0 (.int .i64 2) fun v69 =>
 kJoin (fun _ s =>
 kJoin (fun _ s =>
 kIxS s_0 (.int .i64 3) fun v92 =>
 kJoin (fun _ s =>
 kBin .and v18 (.int .u8 7) fun v100 =>
 kCvi .i32 v100 fun v101 =>
 kSft .shl v101 (.int .u64 18) fun v102 =>
 kBin .and v47 (.int .u8 63) fun v104 =>
 kCvi .i32 v104 fun v105 =>
 kSft .shl v105 (.int .u64 12) fun v106 =>
 kBin .or v102 v106 fun v107 =>
 kBin .and v69 (.int .u8 63) fun v109 =>
 kCvi .i32 v109 fun v110 =>
 kSft .shl v110 (.int .u64 6) fun v111 =>
 kBin .or v107 v111 fun v112 =>
 kBin .and v92 (.int .u8 63) fun v114 =>
 kCvi .i32 v114 fun v115 =>
 kBin .or v112 v115 fun v116 =>
 k (.tuple #[v116, (.int .i64 4)]) s) fun J8 =>
 kBin .lss v92 (.int .u8 128) fun v94 =>
 kGrd v94 false (fun k =>
 kBin .lss (.int .u8 191) v92 fun v97 =>
 k [v97] s) [undef] s fun xs s =>
 un1 xs fun v97 =>
 kPick v94 (.bool true) v97 fun v98 =>
 kCond v98 (
 k (.tuple #[(.int .i32 65533), (.int .i64 1)]) s) (
 J8 [] s)) fun J7 =>
 kBin .leq v38 (.int .i64 3) fun v77 =>
 kCond v77 (
 kBin .and v18 (.int .u8 15) fun v79 =>
 kCvi .i32 v79 fun v80 =>
 kSft .shl v80 (.int .u64 12) fun v81 =>
 kBin .and v47 (.int .u8 63) fun v83 =>
 kCvi .i32 v83 fun v84 =>
 kSft .shl v84 (.int .u64 6) fun v85 =>
 kBin .or v81 v85 fun v86 =>
 kBin .and v69 (.int .u8 63) fun v88 =>
 kCvi .i32 v88 fun v89 =>
 kBin .or v86 v89 fun v90 =>
 k (.tuple #[v90, (.int .i64 3)]) s) (
 J7 [] s)) fun J6 =>
 kBin .lss v69 (.int .u8 128) fun v71 =>
 kGrd v71 false (fun k =>
 kBin .lss (.int .u8 191) v69 fun v74 =>
 k [v74] s) [undef] s fun xs s =>
 un1 xs fun v74 =>
 kPick v71 (.bool true) v74 fun v75 =>
 kCond v75 (
 k (.tuple #[(.int .i32 65533), (.int .i64 1)]) s) (
 J6 [] s)) fun J5 =>
 kBin .leq v38 (.int .i64 2) fun v59 =>
 kCond v59 (
 kBin .and v18 (.int .u8 31) fun v61 =>
 kCvi .i32 v61 fun v62 =>
 kSft .shl v62 (.int .u64 6) fun v63 =>
 kBin .and v47 (.int .u8 63) fun v65 =>
 kCvi .i32 v65 fun v66 =>
 kBin .or v63 v66 fun v67 =>
 k (.tuple #[v67, (.int .i64 2)]) s) (
 J5 [] s)) fun J4 =>
 kFld 0 accept_9 fun v49 =>
 kLd s v49 fun v50 =>
 kBin .lss v47 v50 fun v51 =>
 kGrd v51 false (fun k =>
 kFld 1 accept_9 fun v53 =>
 kLd s v53 fun v54 =>
 kBin .lss v54 v47 fun v56 =>
 k [v56] s) [undef] s fun xs s =>
 un1 xs fun v56 =>
 kPick v51 (.bool true) v56 fun v57 =>
 kCond v57 (
 k (.tuple #[(.int .i32 65533), (.int .i64 1)]) s) (
 J4 [] s)) fun J3 =>
 kBin .lss v14 v38 fun v45 =>
 kCond v45 (
 k (.tuple #[(.int .i32 65533), (.int .i64 1)]) s) (
 J3 [] s)) fun J2 =>
 kBin .geq v21 (.int .u8 240) fun v23 =>
 kCond v23 (
 kCvi .i32 v21 fun v25 =>
 kSft .shl v25 (.int .u64 31) fun v26 =>
 kSft .shr v26 (.int .u64 31) fun v27 =>
 kIxS s_0 (.int .i64 0) fun v29 =>
 kCvi .i32 v29 fun v30 =>
 kBin .andNot v30 v27 fun v32 =>
 kBin .and (.int .i32 65533) v27 fun v34 =>
 kBin .or v32 v34 fun v35 =>
 k (.tuple #[v35, (.int .i64 1)]) s) (
 J2 [] s)) fun J1 =>
 kBin .lss v14 (.int .i64 1) fun v16 =>
 kCond v16 (
 k (.tuple #[(.int .i32 65533), (.int .i64 0)]) s) (
 J1 [] s)
theorem F90_ok (s_0 : Value) (s : AS) (k : Value → AS → Prop) : denFn Tryz.prog [] 90 [s_0] s k = F90 s_0 s k := by kernel_rfl
theorem f90 {s_0 : Value} {s : AS} {k : Value → AS → Prop} (h : F90 s_0 s k) : kCall Tryz.prog 90 [s_0] s k := fn_by (F90_ok s_0 s k) h
theorem k90_ok : okFn Tryz.prog 90 = true := by kernel_rfl

/- strings.IndexRune -/
def F91 (s_0 r_1 : Value) (s : AS) (k : Value → AS → Prop) : Prop :=
 kBin .leq (.int .i32 0) r_1 fun v162 =>
 kGrd v162 true (fun k =>
 kBin .lss r_1 (.int .i32 128) fun v165 =>
 k [v165] s) [undef] s fun xs s =>
 un1 xs fun v165 =>
 kPick v162 v165 (.bool false) fun v166 =>
 kCond v166 (
 kCvi .u8 r_1 fun v169 =>
 kCall Tryz.prog 98 [s_0, v169] s fun v170 s =>
 k v170 s) (
 kBin .eql r_1 (.int .i32 65533) fun v173 =>
 kCond v173 (
 kJoin (fun _ s =>
 k (.int .i64 (-1)) s) fun J1 =>
 kGen Tryz.prog (.rng 9) [s_0] s fun v175 s =>
 kLoop (fun again2 _ s =>
 kGen Tryz.prog (.nxt true 0) [v175] s fun v176 s =>
 kExt 0 v176 fun v177 =>
 kJoin (fun _ s =>
 kExt 1 v176 fun v178 =>
 kExt 2 v176 fun v179 =>
 kBin .eql v179 (.int .i32 65533) fun v181 =>
 kCond v181 (
 k v178 s) (
 again2 [] s)) fun J3 =>
 kCond v177 (
 J3 [] s) (
 J1 [] s)) [] s) (
 kCall Tryz.prog 99 [r_1] s fun v185 s =>
 kUn .not v185 fun v186 =>
 kCond v186 (
 k (.int .i64 (-1)) s) (
 kGen Tryz.prog (.cv 21 9) [r_1] s fun v18 s =>
 kLen true v18 fun v20 =>
 kBin .sub v20 (.int .i64 1) fun v21 =>
 kJoin (fun xs s =>
 un1 xs fun i_9 =>
 kJoin (fun _ s =>
 kJoin (fun _ s =>
 k (.int .i64 (-1)) s) fun J6 =>
 kCond (.bool true) (
 kBin .sub i_9 v21 fun v102 =>
 kSubS s_0 (some v102) none fun v103 =>
 kGen Tryz.prog (.cv 21 9) [r_1] s fun v105 s =>
 kGen Tryz.prog (.ext 101) [v103, v105] s fun v106 s =>
 kBin .geq v106 (.int .i64 0) fun v108 =>
 kCond v108 (
 kBin .add i_9 v106 fun v111 =>
 kBin .sub v111 v21 fun v113 =>
 k v113 s) (
 J6 [] s)) (
 kIxS v18 v21 fun v116 =>
 kBin .sub v21 (.int .i64 1) fun v119 =>
 kIxS v18 v119 fun v120 =>
 kLoop (fun again7 xs s =>
 un1 xs fun i_9 =>
 kJoin (fun _ s =>
 kJoin (fun _ s =>
 kBin .add i_9 (.int .i64 1) fun v126 =>
 again7 [v126] s) fun J9 =>
 kIxS s_0 i_9 fun v129 =>
 kBin .eql v129 v116 fun v131 =>
 kGrd v131 true (fun k =>
 kBin .sub i_9 (.int .i64 1) fun v135 =>
 kIxS s_0 v135 fun v136 =>
 kBin .eql v136 v120 fun v138 =>
 k [v138] s) [undef] s fun xs s =>
 un1 xs fun v138 =>
 kPick v131 v138 (.bool false) fun v139 =>
 kCond v139 (
 kJoin (fun _ s =>
 kBin .sub i_9 v21 fun v159 =>
 k v159 s) fun J10 =>
 kLoop (fun again11 xs s =>
 un1 xs fun k_16 =>
 kJoin (fun _ s =>
 kJoin (fun _ s =>
 kBin .add k_16 (.int .i64 1) fun v145 =>
 again11 [v145] s) fun J13 =>
 kBin .sub i_9 k_16 fun v149 =>
 kIxS s_0 v149 fun v150 =>
 kBin .sub v21 k_16 fun v154 =>
 kIxS v18 v154 fun v155 =>
 kBin .neq v150 v155 fun v156 =>
 kCond v156 (
 J9 [] s) (
 J13 [] s)) fun J12 =>
 kLen true v18 fun v142 =>
 kBin .lss k_16 v142 fun v143 =>
 kCond v143 (
 J12 [] s) (
 J10 [] s)) [(.int .i64 2)] s) (
 J9 [] s)) fun J8 =>
 kLen true s_0 fun v123 =>
 kBin .lss i_9 v123 fun v124 =>
 kCond v124 (
 J8 [] s) (
 J6 [] s)) [i_9] s)) fun J5 =>
 k (.int .i64 (-1)) s) fun J4 =>
 kLoop (fun again14 xs s =>
 un2 xs fun i_9 fails_10 =>
 kJoin (fun _ s =>
 kJoin (fun xs s =>
 un1 xs fun i_9 =>
 kJoin (fun _ s =>
 kJoin (fun _ s =>
 kBin .add fails_10 (.int .i64 1) fun v69 =>
 kBin .add i_9 (.int .i64 1) fun v71 =>
 kGrd (.bool true) true (fun k =>
 kCall Tryz.prog 100 [v71] s fun v75 s =>
 kBin .gtr v69 v75 fun v76 =>
 k [v76] s) [undef] s fun xs s =>
 un1 xs fun v76 =>
 kPick (.bool true) v76 (.bool false) fun v77 =>
 kGrd v77 true (fun k =>
 kLen true s_0 fun v81 =>
 kBin .lss v71 v81 fun v82 =>
 k [v82] s) [undef] s fun xs s =>
 un1 xs fun v82 =>
 kPick v77 v82 (.bool false) fun v83 =>
 kGrd v83 false (fun k =>
 k [(.bool false)] s) [undef] s fun xs s =>
 un1 xs fun v85 =>
 kGrd v85 true (fun k =>
 kSft .shr v71 (.int .u64 4) fun v88 =>
 kBin .add (.int .i64 4) v88 fun v89 =>
 kBin .geq v69 v89 fun v90 =>
 k [v90] s) [undef] s fun xs s =>
 un1 xs fun v90 =>
 kGrd v83 false (fun k =>
 kPick v85 v90 (.bool false) fun v91 =>
 k [v91] s) [undef] s fun xs s =>
 un1 xs fun v92 =>
 kGrd v92 true (fun k =>
 kLen true s_0 fun v95 =>
 kBin .lss v71 v95 fun v96 =>
 k [v96] s) [undef] s fun xs s =>
 un1 xs fun v96 =>
 kGrd v83 false (fun k =>
 kPick v92 v96 (.bool false) fun v97 =>
 k [v97] s) [undef] s fun xs s =>
 un1 xs fun v97 =>
 kPick v83 (.bool true) v97 fun v98 =>
 kCond v98 (
 False) (
 again14 [v71, v69] s)) fun J18 =>
 kBin .sub i_9 v21 fun v67 =>
 k v67 s) fun J17 =>
 kLoop (fun again19 xs s =>
 un1 xs fun j_12 =>
 kJoin (fun _ s =>
 kJoin (fun _ s =>
 kBin .add j_12 (.int .i64 1) fun v53 =>
 again19 [v53] s) fun J21 =>
 kBin .sub i_9 j_12 fun v57 =>
 kIxS s_0 v57 fun v58 =>
 kBin .sub v21 j_12 fun v62 =>
 kIxS v18 v62 fun v63 =>
 kBin .neq v58 v63 fun v64 =>
 kCond v64 (
 False) (
 J21 [] s)) fun J20 =>
 kLen true v18 fun v50 =>
 kBin .lss j_12 v50 fun v51 =>
 kCond v51 (
 J20 [] s) (
 J17 [] s)) [(.int .i64 1)] s) fun J16 =>
 kIxS s_0 i_9 fun v29 =>
 kIxS v18 v21 fun v32 =>
 kBin .neq v29 v32 fun v33 =>
 kCond v33 (
 kBin .add i_9 (.int .i64 1) fun v36 =>
 kSubS s_0 (some v36) none fun v37 =>
 kIxS v18 v21 fun v40 =>
 kCall Tryz.prog 98 [v37, v40] s fun v41 s =>
 kJoin (fun _ s =>
 kBin .add v41 (.int .i64 1) fun v46 =>
 kBin .add i_9 v46 fun v47 =>
 J16 [v47] s) fun J22 =>
 kBin .lss v41 (.int .i64 0) fun v43 =>
 kCond v43 (
 k (.int .i64 (-1)) s) (
 J22 [] s)) (
 J16 [i_9] s)) fun J15 =>
 kLen true s_0 fun v25 =>
 kBin .lss i_9 v25 fun v26 =>
 kCond v26 (
 J15 [] s) (
 J4 [i_9] s)) [v21, (.int .i64 0)] s)))
theorem F91_ok (s_0 r_1 : Value) (s : AS) (k : Value → AS → Prop) : denFn Tryz.prog [(6, (.go 0 (.go 1 (.go 2 (.go 3 (.go 4 (.go 5 (.go 6 .done)))))))), (7, (.go 0 (.go 1 (.go 2 (.go 3 (.go 4 (.go 5 (.go 6 (.go 7 (.go 8 .done)))))))))), (14, (.go 0 (.go 1 (.go 2 (.go 3 (.go 4 (.go 5 (.go 6 (.go 7 (.go 8 (.go 9 (.go 10 .done)))))))))))), (31, (.go 0 (.go 1 (.go 2 (.go 3 (.go 4 (.go 5 (.go 6 (.go 7 (.go 8 (.go 9 (.go 10 .done))))))))))))] 91 [s_0, r_1] s k = F91 s_0 r_1 s k := by kernel_rfl
theorem f91 {s_0 r_1 : Value} {s : AS} {k : Value → AS → Prop} (h : F91 s_0 r_1 s k) : kCall Tryz.prog 91 [s_0, r_1] s k := fn_by (F91_ok s_0 r_1 s k) h
theorem k91_ok : okFn Tryz.prog 91 = true := by kernel_rfl

/- unicode utf8.RuneStart -/
def F92 (b_0 : Value) (s : AS) (k : Value → AS → Prop) : Prop :=
 kBin .and b_0 (.int .u8 192) fun v4 =>
 kBin .neq v4 (.int .u8 128) fun v5 =>
 k v5 s
theorem F92_ok (b_0 : Value) (s : AS) (k : Value → AS → Prop) : denFn Tryz.prog [] 92 [b_0] s k = F92 b_0 s k := by kernel_rfl
theorem f92 {b_0 : Value} {s : AS} {k : Value → AS → Prop} (h : F92 b_0 s k) : kCall Tryz.prog 92 [b_0] s k := fn_by (F92_ok b_0 s k) h
theorem k92_ok : okFn Tryz.prog 92 = true := by kernel_rfl

/- internal strconv.ParseUint -/
def F93 (s_0 base_1 bitSize_2 : Value) (s : AS) (k : Value → AS → Prop) : Prop :=
 kJoin (fun _ s =>
 kBin .eql base_1 (.int .i64 0) fun v22 =>
 kJoin (fun xs s =>
 un2 xs fun s_0' base_1' =>
 kJoin (fun xs s =>
 un1 xs fun bitSize_2 =>
 kJoin (fun xs s =>
 un1 xs fun cutoff_10 =>
 kCvi .u64 bitSize_2 fun v95 =>
 kSft .shl (.int .u64 1) v95 fun v96 =>
 kBin .sub v96 (.int .u64 1) fun v97 =>
 kJoin (fun xs s =>
 un2 xs fun underscores_12 n_13 =>
 kJoin (fun _ s =>
 k (.tuple #[n_13, .nilIface]) s) fun J6 =>
 kGrd underscores_12 true (fun k =>
 kCall Tryz.prog 103 [s_0] s fun v167 s =>
 kUn .not v167 fun v168 =>
 k [v168] s) [undef] s fun xs s =>
 un1 xs fun v168 =>
 kPick underscores_12 v168 (.bool false) fun v169 =>
 kCond v169 (
 kGen Tryz.prog (.mki 105) [(.int .i64 2)] s fun v170 s =>
 k (.tuple #[(.int .u64 0), v170]) s) (
 J6 [] s)) fun J5 =>
 kGen Tryz.prog (.cv 9 72) [s_0'] s fun v99 s =>
 kLen false v99 fun v100 =>
 kLoop (fun again7 xs s =>
 un3 xs fun underscores_12 n_13 v101 =>
 kBin .lss v101 v100 fun v102 =>
 kJoin (fun _ s =>
 kJoin (fun xs s =>
 un2 xs fun underscores_12 n_13 =>
 kBin .add v101 (.int .i64 1) fun v163 =>
 again7 [underscores_12, n_13, v163] s) fun J9 =>
 kIdx 1 v99 v101 fun v103 =>
 kLd s v103 fun v104 =>
 kJoin (fun xs s =>
 un2 xs fun underscores_12 d_16 =>
 kJoin (fun _ s =>
 kJoin (fun _ s =>
 kCvi .u64 base_1' fun v146 =>
 kBin .mul n_13 v146 fun v147 =>
 kCvi .u64 d_16 fun v150 =>
 kBin .add v147 v150 fun v151 =>
 kJoin (fun _ s =>
 J9 [underscores_12, v151] s) fun J13 =>
 kBin .lss v151 v147 fun v154 =>
 kGrd v154 false (fun k =>
 kBin .gtr v151 v97 fun v158 =>
 k [v158] s) [undef] s fun xs s =>
 un1 xs fun v158 =>
 kPick v154 (.bool true) v158 fun v159 =>
 kCond v159 (
 kGen Tryz.prog (.mki 105) [(.int .i64 1)] s fun v161 s =>
 k (.tuple #[v97, v161]) s) (
 J13 [] s)) fun J12 =>
 kBin .geq n_13 cutoff_10 fun v141 =>
 kCond v141 (
 kGen Tryz.prog (.mki 105) [(.int .i64 1)] s fun v143 s =>
 k (.tuple #[v97, v143]) s) (
 J12 [] s)) fun J11 =>
 kCvi .u8 base_1' fun v136 =>
 kBin .geq d_16 v136 fun v137 =>
 kCond v137 (
 kGen Tryz.prog (.mki 105) [(.int .i64 2)] s fun v138 s =>
 k (.tuple #[(.int .u64 0), v138]) s) (
 J11 [] s)) fun J10 =>
 kBin .eql v104 (.int .u8 95) fun v108 =>
 kGrd v108 true (fun k =>
 k [v22] s) [undef] s fun xs s =>
 un1 xs fun v110 =>
 kPick v108 v110 (.bool false) fun v111 =>
 kCond v111 (
 J9 [(.bool true), n_13] s) (
 kBin .leq (.int .u8 48) v104 fun v114 =>
 kGrd v114 true (fun k =>
 kBin .leq v104 (.int .u8 57) fun v117 =>
 k [v117] s) [undef] s fun xs s =>
 un1 xs fun v117 =>
 kPick v114 v117 (.bool false) fun v118 =>
 kCond v118 (
 kBin .sub v104 (.int .u8 48) fun v120 =>
 J10 [underscores_12, v120] s) (
 kCall Tryz.prog 102 [v104] s fun v123 s =>
 kBin .leq (.int .u8 97) v123 fun v124 =>
 kGrd v124 true (fun k =>
 kCall Tryz.prog 102 [v104] s fun v127 s =>
 kBin .leq v127 (.int .u8 122) fun v128 =>
 k [v128] s) [undef] s fun xs s =>
 un1 xs fun v128 =>
 kPick v124 v128 (.bool false) fun v129 =>
 kCond v129 (
 kCall Tryz.prog 102 [v104] s fun v131 s =>
 kBin .sub v131 (.int .u8 97) fun v132 =>
 kBin .add v132 (.int .u8 10) fun v133 =>
 J10 [underscores_12, v133] s) (
 kGen Tryz.prog (.mki 105) [(.int .i64 2)] s fun v105 s =>
 k (.tuple #[(.int .u64 0), v105]) s)))) fun J8 =>
 kCond v102 (
 J8 [] s) (
 J5 [underscores_12, n_13] s)) [(.bool false), (.int .u64 0), (.int .i64 0)] s) fun J4 =>
 kBin .eql base_1' (.int .i64 10) fun v91 =>
 kCond v91 (
 J4 [(.int .u64 1844674407370955162)] s) (
 kBin .eql base_1' (.int .i64 16) fun v93 =>
 kCond v93 (
 J4 [(.int .u64 1152921504606846976)] s) (
 kCvi .u64 base_1' fun v87 =>
 kBin .quo (.int .u64 18446744073709551615) v87 fun v88 =>
 kBin .add v88 (.int .u64 1) fun v89 =>
 J4 [v89] s))) fun J3 =>
 kBin .eql bitSize_2 (.int .i64 0) fun v77 =>
 kCond v77 (
 J3 [(.int .i64 64)] s) (
 kBin .lss bitSize_2 (.int .i64 0) fun v79 =>
 kGrd v79 false (fun k =>
 kBin .gtr bitSize_2 (.int .i64 64) fun v82 =>
 k [v82] s) [undef] s fun xs s =>
 un1 xs fun v82 =>
 kPick v79 (.bool true) v82 fun v83 =>
 kCond v83 (
 kGen Tryz.prog (.mki 105) [(.int .i64 4)] s fun v84 s =>
 k (.tuple #[(.int .u64 0), v84]) s) (
 J3 [bitSize_2] s))) fun J2 =>
 kBin .leq (.int .i64 2) base_1 fun v27 =>
 kGrd v27 true (fun k =>
 kBin .leq base_1 (.int .i64 36) fun v30 =>
 k [v30] s) [undef] s fun xs s =>
 un1 xs fun v30 =>
 kPick v27 v30 (.bool false) fun v31 =>
 kCond v31 (
 J2 [s_0, base_1] s) (
 kBin .eql base_1 (.int .i64 0) fun v34 =>
 kCond v34 (
 kIxS s_0 (.int .i64 0) fun v36 =>
 kBin .eql v36 (.int .u8 48) fun v37 =>
 kCond v37 (
 kLen true s_0 fun v42 =>
 kBin .geq v42 (.int .i64 3) fun v43 =>
 kGrd v43 true (fun k =>
 kIxS s_0 (.int .i64 1) fun v46 =>
 kCall Tryz.prog 102 [v46] s fun v47 s =>
 kBin .eql v47 (.int .u8 98) fun v48 =>
 k [v48] s) [undef] s fun xs s =>
 un1 xs fun v48 =>
 kPick v43 v48 (.bool false) fun v49 =>
 kCond v49 (
 kSubS s_0 (some (.int .i64 2)) none fun v51 =>
 J2 [v51, (.int .i64 2)] s) (
 kLen true s_0 fun v54 =>
 kBin .geq v54 (.int .i64 3) fun v55 =>
 kGrd v55 true (fun k =>
 kIxS s_0 (.int .i64 1) fun v58 =>
 kCall Tryz.prog 102 [v58] s fun v59 s =>
 kBin .eql v59 (.int .u8 111) fun v60 =>
 k [v60] s) [undef] s fun xs s =>
 un1 xs fun v60 =>
 kPick v55 v60 (.bool false) fun v61 =>
 kCond v61 (
 kSubS s_0 (some (.int .i64 2)) none fun v63 =>
 J2 [v63, (.int .i64 8)] s) (
 kLen true s_0 fun v66 =>
 kBin .geq v66 (.int .i64 3) fun v67 =>
 kGrd v67 true (fun k =>
 kIxS s_0 (.int .i64 1) fun v70 =>
 kCall Tryz.prog 102 [v70] s fun v71 s =>
 kBin .eql v71 (.int .u8 120) fun v72 =>
 k [v72] s) [undef] s fun xs s =>
 un1 xs fun v72 =>
 kPick v67 v72 (.bool false) fun v73 =>
 kCond v73 (
 kSubS s_0 (some (.int .i64 2)) none fun v75 =>
 J2 [v75, (.int .i64 16)] s) (
 kSubS s_0 (some (.int .i64 1)) none fun v39 =>
 J2 [v39, (.int .i64 8)] s)))) (
 J2 [s_0, (.int .i64 10)] s)) (
 kGen Tryz.prog (.mki 105) [(.int .i64 3)] s fun v24 s =>
 k (.tuple #[(.int .u64 0), v24]) s))) fun J1 =>
 kBin .eql s_0 (.string (bs [])) fun v19 =>
 kCond v19 (
 kGen Tryz.prog (.mki 105) [(.int .i64 2)] s fun v20 s =>
 k (.tuple #[(.int .u64 0), v20]) s) (
 J1 [] s)
theorem F93_ok (s_0 base_1 bitSize_2 : Value) (s : AS) (k : Value → AS → Prop) : denFn Tryz.prog [] 93 [s_0, base_1, bitSize_2] s k = F93 s_0 base_1 bitSize_2 s k := by kernel_rfl
theorem f93 {s_0 base_1 bitSize_2 : Value} {s : AS} {k : Value → AS → Prop} (h : F93 s_0 base_1 bitSize_2 s k) : kCall Tryz.prog 93 [s_0, base_1, bitSize_2] s k := fn_by (F93_ok s_0 base_1 bitSize_2 s k) h
theorem k93_ok : okFn Tryz.prog 93 = true := by kernel_rfl

/- internal stringslite.Clone -/
def F94 (s_0 : Value) (s : AS) (k : Value → AS → Prop) : Prop :=
 kJoin (fun _ s =>
 kLen true s_0 fun v8 =>
 kMks s 1 1 [(.int .u8 0)] v8 v8 fun v9 s =>
 kCpy Tryz.prog 72 9 v9 s_0 s fun v12 s =>
 kIdx 1 v9 (.int .i64 0) fun v14 =>
 kLen false v9 fun v16 =>
 kGen Tryz.prog (.blt .unsafeString [84, 3] 9) [v14, v16] s fun v17 s =>
 k v17 s) fun J1 =>
 kLen true s_0 fun v5 =>
 kBin .eql v5 (.int .i64 0) fun v6 =>
 kCond v6 (
 k (.string (bs [])) s) (
 J1 [] s)
theorem F94_ok (s_0 : Value) (s : AS) (k : Value → AS → Prop) : denFn Tryz.prog [] 94 [s_0] s k = F94 s_0 s k := by kernel_rfl
theorem f94 {s_0 : Value} {s : AS} {k : Value → AS → Prop} (h : F94 s_0 s k) : kCall Tryz.prog 94 [s_0] s k := fn_by (F94_ok s_0 s k) h
theorem k94_ok : okFn Tryz.prog 94 = true := by kernel_rfl

/- errors.New -/
def F95 (text_0 : Value) (s : AS) (k : Value → AS → Prop) : Prop :=
 kBuild [(.string (bs []))] [(0, 1, text_0)] fun v4 =>
 kNew s (cellsV v4) fun v5 s =>
 kGen Tryz.prog (.mki 135) [v5] s fun v6 s =>
 k v6 s
theorem F95_ok (text_0 : Value) (s : AS) (k : Value → AS → Prop) : denFn Tryz.prog [] 95 [text_0] s k = F95 text_0 s k := by kernel_rfl
theorem f95 {text_0 : Value} {s : AS} {k : Value → AS → Prop} (h : F95 text_0 s k) : kCall Tryz.prog 95 [text_0] s k := fn_by (F95_ok text_0 s k) h
theorem k95_ok : okFn Tryz.prog 95 = true := by kernel_rfl

/- math bits.TrailingZeros32 -/
def F96 (x_0 : Value) (s : AS) (k : Value → AS → Prop) : Prop :=
 kJoin (fun _ s =>
 kUn .neg x_0 fun v7 =>
 kBin .and x_0 v7 fun v8 =>
 kBin .mul v8 (.int .u32 125613361) fun v9 =>
 kSft .shr v9 (.int .u64 27) fun v10 =>
 kIdxA 32 1 (.pointer (some ⟨6, 0, none⟩)) v10 fun v11 =>
 kLd s v11 fun v12 =>
 kCvi .i64 v12 fun v13 =>
 k v13 s) fun J1 =>
 kBin .eql x_0 (.int .u32 0) fun v4 =>
 kCond v4 (
 k (.int .i64 32) s) (
 J1 [] s)
theorem F96_ok (x_0 : Value) (s : AS) (k : Value → AS → Prop) : denFn Tryz.prog [] 96 [x_0] s k = F96 x_0 s k := by kernel_rfl
theorem f96 {x_0 : Value} {s : AS} {k : Value → AS → Prop} (h : F96 x_0 s k) : kCall Tryz.prog 96 [x_0] s k := fn_by (F96_ok x_0 s k) h
theorem k96_ok : okFn Tryz.prog 96 = true := by kernel_rfl

/- math bits.TrailingZeros64 -/
def F97 (x_0 : Value) (s : AS) (k : Value → AS → Prop) : Prop :=
 kJoin (fun _ s =>
 kUn .neg x_0 fun v7 =>
 kBin .and x_0 v7 fun v8 =>
 kBin .mul v8 (.int .u64 285870213051353865) fun v9 =>
 kSft .shr v9 (.int .u64 58) fun v10 =>
 kIdxA 64 1 (.pointer (some ⟨7, 0, none⟩)) v10 fun v11 =>
 kLd s v11 fun v12 =>
 kCvi .i64 v12 fun v13 =>
 k v13 s) fun J1 =>
 kBin .eql x_0 (.int .u64 0) fun v4 =>
 kCond v4 (
 k (.int .i64 64) s) (
 J1 [] s)
theorem F97_ok (x_0 : Value) (s : AS) (k : Value → AS → Prop) : denFn Tryz.prog [] 97 [x_0] s k = F97 x_0 s k := by kernel_rfl
theorem f97 {x_0 : Value} {s : AS} {k : Value → AS → Prop} (h : F97 x_0 s k) : kCall Tryz.prog 97 [x_0] s k := fn_by (F97_ok x_0 s k) h
theorem k97_ok : okFn Tryz.prog 97 = true := by kernel_rfl

/- strings.IndexByte -/
def F98 (s_0 c_1 : Value) (s : AS) (k : Value → AS → Prop) : Prop :=
 kCall Tryz.prog 104 [s_0, c_1] s fun v7 s =>
 k v7 s
theorem F98_ok (s_0 c_1 : Value) (s : AS) (k : Value → AS → Prop) : denFn Tryz.prog [] 98 [s_0, c_1] s k = F98 s_0 c_1 s k := by kernel_rfl
theorem f98 {s_0 c_1 : Value} {s : AS} {k : Value → AS → Prop} (h : F98 s_0 c_1 s k) : kCall Tryz.prog 98 [s_0, c_1] s k := fn_by (F98_ok s_0 c_1 s k) h
theorem k98_ok : okFn Tryz.prog 98 = true := by kernel_rfl

/- unicode utf8.ValidRune -/
def F99 (r_0 : Value) (s : AS) (k : Value → AS → Prop) : Prop :=
 kJoin (fun _ s =>
 k (.bool false) s) fun J1 =>
 kBin .leq (.int .i32 0) r_0 fun v5 =>
 kGrd v5 true (fun k =>
 kBin .lss r_0 (.int .i32 55296) fun v8 =>
 k [v8] s) [undef] s fun xs s =>
 un1 xs fun v8 =>
 kPick v5 v8 (.bool false) fun v9 =>
 kCond v9 (
 k (.bool true) s) (
 kBin .lss (.int .i32 57343) r_0 fun v12 =>
 kGrd v12 true (fun k =>
 kBin .leq r_0 (.int .i32 1114111) fun v15 =>
 k [v15] s) [undef] s fun xs s =>
 un1 xs fun v15 =>
 kPick v12 v15 (.bool false) fun v16 =>
 kCond v16 (
 k (.bool true) s) (
 J1 [] s))
theorem F99_ok (r_0 : Value) (s : AS) (k : Value → AS → Prop) : denFn Tryz.prog [] 99 [r_0] s k = F99 r_0 s k := by kernel_rfl
theorem f99 {r_0 : Value} {s : AS} {k : Value → AS → Prop} (h : F99 r_0 s k) : kCall Tryz.prog 99 [r_0] s k := fn_by (F99_ok r_0 s k) h
theorem k99_ok : okFn Tryz.prog 99 = true := by kernel_rfl

/- internal bytealg.Cutover -/
def F100 (n_0 : Value) (s : AS) (k : Value → AS → Prop) : Prop :=
 kBin .add n_0 (.int .i64 16) fun v4 =>
 kBin .quo v4 (.int .i64 8) fun v5 =>
 k v5 s
theorem F100_ok (n_0 : Value) (s : AS) (k : Value → AS → Prop) : denFn Tryz.prog [] 100 [n_0] s k = F100 n_0 s k := by kernel_rfl
theorem f100 {n_0 : Value} {s : AS} {k : Value → AS → Prop} (h : F100 n_0 s k) : kCall Tryz.prog 100 [n_0] s k := fn_by (F100_ok n_0 s k) h
theorem k100_ok : okFn Tryz.prog 100 = true := by kernel_rfl

/- internal strconv.lower -/
def F102 (c_0 : Value) (s : AS) (k : Value → AS → Prop) : Prop :=
 kBin .or c_0 (.int .u8 32) fun v4 =>
 k v4 s
theorem F102_ok (c_0 : Value) (s : AS) (k : Value → AS → Prop) : denFn Tryz.prog [] 102 [c_0] s k = F102 c_0 s k := by kernel_rfl
theorem f102 {c_0 : Value} {s : AS} {k : Value → AS → Prop} (h : F102 c_0 s k) : kCall Tryz.prog 102 [c_0] s k := fn_by (F102_ok c_0 s k) h
theorem k102_ok : okFn Tryz.prog 102 = true := by kernel_rfl

/- internal strconv.underscoreOK -/
def F103 (s_0 : Value) (s : AS) (k : Value → AS → Prop) : Prop :=
 kJoin (fun xs s =>
 un1 xs fun s_0 =>
 kJoin (fun xs s =>
 un3 xs fun saw_3 i_4 hex_5 =>
 kJoin (fun xs s =>
 un1 xs fun saw_3 =>
 kBin .neq saw_3 (.int .i32 95) fun v93 =>
 k v93 s) fun J3 =>
 kLoop (fun again4 xs s =>
 un2 xs fun saw_3 i_4 =>
 kJoin (fun _ s =>
 kJoin (fun xs s =>
 un1 xs fun saw_3 =>
 kBin .add i_4 (.int .i64 1) fun v56 =>
 again4 [saw_3, v56] s) fun J6 =>
 kJoin (fun xs s =>
 un1 xs fun saw_3 =>
 kJoin (fun xs s =>
 un1 xs fun saw_3 =>
 kJoin (fun _ s =>
 J6 [(.int .i32 33)] s) fun J9 =>
 kBin .eql saw_3 (.int .i32 95) fun v91 =>
 kCond v91 (
 k (.bool false) s) (
 J9 [] s)) fun J8 =>
 kIxS s_0 i_4 fun v86 =>
 kBin .eql v86 (.int .u8 95) fun v87 =>
 kCond v87 (
 kJoin (fun _ s =>
 J6 [(.int .i32 95)] s) fun J10 =>
 kBin .neq saw_3 (.int .i32 48) fun v89 =>
 kCond v89 (
 k (.bool false) s) (
 J10 [] s)) (
 J8 [saw_3] s)) fun J7 =>
 kIxS s_0 i_4 fun v59 =>
 kBin .leq (.int .u8 48) v59 fun v60 =>
 kGrd v60 true (fun k =>
 kIxS s_0 i_4 fun v64 =>
 kBin .leq v64 (.int .u8 57) fun v65 =>
 k [v65] s) [undef] s fun xs s =>
 un1 xs fun v65 =>
 kPick v60 v65 (.bool false) fun v66 =>
 kGrd v66 false (fun k =>
 k [hex_5] s) [undef] s fun xs s =>
 un1 xs fun v69 =>
 kGrd v69 true (fun k =>
 kIxS s_0 i_4 fun v72 =>
 kCall Tryz.prog 102 [v72] s fun v73 s =>
 kBin .leq (.int .u8 97) v73 fun v74 =>
 k [v74] s) [undef] s fun xs s =>
 un1 xs fun v74 =>
 kGrd v66 false (fun k =>
 kPick v69 v74 (.bool false) fun v75 =>
 k [v75] s) [undef] s fun xs s =>
 un1 xs fun v76 =>
 kGrd v76 true (fun k =>
 kIxS s_0 i_4 fun v79 =>
 kCall Tryz.prog 102 [v79] s fun v80 s =>
 kBin .leq v80 (.int .u8 102) fun v81 =>
 k [v81] s) [undef] s fun xs s =>
 un1 xs fun v81 =>
 kGrd v66 false (fun k =>
 kPick v76 v81 (.bool false) fun v82 =>
 k [v82] s) [undef] s fun xs s =>
 un1 xs fun v82 =>
 kPick v66 (.bool true) v82 fun v83 =>
 kCond v83 (
 J6 [(.int .i32 48)] s) (
 J7 [saw_3] s)) fun J5 =>
 kLen true s_0 fun v53 =>
 kBin .lss i_4 v53 fun v54 =>
 kCond v54 (
 J5 [] s) (
 J3 [saw_3] s)) [saw_3, i_4] s) fun J2 =>
 kLen true s_0 fun v22 =>
 kBin .geq v22 (.int .i64 2) fun v23 =>
 kGrd v23 true (fun k =>
 kIxS s_0 (.int .i64 0) fun v26 =>
 kBin .eql v26 (.int .u8 48) fun v27 =>
 k [v27] s) [undef] s fun xs s =>
 un1 xs fun v27 =>
 kPick v23 v27 (.bool false) fun v28 =>
 kGrd v28 true (fun k =>
 kIxS s_0 (.int .i64 1) fun v31 =>
 kCall Tryz.prog 102 [v31] s fun v32 s =>
 kBin .eql v32 (.int .u8 98) fun v33 =>
 k [v33] s) [undef] s fun xs s =>
 un1 xs fun v34 =>
 kGrd v34 false (fun k =>
 kIxS s_0 (.int .i64 1) fun v36 =>
 kCall Tryz.prog 102 [v36] s fun v37 s =>
 kBin .eql v37 (.int .u8 111) fun v38 =>
 k [v38] s) [undef] s fun xs s =>
 un1 xs fun v38 =>
 kGrd v28 true (fun k =>
 kPick v34 (.bool true) v38 fun v39 =>
 k [v39] s) [undef] s fun xs s =>
 un1 xs fun v40 =>
 kGrd v40 false (fun k =>
 kIxS s_0 (.int .i64 1) fun v42 =>
 kCall Tryz.prog 102 [v42] s fun v43 s =>
 kBin .eql v43 (.int .u8 120) fun v44 =>
 k [v44] s) [undef] s fun xs s =>
 un1 xs fun v44 =>
 kGrd v28 true (fun k =>
 kPick v40 (.bool true) v44 fun v45 =>
 k [v45] s) [undef] s fun xs s =>
 un1 xs fun v45 =>
 kPick v28 v45 (.bool false) fun v46 =>
 kCond v46 (
 kIxS s_0 (.int .i64 1) fun v48 =>
 kCall Tryz.prog 102 [v48] s fun v49 s =>
 kBin .eql v49 (.int .u8 120) fun v50 =>
 J2 [(.int .i32 48), (.int .i64 2), v50] s) (
 J2 [(.int .i32 94), (.int .i64 0), (.bool false)] s)) fun J1 =>
 kLen true s_0 fun v7 =>
 kBin .geq v7 (.int .i64 1) fun v8 =>
 kGrd v8 true (fun k =>
 kIxS s_0 (.int .i64 0) fun v11 =>
 kBin .eql v11 (.int .u8 45) fun v12 =>
 k [v12] s) [undef] s fun xs s =>
 un1 xs fun v13 =>
 kGrd v13 false (fun k =>
 kIxS s_0 (.int .i64 0) fun v15 =>
 kBin .eql v15 (.int .u8 43) fun v16 =>
 k [v16] s) [undef] s fun xs s =>
 un1 xs fun v16 =>
 kGrd v8 true (fun k =>
 kPick v13 (.bool true) v16 fun v17 =>
 k [v17] s) [undef] s fun xs s =>
 un1 xs fun v17 =>
 kPick v8 v17 (.bool false) fun v18 =>
 kCond v18 (
 kSubS s_0 (some (.int .i64 1)) none fun v20 =>
 J1 [v20] s) (
 J1 [s_0] s)
theorem F103_ok (s_0 : Value) (s : AS) (k : Value → AS → Prop) : denFn Tryz.prog [] 103 [s_0] s k = F103 s_0 s k := by kernel_rfl
theorem f103 {s_0 : Value} {s : AS} {k : Value → AS → Prop} (h : F103 s_0 s k) : kCall Tryz.prog 103 [s_0] s k := fn_by (F103_ok s_0 s k) h
theorem k103_ok : okFn Tryz.prog 103 = true := by kernel_rfl

/- internal stringslite.IndexByte -/
def F104 (s_0 c_1 : Value) (s : AS) (k : Value → AS → Prop) : Prop :=
 kGen Tryz.prog (.ext 105) [s_0, c_1] s fun v7 s =>
 k v7 s
theorem F104_ok (s_0 c_1 : Value) (s : AS) (k : Value → AS → Prop) : denFn Tryz.prog [] 104 [s_0, c_1] s k = F104 s_0 c_1 s k := by kernel_rfl
theorem f104 {s_0 c_1 : Value} {s : AS} {k : Value → AS → Prop} (h : F104 s_0 c_1 s k) : kCall Tryz.prog 104 [s_0, c_1] s k := fn_by (F104_ok s_0 c_1 s k) h
theorem k104_ok : okFn Tryz.prog 104 = true := by kernel_rfl

/- gosem.cut.vars -/
def F136 (s : AS) (k : Value → AS → Prop) : Prop :=
 kBuild (List.replicate 32 (.int .u8 0)) [(0, 1, (.int .u8 0)), (1, 1, (.int .u8 1)), (2, 1, (.int .u8 28)), (3, 1, (.int .u8 2)), (4, 1, (.int .u8 29)), (5, 1, (.int .u8 14)), (6, 1, (.int .u8 24)), (7, 1, (.int .u8 3)), (8, 1, (.int .u8 30)), (9, 1, (.int .u8 22)), (10, 1, (.int .u8 20)), (11, 1, (.int .u8 15)), (12, 1, (.int .u8 25)), (13, 1, (.int .u8 17)), (14, 1, (.int .u8 4)), (15, 1, (.int .u8 8)), (16, 1, (.int .u8 31)), (17, 1, (.int .u8 27)), (18, 1, (.int .u8 13)), (19, 1, (.int .u8 23)), (20, 1, (.int .u8 21)), (21, 1, (.int .u8 19)), (22, 1, (.int .u8 16)), (23, 1, (.int .u8 7)), (24, 1, (.int .u8 26)), (25, 1, (.int .u8 12)), (26, 1, (.int .u8 18)), (27, 1, (.int .u8 6)), (28, 1, (.int .u8 11)), (29, 1, (.int .u8 5)), (30, 1, (.int .u8 10)), (31, 1, (.int .u8 9))] fun v0 =>
 kSt s 32 (.pointer (some ⟨6, 0, none⟩)) v0 fun s =>
 kBuild (List.replicate 64 (.int .u8 0)) [(0, 1, (.int .u8 0)), (1, 1, (.int .u8 1)), (2, 1, (.int .u8 56)), (3, 1, (.int .u8 2)), (4, 1, (.int .u8 57)), (5, 1, (.int .u8 49)), (6, 1, (.int .u8 28)), (7, 1, (.int .u8 3)), (8, 1, (.int .u8 61)), (9, 1, (.int .u8 58)), (10, 1, (.int .u8 42)), (11, 1, (.int .u8 50)), (12, 1, (.int .u8 38)), (13, 1, (.int .u8 29)), (14, 1, (.int .u8 17)), (15, 1, (.int .u8 4)), (16, 1, (.int .u8 62)), (17, 1, (.int .u8 47)), (18, 1, (.int .u8 59)), (19, 1, (.int .u8 36)), (20, 1, (.int .u8 45)), (21, 1, (.int .u8 43)), (22, 1, (.int .u8 51)), (23, 1, (.int .u8 22)), (24, 1, (.int .u8 53)), (25, 1, (.int .u8 39)), (26, 1, (.int .u8 33)), (27, 1, (.int .u8 30)), (28, 1, (.int .u8 24)), (29, 1, (.int .u8 18)), (30, 1, (.int .u8 12)), (31, 1, (.int .u8 5)), (32, 1, (.int .u8 63)), (33, 1, (.int .u8 55)), (34, 1, (.int .u8 48)), (35, 1, (.int .u8 27)), (36, 1, (.int .u8 60)), (37, 1, (.int .u8 41)), (38, 1, (.int .u8 37)), (39, 1, (.int .u8 16)), (40, 1, (.int .u8 46)), (41, 1, (.int .u8 35)), (42, 1, (.int .u8 44)), (43, 1, (.int .u8 21)), (44, 1, (.int .u8 52)), (45, 1, (.int .u8 32)), (46, 1, (.int .u8 23)), (47, 1, (.int .u8 11)), (48, 1, (.int .u8 54)), (49, 1, (.int .u8 26)), (50, 1, (.int .u8 40)), (51, 1, (.int .u8 15)), (52, 1, (.int .u8 34)), (53, 1, (.int .u8 20)), (54, 1, (.int .u8 31)), (55, 1, (.int .u8 10)), (56, 1, (.int .u8 25)), (57, 1, (.int .u8 14)), (58, 1, (.int .u8 19)), (59, 1, (.int .u8 9)), (60, 1, (.int .u8 13)), (61, 1, (.int .u8 8)), (62, 1, (.int .u8 7)), (63, 1, (.int .u8 6))] fun v1 =>
 kSt s 64 (.pointer (some ⟨7, 0, none⟩)) v1 fun s =>
 kBuild (List.replicate 20 (.int .u64 0)) [(0, 1, (.int .u64 1)), (1, 1, (.int .u64 10)), (2, 1, (.int .u64 100)), (3, 1, (.int .u64 1000)), (4, 1, (.int .u64 10000)), (5, 1, (.int .u64 100000)), (6, 1, (.int .u64 1000000)), (7, 1, (.int .u64 10000000)), (8, 1, (.int .u64 100000000)), (9, 1, (.int .u64 1000000000)), (10, 1, (.int .u64 10000000000)), (11, 1, (.int .u64 100000000000)), (12, 1, (.int .u64 1000000000000)), (13, 1, (.int .u64 10000000000000)), (14, 1, (.int .u64 100000000000000)), (15, 1, (.int .u64 1000000000000000)), (16, 1, (.int .u64 10000000000000000)), (17, 1, (.int .u64 100000000000000000)), (18, 1, (.int .u64 1000000000000000000)), (19, 1, (.int .u64 10000000000000000000))] fun v2 =>
 kSt s 20 (.pointer (some ⟨0, 0, none⟩)) v2 fun s =>
 kBuild [(.int .u8 0), (.int .u8 0)] [(0, 1, (.int .u8 128)), (1, 1, (.int .u8 191))] fun v3 =>
 kBuild [(.int .u8 0), (.int .u8 0)] [(0, 1, (.int .u8 160)), (1, 1, (.int .u8 191))] fun v4 =>
 kBuild [(.int .u8 0), (.int .u8 0)] [(0, 1, (.int .u8 128)), (1, 1, (.int .u8 159))] fun v5 =>
 kBuild [(.int .u8 0), (.int .u8 0)] [(0, 1, (.int .u8 144)), (1, 1, (.int .u8 191))] fun v6 =>
 kBuild [(.int .u8 0), (.int .u8 0)] [(0, 1, (.int .u8 128)), (1, 1, (.int .u8 143))] fun v7 =>
 kBuild (List.replicate 32 (.int .u8 0)) [(0, 2, v3), (2, 2, v4), (4, 2, v5), (6, 2, v6), (8, 2, v7)] fun v8 =>
 kSt s 32 (.pointer (some ⟨5, 0, none⟩)) v8 fun s =>
 kCall Tryz.prog 95 [(.string (bs [118, 97, 108, 117, 101, 32, 111, 117, 116, 32, 111, 102, 32, 114, 97, 110, 103, 101]))] s fun v9 s =>
 kSt s 1 (.pointer (some ⟨3, 0, none⟩)) v9 fun s =>
 kCall Tryz.prog 95 [(.string (bs [105, 110, 118, 97, 108, 105, 100, 32, 115, 121, 110, 116, 97, 120]))] s fun v10 s =>
 kSt s 1 (.pointer (some ⟨2, 0, none⟩)) v10 fun s =>
 k undef s
theorem F136_ok (s : AS) (k : Value → AS → Prop) : denFn Tryz.prog [] 136 [] s k = F136 s k := by kernel_rfl
theorem f136 {s : AS} {k : Value → AS → Prop} (h : F136 s k) : kCall Tryz.prog 136 [] s k := fn_by (F136_ok s k) h
theorem k136_ok : okFn Tryz.prog 136 = true := by kernel_rfl

end Go.Proofs.YtpnefcapiiemdaaGreatDoor
