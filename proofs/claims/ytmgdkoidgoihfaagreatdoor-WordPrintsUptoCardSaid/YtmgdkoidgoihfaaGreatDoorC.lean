/- The walks of the functions, printed by a program of this proof, each held against the loaded program by the kernel. Conditions: none. -/
import Derived.Test.YtmgdkoidgoihfaaGreatDoorProg
import Derived.Test.YtmgdkoidgoihfaaGreatDoorF6
namespace Go.Proofs.YtmgdkoidgoihfaaGreatDoor
open E
set_option maxRecDepth 100000
set_option linter.unusedVariables false

/- conch conchlaw05.WordParses -/
def F3 (raw_0 : Value) (s : AS) (k : Value → AS → Prop) : Prop :=
 kJoin (fun _ s =>
 kCall Tryz.prog 6 [raw_0] s fun v17 s =>
 kExt 0 v17 fun v18 =>
 kExt 1 v17 fun v19 =>
 kCall Tryz.prog 7 [raw_0] s fun v22 s =>
 kExt 0 v22 fun v23 =>
 kExt 1 v22 fun v24 =>
 kCall Tryz.prog 8 [raw_0] s fun v27 s =>
 kExt 0 v27 fun v28 =>
 kExt 1 v27 fun v29 =>
 kCall Tryz.prog 9 [raw_0] s fun v32 s =>
 kExt 0 v32 fun v33 =>
 kExt 1 v32 fun v34 =>
 kCall Tryz.prog 10 [v18, v23] s fun v37 s =>
 kGrd v37 true (fun k =>
 kBin .eql v19 v24 fun v41 =>
 k [v41] s) [undef] s fun xs s =>
 un1 xs fun v41 =>
 kPick v37 v41 (.bool false) fun v42 =>
 kGrd v42 true (fun k =>
 kCall Tryz.prog 10 [v28, v33] s fun v46 s =>
 k [v46] s) [undef] s fun xs s =>
 un1 xs fun v46 =>
 kPick v42 v46 (.bool false) fun v47 =>
 kGrd v47 true (fun k =>
 kBin .eql v29 v34 fun v51 =>
 k [v51] s) [undef] s fun xs s =>
 un1 xs fun v51 =>
 kPick v47 v51 (.bool false) fun v52 =>
 kGrd v52 true (fun k =>
 kCall Tryz.prog 5 [] s fun v54 s =>
 k [v54] s) [undef] s fun xs s =>
 un1 xs fun v54 =>
 kPick v52 v54 (.bool false) fun v55 =>
 k v55 s) fun J1 =>
 kLen true raw_0 fun v12 =>
 kBin .gtr v12 (.int .i64 600) fun v13 =>
 kCond v13 (
 kCall Tryz.prog 5 [] s fun v14 s =>
 k v14 s) (
 J1 [] s)
theorem F3_ok (raw_0 : Value) (s : AS) (k : Value → AS → Prop) : denFn Tryz.prog [] 3 [raw_0] s k = F3 raw_0 s k := by kernel_rfl
theorem f3 {raw_0 : Value} {s : AS} {k : Value → AS → Prop} (h : F3 raw_0 s k) : kCall Tryz.prog 3 [raw_0] s k := fn_by (F3_ok raw_0 s k) h
theorem k3_ok : okFn Tryz.prog 3 = true := by kernel_rfl

/- conch conchlaw05.WordPrints -/
def F4 (w_0 : Value) (s : AS) (k : Value → AS → Prop) : Prop :=
 kJoin (fun _ s =>
 kCall Tryz.prog 12 [w_0] s fun v21 s =>
 kExt 0 v21 fun v22 =>
 kExt 1 v21 fun v23 =>
 kCall Tryz.prog 13 [w_0] s fun v26 s =>
 kExt 0 v26 fun v27 =>
 kExt 1 v26 fun v28 =>
 kCall Tryz.prog 14 [w_0] s fun v31 s =>
 kExt 0 v31 fun v32 =>
 kExt 1 v31 fun v33 =>
 kCall Tryz.prog 15 [w_0] s fun v36 s =>
 kExt 0 v36 fun v37 =>
 kExt 1 v36 fun v38 =>
 kCall Tryz.prog 16 [w_0] s fun v41 s =>
 kExt 0 v41 fun v42 =>
 kExt 1 v41 fun v43 =>
 kCall Tryz.prog 17 [w_0] s fun v46 s =>
 kExt 0 v46 fun v47 =>
 kExt 1 v46 fun v48 =>
 kBin .eql v22 v27 fun v51 =>
 kGrd v51 true (fun k =>
 kBin .eql v23 v28 fun v55 =>
 k [v55] s) [undef] s fun xs s =>
 un1 xs fun v55 =>
 kPick v51 v55 (.bool false) fun v56 =>
 kGrd v56 true (fun k =>
 kBin .eql v32 v37 fun v60 =>
 k [v60] s) [undef] s fun xs s =>
 un1 xs fun v60 =>
 kPick v56 v60 (.bool false) fun v61 =>
 kGrd v61 true (fun k =>
 kBin .eql v33 v38 fun v65 =>
 k [v65] s) [undef] s fun xs s =>
 un1 xs fun v65 =>
 kPick v61 v65 (.bool false) fun v66 =>
 kGrd v66 true (fun k =>
 kBin .eql v42 v47 fun v70 =>
 k [v70] s) [undef] s fun xs s =>
 un1 xs fun v70 =>
 kPick v66 v70 (.bool false) fun v71 =>
 kGrd v71 true (fun k =>
 kEq 4 false v43 v48 fun v75 =>
 k [v75] s) [undef] s fun xs s =>
 un1 xs fun v75 =>
 kPick v71 v75 (.bool false) fun v76 =>
 kGrd v76 true (fun k =>
 kCall Tryz.prog 5 [] s fun v78 s =>
 k [v78] s) [undef] s fun xs s =>
 un1 xs fun v78 =>
 kPick v76 v78 (.bool false) fun v79 =>
 k v79 s) fun J1 =>
 kCall Tryz.prog 11 [w_0] s fun v16 s =>
 kBin .gtr v16 (.int .i64 600) fun v17 =>
 kCond v17 (
 kCall Tryz.prog 5 [] s fun v18 s =>
 k v18 s) (
 J1 [] s)
theorem F4_ok (w_0 : Value) (s : AS) (k : Value → AS → Prop) : denFn Tryz.prog [] 4 [w_0] s k = F4 w_0 s k := by kernel_rfl
theorem f4 {w_0 : Value} {s : AS} {k : Value → AS → Prop} (h : F4 w_0 s k) : kCall Tryz.prog 4 [w_0] s k := fn_by (F4_ok w_0 s k) h
theorem k4_ok : okFn Tryz.prog 4 = true := by kernel_rfl

/- conch conchlaw05.awake -/
def F5 (s : AS) (k : Value → AS → Prop) : Prop :=
 kCall Tryz.prog 6 [(.string (bs [97, 39, 98, 32, 99, 39, 34, 100, 34]))] s fun v12 s =>
 kExt 0 v12 fun v13 =>
 kExt 1 v12 fun v14 =>
 kCall Tryz.prog 6 [(.string (bs [36, 123, 120, 58, 45, 97, 32, 98, 125]))] s fun v16 s =>
 kExt 0 v16 fun v17 =>
 kExt 1 v16 fun v18 =>
 kCall Tryz.prog 6 [(.string (bs [36, 40, 101, 99, 104, 111, 32, 34, 97, 34, 41, 36, 40, 40, 49, 43, 50, 41, 41]))] s fun v20 s =>
 kExt 0 v20 fun v21 =>
 kExt 1 v20 fun v22 =>
 kCall Tryz.prog 6 [(.string (bs [36, 123, 125]))] s fun v24 s =>
 kExt 0 v24 fun v25 =>
 kExt 1 v24 fun v26 =>
 kBuild [(.int .i64 0), (.string (bs [])), (.bool false), (.int .i64 0), (.bool false), (.slice none 0 0)] [(0, 1, (.int .i64 2)), (1, 1, (.string (bs [120]))), (2, 1, (.bool true))] fun v28 =>
 kBsl s 1 [(.int .i64 0), (.string (bs [])), (.bool false), (.int .i64 0), (.bool false), (.slice none 0 0)] [(0, 6, v28)] fun v29 s =>
 kCall Tryz.prog 12 [v29] s fun v30 s =>
 kExt 0 v30 fun v31 =>
 kExt 1 v30 fun v32 =>
 kBin .eql v14 (.int .i64 0) fun v34 =>
 kGrd v34 true (fun k =>
 kLen false v13 fun v37 =>
 kBin .eql v37 (.int .i64 2) fun v38 =>
 k [v38] s) [undef] s fun xs s =>
 un1 xs fun v38 =>
 kPick v34 v38 (.bool false) fun v39 =>
 kGrd v39 true (fun k =>
 kIdx 6 v13 (.int .i64 1) fun v42 =>
 kFld 1 v42 fun v43 =>
 kLd s v43 fun v44 =>
 kBin .eql v44 (.string (bs [98, 32, 99, 100])) fun v45 =>
 k [v45] s) [undef] s fun xs s =>
 un1 xs fun v45 =>
 kPick v39 v45 (.bool false) fun v46 =>
 kGrd v46 true (fun k =>
 kIdx 6 v13 (.int .i64 1) fun v49 =>
 kFld 2 v49 fun v50 =>
 kLd s v50 fun v51 =>
 k [v51] s) [undef] s fun xs s =>
 un1 xs fun v51 =>
 kPick v46 v51 (.bool false) fun v52 =>
 kGrd v52 true (fun k =>
 kBin .eql v18 (.int .i64 0) fun v55 =>
 k [v55] s) [undef] s fun xs s =>
 un1 xs fun v55 =>
 kPick v52 v55 (.bool false) fun v56 =>
 kGrd v56 true (fun k =>
 kLen false v17 fun v59 =>
 kBin .eql v59 (.int .i64 1) fun v60 =>
 k [v60] s) [undef] s fun xs s =>
 un1 xs fun v60 =>
 kPick v56 v60 (.bool false) fun v61 =>
 kGrd v61 true (fun k =>
 kIdx 6 v17 (.int .i64 0) fun v64 =>
 kFld 3 v64 fun v65 =>
 kLd s v65 fun v66 =>
 kBin .eql v66 (.int .i64 2) fun v67 =>
 k [v67] s) [undef] s fun xs s =>
 un1 xs fun v67 =>
 kPick v61 v67 (.bool false) fun v68 =>
 kGrd v68 true (fun k =>
 kIdx 6 v17 (.int .i64 0) fun v71 =>
 kFld 4 v71 fun v72 =>
 kLd s v72 fun v73 =>
 k [v73] s) [undef] s fun xs s =>
 un1 xs fun v73 =>
 kPick v68 v73 (.bool false) fun v74 =>
 kGrd v74 true (fun k =>
 kIdx 6 v17 (.int .i64 0) fun v77 =>
 kFld 5 v77 fun v78 =>
 kLd s v78 fun v79 =>
 kLen false v79 fun v80 =>
 kBin .eql v80 (.int .i64 1) fun v81 =>
 k [v81] s) [undef] s fun xs s =>
 un1 xs fun v81 =>
 kPick v74 v81 (.bool false) fun v82 =>
 kGrd v82 true (fun k =>
 kBin .eql v22 (.int .i64 0) fun v85 =>
 k [v85] s) [undef] s fun xs s =>
 un1 xs fun v85 =>
 kPick v82 v85 (.bool false) fun v86 =>
 kGrd v86 true (fun k =>
 kLen false v21 fun v89 =>
 kBin .eql v89 (.int .i64 2) fun v90 =>
 k [v90] s) [undef] s fun xs s =>
 un1 xs fun v90 =>
 kPick v86 v90 (.bool false) fun v91 =>
 kGrd v91 true (fun k =>
 kIdx 6 v21 (.int .i64 0) fun v94 =>
 kFld 0 v94 fun v95 =>
 kLd s v95 fun v96 =>
 kBin .eql v96 (.int .i64 3) fun v97 =>
 k [v97] s) [undef] s fun xs s =>
 un1 xs fun v97 =>
 kPick v91 v97 (.bool false) fun v98 =>
 kGrd v98 true (fun k =>
 kIdx 6 v21 (.int .i64 1) fun v101 =>
 kFld 0 v101 fun v102 =>
 kLd s v102 fun v103 =>
 kBin .eql v103 (.int .i64 4) fun v104 =>
 k [v104] s) [undef] s fun xs s =>
 un1 xs fun v104 =>
 kPick v98 v104 (.bool false) fun v105 =>
 kGrd v105 true (fun k =>
 kIdx 6 v21 (.int .i64 1) fun v108 =>
 kFld 1 v108 fun v109 =>
 kLd s v109 fun v110 =>
 kBin .eql v110 (.string (bs [49, 43, 50])) fun v111 =>
 k [v111] s) [undef] s fun xs s =>
 un1 xs fun v111 =>
 kPick v105 v111 (.bool false) fun v112 =>
 kGrd v112 true (fun k =>
 kBin .eql v26 (.int .i64 10) fun v115 =>
 k [v115] s) [undef] s fun xs s =>
 un1 xs fun v115 =>
 kPick v112 v115 (.bool false) fun v116 =>
 kGrd v116 true (fun k =>
 kBin .eql v32 (.int .i64 0) fun v119 =>
 k [v119] s) [undef] s fun xs s =>
 un1 xs fun v119 =>
 kPick v116 v119 (.bool false) fun v120 =>
 kGrd v120 true (fun k =>
 kBin .eql v31 (.string (bs [34, 36, 123, 120, 125, 34])) fun v123 =>
 k [v123] s) [undef] s fun xs s =>
 un1 xs fun v123 =>
 kPick v120 v123 (.bool false) fun v124 =>
 k v124 s
theorem F5_ok (s : AS) (k : Value → AS → Prop) : denFn Tryz.prog [] 5 [] s k = F5 s k := by kernel_rfl
theorem f5 {s : AS} {k : Value → AS → Prop} (h : F5 s k) : kCall Tryz.prog 5 [] s k := fn_by (F5_ok s k) h
theorem k5_ok : okFn Tryz.prog 5 = true := by kernel_rfl

/- conch word.Parse -/
def F6 (raw_0 : Value) (s : AS) (k : Value → AS → Prop) : Prop :=
 kJoin (fun _ s =>
 kCall Tryz.prog 18 [raw_0, (.int .i64 0)] s fun v8 s =>
 kExt 0 v8 fun v9 =>
 kExt 1 v8 fun v10 =>
 k (.tuple #[v9, v10]) s) fun J1 =>
 kLen true raw_0 fun v5 =>
 kBin .gtr v5 (.int .i64 4096) fun v6 =>
 kCond v6 (
 k (.tuple #[(.slice none 0 0), (.int .i64 3)]) s) (
 J1 [] s)
theorem F6_ok (raw_0 : Value) (s : AS) (k : Value → AS → Prop) : denFn Tryz.prog [] 6 [raw_0] s k = F6 raw_0 s k := by kernel_rfl
theorem f6 {raw_0 : Value} {s : AS} {k : Value → AS → Prop} (h : F6 raw_0 s k) : kCall Tryz.prog 6 [raw_0] s k := fn_by (F6_ok raw_0 s k) h
theorem k6_ok : okFn Tryz.prog 6 = true := by kernel_rfl

/- conch conchref05.Parse -/
def F7 (raw_0 : Value) (s : AS) (k : Value → AS → Prop) : Prop :=
 kJoin (fun _ s =>
 kCall Tryz.prog 19 [raw_0, (.int .i64 0)] s fun v8 s =>
 kExt 0 v8 fun v9 =>
 kExt 1 v8 fun v10 =>
 k (.tuple #[v9, v10]) s) fun J1 =>
 kLen true raw_0 fun v5 =>
 kBin .gtr v5 (.int .i64 4096) fun v6 =>
 kCond v6 (
 k (.tuple #[(.slice none 0 0), (.int .i64 3)]) s) (
 J1 [] s)
theorem F7_ok (raw_0 : Value) (s : AS) (k : Value → AS → Prop) : denFn Tryz.prog [] 7 [raw_0] s k = F7 raw_0 s k := by kernel_rfl
theorem f7 {raw_0 : Value} {s : AS} {k : Value → AS → Prop} (h : F7 raw_0 s k) : kCall Tryz.prog 7 [raw_0] s k := fn_by (F7_ok raw_0 s k) h
theorem k7_ok : okFn Tryz.prog 7 = true := by kernel_rfl

/- conch word.Here -/
def F8 (body_0 : Value) (s : AS) (k : Value → AS → Prop) : Prop :=
 kJoin (fun _ s =>
 kCall Tryz.prog 18 [body_0, (.int .i64 5)] s fun v8 s =>
 kExt 0 v8 fun v9 =>
 kExt 1 v8 fun v10 =>
 k (.tuple #[v9, v10]) s) fun J1 =>
 kLen true body_0 fun v5 =>
 kBin .gtr v5 (.int .i64 4096) fun v6 =>
 kCond v6 (
 k (.tuple #[(.slice none 0 0), (.int .i64 3)]) s) (
 J1 [] s)
theorem F8_ok (body_0 : Value) (s : AS) (k : Value → AS → Prop) : denFn Tryz.prog [] 8 [body_0] s k = F8 body_0 s k := by kernel_rfl
theorem f8 {body_0 : Value} {s : AS} {k : Value → AS → Prop} (h : F8 body_0 s k) : kCall Tryz.prog 8 [body_0] s k := fn_by (F8_ok body_0 s k) h
theorem k8_ok : okFn Tryz.prog 8 = true := by kernel_rfl

/- conch conchref05.Here -/
def F9 (body_0 : Value) (s : AS) (k : Value → AS → Prop) : Prop :=
 kJoin (fun _ s =>
 kCall Tryz.prog 19 [body_0, (.int .i64 5)] s fun v8 s =>
 kExt 0 v8 fun v9 =>
 kExt 1 v8 fun v10 =>
 k (.tuple #[v9, v10]) s) fun J1 =>
 kLen true body_0 fun v5 =>
 kBin .gtr v5 (.int .i64 4096) fun v6 =>
 kCond v6 (
 k (.tuple #[(.slice none 0 0), (.int .i64 3)]) s) (
 J1 [] s)
theorem F9_ok (body_0 : Value) (s : AS) (k : Value → AS → Prop) : denFn Tryz.prog [] 9 [body_0] s k = F9 body_0 s k := by kernel_rfl
theorem f9 {body_0 : Value} {s : AS} {k : Value → AS → Prop} (h : F9 body_0 s k) : kCall Tryz.prog 9 [body_0] s k := fn_by (F9_ok body_0 s k) h
theorem k9_ok : okFn Tryz.prog 9 = true := by kernel_rfl

/- conch conchref05.Same -/
def F10 (a_0 b_1 : Value) (s : AS) (k : Value → AS → Prop) : Prop :=
 kJoin (fun _ s =>
 kJoin (fun _ s =>
 k (.bool true) s) fun J2 =>
 kLoop (fun again3 xs s =>
 un1 xs fun i_5 =>
 kJoin (fun _ s =>
 kJoin (fun _ s =>
 kBin .add i_5 (.int .i64 1) fun v18 =>
 again3 [v18] s) fun J5 =>
 kIdx 6 a_0 i_5 fun v21 =>
 kLdN s 6 v21 fun v22 =>
 kNew s [(.int .i64 0), (.string (bs [])), (.bool false), (.int .i64 0), (.bool false), (.slice none 0 0)] fun p_6 s =>
 kSt s 6 p_6 v22 fun s =>
 kIdx 6 b_1 i_5 fun v25 =>
 kLdN s 6 v25 fun v26 =>
 kNew s [(.int .i64 0), (.string (bs [])), (.bool false), (.int .i64 0), (.bool false), (.slice none 0 0)] fun q_7 s =>
 kSt s 6 q_7 v26 fun s =>
 kFld 0 p_6 fun v27 =>
 kLd s v27 fun v28 =>
 kFld 0 q_7 fun v29 =>
 kLd s v29 fun v30 =>
 kBin .neq v28 v30 fun v31 =>
 kGrd v31 false (fun k =>
 kFld 1 p_6 fun v33 =>
 kLd s v33 fun v34 =>
 kFld 1 q_7 fun v35 =>
 kLd s v35 fun v36 =>
 kBin .neq v34 v36 fun v37 =>
 k [v37] s) [undef] s fun xs s =>
 un1 xs fun v37 =>
 kPick v31 (.bool true) v37 fun v38 =>
 kGrd v38 false (fun k =>
 kFld 2 p_6 fun v40 =>
 kLd s v40 fun v41 =>
 kFld 2 q_7 fun v42 =>
 kLd s v42 fun v43 =>
 kEq 4 true v41 v43 fun v44 =>
 k [v44] s) [undef] s fun xs s =>
 un1 xs fun v44 =>
 kPick v38 (.bool true) v44 fun v45 =>
 kGrd v45 false (fun k =>
 kFld 3 p_6 fun v47 =>
 kLd s v47 fun v48 =>
 kFld 3 q_7 fun v49 =>
 kLd s v49 fun v50 =>
 kBin .neq v48 v50 fun v51 =>
 k [v51] s) [undef] s fun xs s =>
 un1 xs fun v51 =>
 kPick v45 (.bool true) v51 fun v52 =>
 kGrd v52 false (fun k =>
 kFld 4 p_6 fun v54 =>
 kLd s v54 fun v55 =>
 kFld 4 q_7 fun v56 =>
 kLd s v56 fun v57 =>
 kEq 4 true v55 v57 fun v58 =>
 k [v58] s) [undef] s fun xs s =>
 un1 xs fun v58 =>
 kPick v52 (.bool true) v58 fun v59 =>
 kGrd v59 false (fun k =>
 kFld 5 p_6 fun v61 =>
 kLd s v61 fun v62 =>
 kFld 5 q_7 fun v63 =>
 kLd s v63 fun v64 =>
 kCall Tryz.prog 10 [v62, v64] s fun v65 s =>
 kUn .not v65 fun v66 =>
 k [v66] s) [undef] s fun xs s =>
 un1 xs fun v66 =>
 kPick v59 (.bool true) v66 fun v67 =>
 kCond v67 (
 k (.bool false) s) (
 J5 [] s)) fun J4 =>
 kLen false a_0 fun v15 =>
 kBin .lss i_5 v15 fun v16 =>
 kCond v16 (
 J4 [] s) (
 J2 [] s)) [(.int .i64 0)] s) fun J1 =>
 kLen false a_0 fun v9 =>
 kLen false b_1 fun v11 =>
 kBin .neq v9 v11 fun v12 =>
 kCond v12 (
 k (.bool false) s) (
 J1 [] s)
theorem F10_ok (a_0 b_1 : Value) (s : AS) (k : Value → AS → Prop) : denFn Tryz.prog [] 10 [a_0, b_1] s k = F10 a_0 b_1 s k := by kernel_rfl
theorem f10 {a_0 b_1 : Value} {s : AS} {k : Value → AS → Prop} (h : F10 a_0 b_1 s k) : kCall Tryz.prog 10 [a_0, b_1] s k := fn_by (F10_ok a_0 b_1 s k) h
theorem k10_ok : okFn Tryz.prog 10 = true := by kernel_rfl

/- conch conchlaw05.Size -/
def F11 (w_0 : Value) (s : AS) (k : Value → AS → Prop) : Prop :=
 kJoin (fun xs s =>
 un1 xs fun n_3 =>
 k n_3 s) fun J1 =>
 kLoop (fun again2 xs s =>
 un2 xs fun n_3 i_4 =>
 kJoin (fun _ s =>
 kJoin (fun xs s =>
 un1 xs fun n_3 =>
 kBin .add i_4 (.int .i64 1) fun v14 =>
 again2 [n_3, v14] s) fun J4 =>
 kBin .add n_3 (.int .i64 1) fun v16 =>
 kIdx 6 w_0 i_4 fun v19 =>
 kFld 1 v19 fun v20 =>
 kIdx 6 w_0 i_4 fun v27 =>
 kFld 5 v27 fun v28 =>
 kLd s v20 fun v21 =>
 kLen true v21 fun v22 =>
 kMin v22 (.int .i64 1000) fun v23 =>
 kBin .add v16 v23 fun v24 =>
 kLd s v28 fun v29 =>
 kCall Tryz.prog 11 [v29] s fun v30 s =>
 kChk s v20 v21 (
 kBin .add v24 v30 fun v31 =>
 J4 [v31] s)) fun J3 =>
 kLen false w_0 fun v7 =>
 kBin .lss i_4 v7 fun v8 =>
 kGrd v8 true (fun k =>
 kBin .leq n_3 (.int .i64 600) fun v11 =>
 k [v11] s) [undef] s fun xs s =>
 un1 xs fun v11 =>
 kPick v8 v11 (.bool false) fun v12 =>
 kCond v12 (
 J3 [] s) (
 J1 [n_3] s)) [(.int .i64 0), (.int .i64 0)] s
theorem F11_ok (w_0 : Value) (s : AS) (k : Value → AS → Prop) : denFn Tryz.prog [(5, (.go 0 (.go 1 (.go 2 (.go 3 (.go 4 (.go 5 (.go 10 (.go 11 (.go 12 (.go 13 (.go 6 (.go 7 (.go 8 (.go 9 (.go 14 (.go 15 (.go 16 (.go 17 .done)))))))))))))))))))] 11 [w_0] s k = F11 w_0 s k := by kernel_rfl
theorem f11 {w_0 : Value} {s : AS} {k : Value → AS → Prop} (h : F11 w_0 s k) : kCall Tryz.prog 11 [w_0] s k := fn_by (F11_ok w_0 s k) h
theorem k11_ok : okFn Tryz.prog 11 = true := by kernel_rfl

/- conch word.Print -/
def F12 (w_0 : Value) (s : AS) (k : Value → AS → Prop) : Prop :=
 kCall Tryz.prog 20 [w_0, (.int .i64 0), (.func (.func 6) #[] #[])] s fun v5 s =>
 kExt 0 v5 fun v6 =>
 kExt 1 v5 fun v7 =>
 k (.tuple #[v6, v7]) s
theorem F12_ok (w_0 : Value) (s : AS) (k : Value → AS → Prop) : denFn Tryz.prog [] 12 [w_0] s k = F12 w_0 s k := by kernel_rfl
theorem f12 {w_0 : Value} {s : AS} {k : Value → AS → Prop} (h : F12 w_0 s k) : kCall Tryz.prog 12 [w_0] s k := fn_by (F12_ok w_0 s k) h
theorem k12_ok : okFn Tryz.prog 12 = true := by kernel_rfl

/- conch conchref05.Print -/
def F13 (w_0 : Value) (s : AS) (k : Value → AS → Prop) : Prop :=
 kCall Tryz.prog 21 [w_0, (.int .i64 0)] s fun v8 s =>
 kCall Tryz.prog 7 [v8] s fun v11 s =>
 kExt 0 v11 fun v12 =>
 kExt 1 v11 fun v13 =>
 kJoin (fun _ s =>
 k (.tuple #[v8, (.int .i64 0)]) s) fun J1 =>
 kBin .neq v13 (.int .i64 0) fun v15 =>
 kGrd v15 false (fun k =>
 kCall Tryz.prog 10 [v12, w_0] s fun v19 s =>
 kUn .not v19 fun v20 =>
 k [v20] s) [undef] s fun xs s =>
 un1 xs fun v20 =>
 kPick v15 (.bool true) v20 fun v21 =>
 kCond v21 (
 k (.tuple #[(.string (bs [])), (.int .i64 1)]) s) (
 J1 [] s)
theorem F13_ok (w_0 : Value) (s : AS) (k : Value → AS → Prop) : denFn Tryz.prog [] 13 [w_0] s k = F13 w_0 s k := by kernel_rfl
theorem f13 {w_0 : Value} {s : AS} {k : Value → AS → Prop} (h : F13 w_0 s k) : kCall Tryz.prog 13 [w_0] s k := fn_by (F13_ok w_0 s k) h
theorem k13_ok : okFn Tryz.prog 13 = true := by kernel_rfl

/- conch word.PrintHere -/
def F14 (w_0 : Value) (s : AS) (k : Value → AS → Prop) : Prop :=
 kCall Tryz.prog 20 [w_0, (.int .i64 5), (.func (.func 8) #[] #[])] s fun v5 s =>
 kExt 0 v5 fun v6 =>
 kExt 1 v5 fun v7 =>
 k (.tuple #[v6, v7]) s
theorem F14_ok (w_0 : Value) (s : AS) (k : Value → AS → Prop) : denFn Tryz.prog [] 14 [w_0] s k = F14 w_0 s k := by kernel_rfl
theorem f14 {w_0 : Value} {s : AS} {k : Value → AS → Prop} (h : F14 w_0 s k) : kCall Tryz.prog 14 [w_0] s k := fn_by (F14_ok w_0 s k) h
theorem k14_ok : okFn Tryz.prog 14 = true := by kernel_rfl

/- conch conchref05.PrintHere -/
def F15 (w_0 : Value) (s : AS) (k : Value → AS → Prop) : Prop :=
 kCall Tryz.prog 21 [w_0, (.int .i64 5)] s fun v8 s =>
 kCall Tryz.prog 9 [v8] s fun v11 s =>
 kExt 0 v11 fun v12 =>
 kExt 1 v11 fun v13 =>
 kJoin (fun _ s =>
 k (.tuple #[v8, (.int .i64 0)]) s) fun J1 =>
 kBin .neq v13 (.int .i64 0) fun v15 =>
 kGrd v15 false (fun k =>
 kCall Tryz.prog 10 [v12, w_0] s fun v19 s =>
 kUn .not v19 fun v20 =>
 k [v20] s) [undef] s fun xs s =>
 un1 xs fun v20 =>
 kPick v15 (.bool true) v20 fun v21 =>
 kCond v21 (
 k (.tuple #[(.string (bs [])), (.int .i64 1)]) s) (
 J1 [] s)
theorem F15_ok (w_0 : Value) (s : AS) (k : Value → AS → Prop) : denFn Tryz.prog [] 15 [w_0] s k = F15 w_0 s k := by kernel_rfl
theorem f15 {w_0 : Value} {s : AS} {k : Value → AS → Prop} (h : F15 w_0 s k) : kCall Tryz.prog 15 [w_0] s k := fn_by (F15_ok w_0 s k) h
theorem k15_ok : okFn Tryz.prog 15 = true := by kernel_rfl

/- conch word.Literal -/
def F16 (w_0 : Value) (s : AS) (k : Value → AS → Prop) : Prop :=
 kNewT s 44 [(.pointer none), (.slice none 0 0)] fun out_4 s =>
 kJoin (fun _ s =>
 kCall Tryz.prog 23 [out_4] s fun v20 s =>
 k (.tuple #[v20, (.bool true)]) s) fun J1 =>
 kLen false w_0 fun v8 =>
 kLoop (fun again2 xs s =>
 un1 xs fun v9 =>
 kBin .lss v9 v8 fun v10 =>
 kJoin (fun _ s =>
 kJoin (fun _ s =>
 kBin .add v9 (.int .i64 1) fun v19 =>
 again2 [v19] s) fun J4 =>
 kIdx 6 w_0 v9 fun v11 =>
 kLdN s 6 v11 fun v12 =>
 kNew s [(.int .i64 0), (.string (bs [])), (.bool false), (.int .i64 0), (.bool false), (.slice none 0 0)] fun p_6 s =>
 kSt s 6 p_6 v12 fun s =>
 kJoin (fun _ s =>
 kFld 1 p_6 fun v16 =>
 kLd s v16 fun v17 =>
 kCall Tryz.prog 22 [out_4, v17] s fun v18 s =>
 J4 [] s) fun J5 =>
 kFld 0 p_6 fun v13 =>
 kLd s v13 fun v14 =>
 kBin .neq v14 (.int .i64 1) fun v15 =>
 kCond v15 (
 k (.tuple #[(.string (bs [])), (.bool false)]) s) (
 J5 [] s)) fun J3 =>
 kCond v10 (
 J3 [] s) (
 J1 [] s)) [(.int .i64 0)] s
theorem F16_ok (w_0 : Value) (s : AS) (k : Value → AS → Prop) : denFn Tryz.prog [] 16 [w_0] s k = F16 w_0 s k := by kernel_rfl
theorem f16 {w_0 : Value} {s : AS} {k : Value → AS → Prop} (h : F16 w_0 s k) : kCall Tryz.prog 16 [w_0] s k := fn_by (F16_ok w_0 s k) h
theorem k16_ok : okFn Tryz.prog 16 = true := by kernel_rfl

/- conch conchref05.Literal -/
def F17 (w_0 : Value) (s : AS) (k : Value → AS → Prop) : Prop :=
 kJoin (fun xs s =>
 un1 xs fun s_4 =>
 k (.tuple #[s_4, (.bool true)]) s) fun J1 =>
 kLoop (fun again2 xs s =>
 un2 xs fun s_4 i_5 =>
 kJoin (fun _ s =>
 kJoin (fun xs s =>
 un1 xs fun s_4 =>
 kBin .add i_5 (.int .i64 1) fun v11 =>
 again2 [s_4, v11] s) fun J4 =>
 kJoin (fun _ s =>
 kIdx 6 w_0 i_5 fun v21 =>
 kFld 1 v21 fun v22 =>
 kLd s v22 fun v23 =>
 kBin .add s_4 v23 fun v24 =>
 J4 [v24] s) fun J5 =>
 kIdx 6 w_0 i_5 fun v14 =>
 kFld 0 v14 fun v15 =>
 kLd s v15 fun v16 =>
 kBin .neq v16 (.int .i64 1) fun v17 =>
 kCond v17 (
 k (.tuple #[(.string (bs [])), (.bool false)]) s) (
 J5 [] s)) fun J3 =>
 kLen false w_0 fun v8 =>
 kBin .lss i_5 v8 fun v9 =>
 kCond v9 (
 J3 [] s) (
 J1 [s_4] s)) [(.string (bs [])), (.int .i64 0)] s
theorem F17_ok (w_0 : Value) (s : AS) (k : Value → AS → Prop) : denFn Tryz.prog [] 17 [w_0] s k = F17 w_0 s k := by kernel_rfl
theorem f17 {w_0 : Value} {s : AS} {k : Value → AS → Prop} (h : F17 w_0 s k) : kCall Tryz.prog 17 [w_0] s k := fn_by (F17_ok w_0 s k) h
theorem k17_ok : okFn Tryz.prog 17 = true := by kernel_rfl

/- conch word.read -/
def F18 (s_0 way_1 : Value) (s : AS) (k : Value → AS → Prop) : Prop :=
 kBuild [(.slice none 0 0), (.int .i64 0)] [] fun v11 =>
 kNew s (cellsV v11) fun v12 s =>
 kJoin (fun _ s =>
 kNck v12 fun v61 =>
 kFld 0 v61 fun v62 =>
 kLd s v62 fun v63 =>
 k (.tuple #[v63, (.int .i64 0)]) s) fun J1 =>
 kLoop (fun again2 xs s =>
 un1 xs fun i_7 =>
 kJoin (fun _ s =>
 kJoin (fun xs s =>
 un1 xs fun i_7 =>
 kCall Tryz.prog 26 [s_0, i_7, way_1] s fun v37 s =>
 kExt 0 v37 fun v38 =>
 kExt 1 v37 fun v39 =>
 kJoin (fun _ s =>
 kSubS s_0 (some i_7) (some v38) fun v47 =>
 kCall Tryz.prog 27 [v12, v47, way_1] s fun v49 s =>
 kJoin (fun _ s =>
 again2 [v38] s) fun J6 =>
 kNck v12 fun v51 =>
 kFld 1 v51 fun v52 =>
 kLd s v52 fun v53 =>
 kBin .neq v53 (.int .i64 0) fun v54 =>
 kCond v54 (
 kNck v12 fun v56 =>
 kFld 1 v56 fun v57 =>
 kLd s v57 fun v58 =>
 k (.tuple #[(.slice none 0 0), v58]) s) (
 J6 [] s)) fun J5 =>
 kBin .neq v39 (.int .i64 0) fun v41 =>
 kCond v41 (
 k (.tuple #[(.slice none 0 0), v39]) s) (
 J5 [] s)) fun J4 =>
 kIxS s_0 i_7 fun v19 =>
 kBin .eql v19 (.int .u8 36) fun v20 =>
 kCond v20 (
 kSubS s_0 (some i_7) none fun v24 =>
 kCall Tryz.prog 25 [way_1] s fun v26 s =>
 kCall Tryz.prog 24 [v12, v24, v26] s fun v27 s =>
 kBin .gtr v27 (.int .i64 0) fun v29 =>
 kCond v29 (
 kBin .add i_7 v27 fun v32 =>
 again2 [v32] s) (
 J4 [i_7] s)) (
 J4 [i_7] s)) fun J3 =>
 kLen true s_0 fun v15 =>
 kBin .lss i_7 v15 fun v16 =>
 kCond v16 (
 J3 [] s) (
 J1 [] s)) [(.int .i64 0)] s
theorem F18_ok (s_0 way_1 : Value) (s : AS) (k : Value → AS → Prop) : denFn Tryz.prog [(5, (.go 0 (.go 1 (.go 2 (.go 3 (.go 4 (.go 5 (.go 6 (.go 7 .done))))))))), (13, (.go 0 (.go 1 (.go 2 (.go 4 (.go 3 (.go 5 .done)))))))] 18 [s_0, way_1] s k = F18 s_0 way_1 s k := by kernel_rfl
theorem f18 {s_0 way_1 : Value} {s : AS} {k : Value → AS → Prop} (h : F18 s_0 way_1 s k) : kCall Tryz.prog 18 [s_0, way_1] s k := fn_by (F18_ok s_0 way_1 s k) h
theorem k18_ok : okFn Tryz.prog 18 = true := by kernel_rfl

/- conch conchref05.read -/
def F19 (s_0 way_1 : Value) (s : AS) (k : Value → AS → Prop) : Prop :=
 kBuild [(.slice none 0 0), (.int .i64 0)] [] fun v13 =>
 kNew s (cellsV v13) fun v14 s =>
 kJoin (fun _ s =>
 kNck v14 fun v92 =>
 kFld 0 v92 fun v93 =>
 kLd s v93 fun v94 =>
 k (.tuple #[v94, (.int .i64 0)]) s) fun J1 =>
 kLoop (fun again2 xs s =>
 un1 xs fun i_7 =>
 kJoin (fun _ s =>
 kJoin (fun xs s =>
 un1 xs fun i_7 =>
 kBin .geq way_1 (.int .i64 2) fun v54 =>
 kJoin (fun xs s =>
 un1 xs fun quoted_9 =>
 kCall Tryz.prog 31 [s_0, i_7, quoted_9] s fun v67 s =>
 kExt 0 v67 fun v68 =>
 kExt 1 v67 fun v69 =>
 kExt 2 v67 fun v70 =>
 kJoin (fun _ s =>
 kSubS s_0 (some i_7) (some v68) fun v78 =>
 kCall Tryz.prog 32 [v14, v78, way_1] s fun v80 s =>
 kJoin (fun _ s =>
 again2 [v68] s) fun J7 =>
 kNck v14 fun v82 =>
 kFld 1 v82 fun v83 =>
 kLd s v83 fun v84 =>
 kBin .neq v84 (.int .i64 0) fun v85 =>
 kCond v85 (
 kNck v14 fun v87 =>
 kFld 1 v87 fun v88 =>
 kLd s v88 fun v89 =>
 k (.tuple #[(.slice none 0 0), v89]) s) (
 J7 [] s)) fun J6 =>
 kBin .neq v70 (.int .i64 0) fun v72 =>
 kCond v72 (
 k (.tuple #[(.slice none 0 0), v70]) s) (
 J6 [] s)) fun J5 =>
 kIxS s_0 i_7 fun v57 =>
 kBin .eql v57 (.int .u8 34) fun v58 =>
 kGrd v58 true (fun k =>
 kBin .neq way_1 (.int .i64 5) fun v61 =>
 k [v61] s) [undef] s fun xs s =>
 un1 xs fun v61 =>
 kPick v58 v61 (.bool false) fun v62 =>
 kCond v62 (
 J5 [(.bool false)] s) (
 J5 [v54] s)) fun J4 =>
 kIxS s_0 i_7 fun v21 =>
 kBin .eql v21 (.int .u8 36) fun v22 =>
 kGrd v22 true (fun k =>
 kBin .add i_7 (.int .i64 1) fun v26 =>
 kSubS s_0 (some v26) none fun v27 =>
 kCall Tryz.prog 28 [v27] s fun v28 s =>
 kBin .gtr v28 (.int .i64 0) fun v29 =>
 k [v29] s) [undef] s fun xs s =>
 un1 xs fun v29 =>
 kPick v22 v29 (.bool false) fun v30 =>
 kCond v30 (
 kBin .add i_7 (.int .i64 1) fun v33 =>
 kSubS s_0 (some v33) none fun v34 =>
 kCall Tryz.prog 28 [v34] s fun v35 s =>
 kBin .add i_7 (.int .i64 1) fun v39 =>
 kBin .add i_7 (.int .i64 1) fun v41 =>
 kBin .add v41 v35 fun v43 =>
 kSubS s_0 (some v39) (some v43) fun v44 =>
 kCall Tryz.prog 30 [way_1] s fun v46 s =>
 kBuild [(.int .i64 0), (.string (bs [])), (.bool false), (.int .i64 0), (.bool false), (.slice none 0 0)] [(0, 1, (.int .i64 2)), (1, 1, v44), (2, 1, v46)] fun v47 =>
 kCall Tryz.prog 29 [v14, v47] s fun v48 s =>
 kBin .add i_7 (.int .i64 1) fun v50 =>
 kBin .add v50 v35 fun v52 =>
 again2 [v52] s) (
 J4 [i_7] s)) fun J3 =>
 kLen true s_0 fun v17 =>
 kBin .lss i_7 v17 fun v18 =>
 kCond v18 (
 J3 [] s) (
 J1 [] s)) [(.int .i64 0)] s
theorem F19_ok (s_0 way_1 : Value) (s : AS) (k : Value → AS → Prop) : denFn Tryz.prog [(6, (.go 0 (.go 1 (.go 2 (.go 3 (.go 4 (.go 5 (.go 6 (.go 7 (.go 8 (.go 9 (.go 10 (.go 11 (.go 12 .done)))))))))))))), (16, (.go 0 (.go 1 (.go 2 (.go 4 (.go 3 (.go 5 .done)))))))] 19 [s_0, way_1] s k = F19 s_0 way_1 s k := by kernel_rfl
theorem f19 {s_0 way_1 : Value} {s : AS} {k : Value → AS → Prop} (h : F19 s_0 way_1 s k) : kCall Tryz.prog 19 [s_0, way_1] s k := fn_by (F19_ok s_0 way_1 s k) h
theorem k19_ok : okFn Tryz.prog 19 = true := by kernel_rfl

/- conch word.printed -/
def F20 (w_0 way_1 parse_2 : Value) (s : AS) (k : Value → AS → Prop) : Prop :=
 kCall Tryz.prog 33 [w_0, way_1] s fun v13 s =>
 kCallv Tryz.prog parse_2 [v13] s fun v17 s =>
 kExt 0 v17 fun v18 =>
 kExt 1 v17 fun v19 =>
 kJoin (fun _ s =>
 k (.tuple #[v13, (.int .i64 0)]) s) fun J1 =>
 kBin .neq v19 (.int .i64 0) fun v21 =>
 kGrd v21 false (fun k =>
 kCall Tryz.prog 34 [v18, w_0] s fun v25 s =>
 kUn .not v25 fun v26 =>
 k [v26] s) [undef] s fun xs s =>
 un1 xs fun v26 =>
 kPick v21 (.bool true) v26 fun v27 =>
 kCond v27 (
 k (.tuple #[(.string (bs [])), (.int .i64 1)]) s) (
 J1 [] s)
theorem F20_ok (w_0 way_1 parse_2 : Value) (s : AS) (k : Value → AS → Prop) : denFn Tryz.prog [] 20 [w_0, way_1, parse_2] s k = F20 w_0 way_1 parse_2 s k := by kernel_rfl
theorem f20 {w_0 way_1 parse_2 : Value} {s : AS} {k : Value → AS → Prop} (h : F20 w_0 way_1 parse_2 s k) : kCall Tryz.prog 20 [w_0, way_1, parse_2] s k := fn_by (F20_ok w_0 way_1 parse_2 s k) h
theorem k20_ok : okFn Tryz.prog 20 = true := by kernel_rfl

/- conch conchref05.written -/
def F21 (w_0 way_1 : Value) (s : AS) (k : Value → AS → Prop) : Prop :=
 kJoin (fun xs s =>
 un1 xs fun s_5 =>
 k s_5 s) fun J1 =>
 kLoop (fun again2 xs s =>
 un2 xs fun s_5 i_6 =>
 kJoin (fun _ s =>
 kJoin (fun xs s =>
 un1 xs fun s_5 =>
 kBin .add i_6 (.int .i64 1) fun v12 =>
 again2 [s_5, v12] s) fun J4 =>
 kIdx 6 w_0 i_6 fun v16 =>
 kLdN s 6 v16 fun v17 =>
 kCall Tryz.prog 35 [v17, way_1] s fun v19 s =>
 kBin .add s_5 v19 fun v20 =>
 J4 [v20] s) fun J3 =>
 kLen false w_0 fun v9 =>
 kBin .lss i_6 v9 fun v10 =>
 kCond v10 (
 J3 [] s) (
 J1 [s_5] s)) [(.string (bs [])), (.int .i64 0)] s
theorem F21_ok (w_0 way_1 : Value) (s : AS) (k : Value → AS → Prop) : denFn Tryz.prog [] 21 [w_0, way_1] s k = F21 w_0 way_1 s k := by kernel_rfl
theorem f21 {w_0 way_1 : Value} {s : AS} {k : Value → AS → Prop} (h : F21 w_0 way_1 s k) : kCall Tryz.prog 21 [w_0, way_1] s k := fn_by (F21_ok w_0 way_1 s k) h
theorem k21_ok : okFn Tryz.prog 21 = true := by kernel_rfl

/- (*strings.Builder).WriteString -/
def F22 (b_0 s_1 : Value) (s : AS) (k : Value → AS → Prop) : Prop :=
 kCall Tryz.prog 36 [b_0] s fun v7 s =>
 kNck b_0 fun v10 =>
 kFld 1 v10 fun v11 =>
 kLd s v11 fun v12 =>
 kApp Tryz.prog 42 9 v12 s_1 s fun v14 s =>
 kNck b_0 fun v15 =>
 kFld 1 v15 fun v16 =>
 kSt s 1 v16 v14 fun s =>
 kLen true s_1 fun v18 =>
 k (.tuple #[v18, .nilIface]) s
theorem F22_ok (b_0 s_1 : Value) (s : AS) (k : Value → AS → Prop) : denFn Tryz.prog [] 22 [b_0, s_1] s k = F22 b_0 s_1 s k := by kernel_rfl
theorem f22 {b_0 s_1 : Value} {s : AS} {k : Value → AS → Prop} (h : F22 b_0 s_1 s k) : kCall Tryz.prog 22 [b_0, s_1] s k := fn_by (F22_ok b_0 s_1 s k) h
theorem k22_ok : okFn Tryz.prog 22 = true := by kernel_rfl

/- (*strings.Builder).String -/
def F23 (b_0 : Value) (s : AS) (k : Value → AS → Prop) : Prop :=
 kNck b_0 fun v4 =>
 kFld 1 v4 fun v5 =>
 kNck b_0 fun v9 =>
 kFld 1 v9 fun v10 =>
 kLd s v5 fun v6 =>
 kLd s v10 fun v11 =>
 kLen false v11 fun v12 =>
 kGen Tryz.prog (.blt .unsafeSliceData [42] 66) [v6] s fun v7 s =>
 kChk s v10 v11 (
 kGen Tryz.prog (.blt .unsafeString [66, 3] 9) [v7, v12] s fun v13 s =>
 k v13 s)
theorem F23_ok (b_0 : Value) (s : AS) (k : Value → AS → Prop) : denFn Tryz.prog [(1, (.go 0 (.go 1 (.go 2 (.go 5 (.go 6 (.go 7 (.go 3 (.go 8 (.go 9 (.go 4 (.go 10 (.go 11 .done)))))))))))))] 23 [b_0] s k = F23 b_0 s k := by kernel_rfl
theorem f23 {b_0 : Value} {s : AS} {k : Value → AS → Prop} (h : F23 b_0 s k) : kCall Tryz.prog 23 [b_0] s k := fn_by (F23_ok b_0 s k) h
theorem k23_ok : okFn Tryz.prog 23 = true := by kernel_rfl

/- (*conch word.reader).dollar -/
def F24 (r_0 s_1 quote_2 : Value) (s : AS) (k : Value → AS → Prop) : Prop :=
 kJoin (fun xs s =>
 un1 xs fun n_7 =>
 kBin .add (.int .i64 1) n_7 fun v34 =>
 kSubS s_1 (some (.int .i64 1)) (some v34) fun v35 =>
 kBuild [(.int .i64 0), (.string (bs [])), (.bool false), (.int .i64 0), (.bool false), (.slice none 0 0)] [(0, 1, (.int .i64 2)), (1, 1, v35), (2, 1, quote_2)] fun v37 =>
 kCall Tryz.prog 40 [r_0, v37] s fun v38 s =>
 kBin .add (.int .i64 1) n_7 fun v40 =>
 k v40 s) fun J1 =>
 kSubS s_1 (some (.int .i64 1)) none fun v10 =>
 kCall Tryz.prog 37 [v10] s fun v13 s =>
 kBin .gtr v13 (.int .i64 0) fun v14 =>
 kCond v14 (
 kCall Tryz.prog 37 [v10] s fun v16 s =>
 J1 [v16] s) (
 kBin .neq v10 (.string (bs [])) fun v19 =>
 kGrd v19 true (fun k =>
 kIxS v10 (.int .i64 0) fun v22 =>
 kCall Tryz.prog 38 [v22] s fun v23 s =>
 k [v23] s) [undef] s fun xs s =>
 un1 xs fun v24 =>
 kGrd v24 false (fun k =>
 kIxS v10 (.int .i64 0) fun v26 =>
 kCall Tryz.prog 39 [(.string (bs [64, 42, 35, 63])), v26] s fun v27 s =>
 kBin .geq v27 (.int .i64 0) fun v28 =>
 k [v28] s) [undef] s fun xs s =>
 un1 xs fun v28 =>
 kGrd v19 true (fun k =>
 kPick v24 (.bool true) v28 fun v29 =>
 k [v29] s) [undef] s fun xs s =>
 un1 xs fun v29 =>
 kPick v19 v29 (.bool false) fun v30 =>
 kCond v30 (
 J1 [(.int .i64 1)] s) (
 k (.int .i64 0) s))
theorem F24_ok (r_0 s_1 quote_2 : Value) (s : AS) (k : Value → AS → Prop) : denFn Tryz.prog [] 24 [r_0, s_1, quote_2] s k = F24 r_0 s_1 quote_2 s k := by kernel_rfl
theorem f24 {r_0 s_1 quote_2 : Value} {s : AS} {k : Value → AS → Prop} (h : F24 r_0 s_1 quote_2 s k) : kCall Tryz.prog 24 [r_0, s_1, quote_2] s k := fn_by (F24_ok r_0 s_1 quote_2 s k) h
theorem k24_ok : okFn Tryz.prog 24 = true := by kernel_rfl

/- conch word.within -/
def F25 (way_0 : Value) (s : AS) (k : Value → AS → Prop) : Prop :=
 kBin .eql way_0 (.int .i64 2) fun v4 =>
 kGrd v4 false (fun k =>
 kBin .eql way_0 (.int .i64 3) fun v7 =>
 k [v7] s) [undef] s fun xs s =>
 un1 xs fun v7 =>
 kPick v4 (.bool true) v7 fun v8 =>
 kGrd v8 false (fun k =>
 kBin .eql way_0 (.int .i64 5) fun v11 =>
 k [v11] s) [undef] s fun xs s =>
 un1 xs fun v11 =>
 kPick v8 (.bool true) v11 fun v12 =>
 k v12 s
theorem F25_ok (way_0 : Value) (s : AS) (k : Value → AS → Prop) : denFn Tryz.prog [] 25 [way_0] s k = F25 way_0 s k := by kernel_rfl
theorem f25 {way_0 : Value} {s : AS} {k : Value → AS → Prop} (h : F25 way_0 s k) : kCall Tryz.prog 25 [way_0] s k := fn_by (F25_ok way_0 s k) h
theorem k25_ok : okFn Tryz.prog 25 = true := by kernel_rfl

/- conch word.end -/
def F26 (s_0 i_1 way_2 : Value) (s : AS) (k : Value → AS → Prop) : Prop :=
 kJoin (fun _ s =>
 kCall Tryz.prog 41 [s_0, i_1, (.bool false)] s fun v52 s =>
 kExt 0 v52 fun v53 =>
 kExt 1 v52 fun v54 =>
 kExt 2 v52 fun v55 =>
 k (.tuple #[v53, v55]) s) fun J1 =>
 kIxS s_0 i_1 fun v20 =>
 kBin .eql v20 (.int .u8 34) fun v23 =>
 kGrd v23 true (fun k =>
 kBin .neq way_2 (.int .i64 5) fun v26 =>
 k [v26] s) [undef] s fun xs s =>
 un1 xs fun v26 =>
 kPick v23 v26 (.bool false) fun v27 =>
 kCond v27 (
 kCall Tryz.prog 41 [s_0, i_1, (.bool false)] s fun v31 s =>
 kExt 0 v31 fun v32 =>
 kExt 1 v31 fun v33 =>
 kExt 2 v31 fun v34 =>
 k (.tuple #[v32, v34]) s) (
 kBin .geq way_2 (.int .i64 2) fun v39 =>
 kCond v39 (
 kCall Tryz.prog 41 [s_0, i_1, (.bool true)] s fun v43 s =>
 kExt 0 v43 fun v44 =>
 kExt 1 v43 fun v45 =>
 kExt 2 v43 fun v46 =>
 k (.tuple #[v44, v46]) s) (
 J1 [] s))
theorem F26_ok (s_0 i_1 way_2 : Value) (s : AS) (k : Value → AS → Prop) : denFn Tryz.prog [] 26 [s_0, i_1, way_2] s k = F26 s_0 i_1 way_2 s k := by kernel_rfl
theorem f26 {s_0 i_1 way_2 : Value} {s : AS} {k : Value → AS → Prop} (h : F26 s_0 i_1 way_2 s k) : kCall Tryz.prog 26 [s_0, i_1, way_2] s k := fn_by (F26_ok s_0 i_1 way_2 s k) h
theorem k26_ok : okFn Tryz.prog 26 = true := by kernel_rfl

/- (*conch word.reader).thing -/
def F27 (r_0 t_1 way_2 : Value) (s : AS) (k : Value → AS → Prop) : Prop :=
 kIxS t_1 (.int .i64 0) fun v13 =>
 kBin .eql v13 (.int .u8 92) fun v14 =>
 kCond v14 (
 kCall Tryz.prog 42 [r_0, t_1, way_2] s fun v18 s =>
 k undef s) (
 kIxS t_1 (.int .i64 0) fun v21 =>
 kBin .eql v21 (.int .u8 39) fun v22 =>
 kGrd v22 true (fun k =>
 kLen true t_1 fun v25 =>
 kBin .gtr v25 (.int .i64 1) fun v26 =>
 k [v26] s) [undef] s fun xs s =>
 un1 xs fun v26 =>
 kPick v22 v26 (.bool false) fun v27 =>
 kCond v27 (
 kLen true t_1 fun v31 =>
 kBin .sub v31 (.int .i64 1) fun v32 =>
 kSubS t_1 (some (.int .i64 1)) (some v32) fun v33 =>
 kCall Tryz.prog 43 [r_0, v33, (.bool true)] s fun v34 s =>
 k undef s) (
 kIxS t_1 (.int .i64 0) fun v37 =>
 kBin .eql v37 (.int .u8 34) fun v38 =>
 kGrd v38 true (fun k =>
 kLen true t_1 fun v41 =>
 kBin .gtr v41 (.int .i64 1) fun v42 =>
 k [v42] s) [undef] s fun xs s =>
 un1 xs fun v42 =>
 kPick v38 v42 (.bool false) fun v43 =>
 kCond v43 (
 kLen true t_1 fun v47 =>
 kBin .sub v47 (.int .i64 1) fun v48 =>
 kSubS t_1 (some (.int .i64 1)) (some v48) fun v49 =>
 kCall Tryz.prog 44 [r_0, v49] s fun v50 s =>
 k undef s) (
 kLen true t_1 fun v53 =>
 kBin .gtr v53 (.int .i64 1) fun v54 =>
 kGrd v54 true (fun k =>
 kIxS t_1 (.int .i64 1) fun v57 =>
 kBin .eql v57 (.int .u8 123) fun v58 =>
 k [v58] s) [undef] s fun xs s =>
 un1 xs fun v58 =>
 kPick v54 v58 (.bool false) fun v59 =>
 kCond v59 (
 kLen true t_1 fun v63 =>
 kBin .sub v63 (.int .i64 1) fun v64 =>
 kSubS t_1 (some (.int .i64 2)) (some v64) fun v65 =>
 kCall Tryz.prog 45 [r_0, v65, way_2] s fun v67 s =>
 k undef s) (
 kLen true t_1 fun v70 =>
 kBin .gtr v70 (.int .i64 1) fun v71 =>
 kCond v71 (
 kSubS t_1 (some (.int .i64 1)) none fun v74 =>
 kCall Tryz.prog 25 [way_2] s fun v76 s =>
 kCall Tryz.prog 46 [r_0, v74, v76] s fun v77 s =>
 k undef s) (
 kIxS t_1 (.int .i64 0) fun v80 =>
 kBin .eql v80 (.int .u8 36) fun v81 =>
 kCond v81 (
 kCall Tryz.prog 43 [r_0, t_1, (.bool true)] s fun v84 s =>
 k undef s) (
 kBin .eql way_2 (.int .i64 0) fun v87 =>
 kGrd v87 true (fun k =>
 kIxS t_1 (.int .i64 0) fun v90 =>
 kCall Tryz.prog 47 [v90] s fun v91 s =>
 k [v91] s) [undef] s fun xs s =>
 un1 xs fun v91 =>
 kPick v87 v91 (.bool false) fun v92 =>
 kCond v92 (
 kNck r_0 fun v94 =>
 kFld 1 v94 fun v95 =>
 kSt s 1 v95 (.int .i64 10) fun s =>
 k undef s) (
 kCall Tryz.prog 25 [way_2] s fun v9 s =>
 kCall Tryz.prog 43 [r_0, t_1, v9] s fun v10 s =>
 k undef s)))))))
theorem F27_ok (r_0 t_1 way_2 : Value) (s : AS) (k : Value → AS → Prop) : denFn Tryz.prog [(10, (.go 0 (.go 1 (.go 2 (.go 3 (.go 4 (.go 5 .done)))))))] 27 [r_0, t_1, way_2] s k = F27 r_0 t_1 way_2 s k := by kernel_rfl
theorem f27 {r_0 t_1 way_2 : Value} {s : AS} {k : Value → AS → Prop} (h : F27 r_0 t_1 way_2 s k) : kCall Tryz.prog 27 [r_0, t_1, way_2] s k := fn_by (F27_ok r_0 t_1 way_2 s k) h
theorem k27_ok : okFn Tryz.prog 27 = true := by kernel_rfl

/- conch conchref05.named -/
def F28 (s_0 : Value) (s : AS) (k : Value → AS → Prop) : Prop :=
 kJoin (fun _ s =>
 kJoin (fun _ s =>
 kJoin (fun _ s =>
 k (.int .i64 0) s) fun J3 =>
 kIxS s_0 (.int .i64 0) fun v11 =>
 kCall Tryz.prog 49 [v11] s fun v12 s =>
 kGrd v12 false (fun k =>
 kIxS s_0 (.int .i64 0) fun v15 =>
 kBin .eql v15 (.int .u8 64) fun v16 =>
 k [v16] s) [undef] s fun xs s =>
 un1 xs fun v16 =>
 kPick v12 (.bool true) v16 fun v17 =>
 kGrd v17 false (fun k =>
 kIxS s_0 (.int .i64 0) fun v20 =>
 kBin .eql v20 (.int .u8 42) fun v21 =>
 k [v21] s) [undef] s fun xs s =>
 un1 xs fun v21 =>
 kPick v17 (.bool true) v21 fun v22 =>
 kGrd v22 false (fun k =>
 kIxS s_0 (.int .i64 0) fun v25 =>
 kBin .eql v25 (.int .u8 35) fun v26 =>
 k [v26] s) [undef] s fun xs s =>
 un1 xs fun v26 =>
 kPick v22 (.bool true) v26 fun v27 =>
 kGrd v27 false (fun k =>
 kIxS s_0 (.int .i64 0) fun v30 =>
 kBin .eql v30 (.int .u8 63) fun v31 =>
 k [v31] s) [undef] s fun xs s =>
 un1 xs fun v31 =>
 kPick v27 (.bool true) v31 fun v32 =>
 kCond v32 (
 k (.int .i64 1) s) (
 J3 [] s)) fun J2 =>
 kCall Tryz.prog 48 [s_0] s fun v6 s =>
 kBin .gtr v6 (.int .i64 0) fun v7 =>
 kCond v7 (
 kCall Tryz.prog 48 [s_0] s fun v9 s =>
 k v9 s) (
 J2 [] s)) fun J1 =>
 kBin .eql s_0 (.string (bs [])) fun v4 =>
 kCond v4 (
 k (.int .i64 0) s) (
 J1 [] s)
theorem F28_ok (s_0 : Value) (s : AS) (k : Value → AS → Prop) : denFn Tryz.prog [] 28 [s_0] s k = F28 s_0 s k := by kernel_rfl
theorem f28 {s_0 : Value} {s : AS} {k : Value → AS → Prop} (h : F28 s_0 s k) : kCall Tryz.prog 28 [s_0] s k := fn_by (F28_ok s_0 s k) h
theorem k28_ok : okFn Tryz.prog 28 = true := by kernel_rfl

/- (*conch conchref05.reader).add -/
def F29 (r_0 p_1 : Value) (s : AS) (k : Value → AS → Prop) : Prop :=
 kNew s (cellsV p_1) fun p_3 s =>
 kNck r_0 fun v6 =>
 kFld 0 v6 fun v7 =>
 kLd s v7 fun v8 =>
 kLen false v8 fun v9 =>
 kJoin (fun _ s =>
 kNck r_0 fun v64 =>
 kFld 0 v64 fun v65 =>
 kLd s v65 fun v66 =>
 kLen false v66 fun v68 =>
 kLdN s 6 p_3 fun v67 =>
 kBsl s 1 [(.int .i64 0), (.string (bs [])), (.bool false), (.int .i64 0), (.bool false), (.slice none 0 0)] [(0, 6, (.agg #[(.int .i64 0), (.string (bs [])), (.bool false), (.int .i64 0), (.bool false), (.slice none 0 0)]))] fun v69 s =>
 kChkN s 6 p_3 v67 (
 kChk s v65 v66 (
 kApp Tryz.prog 24 24 v66 v69 s fun v70 s =>
 kIdx 6 v70 v68 fun v71 =>
 kNck r_0 fun v72 =>
 kFld 0 v72 fun v73 =>
 kAlt (
 kSt s 6 v71 v67 fun s =>
 kSt s 1 v73 v70 fun s =>
 k undef s) (
 kSt s 1 v73 v70 fun s =>
 kSt s 6 v71 v67 fun s =>
 k undef s)))) fun J1 =>
 kFld 0 p_3 fun v10 =>
 kLd s v10 fun v11 =>
 kBin .eql v11 (.int .i64 1) fun v12 =>
 kGrd v12 true (fun k =>
 kBin .gtr v9 (.int .i64 0) fun v15 =>
 k [v15] s) [undef] s fun xs s =>
 un1 xs fun v15 =>
 kPick v12 v15 (.bool false) fun v16 =>
 kGrd v16 true (fun k =>
 kNck r_0 fun v19 =>
 kFld 0 v19 fun v20 =>
 kBin .sub v9 (.int .i64 1) fun v23 =>
 kLd s v20 fun v21 =>
 kIdx 6 v21 v23 fun v24 =>
 kFld 0 v24 fun v25 =>
 kLd s v25 fun v26 =>
 kBin .eql v26 (.int .i64 1) fun v27 =>
 k [v27] s) [undef] s fun xs s =>
 un1 xs fun v27 =>
 kPick v16 v27 (.bool false) fun v28 =>
 kGrd v28 true (fun k =>
 kNck r_0 fun v31 =>
 kFld 0 v31 fun v32 =>
 kBin .sub v9 (.int .i64 1) fun v35 =>
 kFld 2 p_3 fun v39 =>
 kLd s v32 fun v33 =>
 kIdx 6 v33 v35 fun v36 =>
 kFld 2 v36 fun v37 =>
 kLd s v37 fun v38 =>
 kLd s v39 fun v40 =>
 kEq 4 false v38 v40 fun v41 =>
 k [v41] s) [undef] s fun xs s =>
 un1 xs fun v41 =>
 kPick v28 v41 (.bool false) fun v42 =>
 kCond v42 (
 kNck r_0 fun v44 =>
 kFld 0 v44 fun v45 =>
 kBin .sub v9 (.int .i64 1) fun v48 =>
 kNck r_0 fun v50 =>
 kFld 0 v50 fun v51 =>
 kBin .sub v9 (.int .i64 1) fun v54 =>
 kFld 1 p_3 fun v58 =>
 kLd s v45 fun v46 =>
 kLd s v51 fun v52 =>
 kIdx 6 v52 v54 fun v55 =>
 kFld 1 v55 fun v56 =>
 kLd s v56 fun v57 =>
 kLd s v58 fun v59 =>
 kBin .add v57 v59 fun v60 =>
 kIdx 6 v46 v48 fun v61 =>
 kFld 1 v61 fun v62 =>
 kSt s 1 v62 v60 fun s =>
 k undef s) (
 J1 [] s)
theorem F29_ok (r_0 p_1 : Value) (s : AS) (k : Value → AS → Prop) : denFn Tryz.prog [(2, (.go 0 (.go 1 (.go 2 (.go 3 (.go 4 (.go 5 (.go 6 (.go 7 (.go 8 (.go 9 (.go 10 (.go 12 (.go 13 (.go 11 (.go 14 (.go 15 (.go 16 (.go 17 (.go 18 (.go 19 (.go 20 (.go 21 (.go 22 (.go 24 (.go 25 (.go 29 (.go 23 (.go 26 (.go 27 (.go 28 (.go 30 (.go 31 (.go 32 .done)))))))))))))))))))))))))))))))))), (3, (.go 0 (.go 1 (.go 2 (.go 4 (.go 5 (.go 6 (.go 7 (.go 8 (.go 10 (.go 11 (.go 15 (.go 3 (.go 9 (.go 12 (.go 13 (.go 14 (.go 16 (.go 17 (.go 18 (.go 19 (.go 20 .done)))))))))))))))))))))), (4, (.go 0 (.go 1 (.go 2 (.go 3 (.go 5 (.go 4 (.go 6 (.go 7 (.go 8 (.go 10 (.go 11 (.both 9 (.go 12 .done) (.go 12 (.go 9 .done)))))))))))))))] 29 [r_0, p_1] s k = F29 r_0 p_1 s k := by kernel_rfl
theorem f29 {r_0 p_1 : Value} {s : AS} {k : Value → AS → Prop} (h : F29 r_0 p_1 s k) : kCall Tryz.prog 29 [r_0, p_1] s k := fn_by (F29_ok r_0 p_1 s k) h
theorem k29_ok : okFn Tryz.prog 29 = true := by kernel_rfl

/- conch conchref05.all -/
def F30 (way_0 : Value) (s : AS) (k : Value → AS → Prop) : Prop :=
 kBin .eql way_0 (.int .i64 2) fun v4 =>
 kGrd v4 false (fun k =>
 kBin .eql way_0 (.int .i64 3) fun v7 =>
 k [v7] s) [undef] s fun xs s =>
 un1 xs fun v7 =>
 kPick v4 (.bool true) v7 fun v8 =>
 kGrd v8 false (fun k =>
 kBin .eql way_0 (.int .i64 5) fun v11 =>
 k [v11] s) [undef] s fun xs s =>
 un1 xs fun v11 =>
 kPick v8 (.bool true) v11 fun v12 =>
 k v12 s
theorem F30_ok (way_0 : Value) (s : AS) (k : Value → AS → Prop) : denFn Tryz.prog [] 30 [way_0] s k = F30 way_0 s k := by kernel_rfl
theorem f30 {way_0 : Value} {s : AS} {k : Value → AS → Prop} (h : F30 way_0 s k) : kCall Tryz.prog 30 [way_0] s k := fn_by (F30_ok way_0 s k) h
theorem k30_ok : okFn Tryz.prog 30 = true := by kernel_rfl

/- conch conchref04.Piece -/
def F31 (s_0 at_1 quoted_2 : Value) (s : AS) (k : Value → AS → Prop) : Prop :=
 kJoin (fun _ s =>
 kJoin (fun xs s =>
 un1 xs fun where_9 =>
 kCall Tryz.prog 50 [s_0, at_1, where_9, (.int .i64 0)] s fun v23 s =>
 kNew s [(.int .i64 0), (.int .i64 0), (.int .i64 0)] fun t_10 s =>
 kSt s 3 t_10 v23 fun s =>
 kFld 0 t_10 fun v24 =>
 kFld 1 t_10 fun v26 =>
 kFld 2 t_10 fun v28 =>
 kLd s v24 fun v25 =>
 kLd s v26 fun v27 =>
 kLd s v28 fun v29 =>
 k (.tuple #[v25, v27, v29]) s) fun J2 =>
 kCond quoted_2 (
 J2 [(.int .i64 1)] s) (
 J2 [(.int .i64 0)] s)) fun J1 =>
 kBin .lss at_1 (.int .i64 0) fun v12 =>
 kGrd v12 false (fun k =>
 kLen true s_0 fun v16 =>
 kBin .geq at_1 v16 fun v17 =>
 k [v17] s) [undef] s fun xs s =>
 un1 xs fun v17 =>
 kPick v12 (.bool true) v17 fun v18 =>
 kCond v18 (
 k (.tuple #[(.int .i64 0), (.int .i64 0), (.int .i64 1)]) s) (
 J1 [] s)
theorem F31_ok (s_0 at_1 quoted_2 : Value) (s : AS) (k : Value → AS → Prop) : denFn Tryz.prog [(7, (.go 0 (.go 2 (.go 4 (.go 1 (.go 6 (.go 3 (.go 7 (.go 5 (.go 8 .done))))))))))] 31 [s_0, at_1, quoted_2] s k = F31 s_0 at_1 quoted_2 s k := by kernel_rfl
theorem f31 {s_0 at_1 quoted_2 : Value} {s : AS} {k : Value → AS → Prop} (h : F31 s_0 at_1 quoted_2 s k) : kCall Tryz.prog 31 [s_0, at_1, quoted_2] s k := fn_by (F31_ok s_0 at_1 quoted_2 s k) h
theorem k31_ok : okFn Tryz.prog 31 = true := by kernel_rfl

/- (*conch conchref05.reader).thing -/
def F32 (r_0 t_1 way_2 : Value) (s : AS) (k : Value → AS → Prop) : Prop :=
 kIxS t_1 (.int .i64 0) fun v12 =>
 kJoin (fun _ s =>
 kJoin (fun _ s =>
 kLen true t_1 fun v42 =>
 kBin .sub v42 (.int .i64 1) fun v43 =>
 kSubS t_1 (some (.int .i64 1)) (some v43) fun v44 =>
 kJoin (fun _ s =>
 kJoin (fun _ s =>
 kJoin (fun _ s =>
 kCall Tryz.prog 19 [v44, (.int .i64 2)] s fun v72 s =>
 kExt 0 v72 fun v73 =>
 kExt 1 v72 fun v74 =>
 kJoin (fun _ s =>
 kJoin (fun _ s =>
 kLoop (fun again8 xs s =>
 un1 xs fun i_10 =>
 kJoin (fun _ s =>
 kJoin (fun _ s =>
 kBin .add i_10 (.int .i64 1) fun v91 =>
 again8 [v91] s) fun J10 =>
 kIdx 6 v73 i_10 fun v95 =>
 kLdN s 6 v95 fun v96 =>
 kCall Tryz.prog 29 [r_0, v96] s fun v97 s =>
 J10 [] s) fun J9 =>
 kLen false v73 fun v88 =>
 kBin .lss i_10 v88 fun v89 =>
 kCond v89 (
 J9 [] s) (
 k undef s)) [(.int .i64 0)] s) fun J7 =>
 kLen false v73 fun v82 =>
 kBin .eql v82 (.int .i64 0) fun v83 =>
 kCond v83 (
 kCall Tryz.prog 53 [r_0, (.string (bs [])), (.bool true)] s fun v85 s =>
 J7 [] s) (
 J7 [] s)) fun J6 =>
 kBin .neq v74 (.int .i64 0) fun v76 =>
 kCond v76 (
 kNck r_0 fun v79 =>
 kFld 1 v79 fun v80 =>
 kSt s 1 v80 v74 fun s =>
 k undef s) (
 J6 [] s)) fun J5 =>
 kBin .eql v12 (.int .u8 36) fun v63 =>
 kCond v63 (
 kSubS v44 (some (.int .i64 1)) none fun v66 =>
 kCall Tryz.prog 30 [way_2] s fun v68 s =>
 kCall Tryz.prog 55 [r_0, v66, v68] s fun v69 s =>
 k undef s) (
 J5 [] s)) fun J4 =>
 kBin .eql v12 (.int .u8 36) fun v51 =>
 kGrd v51 true (fun k =>
 kIxS t_1 (.int .i64 1) fun v54 =>
 kBin .eql v54 (.int .u8 123) fun v55 =>
 k [v55] s) [undef] s fun xs s =>
 un1 xs fun v55 =>
 kPick v51 v55 (.bool false) fun v56 =>
 kCond v56 (
 kSubS v44 (some (.int .i64 1)) none fun v59 =>
 kCall Tryz.prog 54 [r_0, v59, way_2] s fun v61 s =>
 k undef s) (
 J4 [] s)) fun J3 =>
 kBin .eql v12 (.int .u8 39) fun v46 =>
 kCond v46 (
 kCall Tryz.prog 53 [r_0, v44, (.bool true)] s fun v49 s =>
 k undef s) (
 J3 [] s)) fun J2 =>
 kLen true t_1 fun v20 =>
 kBin .eql v20 (.int .i64 1) fun v21 =>
 kCond v21 (
 kJoin (fun _ s =>
 kCall Tryz.prog 30 [way_2] s fun v34 s =>
 kGrd v34 false (fun k =>
 kBin .eql v12 (.int .u8 36) fun v37 =>
 k [v37] s) [undef] s fun xs s =>
 un1 xs fun v37 =>
 kPick v34 (.bool true) v37 fun v38 =>
 kCall Tryz.prog 53 [r_0, t_1, v38] s fun v39 s =>
 k undef s) fun J11 =>
 kBin .eql way_2 (.int .i64 0) fun v23 =>
 kGrd v23 true (fun k =>
 kCall Tryz.prog 52 [v12] s fun v26 s =>
 k [v26] s) [undef] s fun xs s =>
 un1 xs fun v26 =>
 kPick v23 v26 (.bool false) fun v27 =>
 kCond v27 (
 kNck r_0 fun v29 =>
 kFld 1 v29 fun v30 =>
 kSt s 1 v30 (.int .i64 10) fun s =>
 k undef s) (
 J11 [] s)) (
 J2 [] s)) fun J1 =>
 kBin .eql v12 (.int .u8 92) fun v14 =>
 kCond v14 (
 kCall Tryz.prog 51 [r_0, t_1, way_2] s fun v18 s =>
 k undef s) (
 J1 [] s)
theorem F32_ok (r_0 t_1 way_2 : Value) (s : AS) (k : Value → AS → Prop) : denFn Tryz.prog [(13, (.go 0 (.go 1 (.go 2 (.go 3 (.go 4 (.go 5 .done)))))))] 32 [r_0, t_1, way_2] s k = F32 r_0 t_1 way_2 s k := by kernel_rfl
theorem f32 {r_0 t_1 way_2 : Value} {s : AS} {k : Value → AS → Prop} (h : F32 r_0 t_1 way_2 s k) : kCall Tryz.prog 32 [r_0, t_1, way_2] s k := fn_by (F32_ok r_0 t_1 way_2 s k) h
theorem k32_ok : okFn Tryz.prog 32 = true := by kernel_rfl

/- conch word.written -/
def F33 (w_0 way_1 : Value) (s : AS) (k : Value → AS → Prop) : Prop :=
 kNewT s 44 [(.pointer none), (.slice none 0 0)] fun out_5 s =>
 kJoin (fun _ s =>
 kCall Tryz.prog 23 [out_5] s fun v19 s =>
 k v19 s) fun J1 =>
 kLen false w_0 fun v9 =>
 kLoop (fun again2 xs s =>
 un1 xs fun v10 =>
 kBin .lss v10 v9 fun v11 =>
 kJoin (fun _ s =>
 kJoin (fun _ s =>
 kBin .add v10 (.int .i64 1) fun v18 =>
 again2 [v18] s) fun J4 =>
 kIdx 6 w_0 v10 fun v12 =>
 kLdN s 6 v12 fun v13 =>
 kNew s [(.int .i64 0), (.string (bs [])), (.bool false), (.int .i64 0), (.bool false), (.slice none 0 0)] fun p_7 s =>
 kSt s 6 p_7 v13 fun s =>
 kLdN s 6 p_7 fun v14 =>
 kCall Tryz.prog 56 [v14, way_1] s fun v16 s =>
 kCall Tryz.prog 22 [out_5, v16] s fun v17 s =>
 J4 [] s) fun J3 =>
 kCond v11 (
 J3 [] s) (
 J1 [] s)) [(.int .i64 0)] s
theorem F33_ok (w_0 way_1 : Value) (s : AS) (k : Value → AS → Prop) : denFn Tryz.prog [] 33 [w_0, way_1] s k = F33 w_0 way_1 s k := by kernel_rfl
theorem f33 {w_0 way_1 : Value} {s : AS} {k : Value → AS → Prop} (h : F33 w_0 way_1 s k) : kCall Tryz.prog 33 [w_0, way_1] s k := fn_by (F33_ok w_0 way_1 s k) h
theorem k33_ok : okFn Tryz.prog 33 = true := by kernel_rfl

/- conch word.Same -/
def F34 (a_0 b_1 : Value) (s : AS) (k : Value → AS → Prop) : Prop :=
 kCall Tryz.prog 57 [a_0, b_1, (.func (.func 58) #[] #[])] s fun v7 s =>
 k v7 s
theorem F34_ok (a_0 b_1 : Value) (s : AS) (k : Value → AS → Prop) : denFn Tryz.prog [] 34 [a_0, b_1] s k = F34 a_0 b_1 s k := by kernel_rfl
theorem f34 {a_0 b_1 : Value} {s : AS} {k : Value → AS → Prop} (h : F34 a_0 b_1 s k) : kCall Tryz.prog 34 [a_0, b_1] s k := fn_by (F34_ok a_0 b_1 s k) h
theorem k34_ok : okFn Tryz.prog 34 = true := by kernel_rfl

/- conch conchref05.part -/
def F35 (p_0 way_1 : Value) (s : AS) (k : Value → AS → Prop) : Prop :=
 kNew s (cellsV p_0) fun p_2 s =>
 kJoin (fun xs s =>
 un1 xs fun s_5 =>
 kJoin (fun _ s =>
 k s_5 s) fun J2 =>
 kFld 2 p_2 fun v84 =>
 kLd s v84 fun v85 =>
 kGrd v85 true (fun k =>
 kBin .eql way_1 (.int .i64 0) fun v88 =>
 k [v88] s) [undef] s fun xs s =>
 un1 xs fun v89 =>
 kGrd v89 false (fun k =>
 kBin .eql way_1 (.int .i64 1) fun v91 =>
 k [v91] s) [undef] s fun xs s =>
 un1 xs fun v91 =>
 kGrd v85 true (fun k =>
 kPick v89 (.bool true) v91 fun v92 =>
 k [v92] s) [undef] s fun xs s =>
 un1 xs fun v93 =>
 kGrd v93 false (fun k =>
 kBin .eql way_1 (.int .i64 4) fun v95 =>
 k [v95] s) [undef] s fun xs s =>
 un1 xs fun v95 =>
 kGrd v85 true (fun k =>
 kPick v93 (.bool true) v95 fun v96 =>
 k [v96] s) [undef] s fun xs s =>
 un1 xs fun v96 =>
 kPick v85 v96 (.bool false) fun v97 =>
 kCond v97 (
 kBin .add (.string (bs [34])) s_5 fun v99 =>
 kBin .add v99 (.string (bs [34])) fun v100 =>
 k v100 s) (
 J2 [] s)) fun J1 =>
 kFld 0 p_2 fun v7 =>
 kLd s v7 fun v8 =>
 kBin .eql v8 (.int .i64 1) fun v10 =>
 kCond v10 (
 kJoin (fun _ s =>
 kFld 1 p_2 fun v17 =>
 kLd s v17 fun v18 =>
 k v18 s) fun J3 =>
 kFld 2 p_2 fun v11 =>
 kLd s v11 fun v12 =>
 kCond v12 (
 kFld 1 p_2 fun v13 =>
 kLd s v13 fun v14 =>
 kCall Tryz.prog 59 [v14, way_1] s fun v16 s =>
 k v16 s) (
 J3 [] s)) (
 kBin .eql v8 (.int .i64 2) fun v20 =>
 kCond v20 (
 kJoin (fun _ s =>
 kJoin (fun xs s =>
 un1 xs fun s_5 =>
 kFld 1 p_2 fun v35 =>
 kLd s v35 fun v36 =>
 kBin .add s_5 v36 fun v37 =>
 kJoin (fun xs s =>
 un1 xs fun s_5' =>
 kFld 3 p_2 fun v43 =>
 kLd s v43 fun v44 =>
 kCall Tryz.prog 60 [v44] s fun v45 s =>
 kBin .add s_5' v45 fun v46 =>
 kJoin (fun xs s =>
 un1 xs fun next_6 =>
 kJoin (fun xs s =>
 un1 xs fun next_6 =>
 kJoin (fun xs s =>
 un1 xs fun s_5'' =>
 kBin .add s_5'' (.string (bs [125])) fun v71 =>
 J1 [v71] s) fun J9 =>
 kFld 3 p_2 fun v61 =>
 kLd s v61 fun v62 =>
 kBin .geq v62 (.int .i64 2) fun v63 =>
 kCond v63 (
 kFld 5 p_2 fun v65 =>
 kLd s v65 fun v66 =>
 kCall Tryz.prog 21 [v66, next_6] s fun v68 s =>
 kBin .add v46 v68 fun v69 =>
 J9 [v69] s) (
 J9 [v46] s)) fun J8 =>
 kFld 2 p_2 fun v50 =>
 kLd s v50 fun v51 =>
 kUn .not v51 fun v52 =>
 kGrd v52 true (fun k =>
 kBin .eql way_1 (.int .i64 0) fun v55 =>
 k [v55] s) [undef] s fun xs s =>
 un1 xs fun v56 =>
 kGrd v56 false (fun k =>
 kBin .eql way_1 (.int .i64 1) fun v58 =>
 k [v58] s) [undef] s fun xs s =>
 un1 xs fun v58 =>
 kGrd v52 true (fun k =>
 kPick v56 (.bool true) v58 fun v59 =>
 k [v59] s) [undef] s fun xs s =>
 un1 xs fun v59 =>
 kPick v52 v59 (.bool false) fun v60 =>
 kCond v60 (
 J8 [(.int .i64 1)] s) (
 J8 [next_6] s)) fun J7 =>
 kFld 3 p_2 fun v47 =>
 kLd s v47 fun v48 =>
 kBin .geq v48 (.int .i64 6) fun v49 =>
 kCond v49 (
 J7 [(.int .i64 4)] s) (
 J7 [(.int .i64 3)] s)) fun J6 =>
 kFld 4 p_2 fun v38 =>
 kLd s v38 fun v39 =>
 kCond v39 (
 kBin .add v37 (.string (bs [58])) fun v41 =>
 J6 [v41] s) (
 J6 [v37] s)) fun J5 =>
 kFld 3 p_2 fun v29 =>
 kLd s v29 fun v30 =>
 kBin .eql v30 (.int .i64 1) fun v31 =>
 kCond v31 (
 kBin .add (.string (bs [36, 123])) (.string (bs [35])) fun v33 =>
 J5 [v33] s) (
 J5 [(.string (bs [36, 123]))] s)) fun J4 =>
 kFld 3 p_2 fun v21 =>
 kLd s v21 fun v22 =>
 kBin .lss v22 (.int .i64 0) fun v23 =>
 kGrd v23 false (fun k =>
 kFld 3 p_2 fun v25 =>
 kLd s v25 fun v26 =>
 kBin .gtr v26 (.int .i64 9) fun v27 =>
 k [v27] s) [undef] s fun xs s =>
 un1 xs fun v27 =>
 kPick v23 (.bool true) v27 fun v28 =>
 kCond v28 (
 k (.string (bs [])) s) (
 J4 [] s)) (
 kBin .eql v8 (.int .i64 3) fun v73 =>
 kCond v73 (
 kFld 1 p_2 fun v74 =>
 kLd s v74 fun v75 =>
 kBin .add (.string (bs [36, 40])) v75 fun v76 =>
 kBin .add v76 (.string (bs [41])) fun v77 =>
 J1 [v77] s) (
 kBin .eql v8 (.int .i64 4) fun v79 =>
 kCond v79 (
 kFld 1 p_2 fun v80 =>
 kLd s v80 fun v81 =>
 kBin .add (.string (bs [36, 40, 40])) v81 fun v82 =>
 kBin .add v82 (.string (bs [41, 41])) fun v83 =>
 J1 [v83] s) (
 k (.string (bs [])) s))))
theorem F35_ok (p_0 way_1 : Value) (s : AS) (k : Value → AS → Prop) : denFn Tryz.prog [] 35 [p_0, way_1] s k = F35 p_0 way_1 s k := by kernel_rfl
theorem f35 {p_0 way_1 : Value} {s : AS} {k : Value → AS → Prop} (h : F35 p_0 way_1 s k) : kCall Tryz.prog 35 [p_0, way_1] s k := fn_by (F35_ok p_0 way_1 s k) h
theorem k35_ok : okFn Tryz.prog 35 = true := by kernel_rfl

/- (*strings.Builder).copyCheck -/
def F36 (b_0 : Value) (s : AS) (k : Value → AS → Prop) : Prop :=
 kNck b_0 fun v3 =>
 kFld 0 v3 fun v4 =>
 kLd s v4 fun v5 =>
 kEq 0 false v5 (.pointer none) fun v6 =>
 kCond v6 (
 kGen Tryz.prog (.cv 41 78) [b_0] s fun v9 s =>
 kGen Tryz.prog (.ext 61) [v9] s fun v10 s =>
 kGen Tryz.prog (.cv 78 41) [v10] s fun v11 s =>
 kNck b_0 fun v12 =>
 kFld 0 v12 fun v13 =>
 kSt s 1 v13 v11 fun s =>
 k undef s) (
 kNck b_0 fun v15 =>
 kFld 0 v15 fun v16 =>
 kLd s v16 fun v17 =>
 kGen Tryz.prog (.bop .neq 41 (.tmp 17) (.tmp 18)) [v17, b_0] s fun v19 s =>
 kCond v19 (
 False) (
 k undef s))
theorem F36_ok (b_0 : Value) (s : AS) (k : Value → AS → Prop) : denFn Tryz.prog [] 36 [b_0] s k = F36 b_0 s k := by kernel_rfl
theorem f36 {b_0 : Value} {s : AS} {k : Value → AS → Prop} (h : F36 b_0 s k) : kCall Tryz.prog 36 [b_0] s k := fn_by (F36_ok b_0 s k) h
theorem k36_ok : okFn Tryz.prog 36 = true := by kernel_rfl

/- conch chars.Front -/
def F37 (s_0 : Value) (s : AS) (k : Value → AS → Prop) : Prop :=
 kJoin (fun xs s =>
 un1 xs fun n_3 =>
 k n_3 s) fun J1 =>
 kLoop (fun again2 xs s =>
 un1 xs fun n_3 =>
 kJoin (fun _ s =>
 kBin .add n_3 (.int .i64 1) fun v25 =>
 again2 [v25] s) fun J3 =>
 kLen true s_0 fun v6 =>
 kBin .lss n_3 v6 fun v7 =>
 kGrd v7 true (fun k =>
 kIxS s_0 n_3 fun v11 =>
 kCall Tryz.prog 62 [v11] s fun v12 s =>
 k [v12] s) [undef] s fun xs s =>
 un1 xs fun v13 =>
 kGrd v13 false (fun k =>
 kBin .gtr n_3 (.int .i64 0) fun v15 =>
 k [v15] s) [undef] s fun xs s =>
 un1 xs fun v16 =>
 kGrd v16 true (fun k =>
 kIxS s_0 n_3 fun v19 =>
 kCall Tryz.prog 38 [v19] s fun v20 s =>
 k [v20] s) [undef] s fun xs s =>
 un1 xs fun v20 =>
 kGrd v13 false (fun k =>
 kPick v16 v20 (.bool false) fun v21 =>
 k [v21] s) [undef] s fun xs s =>
 un1 xs fun v21 =>
 kGrd v7 true (fun k =>
 kPick v13 (.bool true) v21 fun v22 =>
 k [v22] s) [undef] s fun xs s =>
 un1 xs fun v22 =>
 kPick v7 v22 (.bool false) fun v23 =>
 kCond v23 (
 J3 [] s) (
 J1 [n_3] s)) [(.int .i64 0)] s
theorem F37_ok (s_0 : Value) (s : AS) (k : Value → AS → Prop) : denFn Tryz.prog [] 37 [s_0] s k = F37 s_0 s k := by kernel_rfl
theorem f37 {s_0 : Value} {s : AS} {k : Value → AS → Prop} (h : F37 s_0 s k) : kCall Tryz.prog 37 [s_0] s k := fn_by (F37_ok s_0 s k) h
theorem k37_ok : okFn Tryz.prog 37 = true := by kernel_rfl

/- conch chars.Digit -/
def F38 (c_0 : Value) (s : AS) (k : Value → AS → Prop) : Prop :=
 kBin .geq c_0 (.int .u8 48) fun v4 =>
 kGrd v4 true (fun k =>
 kBin .leq c_0 (.int .u8 57) fun v7 =>
 k [v7] s) [undef] s fun xs s =>
 un1 xs fun v7 =>
 kPick v4 v7 (.bool false) fun v8 =>
 k v8 s
theorem F38_ok (c_0 : Value) (s : AS) (k : Value → AS → Prop) : denFn Tryz.prog [] 38 [c_0] s k = F38 c_0 s k := by kernel_rfl
theorem f38 {c_0 : Value} {s : AS} {k : Value → AS → Prop} (h : F38 c_0 s k) : kCall Tryz.prog 38 [c_0] s k := fn_by (F38_ok c_0 s k) h
theorem k38_ok : okFn Tryz.prog 38 = true := by kernel_rfl

/- strings.IndexByte -/
def F39 (s_0 c_1 : Value) (s : AS) (k : Value → AS → Prop) : Prop :=
 kCall Tryz.prog 63 [s_0, c_1] s fun v7 s =>
 k v7 s
theorem F39_ok (s_0 c_1 : Value) (s : AS) (k : Value → AS → Prop) : denFn Tryz.prog [] 39 [s_0, c_1] s k = F39 s_0 c_1 s k := by kernel_rfl
theorem f39 {s_0 c_1 : Value} {s : AS} {k : Value → AS → Prop} (h : F39 s_0 c_1 s k) : kCall Tryz.prog 39 [s_0, c_1] s k := fn_by (F39_ok s_0 c_1 s k) h
theorem k39_ok : okFn Tryz.prog 39 = true := by kernel_rfl

/- (*conch word.reader).add -/
def F40 (r_0 p_1 : Value) (s : AS) (k : Value → AS → Prop) : Prop :=
 kNew s (cellsV p_1) fun p_3 s =>
 kJoin (fun _ s =>
 kNck r_0 fun v56 =>
 kFld 0 v56 fun v57 =>
 kLd s v57 fun v58 =>
 kLen false v58 fun v60 =>
 kLdN s 6 p_3 fun v59 =>
 kBsl s 1 [(.int .i64 0), (.string (bs [])), (.bool false), (.int .i64 0), (.bool false), (.slice none 0 0)] [(0, 6, (.agg #[(.int .i64 0), (.string (bs [])), (.bool false), (.int .i64 0), (.bool false), (.slice none 0 0)]))] fun v61 s =>
 kChkN s 6 p_3 v59 (
 kChk s v57 v58 (
 kApp Tryz.prog 24 24 v58 v61 s fun v62 s =>
 kIdx 6 v62 v60 fun v63 =>
 kNck r_0 fun v64 =>
 kFld 0 v64 fun v65 =>
 kAlt (
 kSt s 6 v63 v59 fun s =>
 kSt s 1 v65 v62 fun s =>
 k undef s) (
 kSt s 1 v65 v62 fun s =>
 kSt s 6 v63 v59 fun s =>
 k undef s)))) fun J1 =>
 kNck r_0 fun v6 =>
 kFld 0 v6 fun v7 =>
 kLd s v7 fun v8 =>
 kLen false v8 fun v9 =>
 kBin .sub v9 (.int .i64 1) fun v10 =>
 kFld 0 p_3 fun v11 =>
 kLd s v11 fun v12 =>
 kBin .eql v12 (.int .i64 1) fun v13 =>
 kGrd v13 true (fun k =>
 kBin .geq v10 (.int .i64 0) fun v16 =>
 k [v16] s) [undef] s fun xs s =>
 un1 xs fun v16 =>
 kPick v13 v16 (.bool false) fun v17 =>
 kGrd v17 true (fun k =>
 kNck r_0 fun v20 =>
 kFld 0 v20 fun v21 =>
 kLd s v21 fun v22 =>
 kIdx 6 v22 v10 fun v24 =>
 kFld 0 v24 fun v25 =>
 kLd s v25 fun v26 =>
 kBin .eql v26 (.int .i64 1) fun v27 =>
 k [v27] s) [undef] s fun xs s =>
 un1 xs fun v27 =>
 kPick v17 v27 (.bool false) fun v28 =>
 kGrd v28 true (fun k =>
 kNck r_0 fun v31 =>
 kFld 0 v31 fun v32 =>
 kFld 2 p_3 fun v38 =>
 kLd s v32 fun v33 =>
 kIdx 6 v33 v10 fun v35 =>
 kFld 2 v35 fun v36 =>
 kLd s v36 fun v37 =>
 kLd s v38 fun v39 =>
 kEq 4 false v37 v39 fun v40 =>
 k [v40] s) [undef] s fun xs s =>
 un1 xs fun v40 =>
 kPick v28 v40 (.bool false) fun v41 =>
 kCond v41 (
 kNck r_0 fun v43 =>
 kFld 0 v43 fun v44 =>
 kFld 1 p_3 fun v50 =>
 kLd s v44 fun v45 =>
 kIdx 6 v45 v10 fun v47 =>
 kFld 1 v47 fun v48 =>
 kLd s v48 fun v49 =>
 kLd s v50 fun v51 =>
 kBin .add v49 v51 fun v52 =>
 kIdx 6 v45 v10 fun v53 =>
 kFld 1 v53 fun v54 =>
 kSt s 1 v54 v52 fun s =>
 k undef s) (
 J1 [] s)
theorem F40_ok (r_0 p_1 : Value) (s : AS) (k : Value → AS → Prop) : denFn Tryz.prog [(2, (.go 0 (.go 1 (.go 2 (.go 3 (.go 4 (.go 5 (.go 6 (.go 7 (.go 8 (.go 9 (.go 10 (.go 12 (.go 11 (.go 13 (.go 14 (.go 15 (.go 16 (.go 17 (.go 18 (.go 19 (.go 20 (.go 21 (.go 23 (.go 27 (.go 22 (.go 24 (.go 25 (.go 26 (.go 28 (.go 29 (.go 30 .done)))))))))))))))))))))))))))))))), (3, (.go 0 (.go 1 (.go 2 (.go 4 (.go 8 (.go 3 (.go 5 (.go 6 (.go 7 (.go 9 (.go 10 (.go 11 (.go 12 (.go 13 .done))))))))))))))), (4, (.go 0 (.go 1 (.go 2 (.go 3 (.go 5 (.go 4 (.go 6 (.go 7 (.go 8 (.go 10 (.go 11 (.both 9 (.go 12 .done) (.go 12 (.go 9 .done)))))))))))))))] 40 [r_0, p_1] s k = F40 r_0 p_1 s k := by kernel_rfl
theorem f40 {r_0 p_1 : Value} {s : AS} {k : Value → AS → Prop} (h : F40 r_0 p_1 s k) : kCall Tryz.prog 40 [r_0, p_1] s k := fn_by (F40_ok r_0 p_1 s k) h
theorem k40_ok : okFn Tryz.prog 40 = true := by kernel_rfl

/- conch lex.Piece -/
def F41 (s_0 at_1 quoted_2 : Value) (s : AS) (k : Value → AS → Prop) : Prop :=
 kJoin (fun _ s =>
 kBuild [(.int .i64 0), (.int .i64 0), (.string (bs [])), (.int .i64 0), (.int .i64 0)] [(2, 1, s_0), (3, 1, at_1)] fun v20 =>
 kNew s (cellsV v20) fun v21 s =>
 kUn .not quoted_2 fun v25 =>
 kCall Tryz.prog 64 [v21, quoted_2, v25, (.bool false)] s fun v26 s =>
 kJoin (fun _ s =>
 kNck v21 fun v42 =>
 kFld 3 v42 fun v43 =>
 kLd s v43 fun v44 =>
 k (.tuple #[v44, (.int .i64 0), (.int .i64 0)]) s) fun J2 =>
 kNck v21 fun v28 =>
 kFld 0 v28 fun v29 =>
 kCall Tryz.prog 65 [v29] s fun v30 s =>
 kCond v30 (
 kNck v21 fun v32 =>
 kFld 0 v32 fun v33 =>
 kFld 1 v33 fun v34 =>
 kNck v21 fun v37 =>
 kFld 0 v37 fun v38 =>
 kFld 0 v38 fun v39 =>
 kLd s v34 fun v35 =>
 kLd s v39 fun v40 =>
 k (.tuple #[(.int .i64 0), v35, v40]) s) (
 J2 [] s)) fun J1 =>
 kBin .lss at_1 (.int .i64 0) fun v11 =>
 kGrd v11 false (fun k =>
 kLen true s_0 fun v15 =>
 kBin .geq at_1 v15 fun v16 =>
 k [v16] s) [undef] s fun xs s =>
 un1 xs fun v16 =>
 kPick v11 (.bool true) v16 fun v17 =>
 kCond v17 (
 k (.tuple #[(.int .i64 0), (.int .i64 0), (.int .i64 1)]) s) (
 J1 [] s)
theorem F41_ok (s_0 at_1 quoted_2 : Value) (s : AS) (k : Value → AS → Prop) : denFn Tryz.prog [(6, (.go 0 (.go 1 (.go 2 (.go 3 (.go 5 (.go 6 (.go 7 (.go 8 (.go 10 (.go 4 (.go 11 (.go 9 (.go 12 .done))))))))))))))] 41 [s_0, at_1, quoted_2] s k = F41 s_0 at_1 quoted_2 s k := by kernel_rfl
theorem f41 {s_0 at_1 quoted_2 : Value} {s : AS} {k : Value → AS → Prop} (h : F41 s_0 at_1 quoted_2 s k) : kCall Tryz.prog 41 [s_0, at_1, quoted_2] s k := fn_by (F41_ok s_0 at_1 quoted_2 s k) h
theorem k41_ok : okFn Tryz.prog 41 = true := by kernel_rfl

/- (*conch word.reader).pair -/
def F42 (r_0 t_1 way_2 : Value) (s : AS) (k : Value → AS → Prop) : Prop :=
 kBin .eql t_1 (.string (bs [92])) fun v12 =>
 kCond v12 (
 kCall Tryz.prog 43 [r_0, t_1, (.bool true)] s fun v15 s =>
 k undef s) (
 kIxS t_1 (.int .i64 1) fun v18 =>
 kBin .eql v18 (.int .u8 10) fun v19 =>
 kCond v19 (
 k undef s) (
 kCall Tryz.prog 25 [way_2] s fun v22 s =>
 kGrd v22 true (fun k =>
 kIxS t_1 (.int .i64 1) fun v25 =>
 kBin .eql v25 (.int .u8 34) fun v26 =>
 k [v26] s) [undef] s fun xs s =>
 un1 xs fun v27 =>
 kGrd v27 true (fun k =>
 kBin .eql way_2 (.int .i64 5) fun v29 =>
 k [v29] s) [undef] s fun xs s =>
 un1 xs fun v29 =>
 kGrd v22 true (fun k =>
 kPick v27 v29 (.bool false) fun v30 =>
 k [v30] s) [undef] s fun xs s =>
 un1 xs fun v31 =>
 kGrd v31 false (fun k =>
 kIxS t_1 (.int .i64 1) fun v33 =>
 kCall Tryz.prog 39 [(.string (bs [36, 34, 92, 96])), v33] s fun v34 s =>
 kBin .lss v34 (.int .i64 0) fun v35 =>
 k [v35] s) [undef] s fun xs s =>
 un1 xs fun v36 =>
 kGrd v36 true (fun k =>
 kIxS t_1 (.int .i64 1) fun v38 =>
 kBin .neq v38 (.int .u8 125) fun v39 =>
 k [v39] s) [undef] s fun xs s =>
 un1 xs fun v40 =>
 kGrd v40 false (fun k =>
 kBin .neq way_2 (.int .i64 3) fun v42 =>
 k [v42] s) [undef] s fun xs s =>
 un1 xs fun v42 =>
 kGrd v36 true (fun k =>
 kPick v40 (.bool true) v42 fun v43 =>
 k [v43] s) [undef] s fun xs s =>
 un1 xs fun v43 =>
 kGrd v31 false (fun k =>
 kPick v36 v43 (.bool false) fun v44 =>
 k [v44] s) [undef] s fun xs s =>
 un1 xs fun v44 =>
 kGrd v22 true (fun k =>
 kPick v31 (.bool true) v44 fun v45 =>
 k [v45] s) [undef] s fun xs s =>
 un1 xs fun v45 =>
 kPick v22 v45 (.bool false) fun v46 =>
 kCond v46 (
 kCall Tryz.prog 43 [r_0, t_1, (.bool true)] s fun v49 s =>
 k undef s) (
 kSubS t_1 (some (.int .i64 1)) none fun v8 =>
 kCall Tryz.prog 43 [r_0, v8, (.bool true)] s fun v9 s =>
 k undef s)))
theorem F42_ok (r_0 t_1 way_2 : Value) (s : AS) (k : Value → AS → Prop) : denFn Tryz.prog [] 42 [r_0, t_1, way_2] s k = F42 r_0 t_1 way_2 s k := by kernel_rfl
theorem f42 {r_0 t_1 way_2 : Value} {s : AS} {k : Value → AS → Prop} (h : F42 r_0 t_1 way_2 s k) : kCall Tryz.prog 42 [r_0, t_1, way_2] s k := fn_by (F42_ok r_0 t_1 way_2 s k) h
theorem k42_ok : okFn Tryz.prog 42 = true := by kernel_rfl

/- (*conch word.reader).lit -/
def F43 (r_0 s_1 quote_2 : Value) (s : AS) (k : Value → AS → Prop) : Prop :=
 kBuild [(.int .i64 0), (.string (bs [])), (.bool false), (.int .i64 0), (.bool false), (.slice none 0 0)] [(0, 1, (.int .i64 1)), (1, 1, s_1), (2, 1, quote_2)] fun v9 =>
 kCall Tryz.prog 40 [r_0, v9] s fun v10 s =>
 k undef s
theorem F43_ok (r_0 s_1 quote_2 : Value) (s : AS) (k : Value → AS → Prop) : denFn Tryz.prog [] 43 [r_0, s_1, quote_2] s k = F43 r_0 s_1 quote_2 s k := by kernel_rfl
theorem f43 {r_0 s_1 quote_2 : Value} {s : AS} {k : Value → AS → Prop} (h : F43 r_0 s_1 quote_2 s k) : kCall Tryz.prog 43 [r_0, s_1, quote_2] s k := fn_by (F43_ok r_0 s_1 quote_2 s k) h
theorem k43_ok : okFn Tryz.prog 43 = true := by kernel_rfl

/- (*conch word.reader).inner -/
def F44 (r_0 s_1 : Value) (s : AS) (k : Value → AS → Prop) : Prop :=
 kCall Tryz.prog 18 [s_1, (.int .i64 2)] s fun v8 s =>
 kExt 0 v8 fun v9 =>
 kExt 1 v8 fun v10 =>
 kJoin (fun _ s =>
 kJoin (fun _ s =>
 kCall Tryz.prog 66 [v9, (.func (.func 40) #[r_0] #[])] s fun v25 s =>
 k undef s) fun J2 =>
 kLen false v9 fun v18 =>
 kBin .eql v18 (.int .i64 0) fun v19 =>
 kCond v19 (
 kCall Tryz.prog 43 [r_0, (.string (bs [])), (.bool true)] s fun v21 s =>
 J2 [] s) (
 J2 [] s)) fun J1 =>
 kBin .neq v10 (.int .i64 0) fun v12 =>
 kCond v12 (
 kNck r_0 fun v15 =>
 kFld 1 v15 fun v16 =>
 kSt s 1 v16 v10 fun s =>
 k undef s) (
 J1 [] s)
theorem F44_ok (r_0 s_1 : Value) (s : AS) (k : Value → AS → Prop) : denFn Tryz.prog [] 44 [r_0, s_1] s k = F44 r_0 s_1 s k := by kernel_rfl
theorem f44 {r_0 s_1 : Value} {s : AS} {k : Value → AS → Prop} (h : F44 r_0 s_1 s k) : kCall Tryz.prog 44 [r_0, s_1] s k := fn_by (F44_ok r_0 s_1 s k) h
theorem k44_ok : okFn Tryz.prog 44 = true := by kernel_rfl

/- (*conch word.reader).brace -/
def F45 (r_0 in_1 way_2 : Value) (s : AS) (k : Value → AS → Prop) : Prop :=
 kBin .geq way_2 (.int .i64 2) fun v16 =>
 kCall Tryz.prog 25 [way_2] s fun v18 s =>
 kBuild [(.int .i64 0), (.string (bs [])), (.bool false), (.int .i64 0), (.bool false), (.slice none 0 0)] [(0, 1, (.int .i64 2)), (2, 1, v18)] fun v19 =>
 kNew s [(.int .i64 0), (.string (bs [])), (.bool false), (.int .i64 0), (.bool false), (.slice none 0 0)] fun p_7 s =>
 kSt s 6 p_7 v19 fun s =>
 kJoin (fun _ s =>
 kCall Tryz.prog 68 [in_1] s fun v44 s =>
 kJoin (fun _ s =>
 kSubS in_1 none (some v44) fun v52 =>
 kFld 1 p_7 fun v53 =>
 kSt s 1 v53 v52 fun s =>
 kSubS in_1 (some v44) none fun v56 =>
 kJoin (fun _ s =>
 kJoin (fun xs s =>
 un1 xs fun rest_11 =>
 kJoin (fun xs s =>
 un1 xs fun rest_11 =>
 kJoin (fun xs s =>
 un1 xs fun next_14 =>
 kCall Tryz.prog 18 [rest_11, next_14] s fun v124 s =>
 kExt 0 v124 fun v125 =>
 kExt 1 v124 fun v126 =>
 kFld 5 p_7 fun v127 =>
 kSt s 1 v127 v125 fun s =>
 kNck r_0 fun v128 =>
 kFld 1 v128 fun v129 =>
 kSt s 1 v129 v126 fun s =>
 kLdN s 6 p_7 fun v131 =>
 kCall Tryz.prog 40 [r_0, v131] s fun v132 s =>
 k undef s) fun J6 =>
 kFld 3 p_7 fun v105 =>
 kLd s v105 fun v106 =>
 kBin .eql v106 (.int .i64 0) fun v107 =>
 kCond v107 (
 kNck r_0 fun v109 =>
 kFld 1 v109 fun v110 =>
 kSt s 1 v110 (.int .i64 10) fun s =>
 k undef s) (
 kGrd v16 true (fun k =>
 kFld 3 p_7 fun v114 =>
 kLd s v114 fun v115 =>
 kBin .geq v115 (.int .i64 6) fun v116 =>
 k [v116] s) [undef] s fun xs s =>
 un1 xs fun v116 =>
 kPick v16 v116 (.bool false) fun v117 =>
 kCond v117 (
 J6 [(.int .i64 4)] s) (
 kCond v16 (
 J6 [(.int .i64 3)] s) (
 J6 [(.int .i64 1)] s)))) fun J5 =>
 kCall Tryz.prog 69 [] s fun v79 s =>
 kLen false v79 fun v80 =>
 kLoop (fun again7 xs s =>
 un2 xs fun rest_11 v81 =>
 kBin .lss v81 v80 fun v82 =>
 kJoin (fun _ s =>
 kJoin (fun xs s =>
 un1 xs fun rest_11 =>
 kBin .add v81 (.int .i64 1) fun v103 =>
 again7 [rest_11, v103] s) fun J9 =>
 kIdx 1 v79 v81 fun v84 =>
 kLd s v84 fun v85 =>
 kFld 3 p_7 fun v86 =>
 kLd s v86 fun v87 =>
 kBin .eql v87 (.int .i64 0) fun v88 =>
 kGrd v88 true (fun k =>
 kCall Tryz.prog 70 [rest_11, v85] s fun v92 s =>
 k [v92] s) [undef] s fun xs s =>
 un1 xs fun v92 =>
 kPick v88 v92 (.bool false) fun v93 =>
 kCond v93 (
 kLen true v85 fun v100 =>
 kSubS rest_11 (some v100) none fun v101 =>
 kCall Tryz.prog 71 [] s fun v94 s =>
 kIdx 1 v94 v81 fun v96 =>
 kLd s v96 fun v97 =>
 kFld 3 p_7 fun v102 =>
 kSt s 1 v102 v97 fun s =>
 J9 [v101] s) (
 J9 [rest_11] s)) fun J8 =>
 kCond v82 (
 J8 [] s) (
 J5 [rest_11] s)) [rest_11, (.int .i64 0)] s) fun J4 =>
 kLen true v56 fun v63 =>
 kBin .gtr v63 (.int .i64 1) fun v64 =>
 kGrd v64 true (fun k =>
 kIxS v56 (.int .i64 0) fun v67 =>
 kBin .eql v67 (.int .u8 58) fun v68 =>
 k [v68] s) [undef] s fun xs s =>
 un1 xs fun v68 =>
 kPick v64 v68 (.bool false) fun v69 =>
 kGrd v69 true (fun k =>
 kIxS v56 (.int .i64 1) fun v72 =>
 kCall Tryz.prog 39 [(.string (bs [45, 61, 63, 43])), v72] s fun v73 s =>
 kBin .geq v73 (.int .i64 0) fun v74 =>
 k [v74] s) [undef] s fun xs s =>
 un1 xs fun v74 =>
 kPick v69 v74 (.bool false) fun v75 =>
 kCond v75 (
 kSubS v56 (some (.int .i64 1)) none fun v77 =>
 kFld 4 p_7 fun v78 =>
 kSt s 1 v78 (.bool true) fun s =>
 J4 [v77] s) (
 J4 [v56] s)) fun J3 =>
 kBin .eql v56 (.string (bs [])) fun v58 =>
 kCond v58 (
 kLdN s 6 p_7 fun v60 =>
 kCall Tryz.prog 40 [r_0, v60] s fun v61 s =>
 k undef s) (
 J3 [] s)) fun J2 =>
 kBin .eql v44 (.int .i64 0) fun v46 =>
 kCond v46 (
 kNck r_0 fun v48 =>
 kFld 1 v48 fun v49 =>
 kSt s 1 v49 (.int .i64 10) fun s =>
 k undef s) (
 J2 [] s)) fun J1 =>
 kCall Tryz.prog 67 [in_1, (.string (bs [35]))] s fun v22 s =>
 kExt 0 v22 fun v23 =>
 kExt 1 v22 fun v24 =>
 kGrd v24 true (fun k =>
 kBin .neq v23 (.string (bs [])) fun v28 =>
 k [v28] s) [undef] s fun xs s =>
 un1 xs fun v28 =>
 kPick v24 v28 (.bool false) fun v29 =>
 kGrd v29 true (fun k =>
 kCall Tryz.prog 68 [v23] s fun v32 s =>
 kLen true v23 fun v34 =>
 kBin .eql v32 v34 fun v35 =>
 k [v35] s) [undef] s fun xs s =>
 un1 xs fun v35 =>
 kPick v29 v35 (.bool false) fun v36 =>
 kCond v36 (
 kFld 1 p_7 fun v38 =>
 kSt s 1 v38 v23 fun s =>
 kFld 3 p_7 fun v39 =>
 kSt s 1 v39 (.int .i64 1) fun s =>
 kLdN s 6 p_7 fun v41 =>
 kCall Tryz.prog 40 [r_0, v41] s fun v42 s =>
 k undef s) (
 J1 [] s)
theorem F45_ok (r_0 in_1 way_2 : Value) (s : AS) (k : Value → AS → Prop) : denFn Tryz.prog [(14, (.go 0 (.go 1 (.go 2 (.go 3 (.go 4 .done)))))), (19, (.go 1 (.go 4 (.go 5 (.go 6 (.go 7 (.go 0 (.go 2 (.go 3 (.go 8 (.go 9 (.go 10 .done))))))))))))] 45 [r_0, in_1, way_2] s k = F45 r_0 in_1 way_2 s k := by kernel_rfl
theorem f45 {r_0 in_1 way_2 : Value} {s : AS} {k : Value → AS → Prop} (h : F45 r_0 in_1 way_2 s k) : kCall Tryz.prog 45 [r_0, in_1, way_2] s k := fn_by (F45_ok r_0 in_1 way_2 s k) h
theorem k45_ok : okFn Tryz.prog 45 = true := by kernel_rfl

/- (*conch word.reader).run -/
def F46 (r_0 t_1 quote_2 : Value) (s : AS) (k : Value → AS → Prop) : Prop :=
 kLen true t_1 fun v12 =>
 kBin .sub v12 (.int .i64 1) fun v13 =>
 kSubS t_1 (some (.int .i64 1)) (some v13) fun v14 =>
 kJoin (fun _ s =>
 kBuild [(.int .i64 0), (.string (bs [])), (.bool false), (.int .i64 0), (.bool false), (.slice none 0 0)] [(0, 1, (.int .i64 3)), (1, 1, v14), (2, 1, quote_2)] fun v45 =>
 kCall Tryz.prog 40 [r_0, v45] s fun v46 s =>
 k undef s) fun J1 =>
 kCall Tryz.prog 70 [v14, (.string (bs [40]))] s fun v16 s =>
 kCond v16 (
 kBin .add (.string (bs [36])) v14 fun v19 =>
 kCall Tryz.prog 41 [v19, (.int .i64 0), (.bool false)] s fun v20 s =>
 kExt 0 v20 fun v21 =>
 kExt 1 v20 fun v22 =>
 kExt 2 v20 fun v23 =>
 kBin .eql v23 (.int .i64 0) fun v25 =>
 kGrd v25 true (fun k =>
 kLen true v14 fun v29 =>
 kBin .add v29 (.int .i64 1) fun v30 =>
 kBin .eql v21 v30 fun v31 =>
 k [v31] s) [undef] s fun xs s =>
 un1 xs fun v31 =>
 kPick v25 v31 (.bool false) fun v32 =>
 kCond v32 (
 kLen true v14 fun v36 =>
 kBin .sub v36 (.int .i64 1) fun v37 =>
 kSubS v14 (some (.int .i64 1)) (some v37) fun v38 =>
 kBuild [(.int .i64 0), (.string (bs [])), (.bool false), (.int .i64 0), (.bool false), (.slice none 0 0)] [(0, 1, (.int .i64 4)), (1, 1, v38), (2, 1, quote_2)] fun v40 =>
 kCall Tryz.prog 40 [r_0, v40] s fun v41 s =>
 k undef s) (
 J1 [] s)) (
 J1 [] s)
theorem F46_ok (r_0 t_1 quote_2 : Value) (s : AS) (k : Value → AS → Prop) : denFn Tryz.prog [] 46 [r_0, t_1, quote_2] s k = F46 r_0 t_1 quote_2 s k := by kernel_rfl
theorem f46 {r_0 t_1 quote_2 : Value} {s : AS} {k : Value → AS → Prop} (h : F46 r_0 t_1 quote_2 s k) : kCall Tryz.prog 46 [r_0, t_1, quote_2] s k := fn_by (F46_ok r_0 t_1 quote_2 s k) h
theorem k46_ok : okFn Tryz.prog 46 = true := by kernel_rfl

/- conch chars.Meta -/
def F47 (c_0 : Value) (s : AS) (k : Value → AS → Prop) : Prop :=
 kCall Tryz.prog 72 [(.string (bs [32, 9, 10, 124, 38, 59, 60, 62, 40, 41]))] s fun v3 s =>
 kCallv Tryz.prog v3 [c_0] s fun v5 s =>
 k v5 s
theorem F47_ok (c_0 : Value) (s : AS) (k : Value → AS → Prop) : denFn Tryz.prog [] 47 [c_0] s k = F47 c_0 s k := by kernel_rfl
theorem f47 {c_0 : Value} {s : AS} {k : Value → AS → Prop} (h : F47 c_0 s k) : kCall Tryz.prog 47 [c_0] s k := fn_by (F47_ok c_0 s k) h
theorem k47_ok : okFn Tryz.prog 47 = true := by kernel_rfl

/- conch conchref01.Front -/
def F48 (s_0 : Value) (s : AS) (k : Value → AS → Prop) : Prop :=
 kJoin (fun _ s =>
 kJoin (fun xs s =>
 un1 xs fun n_3 =>
 k n_3 s) fun J2 =>
 kLoop (fun again3 xs s =>
 un1 xs fun n_3 =>
 kJoin (fun _ s =>
 kBin .add n_3 (.int .i64 1) fun v29 =>
 again3 [v29] s) fun J4 =>
 kLen true s_0 fun v14 =>
 kBin .lss n_3 v14 fun v15 =>
 kGrd v15 true (fun k =>
 kIxS s_0 n_3 fun v19 =>
 kCall Tryz.prog 73 [v19] s fun v20 s =>
 k [v20] s) [undef] s fun xs s =>
 un1 xs fun v21 =>
 kGrd v21 false (fun k =>
 kIxS s_0 n_3 fun v24 =>
 kCall Tryz.prog 49 [v24] s fun v25 s =>
 k [v25] s) [undef] s fun xs s =>
 un1 xs fun v25 =>
 kGrd v15 true (fun k =>
 kPick v21 (.bool true) v25 fun v26 =>
 k [v26] s) [undef] s fun xs s =>
 un1 xs fun v26 =>
 kPick v15 v26 (.bool false) fun v27 =>
 kCond v27 (
 J4 [] s) (
 J2 [n_3] s)) [(.int .i64 1)] s) fun J1 =>
 kBin .eql s_0 (.string (bs [])) fun v5 =>
 kGrd v5 false (fun k =>
 kIxS s_0 (.int .i64 0) fun v8 =>
 kCall Tryz.prog 73 [v8] s fun v9 s =>
 kUn .not v9 fun v10 =>
 k [v10] s) [undef] s fun xs s =>
 un1 xs fun v10 =>
 kPick v5 (.bool true) v10 fun v11 =>
 kCond v11 (
 k (.int .i64 0) s) (
 J1 [] s)
theorem F48_ok (s_0 : Value) (s : AS) (k : Value → AS → Prop) : denFn Tryz.prog [] 48 [s_0] s k = F48 s_0 s k := by kernel_rfl
theorem f48 {s_0 : Value} {s : AS} {k : Value → AS → Prop} (h : F48 s_0 s k) : kCall Tryz.prog 48 [s_0] s k := fn_by (F48_ok s_0 s k) h
theorem k48_ok : okFn Tryz.prog 48 = true := by kernel_rfl

/- conch conchref01.Digit -/
def F49 (c_0 : Value) (s : AS) (k : Value → AS → Prop) : Prop :=
 kBin .geq c_0 (.int .u8 48) fun v4 =>
 kGrd v4 true (fun k =>
 kBin .leq c_0 (.int .u8 57) fun v7 =>
 k [v7] s) [undef] s fun xs s =>
 un1 xs fun v7 =>
 kPick v4 v7 (.bool false) fun v8 =>
 k v8 s
theorem F49_ok (c_0 : Value) (s : AS) (k : Value → AS → Prop) : denFn Tryz.prog [] 49 [c_0] s k = F49 c_0 s k := by kernel_rfl
theorem f49 {c_0 : Value} {s : AS} {k : Value → AS → Prop} (h : F49 c_0 s k) : kCall Tryz.prog 49 [c_0] s k := fn_by (F49_ok c_0 s k) h
theorem k49_ok : okFn Tryz.prog 49 = true := by kernel_rfl

/- conch conchref04.thing -/
def F50 (s_0 i_1 where_2 deep_3 : Value) (s : AS) (k : Value → AS → Prop) : Prop :=
 kNew s [(.int .i64 0), (.int .i64 0), (.int .i64 0)] fun v8 s =>
 kIxS s_0 i_1 fun v14 =>
 kBin .eql where_2 (.int .i64 1) fun v16 =>
 kGrd v16 false (fun k =>
 kBin .eql where_2 (.int .i64 3) fun v19 =>
 k [v19] s) [undef] s fun xs s =>
 un1 xs fun v19 =>
 kPick v16 (.bool true) v19 fun v20 =>
 kJoin (fun _ s =>
 kJoin (fun _ s =>
 kJoin (fun _ s =>
 kJoin (fun _ s =>
 kJoin (fun _ s =>
 kJoin (fun _ s =>
 kJoin (fun _ s =>
 kBin .add i_1 (.int .i64 1) fun v133 =>
 kBuild [(.int .i64 0), (.int .i64 0), (.int .i64 0)] [(0, 1, v133)] fun v134 =>
 kSt s 3 v8 v134 fun s =>
 kLdN s 3 v8 fun r0 =>
 k r0 s) fun J7 =>
 kBin .eql v14 (.int .u8 96) fun v129 =>
 kCond v129 (
 kBuild [(.int .i64 0), (.int .i64 0), (.int .i64 0)] [(1, 1, i_1), (2, 1, (.int .i64 10))] fun v131 =>
 kSt s 3 v8 v131 fun s =>
 kLdN s 3 v8 fun r0 =>
 k r0 s) (
 J7 [] s)) fun J6 =>
 kBin .eql v14 (.int .u8 36) fun v106 =>
 kGrd v106 true (fun k =>
 kBin .add i_1 (.int .i64 1) fun v109 =>
 kLen true s_0 fun v111 =>
 kBin .lss v109 v111 fun v112 =>
 k [v112] s) [undef] s fun xs s =>
 un1 xs fun v112 =>
 kPick v106 v112 (.bool false) fun v113 =>
 kGrd v113 true (fun k =>
 kBin .add i_1 (.int .i64 1) fun v117 =>
 kIxS s_0 v117 fun v118 =>
 kBin .eql v118 (.int .u8 40) fun v119 =>
 k [v119] s) [undef] s fun xs s =>
 un1 xs fun v119 =>
 kPick v113 v119 (.bool false) fun v120 =>
 kCond v120 (
 kBin .add i_1 (.int .i64 2) fun v123 =>
 kBin .add i_1 (.int .i64 1) fun v125 =>
 kCall Tryz.prog 74 [s_0, v123, v125, (.int .u8 41), (.int .i64 4), deep_3] s fun v127 s =>
 kSt s 3 v8 v127 fun s =>
 kLdN s 3 v8 fun r0 =>
 k r0 s) (
 J6 [] s)) fun J5 =>
 kBin .eql v14 (.int .u8 36) fun v77 =>
 kGrd v77 true (fun k =>
 kBin .add i_1 (.int .i64 1) fun v80 =>
 kLen true s_0 fun v82 =>
 kBin .lss v80 v82 fun v83 =>
 k [v83] s) [undef] s fun xs s =>
 un1 xs fun v83 =>
 kPick v77 v83 (.bool false) fun v84 =>
 kGrd v84 true (fun k =>
 kBin .add i_1 (.int .i64 1) fun v88 =>
 kIxS s_0 v88 fun v89 =>
 kBin .eql v89 (.int .u8 123) fun v90 =>
 k [v90] s) [undef] s fun xs s =>
 un1 xs fun v90 =>
 kPick v84 v90 (.bool false) fun v91 =>
 kCond v91 (
 kJoin (fun _ s =>
 kBin .add i_1 (.int .i64 2) fun v101 =>
 kCall Tryz.prog 74 [s_0, v101, i_1, (.int .u8 125), (.int .i64 2), deep_3] s fun v104 s =>
 kSt s 3 v8 v104 fun s =>
 kLdN s 3 v8 fun r0 =>
 k r0 s) fun J8 =>
 kCond v20 (
 kBin .add i_1 (.int .i64 2) fun v95 =>
 kCall Tryz.prog 74 [s_0, v95, i_1, (.int .u8 125), (.int .i64 3), deep_3] s fun v98 s =>
 kSt s 3 v8 v98 fun s =>
 kLdN s 3 v8 fun r0 =>
 k r0 s) (
 J8 [] s)) (
 J5 [] s)) fun J4 =>
 kBin .eql v14 (.int .u8 40) fun v65 =>
 kGrd v65 true (fun k =>
 kBin .eql where_2 (.int .i64 4) fun v68 =>
 k [v68] s) [undef] s fun xs s =>
 un1 xs fun v68 =>
 kPick v65 v68 (.bool false) fun v69 =>
 kCond v69 (
 kBin .add i_1 (.int .i64 1) fun v72 =>
 kCall Tryz.prog 74 [s_0, v72, i_1, (.int .u8 41), (.int .i64 4), deep_3] s fun v75 s =>
 kSt s 3 v8 v75 fun s =>
 kLdN s 3 v8 fun r0 =>
 k r0 s) (
 J4 [] s)) fun J3 =>
 kBin .eql v14 (.int .u8 34) fun v53 =>
 kGrd v53 true (fun k =>
 kBin .neq where_2 (.int .i64 1) fun v56 =>
 k [v56] s) [undef] s fun xs s =>
 un1 xs fun v56 =>
 kPick v53 v56 (.bool false) fun v57 =>
 kCond v57 (
 kBin .add i_1 (.int .i64 1) fun v60 =>
 kCall Tryz.prog 74 [s_0, v60, i_1, (.int .u8 34), (.int .i64 1), deep_3] s fun v63 s =>
 kSt s 3 v8 v63 fun s =>
 kLdN s 3 v8 fun r0 =>
 k r0 s) (
 J3 [] s)) fun J2 =>
 kBin .eql v14 (.int .u8 39) fun v30 =>
 kGrd v30 true (fun k =>
 kUn .not v20 fun v33 =>
 k [v33] s) [undef] s fun xs s =>
 un1 xs fun v33 =>
 kPick v30 v33 (.bool false) fun v34 =>
 kCond v34 (
 kJoin (fun _ s =>
 kBuild [(.int .i64 0), (.int .i64 0), (.int .i64 0)] [(1, 1, i_1), (2, 1, (.int .i64 11))] fun v51 =>
 kSt s 3 v8 v51 fun s =>
 kLdN s 3 v8 fun r0 =>
 k r0 s) fun J9 =>
 kBin .add i_1 (.int .i64 1) fun v36 =>
 kLoop (fun again10 xs s =>
 un1 xs fun k_11 =>
 kJoin (fun _ s =>
 kJoin (fun _ s =>
 kBin .add k_11 (.int .i64 1) fun v42 =>
 again10 [v42] s) fun J12 =>
 kIxS s_0 k_11 fun v45 =>
 kBin .eql v45 (.int .u8 39) fun v46 =>
 kCond v46 (
 kBin .add k_11 (.int .i64 1) fun v48 =>
 kBuild [(.int .i64 0), (.int .i64 0), (.int .i64 0)] [(0, 1, v48)] fun v49 =>
 kSt s 3 v8 v49 fun s =>
 kLdN s 3 v8 fun r0 =>
 k r0 s) (
 J12 [] s)) fun J11 =>
 kLen true s_0 fun v39 =>
 kBin .lss k_11 v39 fun v40 =>
 kCond v40 (
 J11 [] s) (
 J9 [] s)) [v36] s) (
 J2 [] s)) fun J1 =>
 kBin .eql v14 (.int .u8 92) fun v22 =>
 kCond v22 (
 kBin .add i_1 (.int .i64 2) fun v24 =>
 kLen true s_0 fun v26 =>
 kMin v24 v26 fun v27 =>
 kBuild [(.int .i64 0), (.int .i64 0), (.int .i64 0)] [(0, 1, v27)] fun v28 =>
 kSt s 3 v8 v28 fun s =>
 kLdN s 3 v8 fun r0 =>
 k r0 s) (
 J1 [] s)
theorem F50_ok (s_0 i_1 where_2 deep_3 : Value) (s : AS) (k : Value → AS → Prop) : denFn Tryz.prog [] 50 [s_0, i_1, where_2, deep_3] s k = F50 s_0 i_1 where_2 deep_3 s k := by kernel_rfl
theorem f50 {s_0 i_1 where_2 deep_3 : Value} {s : AS} {k : Value → AS → Prop} (h : F50 s_0 i_1 where_2 deep_3 s k) : kCall Tryz.prog 50 [s_0, i_1, where_2, deep_3] s k := fn_by (F50_ok s_0 i_1 where_2 deep_3 s k) h
theorem k50_ok : okFn Tryz.prog 50 = true := by kernel_rfl

/- (*conch conchref05.reader).pair -/
def F51 (r_0 t_1 way_2 : Value) (s : AS) (k : Value → AS → Prop) : Prop :=
 kJoin (fun _ s =>
 kIxS t_1 (.int .i64 1) fun v15 =>
 kJoin (fun _ s =>
 kCall Tryz.prog 30 [way_2] s fun v19 s =>
 kUn .not v19 fun v20 =>
 kGrd v20 false (fun k =>
 kBin .eql v15 (.int .u8 36) fun v23 =>
 k [v23] s) [undef] s fun xs s =>
 un1 xs fun v23 =>
 kPick v20 (.bool true) v23 fun v24 =>
 kGrd v24 false (fun k =>
 kBin .eql v15 (.int .u8 92) fun v27 =>
 k [v27] s) [undef] s fun xs s =>
 un1 xs fun v27 =>
 kPick v24 (.bool true) v27 fun v28 =>
 kGrd v28 false (fun k =>
 kBin .eql v15 (.int .u8 96) fun v31 =>
 k [v31] s) [undef] s fun xs s =>
 un1 xs fun v31 =>
 kPick v28 (.bool true) v31 fun v32 =>
 kGrd v32 false (fun k =>
 kBin .eql v15 (.int .u8 34) fun v35 =>
 k [v35] s) [undef] s fun xs s =>
 un1 xs fun v36 =>
 kGrd v36 true (fun k =>
 kBin .neq way_2 (.int .i64 5) fun v38 =>
 k [v38] s) [undef] s fun xs s =>
 un1 xs fun v38 =>
 kGrd v32 false (fun k =>
 kPick v36 v38 (.bool false) fun v39 =>
 k [v39] s) [undef] s fun xs s =>
 un1 xs fun v39 =>
 kPick v32 (.bool true) v39 fun v40 =>
 kGrd v40 false (fun k =>
 kBin .eql v15 (.int .u8 125) fun v43 =>
 k [v43] s) [undef] s fun xs s =>
 un1 xs fun v44 =>
 kGrd v44 true (fun k =>
 kBin .eql way_2 (.int .i64 3) fun v46 =>
 k [v46] s) [undef] s fun xs s =>
 un1 xs fun v46 =>
 kGrd v40 false (fun k =>
 kPick v44 v46 (.bool false) fun v47 =>
 k [v47] s) [undef] s fun xs s =>
 un1 xs fun v47 =>
 kPick v40 (.bool true) v47 fun v48 =>
 kCond v48 (
 kSubS t_1 (some (.int .i64 1)) none fun v52 =>
 kCall Tryz.prog 53 [r_0, v52, (.bool true)] s fun v53 s =>
 k undef s) (
 kCall Tryz.prog 53 [r_0, t_1, (.bool true)] s fun v56 s =>
 k undef s)) fun J2 =>
 kBin .eql v15 (.int .u8 10) fun v17 =>
 kCond v17 (
 k undef s) (
 J2 [] s)) fun J1 =>
 kLen true t_1 fun v9 =>
 kBin .eql v9 (.int .i64 1) fun v10 =>
 kCond v10 (
 kCall Tryz.prog 53 [r_0, t_1, (.bool true)] s fun v13 s =>
 k undef s) (
 J1 [] s)
theorem F51_ok (r_0 t_1 way_2 : Value) (s : AS) (k : Value → AS → Prop) : denFn Tryz.prog [] 51 [r_0, t_1, way_2] s k = F51 r_0 t_1 way_2 s k := by kernel_rfl
theorem f51 {r_0 t_1 way_2 : Value} {s : AS} {k : Value → AS → Prop} (h : F51 r_0 t_1 way_2 s k) : kCall Tryz.prog 51 [r_0, t_1, way_2] s k := fn_by (F51_ok r_0 t_1 way_2 s k) h
theorem k51_ok : okFn Tryz.prog 51 = true := by kernel_rfl

/- conch conchref01.Meta -/
def F52 (c_0 : Value) (s : AS) (k : Value → AS → Prop) : Prop :=
 kJoin (fun _ s =>
 k (.bool false) s) fun J1 =>
 kJoin (fun xs s =>
 un1 xs fun v4 =>
 kCond v4 (
 k (.bool true) s) (
 J1 [] s)) fun J2 =>
 kBin .eql c_0 (.int .u8 32) fun v5 =>
 kCond v5 (
 J2 [v5] s) (
 kBin .eql c_0 (.int .u8 9) fun v6 =>
 kCond v6 (
 J2 [v6] s) (
 kBin .eql c_0 (.int .u8 10) fun v7 =>
 kCond v7 (
 J2 [v7] s) (
 kBin .eql c_0 (.int .u8 124) fun v8 =>
 kCond v8 (
 J2 [v8] s) (
 kBin .eql c_0 (.int .u8 38) fun v9 =>
 kCond v9 (
 J2 [v9] s) (
 kBin .eql c_0 (.int .u8 59) fun v10 =>
 kCond v10 (
 J2 [v10] s) (
 kBin .eql c_0 (.int .u8 60) fun v11 =>
 kCond v11 (
 J2 [v11] s) (
 kBin .eql c_0 (.int .u8 62) fun v12 =>
 kCond v12 (
 J2 [v12] s) (
 kBin .eql c_0 (.int .u8 40) fun v13 =>
 kCond v13 (
 J2 [v13] s) (
 kBin .eql c_0 (.int .u8 41) fun v14 =>
 J2 [v14] s)))))))))
theorem F52_ok (c_0 : Value) (s : AS) (k : Value → AS → Prop) : denFn Tryz.prog [] 52 [c_0] s k = F52 c_0 s k := by kernel_rfl
theorem f52 {c_0 : Value} {s : AS} {k : Value → AS → Prop} (h : F52 c_0 s k) : kCall Tryz.prog 52 [c_0] s k := fn_by (F52_ok c_0 s k) h
theorem k52_ok : okFn Tryz.prog 52 = true := by kernel_rfl

/- (*conch conchref05.reader).lit -/
def F53 (r_0 s_1 quote_2 : Value) (s : AS) (k : Value → AS → Prop) : Prop :=
 kBuild [(.int .i64 0), (.string (bs [])), (.bool false), (.int .i64 0), (.bool false), (.slice none 0 0)] [(0, 1, (.int .i64 1)), (1, 1, s_1), (2, 1, quote_2)] fun v9 =>
 kCall Tryz.prog 29 [r_0, v9] s fun v10 s =>
 k undef s
theorem F53_ok (r_0 s_1 quote_2 : Value) (s : AS) (k : Value → AS → Prop) : denFn Tryz.prog [] 53 [r_0, s_1, quote_2] s k = F53 r_0 s_1 quote_2 s k := by kernel_rfl
theorem f53 {r_0 s_1 quote_2 : Value} {s : AS} {k : Value → AS → Prop} (h : F53 r_0 s_1 quote_2 s k) : kCall Tryz.prog 53 [r_0, s_1, quote_2] s k := fn_by (F53_ok r_0 s_1 quote_2 s k) h
theorem k53_ok : okFn Tryz.prog 53 = true := by kernel_rfl

/- (*conch conchref05.reader).brace -/
def F54 (r_0 in_1 way_2 : Value) (s : AS) (k : Value → AS → Prop) : Prop :=
 kCall Tryz.prog 30 [way_2] s fun v15 s =>
 kBuild [(.int .i64 0), (.string (bs [])), (.bool false), (.int .i64 0), (.bool false), (.slice none 0 0)] [(0, 1, (.int .i64 2)), (2, 1, v15)] fun v16 =>
 kNew s [(.int .i64 0), (.string (bs [])), (.bool false), (.int .i64 0), (.bool false), (.slice none 0 0)] fun p_6 s =>
 kSt s 6 p_6 v16 fun s =>
 kJoin (fun _ s =>
 kCall Tryz.prog 75 [in_1] s fun v42 s =>
 kJoin (fun _ s =>
 kSubS in_1 none (some v42) fun v50 =>
 kFld 1 p_6 fun v51 =>
 kSt s 1 v51 v50 fun s =>
 kSubS in_1 (some v42) none fun v54 =>
 kJoin (fun _ s =>
 kJoin (fun xs s =>
 un1 xs fun in_1' =>
 kJoin (fun xs s =>
 un1 xs fun c_8 =>
 kLen true in_1' fun v71 =>
 kBin .gtr v71 (.int .i64 1) fun v72 =>
 kGrd v72 true (fun k =>
 kIxS in_1' (.int .i64 1) fun v75 =>
 kBin .eql v75 c_8 fun v77 =>
 k [v77] s) [undef] s fun xs s =>
 un1 xs fun v77 =>
 kPick v72 v77 (.bool false) fun v78 =>
 kJoin (fun _ s =>
 kJoin (fun _ s =>
 kJoin (fun xs s =>
 un1 xs fun long_10 =>
 kJoin (fun xs s =>
 un1 xs fun next_11 =>
 kSubS in_1' (some long_10) none fun v131 =>
 kCall Tryz.prog 19 [v131, next_11] s fun v133 s =>
 kExt 0 v133 fun v134 =>
 kExt 1 v133 fun v135 =>
 kFld 5 p_6 fun v137 =>
 kSt s 1 v137 v134 fun s =>
 kNck r_0 fun v140 =>
 kFld 1 v140 fun v141 =>
 kSt s 1 v141 v135 fun s =>
 kLdN s 6 p_6 fun v143 =>
 kCall Tryz.prog 29 [r_0, v143] s fun v144 s =>
 k undef s) fun J9 =>
 kBin .geq way_2 (.int .i64 2) fun v124 =>
 kCond v124 (
 kFld 3 p_6 fun v125 =>
 kLd s v125 fun v126 =>
 kBin .geq v126 (.int .i64 6) fun v127 =>
 kCond v127 (
 J9 [(.int .i64 4)] s) (
 J9 [(.int .i64 3)] s)) (
 J9 [(.int .i64 1)] s)) fun J8 =>
 kFld 3 p_6 fun v113 =>
 kLd s v113 fun v114 =>
 kBin .geq v114 (.int .i64 6) fun v115 =>
 kGrd v115 true (fun k =>
 k [v78] s) [undef] s fun xs s =>
 un1 xs fun v117 =>
 kPick v115 v117 (.bool false) fun v118 =>
 kCond v118 (
 kFld 3 p_6 fun v119 =>
 kLd s v119 fun v120 =>
 kBin .add v120 (.int .i64 1) fun v121 =>
 kFld 3 p_6 fun v122 =>
 kSt s 1 v122 v121 fun s =>
 J8 [(.int .i64 2)] s) (
 J8 [(.int .i64 1)] s)) fun J7 =>
 kFld 3 p_6 fun v98 =>
 kLd s v98 fun v99 =>
 kBin .eql v99 (.int .i64 0) fun v100 =>
 kGrd v100 false (fun k =>
 kFld 4 p_6 fun v102 =>
 kLd s v102 fun v103 =>
 k [v103] s) [undef] s fun xs s =>
 un1 xs fun v104 =>
 kGrd v104 true (fun k =>
 kFld 3 p_6 fun v105 =>
 kLd s v105 fun v106 =>
 kBin .geq v106 (.int .i64 6) fun v107 =>
 k [v107] s) [undef] s fun xs s =>
 un1 xs fun v107 =>
 kGrd v100 false (fun k =>
 kPick v104 v107 (.bool false) fun v108 =>
 k [v108] s) [undef] s fun xs s =>
 un1 xs fun v108 =>
 kPick v100 (.bool true) v108 fun v109 =>
 kCond v109 (
 kNck r_0 fun v111 =>
 kFld 1 v111 fun v112 =>
 kSt s 1 v112 (.int .i64 10) fun s =>
 k undef s) (
 J7 [] s)) fun J6 =>
 kBin .eql c_8 (.int .u8 45) fun v81 =>
 kCond v81 (
 kFld 3 p_6 fun v82 =>
 kSt s 1 v82 (.int .i64 2) fun s =>
 J6 [] s) (
 kBin .eql c_8 (.int .u8 61) fun v84 =>
 kCond v84 (
 kFld 3 p_6 fun v85 =>
 kSt s 1 v85 (.int .i64 3) fun s =>
 J6 [] s) (
 kBin .eql c_8 (.int .u8 63) fun v87 =>
 kCond v87 (
 kFld 3 p_6 fun v88 =>
 kSt s 1 v88 (.int .i64 4) fun s =>
 J6 [] s) (
 kBin .eql c_8 (.int .u8 43) fun v90 =>
 kCond v90 (
 kFld 3 p_6 fun v91 =>
 kSt s 1 v91 (.int .i64 5) fun s =>
 J6 [] s) (
 kBin .eql c_8 (.int .u8 35) fun v93 =>
 kCond v93 (
 kFld 3 p_6 fun v94 =>
 kSt s 1 v94 (.int .i64 6) fun s =>
 J6 [] s) (
 kBin .eql c_8 (.int .u8 37) fun v96 =>
 kCond v96 (
 kFld 3 p_6 fun v97 =>
 kSt s 1 v97 (.int .i64 8) fun s =>
 J6 [] s) (
 J6 [] s))))))) fun J5 =>
 kBin .neq in_1' (.string (bs [])) fun v67 =>
 kCond v67 (
 kIxS in_1' (.int .i64 0) fun v69 =>
 J5 [v69] s) (
 J5 [(.int .u8 0)] s)) fun J4 =>
 kIxS v54 (.int .i64 0) fun v61 =>
 kBin .eql v61 (.int .u8 58) fun v62 =>
 kCond v62 (
 kFld 4 p_6 fun v63 =>
 kSt s 1 v63 (.bool true) fun s =>
 kSubS v54 (some (.int .i64 1)) none fun v65 =>
 J4 [v65] s) (
 J4 [v54] s)) fun J3 =>
 kBin .eql v54 (.string (bs [])) fun v56 =>
 kCond v56 (
 kLdN s 6 p_6 fun v58 =>
 kCall Tryz.prog 29 [r_0, v58] s fun v59 s =>
 k undef s) (
 J3 [] s)) fun J2 =>
 kBin .eql v42 (.int .i64 0) fun v44 =>
 kCond v44 (
 kNck r_0 fun v46 =>
 kFld 1 v46 fun v47 =>
 kSt s 1 v47 (.int .i64 10) fun s =>
 k undef s) (
 J2 [] s)) fun J1 =>
 kLen true in_1 fun v18 =>
 kBin .gtr v18 (.int .i64 1) fun v19 =>
 kGrd v19 true (fun k =>
 kIxS in_1 (.int .i64 0) fun v22 =>
 kBin .eql v22 (.int .u8 35) fun v23 =>
 k [v23] s) [undef] s fun xs s =>
 un1 xs fun v23 =>
 kPick v19 v23 (.bool false) fun v24 =>
 kGrd v24 true (fun k =>
 kSubS in_1 (some (.int .i64 1)) none fun v27 =>
 kCall Tryz.prog 75 [v27] s fun v28 s =>
 kLen true in_1 fun v30 =>
 kBin .sub v30 (.int .i64 1) fun v31 =>
 kBin .eql v28 v31 fun v32 =>
 k [v32] s) [undef] s fun xs s =>
 un1 xs fun v32 =>
 kPick v24 v32 (.bool false) fun v33 =>
 kCond v33 (
 kSubS in_1 (some (.int .i64 1)) none fun v35 =>
 kFld 1 p_6 fun v36 =>
 kSt s 1 v36 v35 fun s =>
 kFld 3 p_6 fun v37 =>
 kSt s 1 v37 (.int .i64 1) fun s =>
 kLdN s 6 p_6 fun v39 =>
 kCall Tryz.prog 29 [r_0, v39] s fun v40 s =>
 k undef s) (
 J1 [] s)
theorem F54_ok (r_0 in_1 way_2 : Value) (s : AS) (k : Value → AS → Prop) : denFn Tryz.prog [] 54 [r_0, in_1, way_2] s k = F54 r_0 in_1 way_2 s k := by kernel_rfl
theorem f54 {r_0 in_1 way_2 : Value} {s : AS} {k : Value → AS → Prop} (h : F54 r_0 in_1 way_2 s k) : kCall Tryz.prog 54 [r_0, in_1, way_2] s k := fn_by (F54_ok r_0 in_1 way_2 s k) h
theorem k54_ok : okFn Tryz.prog 54 = true := by kernel_rfl

/- (*conch conchref05.reader).run -/
def F55 (r_0 in_1 quote_2 : Value) (s : AS) (k : Value → AS → Prop) : Prop :=
 kJoin (fun _ s =>
 kBuild [(.int .i64 0), (.string (bs [])), (.bool false), (.int .i64 0), (.bool false), (.slice none 0 0)] [(0, 1, (.int .i64 3)), (1, 1, in_1), (2, 1, quote_2)] fun v44 =>
 kCall Tryz.prog 29 [r_0, v44] s fun v45 s =>
 k undef s) fun J1 =>
 kBin .neq in_1 (.string (bs [])) fun v10 =>
 kGrd v10 true (fun k =>
 kIxS in_1 (.int .i64 0) fun v13 =>
 kBin .eql v13 (.int .u8 40) fun v14 =>
 k [v14] s) [undef] s fun xs s =>
 un1 xs fun v14 =>
 kPick v10 v14 (.bool false) fun v15 =>
 kCond v15 (
 kBin .add (.string (bs [36])) in_1 fun v18 =>
 kCall Tryz.prog 31 [v18, (.int .i64 0), (.bool false)] s fun v19 s =>
 kExt 0 v19 fun v20 =>
 kExt 1 v19 fun v21 =>
 kExt 2 v19 fun v22 =>
 kBin .eql v22 (.int .i64 0) fun v24 =>
 kGrd v24 true (fun k =>
 kLen true in_1 fun v28 =>
 kBin .add v28 (.int .i64 1) fun v29 =>
 kBin .eql v20 v29 fun v30 =>
 k [v30] s) [undef] s fun xs s =>
 un1 xs fun v30 =>
 kPick v24 v30 (.bool false) fun v31 =>
 kCond v31 (
 kLen true in_1 fun v35 =>
 kBin .sub v35 (.int .i64 1) fun v36 =>
 kSubS in_1 (some (.int .i64 1)) (some v36) fun v37 =>
 kBuild [(.int .i64 0), (.string (bs [])), (.bool false), (.int .i64 0), (.bool false), (.slice none 0 0)] [(0, 1, (.int .i64 4)), (1, 1, v37), (2, 1, quote_2)] fun v39 =>
 kCall Tryz.prog 29 [r_0, v39] s fun v40 s =>
 k undef s) (
 J1 [] s)) (
 J1 [] s)
theorem F55_ok (r_0 in_1 quote_2 : Value) (s : AS) (k : Value → AS → Prop) : denFn Tryz.prog [] 55 [r_0, in_1, quote_2] s k = F55 r_0 in_1 quote_2 s k := by kernel_rfl
theorem f55 {r_0 in_1 quote_2 : Value} {s : AS} {k : Value → AS → Prop} (h : F55 r_0 in_1 quote_2 s k) : kCall Tryz.prog 55 [r_0, in_1, quote_2] s k := fn_by (F55_ok r_0 in_1 quote_2 s k) h
theorem k55_ok : okFn Tryz.prog 55 = true := by kernel_rfl

/- conch word.part -/
def F56 (p_0 way_1 : Value) (s : AS) (k : Value → AS → Prop) : Prop :=
 kNew s (cellsV p_0) fun p_2 s =>
 kCall Tryz.prog 76 [way_1] s fun v12 s =>
 kNew s [.nilFunc, (.bool false), (.bool false)] fun st_5 s =>
 kSt s 3 st_5 v12 fun s =>
 kJoin (fun xs s =>
 un1 xs fun out_6 =>
 kJoin (fun _ s =>
 k out_6 s) fun J2 =>
 kFld 2 p_2 fun v98 =>
 kLd s v98 fun v99 =>
 kGrd v99 true (fun k =>
 kFld 1 st_5 fun v101 =>
 kLd s v101 fun v102 =>
 k [v102] s) [undef] s fun xs s =>
 un1 xs fun v102 =>
 kPick v99 v102 (.bool false) fun v103 =>
 kCond v103 (
 kBin .add (.string (bs [34])) out_6 fun v105 =>
 kBin .add v105 (.string (bs [34])) fun v106 =>
 k v106 s) (
 J2 [] s)) fun J1 =>
 kFld 0 p_2 fun v13 =>
 kLd s v13 fun v14 =>
 kBin .eql v14 (.int .i64 1) fun v16 =>
 kCond v16 (
 kJoin (fun _ s =>
 kFld 1 p_2 fun v24 =>
 kLd s v24 fun v25 =>
 k v25 s) fun J3 =>
 kFld 2 p_2 fun v17 =>
 kLd s v17 fun v18 =>
 kCond v18 (
 kFld 0 st_5 fun v19 =>
 kLd s v19 fun v20 =>
 kFld 1 p_2 fun v21 =>
 kLd s v21 fun v22 =>
 kCallv Tryz.prog v20 [v22] s fun v23 s =>
 k v23 s) (
 J3 [] s)) (
 kBin .eql v14 (.int .i64 2) fun v27 =>
 kCond v27 (
 kJoin (fun xs s =>
 un1 xs fun next_7 =>
 kFld 1 p_2 fun v43 =>
 kLd s v43 fun v44 =>
 kJoin (fun xs s =>
 un1 xs fun inner_9 =>
 kJoin (fun xs s =>
 un1 xs fun inner_9 =>
 kBin .add (.string (bs [36, 123])) inner_9 fun v76 =>
 kBin .add v76 (.string (bs [125])) fun v77 =>
 kFld 3 p_2 fun v78 =>
 kLd s v78 fun v79 =>
 kBin .lss v79 (.int .i64 0) fun v80 =>
 kGrd v80 false (fun k =>
 kFld 3 p_2 fun v82 =>
 kLd s v82 fun v83 =>
 kBin .gtr v83 (.int .i64 9) fun v84 =>
 k [v84] s) [undef] s fun xs s =>
 un1 xs fun v84 =>
 kPick v80 (.bool true) v84 fun v85 =>
 kCond v85 (
 k (.string (bs [])) s) (
 J1 [v77] s)) fun J6 =>
 kFld 3 p_2 fun v51 =>
 kLd s v51 fun v52 =>
 kCall Tryz.prog 71 [] s fun v50 s =>
 kChk s v51 v52 (
 kCall Tryz.prog 77 [v50, v52] s fun v53 s =>
 kBin .geq v53 (.int .i64 0) fun v55 =>
 kCond v55 (
 kJoin (fun xs s =>
 un1 xs fun inner_9 =>
 kFld 5 p_2 fun v65 =>
 kLd s v65 fun v66 =>
 kCall Tryz.prog 69 [] s fun v61 s =>
 kChk s v65 v66 (
 kIdx 1 v61 v53 fun v63 =>
 kLd s v63 fun v64 =>
 kCall Tryz.prog 33 [v66, next_7] s fun v68 s =>
 kChk s v63 v64 (
 kBin .add v64 v68 fun v69 =>
 kBin .add inner_9 v69 fun v70 =>
 J6 [v70] s))) fun J7 =>
 kFld 4 p_2 fun v56 =>
 kLd s v56 fun v57 =>
 kCond v57 (
 kBin .add inner_9 (.string (bs [58])) fun v59 =>
 J7 [v59] s) (
 J7 [inner_9] s)) (
 kFld 4 p_2 fun v71 =>
 kLd s v71 fun v72 =>
 kCond v72 (
 kBin .add inner_9 (.string (bs [58])) fun v74 =>
 J6 [v74] s) (
 J6 [inner_9] s)))) fun J5 =>
 kFld 3 p_2 fun v45 =>
 kLd s v45 fun v46 =>
 kBin .eql v46 (.int .i64 1) fun v47 =>
 kCond v47 (
 kBin .add (.string (bs [35])) v44 fun v49 =>
 J5 [v49] s) (
 J5 [v44] s)) fun J4 =>
 kFld 2 p_2 fun v28 =>
 kLd s v28 fun v29 =>
 kGrd v29 false (fun k =>
 kFld 2 st_5 fun v31 =>
 kLd s v31 fun v32 =>
 k [v32] s) [undef] s fun xs s =>
 un1 xs fun v32 =>
 kPick v29 (.bool true) v32 fun v33 =>
 kGrd v33 true (fun k =>
 kFld 3 p_2 fun v37 =>
 kLd s v37 fun v38 =>
 kBin .geq v38 (.int .i64 6) fun v39 =>
 k [v39] s) [undef] s fun xs s =>
 un1 xs fun v39 =>
 kPick v33 v39 (.bool false) fun v40 =>
 kCond v40 (
 J4 [(.int .i64 4)] s) (
 kCond v33 (
 J4 [(.int .i64 3)] s) (
 J4 [(.int .i64 1)] s))) (
 kBin .eql v14 (.int .i64 3) fun v87 =>
 kCond v87 (
 kFld 1 p_2 fun v88 =>
 kLd s v88 fun v89 =>
 kBin .add (.string (bs [36, 40])) v89 fun v90 =>
 kBin .add v90 (.string (bs [41])) fun v91 =>
 J1 [v91] s) (
 kBin .eql v14 (.int .i64 4) fun v93 =>
 kCond v93 (
 kFld 1 p_2 fun v94 =>
 kLd s v94 fun v95 =>
 kBin .add (.string (bs [36, 40, 40])) v95 fun v96 =>
 kBin .add v96 (.string (bs [41, 41])) fun v97 =>
 J1 [v97] s) (
 k (.string (bs [])) s))))
theorem F56_ok (p_0 way_1 : Value) (s : AS) (k : Value → AS → Prop) : denFn Tryz.prog [(19, (.go 1 (.go 2 (.go 0 (.go 3 (.go 4 .done)))))), (23, (.go 0 (.go 2 (.go 5 (.go 7 (.go 6 (.go 1 (.go 3 (.go 4 (.go 8 (.go 9 (.go 10 (.go 11 .done)))))))))))))] 56 [p_0, way_1] s k = F56 p_0 way_1 s k := by kernel_rfl
theorem f56 {p_0 way_1 : Value} {s : AS} {k : Value → AS → Prop} (h : F56 p_0 way_1 s k) : kCall Tryz.prog 56 [p_0, way_1] s k := fn_by (F56_ok p_0 way_1 s k) h
theorem k56_ok : okFn Tryz.prog 56 = true := by kernel_rfl

/- slices.EqualFunc[conch api.Word,conch api.Word,conch api.Part,conch api.Part] -/
def F57 (s1_0 s2_1 eq_2 : Value) (s : AS) (k : Value → AS → Prop) : Prop :=
 kJoin (fun _ s =>
 kJoin (fun _ s =>
 k (.bool true) s) fun J2 =>
 kLen false s1_0 fun v16 =>
 kLoop (fun again3 xs s =>
 un1 xs fun v17 =>
 kBin .lss v17 v16 fun v18 =>
 kJoin (fun _ s =>
 kJoin (fun _ s =>
 kBin .add v17 (.int .i64 1) fun v31 =>
 again3 [v31] s) fun J5 =>
 kIdx 6 s1_0 v17 fun v20 =>
 kLdN s 6 v20 fun v21 =>
 kNew s [(.int .i64 0), (.string (bs [])), (.bool false), (.int .i64 0), (.bool false), (.slice none 0 0)] fun v1_8 s =>
 kSt s 6 v1_8 v21 fun s =>
 kIdx 6 s2_1 v17 fun v24 =>
 kLdN s 6 v24 fun v25 =>
 kNew s [(.int .i64 0), (.string (bs [])), (.bool false), (.int .i64 0), (.bool false), (.slice none 0 0)] fun v2_9 s =>
 kSt s 6 v2_9 v25 fun s =>
 kLdN s 6 v1_8 fun v27 =>
 kLdN s 6 v2_9 fun v28 =>
 kCallv Tryz.prog eq_2 [v27, v28] s fun v29 s =>
 kUn .not v29 fun v30 =>
 kCond v30 (
 k (.bool false) s) (
 J5 [] s)) fun J4 =>
 kCond v18 (
 J4 [] s) (
 J2 [] s)) [(.int .i64 0)] s) fun J1 =>
 kLen false s1_0 fun v11 =>
 kLen false s2_1 fun v13 =>
 kBin .neq v11 v13 fun v14 =>
 kCond v14 (
 k (.bool false) s) (
 J1 [] s)
theorem F57_ok (s1_0 s2_1 eq_2 : Value) (s : AS) (k : Value → AS → Prop) : denFn Tryz.prog [] 57 [s1_0, s2_1, eq_2] s k = F57 s1_0 s2_1 eq_2 s k := by kernel_rfl
theorem f57 {s1_0 s2_1 eq_2 : Value} {s : AS} {k : Value → AS → Prop} (h : F57 s1_0 s2_1 eq_2 s k) : kCall Tryz.prog 57 [s1_0, s2_1, eq_2] s k := fn_by (F57_ok s1_0 s2_1 eq_2 s k) h
theorem k57_ok : okFn Tryz.prog 57 = true := by kernel_rfl

/- conch word.Same$1 -/
def F58 (p_0 q_1 : Value) (s : AS) (k : Value → AS → Prop) : Prop :=
 kNew s (cellsV p_0) fun p_2 s =>
 kNew s (cellsV q_1) fun q_3 s =>
 kFld 0 p_2 fun v5 =>
 kLd s v5 fun v6 =>
 kFld 0 q_3 fun v7 =>
 kLd s v7 fun v8 =>
 kBin .eql v6 v8 fun v9 =>
 kGrd v9 true (fun k =>
 kFld 1 p_2 fun v11 =>
 kLd s v11 fun v12 =>
 kFld 1 q_3 fun v13 =>
 kLd s v13 fun v14 =>
 kBin .eql v12 v14 fun v15 =>
 k [v15] s) [undef] s fun xs s =>
 un1 xs fun v15 =>
 kPick v9 v15 (.bool false) fun v16 =>
 kGrd v16 true (fun k =>
 kFld 2 p_2 fun v18 =>
 kLd s v18 fun v19 =>
 kFld 2 q_3 fun v20 =>
 kLd s v20 fun v21 =>
 kEq 4 false v19 v21 fun v22 =>
 k [v22] s) [undef] s fun xs s =>
 un1 xs fun v22 =>
 kPick v16 v22 (.bool false) fun v23 =>
 kGrd v23 true (fun k =>
 kFld 3 p_2 fun v25 =>
 kLd s v25 fun v26 =>
 kFld 3 q_3 fun v27 =>
 kLd s v27 fun v28 =>
 kBin .eql v26 v28 fun v29 =>
 k [v29] s) [undef] s fun xs s =>
 un1 xs fun v29 =>
 kPick v23 v29 (.bool false) fun v30 =>
 kGrd v30 true (fun k =>
 kFld 4 p_2 fun v32 =>
 kLd s v32 fun v33 =>
 kFld 4 q_3 fun v34 =>
 kLd s v34 fun v35 =>
 kEq 4 false v33 v35 fun v36 =>
 k [v36] s) [undef] s fun xs s =>
 un1 xs fun v36 =>
 kPick v30 v36 (.bool false) fun v37 =>
 kGrd v37 true (fun k =>
 kFld 5 p_2 fun v39 =>
 kLd s v39 fun v40 =>
 kFld 5 q_3 fun v41 =>
 kLd s v41 fun v42 =>
 kCall Tryz.prog 34 [v40, v42] s fun v43 s =>
 k [v43] s) [undef] s fun xs s =>
 un1 xs fun v43 =>
 kPick v37 v43 (.bool false) fun v44 =>
 k v44 s
theorem F58_ok (p_0 q_1 : Value) (s : AS) (k : Value → AS → Prop) : denFn Tryz.prog [] 58 [p_0, q_1] s k = F58 p_0 q_1 s k := by kernel_rfl
theorem f58 {p_0 q_1 : Value} {s : AS} {k : Value → AS → Prop} (h : F58 p_0 q_1 s k) : kCall Tryz.prog 58 [p_0, q_1] s k := fn_by (F58_ok p_0 q_1 s k) h
theorem k58_ok : okFn Tryz.prog 58 = true := by kernel_rfl

/- conch conchref05.lit -/
def F59 (s_0 way_1 : Value) (s : AS) (k : Value → AS → Prop) : Prop :=
 kJoin (fun _ s =>
 kCall Tryz.prog 79 [s_0] s fun v23 s =>
 k v23 s) fun J1 =>
 kBin .eql way_1 (.int .i64 4) fun v7 =>
 kCond v7 (
 kCall Tryz.prog 78 [s_0, (.int .u8 34), (.int .u8 0)] s fun v9 s =>
 kBin .add (.string (bs [34])) v9 fun v10 =>
 kBin .add v10 (.string (bs [34])) fun v11 =>
 k v11 s) (
 kBin .eql way_1 (.int .i64 3) fun v13 =>
 kCond v13 (
 kJoin (fun _ s =>
 kCall Tryz.prog 78 [s_0, (.int .u8 34), (.int .u8 125)] s fun v17 s =>
 k v17 s) fun J2 =>
 kBin .eql s_0 (.string (bs [])) fun v15 =>
 kCond v15 (
 k (.string (bs [34, 34])) s) (
 J2 [] s)) (
 kBin .eql way_1 (.int .i64 5) fun v19 =>
 kCond v19 (
 kCall Tryz.prog 78 [s_0, (.int .u8 0), (.int .u8 0)] s fun v21 s =>
 k v21 s) (
 J1 [] s)))
theorem F59_ok (s_0 way_1 : Value) (s : AS) (k : Value → AS → Prop) : denFn Tryz.prog [] 59 [s_0, way_1] s k = F59 s_0 way_1 s k := by kernel_rfl
theorem f59 {s_0 way_1 : Value} {s : AS} {k : Value → AS → Prop} (h : F59 s_0 way_1 s k) : kCall Tryz.prog 59 [s_0, way_1] s k := fn_by (F59_ok s_0 way_1 s k) h
theorem k59_ok : okFn Tryz.prog 59 = true := by kernel_rfl

/- conch conchref05.sign -/
def F60 (op_0 : Value) (s : AS) (k : Value → AS → Prop) : Prop :=
(fun v3 s =>
 kIdx 1 v3 op_0 fun v5 =>
 kLd s v5 fun v6 =>
 k v6 s) (.slice (some ⟨s.n, 0, none⟩) 10 10) (s.new (.cells [(.string (bs [])), (.string (bs [])), (.string (bs [45])), (.string (bs [61])), (.string (bs [63])), (.string (bs [43])), (.string (bs [35])), (.string (bs [35, 35])), (.string (bs [37])), (.string (bs [37, 37]))]))
theorem F60_ok (op_0 : Value) (s : AS) (k : Value → AS → Prop) : denFn Tryz.prog [] 60 [op_0] s k = F60 op_0 s k := by kernel_rfl
theorem f60 {op_0 : Value} {s : AS} {k : Value → AS → Prop} (h : F60 op_0 s k) : kCall Tryz.prog 60 [op_0] s k := fn_by (F60_ok op_0 s k) h
theorem k60_ok : okFn Tryz.prog 60 = true := by kernel_rfl

/- conch chars.Alpha -/
def F62 (c_0 : Value) (s : AS) (k : Value → AS → Prop) : Prop :=
 kBin .eql c_0 (.int .u8 95) fun v4 =>
 kGrd v4 false (fun k =>
 kBin .or c_0 (.int .u8 32) fun v7 =>
 kBin .geq v7 (.int .u8 97) fun v8 =>
 k [v8] s) [undef] s fun xs s =>
 un1 xs fun v9 =>
 kGrd v9 true (fun k =>
 kBin .or c_0 (.int .u8 32) fun v11 =>
 kBin .leq v11 (.int .u8 122) fun v12 =>
 k [v12] s) [undef] s fun xs s =>
 un1 xs fun v12 =>
 kGrd v4 false (fun k =>
 kPick v9 v12 (.bool false) fun v13 =>
 k [v13] s) [undef] s fun xs s =>
 un1 xs fun v13 =>
 kPick v4 (.bool true) v13 fun v14 =>
 k v14 s
theorem F62_ok (c_0 : Value) (s : AS) (k : Value → AS → Prop) : denFn Tryz.prog [] 62 [c_0] s k = F62 c_0 s k := by kernel_rfl
theorem f62 {c_0 : Value} {s : AS} {k : Value → AS → Prop} (h : F62 c_0 s k) : kCall Tryz.prog 62 [c_0] s k := fn_by (F62_ok c_0 s k) h
theorem k62_ok : okFn Tryz.prog 62 = true := by kernel_rfl

/- internal stringslite.IndexByte -/
def F63 (s_0 c_1 : Value) (s : AS) (k : Value → AS → Prop) : Prop :=
 kGen Tryz.prog (.ext 80) [s_0, c_1] s fun v7 s =>
 k v7 s
theorem F63_ok (s_0 c_1 : Value) (s : AS) (k : Value → AS → Prop) : denFn Tryz.prog [] 63 [s_0, c_1] s k = F63 s_0 c_1 s k := by kernel_rfl
theorem f63 {s_0 c_1 : Value} {s : AS} {k : Value → AS → Prop} (h : F63 s_0 c_1 s k) : kCall Tryz.prog 63 [s_0, c_1] s k := fn_by (F63_ok s_0 c_1 s k) h
theorem k63_ok : okFn Tryz.prog 63 = true := by kernel_rfl

/- (*conch lex.reader).thing -/
def F64 (r_0 quoted_1 quotes_2 brackets_3 : Value) (s : AS) (k : Value → AS → Prop) : Prop :=
 kNew s (cellsV r_0) fun r_4 s =>
 kLd s r_4 fun v10 =>
 kNck v10 fun v11 =>
 kFld 2 v11 fun v12 =>
 kLd s v12 fun v13 =>
 kLd s r_4 fun v14 =>
 kNck v14 fun v15 =>
 kFld 3 v15 fun v16 =>
 kLd s v16 fun v17 =>
 kIxS v13 v17 fun v18 =>
 kBin .eql v18 (.int .u8 92) fun v28 =>
 kCond v28 (
 kLd s r_4 fun v29 =>
 kLd s r_4 fun v30 =>
 kNck v30 fun v31 =>
 kFld 3 v31 fun v32 =>
 kLd s v32 fun v33 =>
 kBin .add v33 (.int .i64 2) fun v34 =>
 kLd s r_4 fun v35 =>
 kNck v35 fun v36 =>
 kFld 2 v36 fun v37 =>
 kLd s v37 fun v38 =>
 kLen true v38 fun v39 =>
 kMin v34 v39 fun v40 =>
 kNck v29 fun v41 =>
 kFld 3 v41 fun v42 =>
 kSt s 1 v42 v40 fun s =>
 k undef s) (
 kBin .eql v18 (.int .u8 39) fun v45 =>
 kGrd v45 true (fun k =>
 kUn .not quoted_1 fun v48 =>
 k [v48] s) [undef] s fun xs s =>
 un1 xs fun v48 =>
 kPick v45 v48 (.bool false) fun v49 =>
 kCond v49 (
 kLd s r_4 fun v50 =>
 kCall Tryz.prog 81 [v50] s fun v51 s =>
 k undef s) (
 kBin .eql v18 (.int .u8 34) fun v54 =>
 kGrd v54 true (fun k =>
 k [quotes_2] s) [undef] s fun xs s =>
 un1 xs fun v56 =>
 kPick v54 v56 (.bool false) fun v57 =>
 kCond v57 (
 kLd s r_4 fun v58 =>
 kNck v58 fun v59 =>
 kFld 3 v59 fun v60 =>
 kLd s v60 fun v61 =>
 kLd s r_4 fun v62 =>
 kNck v62 fun v63 =>
 kFld 3 v63 fun v64 =>
 kLd s v64 fun v65 =>
 kBin .add v65 (.int .i64 1) fun v66 =>
 kNck v62 fun v67 =>
 kFld 3 v67 fun v68 =>
 kSt s 1 v68 v66 fun s =>
 kLd s r_4 fun v69 =>
 kCall Tryz.prog 82 [v69, (.int .u8 34), v61, (.func (.func 83) #[] #[r_4])] s fun v72 s =>
 k undef s) (
 kBin .eql v18 (.int .u8 40) fun v75 =>
 kGrd v75 true (fun k =>
 k [brackets_3] s) [undef] s fun xs s =>
 un1 xs fun v77 =>
 kPick v75 v77 (.bool false) fun v78 =>
 kCond v78 (
 kLd s r_4 fun v79 =>
 kCall Tryz.prog 84 [v79] s fun v80 s =>
 k undef s) (
 kBin .eql v18 (.int .u8 36) fun v83 =>
 kCond v83 (
 kLd s r_4 fun v84 =>
 kCall Tryz.prog 85 [v84, quoted_1] s fun v86 s =>
 k undef s) (
 kBin .eql v18 (.int .u8 96) fun v89 =>
 kCond v89 (
 kLd s r_4 fun v90 =>
 kNck v90 fun v91 =>
 kFld 0 v91 fun v92 =>
 kLd s r_4 fun v93 =>
 kNck v93 fun v94 =>
 kFld 3 v94 fun v95 =>
 kLd s v95 fun v96 =>
 kCall Tryz.prog 86 [v92, (.int .i64 10), v96] s fun v97 s =>
 k undef s) (
 kLd s r_4 fun v19 =>
 kNck v19 fun v20 =>
 kFld 3 v20 fun v21 =>
 kLd s v21 fun v22 =>
 kBin .add v22 (.int .i64 1) fun v23 =>
 kNck v19 fun v24 =>
 kFld 3 v24 fun v25 =>
 kSt s 1 v25 v23 fun s =>
 k undef s))))))
theorem F64_ok (r_0 quoted_1 quotes_2 brackets_3 : Value) (s : AS) (k : Value → AS → Prop) : denFn Tryz.prog [(1, (.go 0 (.go 1 (.go 2 (.go 3 (.go 4 (.go 5 (.go 6 (.go 7 (.go 8 (.go 9 .done))))))))))), (4, (.go 0 (.go 1 (.go 2 (.go 3 (.go 4 (.go 5 (.go 6 (.go 7 (.go 8 (.go 9 (.go 10 (.go 11 (.go 12 (.go 13 (.go 14 .done)))))))))))))))), (16, (.go 0 (.go 1 (.go 2 (.go 3 (.go 4 (.go 5 (.go 6 (.go 7 .done)))))))))] 64 [r_0, quoted_1, quotes_2, brackets_3] s k = F64 r_0 quoted_1 quotes_2 brackets_3 s k := by kernel_rfl
theorem f64 {r_0 quoted_1 quotes_2 brackets_3 : Value} {s : AS} {k : Value → AS → Prop} (h : F64 r_0 quoted_1 quotes_2 brackets_3 s k) : kCall Tryz.prog 64 [r_0, quoted_1, quotes_2, brackets_3] s k := fn_by (F64_ok r_0 quoted_1 quotes_2 brackets_3 s k) h
theorem k64_ok : okFn Tryz.prog 64 = true := by kernel_rfl

/- (*conch lex.blame).wrong -/
def F65 (b_0 : Value) (s : AS) (k : Value → AS → Prop) : Prop :=
 kNck b_0 fun v4 =>
 kFld 0 v4 fun v5 =>
 kLd s v5 fun v6 =>
 kBin .neq v6 (.int .i64 0) fun v7 =>
 k v7 s
theorem F65_ok (b_0 : Value) (s : AS) (k : Value → AS → Prop) : denFn Tryz.prog [] 65 [b_0] s k = F65 b_0 s k := by kernel_rfl
theorem f65 {b_0 : Value} {s : AS} {k : Value → AS → Prop} (h : F65 b_0 s k) : kCall Tryz.prog 65 [b_0] s k := fn_by (F65_ok b_0 s k) h
theorem k65_ok : okFn Tryz.prog 65 = true := by kernel_rfl

/- conch word.each -/
def F66 (w_0 to_1 : Value) (s : AS) (k : Value → AS → Prop) : Prop :=
 kLen false w_0 fun v7 =>
 kLoop (fun again1 xs s =>
 un1 xs fun v8 =>
 kBin .lss v8 v7 fun v9 =>
 kJoin (fun _ s =>
 kJoin (fun _ s =>
 kBin .add v8 (.int .i64 1) fun v15 =>
 again1 [v15] s) fun J3 =>
 kIdx 6 w_0 v8 fun v10 =>
 kLdN s 6 v10 fun v11 =>
 kNew s [(.int .i64 0), (.string (bs [])), (.bool false), (.int .i64 0), (.bool false), (.slice none 0 0)] fun p_5 s =>
 kSt s 6 p_5 v11 fun s =>
 kLdN s 6 p_5 fun v13 =>
 kCallv Tryz.prog to_1 [v13] s fun v14 s =>
 J3 [] s) fun J2 =>
 kCond v9 (
 J2 [] s) (
 k undef s)) [(.int .i64 0)] s
theorem F66_ok (w_0 to_1 : Value) (s : AS) (k : Value → AS → Prop) : denFn Tryz.prog [] 66 [w_0, to_1] s k = F66 w_0 to_1 s k := by kernel_rfl
theorem f66 {w_0 to_1 : Value} {s : AS} {k : Value → AS → Prop} (h : F66 w_0 to_1 s k) : kCall Tryz.prog 66 [w_0, to_1] s k := fn_by (F66_ok w_0 to_1 s k) h
theorem k66_ok : okFn Tryz.prog 66 = true := by kernel_rfl

/- strings.CutPrefix -/
def F67 (s_0 prefix_1 : Value) (s : AS) (k : Value → AS → Prop) : Prop :=
 kCall Tryz.prog 87 [s_0, prefix_1] s fun v8 s =>
 kExt 0 v8 fun v9 =>
 kExt 1 v8 fun v10 =>
 k (.tuple #[v9, v10]) s
theorem F67_ok (s_0 prefix_1 : Value) (s : AS) (k : Value → AS → Prop) : denFn Tryz.prog [] 67 [s_0, prefix_1] s k = F67 s_0 prefix_1 s k := by kernel_rfl
theorem f67 {s_0 prefix_1 : Value} {s : AS} {k : Value → AS → Prop} (h : F67 s_0 prefix_1 s k) : kCall Tryz.prog 67 [s_0, prefix_1] s k := fn_by (F67_ok s_0 prefix_1 s k) h
theorem k67_ok : okFn Tryz.prog 67 = true := by kernel_rfl

/- conch word.param -/
def F68 (s_0 : Value) (s : AS) (k : Value → AS → Prop) : Prop :=
 kJoin (fun _ s =>
 kJoin (fun xs s =>
 un1 xs fun n_4 =>
 kJoin (fun _ s =>
 k (.int .i64 0) s) fun J3 =>
 kBin .gtr n_4 (.int .i64 3) fun v24 =>
 kGrd v24 false (fun k =>
 kBin .gtr n_4 (.int .i64 1) fun v27 =>
 k [v27] s) [undef] s fun xs s =>
 un1 xs fun v28 =>
 kGrd v28 true (fun k =>
 kIxS s_0 (.int .i64 0) fun v30 =>
 kBin .eql v30 (.int .u8 48) fun v31 =>
 k [v31] s) [undef] s fun xs s =>
 un1 xs fun v31 =>
 kGrd v24 false (fun k =>
 kPick v28 v31 (.bool false) fun v32 =>
 k [v32] s) [undef] s fun xs s =>
 un1 xs fun v32 =>
 kPick v24 (.bool true) v32 fun v33 =>
 kCond v33 (
 k (.int .i64 0) s) (
 kBin .gtr n_4 (.int .i64 0) fun v36 =>
 kCond v36 (
 k n_4 s) (
 kBin .neq s_0 (.string (bs [])) fun v40 =>
 kGrd v40 true (fun k =>
 kIxS s_0 (.int .i64 0) fun v43 =>
 kCall Tryz.prog 39 [(.string (bs [64, 42, 35, 63])), v43] s fun v44 s =>
 kBin .geq v44 (.int .i64 0) fun v45 =>
 k [v45] s) [undef] s fun xs s =>
 un1 xs fun v45 =>
 kPick v40 v45 (.bool false) fun v46 =>
 kCond v46 (
 k (.int .i64 1) s) (
 J3 [] s)))) fun J2 =>
 kLoop (fun again4 xs s =>
 un1 xs fun n_4 =>
 kJoin (fun _ s =>
 kBin .add n_4 (.int .i64 1) fun v21 =>
 again4 [v21] s) fun J5 =>
 kLen true s_0 fun v12 =>
 kBin .lss n_4 v12 fun v13 =>
 kGrd v13 true (fun k =>
 kIxS s_0 n_4 fun v17 =>
 kCall Tryz.prog 38 [v17] s fun v18 s =>
 k [v18] s) [undef] s fun xs s =>
 un1 xs fun v18 =>
 kPick v13 v18 (.bool false) fun v19 =>
 kCond v19 (
 J5 [] s) (
 J2 [n_4] s)) [(.int .i64 0)] s) fun J1 =>
 kCall Tryz.prog 37 [s_0] s fun v6 s =>
 kBin .gtr v6 (.int .i64 0) fun v8 =>
 kCond v8 (
 k v6 s) (
 J1 [] s)
theorem F68_ok (s_0 : Value) (s : AS) (k : Value → AS → Prop) : denFn Tryz.prog [] 68 [s_0] s k = F68 s_0 s k := by kernel_rfl
theorem f68 {s_0 : Value} {s : AS} {k : Value → AS → Prop} (h : F68 s_0 s k) : kCall Tryz.prog 68 [s_0] s k := fn_by (F68_ok s_0 s k) h
theorem k68_ok : okFn Tryz.prog 68 = true := by kernel_rfl

/- conch word.ops -/
def F69 (s : AS) (k : Value → AS → Prop) : Prop :=
(fun v1 s =>
 k v1 s) (.slice (some ⟨s.n, 0, none⟩) 8 8) (s.new (.cells [(.string (bs [35, 35])), (.string (bs [37, 37])), (.string (bs [35])), (.string (bs [37])), (.string (bs [45])), (.string (bs [61])), (.string (bs [63])), (.string (bs [43]))]))
theorem F69_ok (s : AS) (k : Value → AS → Prop) : denFn Tryz.prog [] 69 [] s k = F69 s k := by kernel_rfl
theorem f69 {s : AS} {k : Value → AS → Prop} (h : F69 s k) : kCall Tryz.prog 69 [] s k := fn_by (F69_ok s k) h
theorem k69_ok : okFn Tryz.prog 69 = true := by kernel_rfl

/- strings.HasPrefix -/
def F70 (s_0 prefix_1 : Value) (s : AS) (k : Value → AS → Prop) : Prop :=
 kCall Tryz.prog 88 [s_0, prefix_1] s fun v7 s =>
 k v7 s
theorem F70_ok (s_0 prefix_1 : Value) (s : AS) (k : Value → AS → Prop) : denFn Tryz.prog [] 70 [s_0, prefix_1] s k = F70 s_0 prefix_1 s k := by kernel_rfl
theorem f70 {s_0 prefix_1 : Value} {s : AS} {k : Value → AS → Prop} (h : F70 s_0 prefix_1 s k) : kCall Tryz.prog 70 [s_0, prefix_1] s k := fn_by (F70_ok s_0 prefix_1 s k) h
theorem k70_ok : okFn Tryz.prog 70 = true := by kernel_rfl

/- conch word.kinds -/
def F71 (s : AS) (k : Value → AS → Prop) : Prop :=
(fun v1 s =>
 k v1 s) (.slice (some ⟨s.n, 0, none⟩) 8 8) (s.new (.cells [(.int .i64 7), (.int .i64 9), (.int .i64 6), (.int .i64 8), (.int .i64 2), (.int .i64 3), (.int .i64 4), (.int .i64 5)]))
theorem F71_ok (s : AS) (k : Value → AS → Prop) : denFn Tryz.prog [] 71 [] s k = F71 s k := by kernel_rfl
theorem f71 {s : AS} {k : Value → AS → Prop} (h : F71 s k) : kCall Tryz.prog 71 [] s k := fn_by (F71_ok s k) h
theorem k71_ok : okFn Tryz.prog 71 = true := by kernel_rfl

/- conch chars.among -/
def F72 (s_0 : Value) (s : AS) (k : Value → AS → Prop) : Prop :=
 kNew s (cellsV s_0) fun s_1 s =>
 k (.func (.func 89) #[] #[s_1]) s
theorem F72_ok (s_0 : Value) (s : AS) (k : Value → AS → Prop) : denFn Tryz.prog [] 72 [s_0] s k = F72 s_0 s k := by kernel_rfl
theorem f72 {s_0 : Value} {s : AS} {k : Value → AS → Prop} (h : F72 s_0 s k) : kCall Tryz.prog 72 [s_0] s k := fn_by (F72_ok s_0 s k) h
theorem k72_ok : okFn Tryz.prog 72 = true := by kernel_rfl

/- conch conchref01.Alpha -/
def F73 (c_0 : Value) (s : AS) (k : Value → AS → Prop) : Prop :=
 kBin .geq c_0 (.int .u8 97) fun v4 =>
 kGrd v4 true (fun k =>
 kBin .leq c_0 (.int .u8 122) fun v7 =>
 k [v7] s) [undef] s fun xs s =>
 un1 xs fun v7 =>
 kPick v4 v7 (.bool false) fun v8 =>
 kGrd v8 false (fun k =>
 kBin .geq c_0 (.int .u8 65) fun v11 =>
 k [v11] s) [undef] s fun xs s =>
 un1 xs fun v12 =>
 kGrd v12 true (fun k =>
 kBin .leq c_0 (.int .u8 90) fun v14 =>
 k [v14] s) [undef] s fun xs s =>
 un1 xs fun v14 =>
 kGrd v8 false (fun k =>
 kPick v12 v14 (.bool false) fun v15 =>
 k [v15] s) [undef] s fun xs s =>
 un1 xs fun v15 =>
 kPick v8 (.bool true) v15 fun v16 =>
 kGrd v16 false (fun k =>
 kBin .eql c_0 (.int .u8 95) fun v19 =>
 k [v19] s) [undef] s fun xs s =>
 un1 xs fun v19 =>
 kPick v16 (.bool true) v19 fun v20 =>
 k v20 s
theorem F73_ok (c_0 : Value) (s : AS) (k : Value → AS → Prop) : denFn Tryz.prog [] 73 [c_0] s k = F73 c_0 s k := by kernel_rfl
theorem f73 {c_0 : Value} {s : AS} {k : Value → AS → Prop} (h : F73 c_0 s k) : kCall Tryz.prog 73 [c_0] s k := fn_by (F73_ok c_0 s k) h
theorem k73_ok : okFn Tryz.prog 73 = true := by kernel_rfl

/- conch conchref04.closed -/
def F74 (s_0 i_1 from_2 end_3 where_4 deep_5 : Value) (s : AS) (k : Value → AS → Prop) : Prop :=
 kNew s [(.int .i64 0), (.int .i64 0), (.int .i64 0)] fun v12 s =>
 kJoin (fun _ s =>
 kJoin (fun xs s =>
 un1 xs fun i_1 =>
 kJoin (fun _ s =>
 kBin .add i_1 (.int .i64 1) fun v48 =>
 kBuild [(.int .i64 0), (.int .i64 0), (.int .i64 0)] [(0, 1, v48)] fun v49 =>
 kSt s 3 v12 v49 fun s =>
 kLdN s 3 v12 fun r0 =>
 k r0 s) fun J3 =>
 kLen true s_0 fun v43 =>
 kBin .geq i_1 v43 fun v44 =>
 kCond v44 (
 kBuild [(.int .i64 0), (.int .i64 0), (.int .i64 0)] [(1, 1, from_2), (2, 1, (.int .i64 11))] fun v46 =>
 kSt s 3 v12 v46 fun s =>
 kLdN s 3 v12 fun r0 =>
 k r0 s) (
 J3 [] s)) fun J2 =>
 kLoop (fun again4 xs s =>
 un1 xs fun i_1 =>
 kJoin (fun _ s =>
 kBin .add deep_5 (.int .i64 1) fun v33 =>
 kCall Tryz.prog 50 [s_0, i_1, where_4, v33] s fun v34 s =>
 kNew s [(.int .i64 0), (.int .i64 0), (.int .i64 0)] fun t_13 s =>
 kSt s 3 t_13 v34 fun s =>
 kJoin (fun _ s =>
 kFld 0 t_13 fun v39 =>
 kLd s v39 fun v40 =>
 again4 [v40] s) fun J6 =>
 kFld 2 t_13 fun v35 =>
 kLd s v35 fun v36 =>
 kBin .neq v36 (.int .i64 0) fun v37 =>
 kCond v37 (
 kLdN s 3 t_13 fun v38 =>
 kSt s 3 v12 v38 fun s =>
 kLdN s 3 v12 fun r0 =>
 k r0 s) (
 J6 [] s)) fun J5 =>
 kLen true s_0 fun v20 =>
 kBin .lss i_1 v20 fun v21 =>
 kGrd v21 true (fun k =>
 kIxS s_0 i_1 fun v25 =>
 kBin .neq v25 end_3 fun v27 =>
 k [v27] s) [undef] s fun xs s =>
 un1 xs fun v27 =>
 kPick v21 v27 (.bool false) fun v28 =>
 kCond v28 (
 J5 [] s) (
 J2 [i_1] s)) [i_1] s) fun J1 =>
 kBin .geq deep_5 (.int .i64 40) fun v15 =>
 kCond v15 (
 kBuild [(.int .i64 0), (.int .i64 0), (.int .i64 0)] [(1, 1, from_2), (2, 1, (.int .i64 3))] fun v17 =>
 kSt s 3 v12 v17 fun s =>
 kLdN s 3 v12 fun r0 =>
 k r0 s) (
 J1 [] s)
theorem F74_ok (s_0 i_1 from_2 end_3 where_4 deep_5 : Value) (s : AS) (k : Value → AS → Prop) : denFn Tryz.prog [] 74 [s_0, i_1, from_2, end_3, where_4, deep_5] s k = F74 s_0 i_1 from_2 end_3 where_4 deep_5 s k := by kernel_rfl
theorem f74 {s_0 i_1 from_2 end_3 where_4 deep_5 : Value} {s : AS} {k : Value → AS → Prop} (h : F74 s_0 i_1 from_2 end_3 where_4 deep_5 s k) : kCall Tryz.prog 74 [s_0, i_1, from_2, end_3, where_4, deep_5] s k := fn_by (F74_ok s_0 i_1 from_2 end_3 where_4 deep_5 s k) h
theorem k74_ok : okFn Tryz.prog 74 = true := by kernel_rfl

/- conch conchref05.Param -/
def F75 (s_0 : Value) (s : AS) (k : Value → AS → Prop) : Prop :=
 kJoin (fun _ s =>
 kJoin (fun _ s =>
 kJoin (fun _ s =>
 kJoin (fun xs s =>
 un1 xs fun n_3 =>
 kJoin (fun _ s =>
 k n_3 s) fun J5 =>
 kBin .gtr n_3 (.int .i64 3) fun v42 =>
 kGrd v42 false (fun k =>
 kBin .gtr n_3 (.int .i64 1) fun v45 =>
 k [v45] s) [undef] s fun xs s =>
 un1 xs fun v46 =>
 kGrd v46 true (fun k =>
 kIxS s_0 (.int .i64 0) fun v48 =>
 kBin .eql v48 (.int .u8 48) fun v49 =>
 k [v49] s) [undef] s fun xs s =>
 un1 xs fun v49 =>
 kGrd v42 false (fun k =>
 kPick v46 v49 (.bool false) fun v50 =>
 k [v50] s) [undef] s fun xs s =>
 un1 xs fun v50 =>
 kPick v42 (.bool true) v50 fun v51 =>
 kCond v51 (
 k (.int .i64 0) s) (
 J5 [] s)) fun J4 =>
 kLoop (fun again6 xs s =>
 un1 xs fun n_3 =>
 kJoin (fun _ s =>
 kBin .add n_3 (.int .i64 1) fun v40 =>
 again6 [v40] s) fun J7 =>
 kLen true s_0 fun v31 =>
 kBin .lss n_3 v31 fun v32 =>
 kGrd v32 true (fun k =>
 kIxS s_0 n_3 fun v36 =>
 kCall Tryz.prog 49 [v36] s fun v37 s =>
 k [v37] s) [undef] s fun xs s =>
 un1 xs fun v37 =>
 kPick v32 v37 (.bool false) fun v38 =>
 kCond v38 (
 J7 [] s) (
 J4 [n_3] s)) [(.int .i64 0)] s) fun J3 =>
 kIxS s_0 (.int .i64 0) fun v12 =>
 kBin .eql v12 (.int .u8 64) fun v13 =>
 kGrd v13 false (fun k =>
 kIxS s_0 (.int .i64 0) fun v16 =>
 kBin .eql v16 (.int .u8 42) fun v17 =>
 k [v17] s) [undef] s fun xs s =>
 un1 xs fun v17 =>
 kPick v13 (.bool true) v17 fun v18 =>
 kGrd v18 false (fun k =>
 kIxS s_0 (.int .i64 0) fun v21 =>
 kBin .eql v21 (.int .u8 35) fun v22 =>
 k [v22] s) [undef] s fun xs s =>
 un1 xs fun v22 =>
 kPick v18 (.bool true) v22 fun v23 =>
 kGrd v23 false (fun k =>
 kIxS s_0 (.int .i64 0) fun v26 =>
 kBin .eql v26 (.int .u8 63) fun v27 =>
 k [v27] s) [undef] s fun xs s =>
 un1 xs fun v27 =>
 kPick v23 (.bool true) v27 fun v28 =>
 kCond v28 (
 k (.int .i64 1) s) (
 J3 [] s)) fun J2 =>
 kCall Tryz.prog 48 [s_0] s fun v7 s =>
 kBin .gtr v7 (.int .i64 0) fun v8 =>
 kCond v8 (
 kCall Tryz.prog 48 [s_0] s fun v10 s =>
 k v10 s) (
 J2 [] s)) fun J1 =>
 kBin .eql s_0 (.string (bs [])) fun v5 =>
 kCond v5 (
 k (.int .i64 0) s) (
 J1 [] s)
theorem F75_ok (s_0 : Value) (s : AS) (k : Value → AS → Prop) : denFn Tryz.prog [] 75 [s_0] s k = F75 s_0 s k := by kernel_rfl
theorem f75 {s_0 : Value} {s : AS} {k : Value → AS → Prop} (h : F75 s_0 s k) : kCall Tryz.prog 75 [s_0] s k := fn_by (F75_ok s_0 s k) h
theorem k75_ok : okFn Tryz.prog 75 = true := by kernel_rfl

/- conch word.styleOf -/
def F76 (way_0 : Value) (s : AS) (k : Value → AS → Prop) : Prop :=
 kNew s [.nilFunc, (.bool false), (.bool false)] fun v2 s =>
 kJoin (fun _ s =>
 kBuild [.nilFunc, (.bool false), (.bool false)] [(0, 1, (.func (.func 94) #[] #[])), (1, 1, (.bool true)), (2, 1, (.bool false))] fun v13 =>
 kSt s 3 v2 v13 fun s =>
 kLdN s 3 v2 fun r0 =>
 k r0 s) fun J1 =>
 kBin .eql way_0 (.int .i64 3) fun v5 =>
 kCond v5 (
 kBuild [.nilFunc, (.bool false), (.bool false)] [(0, 1, (.func (.func 90) #[] #[])), (1, 1, (.bool false)), (2, 1, (.bool true))] fun v6 =>
 kSt s 3 v2 v6 fun s =>
 kLdN s 3 v2 fun r0 =>
 k r0 s) (
 kBin .eql way_0 (.int .i64 4) fun v8 =>
 kCond v8 (
 kBuild [.nilFunc, (.bool false), (.bool false)] [(0, 1, (.func (.func 92) #[] #[])), (1, 1, (.bool true)), (2, 1, (.bool true))] fun v9 =>
 kSt s 3 v2 v9 fun s =>
 kLdN s 3 v2 fun r0 =>
 k r0 s) (
 kBin .eql way_0 (.int .i64 5) fun v11 =>
 kCond v11 (
 kBuild [.nilFunc, (.bool false), (.bool false)] [(0, 1, (.func (.func 93) #[] #[])), (1, 1, (.bool false)), (2, 1, (.bool true))] fun v12 =>
 kSt s 3 v2 v12 fun s =>
 kLdN s 3 v2 fun r0 =>
 k r0 s) (
 J1 [] s)))
theorem F76_ok (way_0 : Value) (s : AS) (k : Value → AS → Prop) : denFn Tryz.prog [] 76 [way_0] s k = F76 way_0 s k := by kernel_rfl
theorem f76 {way_0 : Value} {s : AS} {k : Value → AS → Prop} (h : F76 way_0 s k) : kCall Tryz.prog 76 [way_0] s k := fn_by (F76_ok way_0 s k) h
theorem k76_ok : okFn Tryz.prog 76 = true := by kernel_rfl

/- slices.Index[[]int,int] -/
def F77 (s_0 v_1 : Value) (s : AS) (k : Value → AS → Prop) : Prop :=
 kJoin (fun _ s =>
 k (.int .i64 (-1)) s) fun J1 =>
 kLen false s_0 fun v7 =>
 kLoop (fun again2 xs s =>
 un1 xs fun v8 =>
 kBin .lss v8 v7 fun v9 =>
 kJoin (fun _ s =>
 kJoin (fun _ s =>
 kBin .add v8 (.int .i64 1) fun v18 =>
 again2 [v18] s) fun J4 =>
 kIdx 1 s_0 v8 fun v14 =>
 kLd s v14 fun v15 =>
 kBin .eql v_1 v15 fun v16 =>
 kCond v16 (
 k v8 s) (
 J4 [] s)) fun J3 =>
 kCond v9 (
 J3 [] s) (
 J1 [] s)) [(.int .i64 0)] s
theorem F77_ok (s_0 v_1 : Value) (s : AS) (k : Value → AS → Prop) : denFn Tryz.prog [] 77 [s_0, v_1] s k = F77 s_0 v_1 s k := by kernel_rfl
theorem f77 {s_0 v_1 : Value} {s : AS} {k : Value → AS → Prop} (h : F77 s_0 v_1 s k) : kCall Tryz.prog 77 [s_0, v_1] s k := fn_by (F77_ok s_0 v_1 s k) h
theorem k77_ok : okFn Tryz.prog 77 = true := by kernel_rfl

/- conch conchref05.taken -/
def F78 (s_0 more_1 most_2 : Value) (s : AS) (k : Value → AS → Prop) : Prop :=
 kJoin (fun xs s =>
 un1 xs fun out_7 =>
 kCvBS s out_7 fun v55 =>
 k v55 s) fun J1 =>
 kLoop (fun again2 xs s =>
 un2 xs fun out_7 i_8 =>
 kJoin (fun _ s =>
 kJoin (fun xs s =>
 un1 xs fun out_7 =>
 kBin .add i_8 (.int .i64 1) fun v15 =>
 again2 [out_7, v15] s) fun J4 =>
 kIxS s_0 i_8 fun v18 =>
 kJoin (fun xs s =>
 un1 xs fun out_7 =>
 kBsl s 1 [(.int .u8 0)] [(0, 1, v18)] fun v52 s =>
 kApp Tryz.prog 42 42 out_7 v52 s fun v53 s =>
 J4 [v53] s) fun J5 =>
 kBin .eql v18 (.int .u8 36) fun v20 =>
 kGrd v20 false (fun k =>
 kBin .eql v18 (.int .u8 92) fun v23 =>
 k [v23] s) [undef] s fun xs s =>
 un1 xs fun v23 =>
 kPick v20 (.bool true) v23 fun v24 =>
 kGrd v24 false (fun k =>
 kBin .eql v18 (.int .u8 96) fun v27 =>
 k [v27] s) [undef] s fun xs s =>
 un1 xs fun v27 =>
 kPick v24 (.bool true) v27 fun v28 =>
 kGrd v28 false (fun k =>
 kBin .neq more_1 (.int .u8 0) fun v31 =>
 k [v31] s) [undef] s fun xs s =>
 un1 xs fun v32 =>
 kGrd v32 true (fun k =>
 kBin .eql v18 more_1 fun v35 =>
 k [v35] s) [undef] s fun xs s =>
 un1 xs fun v35 =>
 kGrd v28 false (fun k =>
 kPick v32 v35 (.bool false) fun v36 =>
 k [v36] s) [undef] s fun xs s =>
 un1 xs fun v36 =>
 kPick v28 (.bool true) v36 fun v37 =>
 kGrd v37 false (fun k =>
 kBin .neq most_2 (.int .u8 0) fun v40 =>
 k [v40] s) [undef] s fun xs s =>
 un1 xs fun v41 =>
 kGrd v41 true (fun k =>
 kBin .eql v18 most_2 fun v44 =>
 k [v44] s) [undef] s fun xs s =>
 un1 xs fun v44 =>
 kGrd v37 false (fun k =>
 kPick v41 v44 (.bool false) fun v45 =>
 k [v45] s) [undef] s fun xs s =>
 un1 xs fun v45 =>
 kPick v37 (.bool true) v45 fun v46 =>
 kCond v46 (
 kBsl s 1 [(.int .u8 0)] [(0, 1, (.int .u8 92))] fun v48 s =>
 kApp Tryz.prog 42 42 out_7 v48 s fun v49 s =>
 J5 [v49] s) (
 J5 [out_7] s)) fun J3 =>
 kLen true s_0 fun v12 =>
 kBin .lss i_8 v12 fun v13 =>
 kCond v13 (
 J3 [] s) (
 J1 [out_7] s)) [(.slice none 0 0), (.int .i64 0)] s
theorem F78_ok (s_0 more_1 most_2 : Value) (s : AS) (k : Value → AS → Prop) : denFn Tryz.prog [] 78 [s_0, more_1, most_2] s k = F78 s_0 more_1 most_2 s k := by kernel_rfl
theorem f78 {s_0 more_1 most_2 : Value} {s : AS} {k : Value → AS → Prop} (h : F78 s_0 more_1 most_2 s k) : kCall Tryz.prog 78 [s_0, more_1, most_2] s k := fn_by (F78_ok s_0 more_1 most_2 s k) h
theorem k78_ok : okFn Tryz.prog 78 = true := by kernel_rfl

/- conch conchref01.Quote -/
def F79 (s_0 : Value) (s : AS) (k : Value → AS → Prop) : Prop :=
(fun v5 s =>
 kJoin (fun xs s =>
 un1 xs fun out_3 =>
 kBsl s 1 [(.int .u8 0)] [(0, 1, (.int .u8 39))] fun v26 s =>
 kApp Tryz.prog 42 42 out_3 v26 s fun v27 s =>
 kCvBS s v27 fun v28 =>
 k v28 s) fun J1 =>
 kLoop (fun again2 xs s =>
 un2 xs fun out_3 i_4 =>
 kJoin (fun _ s =>
 kJoin (fun xs s =>
 un1 xs fun out_3 =>
 kBin .add i_4 (.int .i64 1) fun v11 =>
 again2 [out_3, v11] s) fun J4 =>
 kJoin (fun xs s =>
 un1 xs fun out_3 =>
 kIxS s_0 i_4 fun v22 =>
 kBsl s 1 [(.int .u8 0)] [(0, 1, v22)] fun v23 s =>
 kApp Tryz.prog 42 42 out_3 v23 s fun v24 s =>
 J4 [v24] s) fun J5 =>
 kIxS s_0 i_4 fun v14 =>
 kBin .eql v14 (.int .u8 39) fun v15 =>
 kCond v15 (
 kBsl s 3 [(.int .u8 0), (.int .u8 0), (.int .u8 0)] [(0, 1, (.int .u8 39)), (1, 1, (.int .u8 92)), (2, 1, (.int .u8 39))] fun v17 s =>
 kApp Tryz.prog 42 42 out_3 v17 s fun v18 s =>
 J5 [v18] s) (
 J5 [out_3] s)) fun J3 =>
 kLen true s_0 fun v8 =>
 kBin .lss i_4 v8 fun v9 =>
 kCond v9 (
 J3 [] s) (
 J1 [out_3] s)) [v5, (.int .i64 0)] s) (.slice (some ⟨s.n, 0, none⟩) 1 1) (s.new (.cells [(.int .u8 39)]))
theorem F79_ok (s_0 : Value) (s : AS) (k : Value → AS → Prop) : denFn Tryz.prog [] 79 [s_0] s k = F79 s_0 s k := by kernel_rfl
theorem f79 {s_0 : Value} {s : AS} {k : Value → AS → Prop} (h : F79 s_0 s k) : kCall Tryz.prog 79 [s_0] s k := fn_by (F79_ok s_0 s k) h
theorem k79_ok : okFn Tryz.prog 79 = true := by kernel_rfl

/- (*conch lex.reader).single -/
def F81 (r_0 : Value) (s : AS) (k : Value → AS → Prop) : Prop :=
 kNck r_0 fun v4 =>
 kFld 2 v4 fun v5 =>
 kNck r_0 fun v8 =>
 kFld 3 v8 fun v9 =>
 kLd s v5 fun v6 =>
 kLd s v9 fun v10 =>
 kBin .add v10 (.int .i64 1) fun v11 =>
 kSubS v6 (some v11) none fun v12 =>
 kCall Tryz.prog 39 [v12, (.int .u8 39)] s fun v13 s =>
 kJoin (fun _ s =>
 kNck r_0 fun v25 =>
 kFld 3 v25 fun v26 =>
 kLd s v26 fun v27 =>
 kBin .add v13 (.int .i64 2) fun v29 =>
 kBin .add v27 v29 fun v30 =>
 kNck r_0 fun v31 =>
 kFld 3 v31 fun v32 =>
 kSt s 1 v32 v30 fun s =>
 k undef s) fun J1 =>
 kBin .lss v13 (.int .i64 0) fun v15 =>
 kCond v15 (
 kNck r_0 fun v17 =>
 kFld 0 v17 fun v18 =>
 kNck r_0 fun v20 =>
 kFld 3 v20 fun v21 =>
 kLd s v21 fun v22 =>
 kCall Tryz.prog 86 [v18, (.int .i64 11), v22] s fun v23 s =>
 k undef s) (
 J1 [] s)
theorem F81_ok (r_0 : Value) (s : AS) (k : Value → AS → Prop) : denFn Tryz.prog [(0, (.go 0 (.go 1 (.go 2 (.go 4 (.go 5 (.go 6 (.go 3 (.go 7 (.go 8 (.go 9 (.go 10 (.go 11 .done))))))))))))), (2, (.go 0 (.go 1 (.go 2 (.go 3 (.go 4 (.go 5 (.go 6 (.go 7 .done)))))))))] 81 [r_0] s k = F81 r_0 s k := by kernel_rfl
theorem f81 {r_0 : Value} {s : AS} {k : Value → AS → Prop} (h : F81 r_0 s k) : kCall Tryz.prog 81 [r_0] s k := fn_by (F81_ok r_0 s k) h
theorem k81_ok : okFn Tryz.prog 81 = true := by kernel_rfl

/- (*conch lex.reader).until -/
def F82 (r_0 end_1 from_2 thing_3 : Value) (s : AS) (k : Value → AS → Prop) : Prop :=
 kJoin (fun _ s =>
 kLoop (fun again2 _ s =>
 kJoin (fun _ s =>
 kJoin (fun _ s =>
 kJoin (fun _ s =>
 kCallv Tryz.prog thing_3 [] s fun v58 s =>
 again2 [] s) fun J5 =>
 kNck r_0 fun v33 =>
 kFld 2 v33 fun v34 =>
 kNck r_0 fun v37 =>
 kFld 3 v37 fun v38 =>
 kLd s v34 fun v35 =>
 kLd s v38 fun v39 =>
 kIxS v35 v39 fun v40 =>
 kBin .eql v40 end_1 fun v42 =>
 kCond v42 (
 kNck r_0 fun v44 =>
 kFld 3 v44 fun v45 =>
 kLd s v45 fun v46 =>
 kBin .add v46 (.int .i64 1) fun v47 =>
 kNck r_0 fun v48 =>
 kFld 3 v48 fun v49 =>
 kSt s 1 v49 v47 fun s =>
 kNck r_0 fun v51 =>
 kFld 4 v51 fun v52 =>
 kLd s v52 fun v53 =>
 kBin .sub v53 (.int .i64 1) fun v54 =>
 kNck r_0 fun v55 =>
 kFld 4 v55 fun v56 =>
 kSt s 1 v56 v54 fun s =>
 k undef s) (
 J5 [] s)) fun J4 =>
 kNck r_0 fun v18 =>
 kFld 3 v18 fun v19 =>
 kNck r_0 fun v22 =>
 kFld 2 v22 fun v23 =>
 kLd s v19 fun v20 =>
 kLd s v23 fun v24 =>
 kLen true v24 fun v25 =>
 kBin .eql v20 v25 fun v26 =>
 kCond v26 (
 kNck r_0 fun v28 =>
 kFld 0 v28 fun v29 =>
 kCall Tryz.prog 86 [v29, (.int .i64 11), from_2] s fun v31 s =>
 k undef s) (
 J4 [] s)) fun J3 =>
 kNck r_0 fun v13 =>
 kFld 0 v13 fun v14 =>
 kCall Tryz.prog 65 [v14] s fun v15 s =>
 kUn .not v15 fun v16 =>
 kCond v16 (
 J3 [] s) (
 k undef s)) [] s) fun J1 =>
 kCall Tryz.prog 95 [r_0, from_2] s fun v10 s =>
 kUn .not v10 fun v11 =>
 kCond v11 (
 k undef s) (
 J1 [] s)
theorem F82_ok (r_0 end_1 from_2 thing_3 : Value) (s : AS) (k : Value → AS → Prop) : denFn Tryz.prog [(2, (.go 0 (.go 1 (.go 2 (.go 4 (.go 5 (.go 6 (.go 3 (.go 7 (.go 8 (.go 9 .done))))))))))), (4, (.go 0 (.go 1 (.go 2 (.go 4 (.go 5 (.go 6 (.go 9 (.go 3 (.go 7 (.go 8 (.go 10 .done))))))))))))] 82 [r_0, end_1, from_2, thing_3] s k = F82 r_0 end_1 from_2 thing_3 s k := by kernel_rfl
theorem f82 {r_0 end_1 from_2 thing_3 : Value} {s : AS} {k : Value → AS → Prop} (h : F82 r_0 end_1 from_2 thing_3 s k) : kCall Tryz.prog 82 [r_0, end_1, from_2, thing_3] s k := fn_by (F82_ok r_0 end_1 from_2 thing_3 s k) h
theorem k82_ok : okFn Tryz.prog 82 = true := by kernel_rfl

/- (*conch lex.reader).thing$1 -/
def F83 (v0 : Value) (s : AS) (k : Value → AS → Prop) : Prop :=
 kLd s v0 fun v1 =>
 kCall Tryz.prog 64 [v1, (.bool true), (.bool false), (.bool false)] s fun v2 s =>
 k undef s
theorem F83_ok (v0 : Value) (s : AS) (k : Value → AS → Prop) : denFn Tryz.prog [] 83 [v0] s k = F83 v0 s k := by kernel_rfl
theorem f83 {v0 : Value} {s : AS} {k : Value → AS → Prop} (h : F83 v0 s k) : kCall Tryz.prog 83 [v0] s k := fn_by (F83_ok v0 s k) h
theorem k83_ok : okFn Tryz.prog 83 = true := by kernel_rfl

/- (*conch lex.reader).bracket -/
def F84 (r_0 : Value) (s : AS) (k : Value → AS → Prop) : Prop :=
 kNew s (cellsV r_0) fun r_1 s =>
 kLd s r_1 fun v3 =>
 kNck v3 fun v4 =>
 kFld 3 v4 fun v5 =>
 kLd s v5 fun v6 =>
 kLd s r_1 fun v7 =>
 kNck v7 fun v8 =>
 kFld 3 v8 fun v9 =>
 kLd s v9 fun v10 =>
 kBin .add v10 (.int .i64 1) fun v11 =>
 kNck v7 fun v12 =>
 kFld 3 v12 fun v13 =>
 kSt s 1 v13 v11 fun s =>
 kLd s r_1 fun v14 =>
 kCall Tryz.prog 82 [v14, (.int .u8 41), v6, (.func (.func 96) #[] #[r_1])] s fun v17 s =>
 k undef s
theorem F84_ok (r_0 : Value) (s : AS) (k : Value → AS → Prop) : denFn Tryz.prog [] 84 [r_0] s k = F84 r_0 s k := by kernel_rfl
theorem f84 {r_0 : Value} {s : AS} {k : Value → AS → Prop} (h : F84 r_0 s k) : kCall Tryz.prog 84 [r_0] s k := fn_by (F84_ok r_0 s k) h
theorem k84_ok : okFn Tryz.prog 84 = true := by kernel_rfl

/- (*conch lex.reader).dollar -/
def F85 (r_0 quoted_1 : Value) (s : AS) (k : Value → AS → Prop) : Prop :=
 kNew s (cellsV r_0) fun r_2 s =>
 kNew s (cellsV quoted_1) fun quoted_3 s =>
 kLd s r_2 fun v5 =>
 kNck v5 fun v6 =>
 kFld 3 v6 fun v7 =>
 kLd s v7 fun v8 =>
 kLd s r_2 fun v9 =>
 kNck v9 fun v10 =>
 kFld 3 v10 fun v11 =>
 kLd s v11 fun v12 =>
 kBin .add v12 (.int .i64 1) fun v13 =>
 kNck v9 fun v14 =>
 kFld 3 v14 fun v15 =>
 kSt s 1 v15 v13 fun s =>
 kLd s r_2 fun v17 =>
 kNck v17 fun v18 =>
 kFld 2 v18 fun v19 =>
 kLd s v19 fun v20 =>
 kLd s r_2 fun v21 =>
 kNck v21 fun v22 =>
 kFld 3 v22 fun v23 =>
 kLd s v23 fun v24 =>
 kSubS v20 (some v24) none fun v25 =>
 kCall Tryz.prog 70 [v25, (.string (bs [123]))] s fun v26 s =>
 kCond v26 (
 kLd s r_2 fun v27 =>
 kNck v27 fun v28 =>
 kFld 3 v28 fun v29 =>
 kLd s v29 fun v30 =>
 kBin .add v30 (.int .i64 1) fun v31 =>
 kNck v27 fun v32 =>
 kFld 3 v32 fun v33 =>
 kSt s 1 v33 v31 fun s =>
 kLd s r_2 fun v34 =>
 kCall Tryz.prog 82 [v34, (.int .u8 125), v8, (.func (.func 97) #[] #[r_2, quoted_3])] s fun v37 s =>
 k undef s) (
 kLd s r_2 fun v39 =>
 kNck v39 fun v40 =>
 kFld 2 v40 fun v41 =>
 kLd s v41 fun v42 =>
 kLd s r_2 fun v43 =>
 kNck v43 fun v44 =>
 kFld 3 v44 fun v45 =>
 kLd s v45 fun v46 =>
 kSubS v42 (some v46) none fun v47 =>
 kCall Tryz.prog 70 [v47, (.string (bs [40]))] s fun v48 s =>
 kCond v48 (
 kLd s r_2 fun v49 =>
 kCall Tryz.prog 84 [v49] s fun v50 s =>
 k undef s) (
 k undef s))
theorem F85_ok (r_0 quoted_1 : Value) (s : AS) (k : Value → AS → Prop) : denFn Tryz.prog [(3, (.go 0 (.go 1 (.go 2 (.go 3 (.go 4 (.go 5 (.go 6 (.go 7 (.go 8 (.go 9 (.go 10 .done)))))))))))), (6, (.go 0 (.go 1 (.go 2 (.go 3 (.go 4 (.go 5 (.go 6 (.go 7 (.go 8 (.go 9 (.go 10 .done))))))))))))] 85 [r_0, quoted_1] s k = F85 r_0 quoted_1 s k := by kernel_rfl
theorem f85 {r_0 quoted_1 : Value} {s : AS} {k : Value → AS → Prop} (h : F85 r_0 quoted_1 s k) : kCall Tryz.prog 85 [r_0, quoted_1] s k := fn_by (F85_ok r_0 quoted_1 s k) h
theorem k85_ok : okFn Tryz.prog 85 = true := by kernel_rfl

/- (*conch lex.blame).is -/
def F86 (b_0 e_1 at_2 : Value) (s : AS) (k : Value → AS → Prop) : Prop :=
 kNck b_0 fun v7 =>
 kFld 0 v7 fun v8 =>
 kLd s v8 fun v9 =>
 kBin .eql v9 (.int .i64 0) fun v10 =>
 kCond v10 (
 kNck b_0 fun v15 =>
 kFld 0 v15 fun v16 =>
 kSt s 1 v16 e_1 fun s =>
 kNck b_0 fun v17 =>
 kFld 1 v17 fun v18 =>
 kSt s 1 v18 at_2 fun s =>
 k undef s) (
 k undef s)
theorem F86_ok (b_0 e_1 at_2 : Value) (s : AS) (k : Value → AS → Prop) : denFn Tryz.prog [] 86 [b_0, e_1, at_2] s k = F86 b_0 e_1 at_2 s k := by kernel_rfl
theorem f86 {b_0 e_1 at_2 : Value} {s : AS} {k : Value → AS → Prop} (h : F86 b_0 e_1 at_2 s k) : kCall Tryz.prog 86 [b_0, e_1, at_2] s k := fn_by (F86_ok b_0 e_1 at_2 s k) h
theorem k86_ok : okFn Tryz.prog 86 = true := by kernel_rfl

/- internal stringslite.CutPrefix -/
def F87 (s_0 prefix_1 : Value) (s : AS) (k : Value → AS → Prop) : Prop :=
 kJoin (fun _ s =>
 kLen true prefix_1 fun v13 =>
 kSubS s_0 (some v13) none fun v14 =>
 k (.tuple #[v14, (.bool true)]) s) fun J1 =>
 kCall Tryz.prog 88 [s_0, prefix_1] s fun v8 s =>
 kUn .not v8 fun v9 =>
 kCond v9 (
 k (.tuple #[s_0, (.bool false)]) s) (
 J1 [] s)
theorem F87_ok (s_0 prefix_1 : Value) (s : AS) (k : Value → AS → Prop) : denFn Tryz.prog [] 87 [s_0, prefix_1] s k = F87 s_0 prefix_1 s k := by kernel_rfl
theorem f87 {s_0 prefix_1 : Value} {s : AS} {k : Value → AS → Prop} (h : F87 s_0 prefix_1 s k) : kCall Tryz.prog 87 [s_0, prefix_1] s k := fn_by (F87_ok s_0 prefix_1 s k) h
theorem k87_ok : okFn Tryz.prog 87 = true := by kernel_rfl

/- internal stringslite.HasPrefix -/
def F88 (s_0 prefix_1 : Value) (s : AS) (k : Value → AS → Prop) : Prop :=
 kLen true s_0 fun v6 =>
 kLen true prefix_1 fun v8 =>
 kBin .geq v6 v8 fun v9 =>
 kGrd v9 true (fun k =>
 kLen true prefix_1 fun v13 =>
 kSubS s_0 none (some v13) fun v14 =>
 kBin .eql v14 prefix_1 fun v16 =>
 k [v16] s) [undef] s fun xs s =>
 un1 xs fun v16 =>
 kPick v9 v16 (.bool false) fun v17 =>
 k v17 s
theorem F88_ok (s_0 prefix_1 : Value) (s : AS) (k : Value → AS → Prop) : denFn Tryz.prog [] 88 [s_0, prefix_1] s k = F88 s_0 prefix_1 s k := by kernel_rfl
theorem f88 {s_0 prefix_1 : Value} {s : AS} {k : Value → AS → Prop} (h : F88 s_0 prefix_1 s k) : kCall Tryz.prog 88 [s_0, prefix_1] s k := fn_by (F88_ok s_0 prefix_1 s k) h
theorem k88_ok : okFn Tryz.prog 88 = true := by kernel_rfl

/- conch chars.among$1 -/
def F89 (c_0 v1 : Value) (s : AS) (k : Value → AS → Prop) : Prop :=
 kLd s v1 fun v4 =>
 kCall Tryz.prog 39 [v4, c_0] s fun v6 s =>
 kBin .geq v6 (.int .i64 0) fun v7 =>
 k v7 s
theorem F89_ok (c_0 v1 : Value) (s : AS) (k : Value → AS → Prop) : denFn Tryz.prog [] 89 [c_0, v1] s k = F89 c_0 v1 s k := by kernel_rfl
theorem f89 {c_0 v1 : Value} {s : AS} {k : Value → AS → Prop} (h : F89 c_0 v1 s k) : kCall Tryz.prog 89 [c_0, v1] s k := fn_by (F89_ok c_0 v1 s k) h
theorem k89_ok : okFn Tryz.prog 89 = true := by kernel_rfl

/- conch word.styleOf$1 -/
def F90 (s_0 : Value) (s : AS) (k : Value → AS → Prop) : Prop :=
 kJoin (fun _ s =>
 kCall Tryz.prog 91 [s_0, (.string (bs [36, 34, 92, 96, 125]))] s fun v6 s =>
 k v6 s) fun J1 =>
 kBin .eql s_0 (.string (bs [])) fun v4 =>
 kCond v4 (
 k (.string (bs [34, 34])) s) (
 J1 [] s)
theorem F90_ok (s_0 : Value) (s : AS) (k : Value → AS → Prop) : denFn Tryz.prog [] 90 [s_0] s k = F90 s_0 s k := by kernel_rfl
theorem f90 {s_0 : Value} {s : AS} {k : Value → AS → Prop} (h : F90 s_0 s k) : kCall Tryz.prog 90 [s_0] s k := fn_by (F90_ok s_0 s k) h
theorem k90_ok : okFn Tryz.prog 90 = true := by kernel_rfl

/- conch word.escaped -/
def F91 (s_0 some_1 : Value) (s : AS) (k : Value → AS → Prop) : Prop :=
 kNewT s 44 [(.pointer none), (.slice none 0 0)] fun out_5 s =>
 kJoin (fun _ s =>
 kCall Tryz.prog 23 [out_5] s fun v24 s =>
 k v24 s) fun J1 =>
 kLoop (fun again2 xs s =>
 un1 xs fun i_6 =>
 kJoin (fun _ s =>
 kJoin (fun _ s =>
 kBin .add i_6 (.int .i64 1) fun v12 =>
 again2 [v12] s) fun J4 =>
 kJoin (fun _ s =>
 kIxS s_0 i_6 fun v22 =>
 kCall Tryz.prog 98 [out_5, v22] s fun v23 s =>
 J4 [] s) fun J5 =>
 kIxS s_0 i_6 fun v16 =>
 kCall Tryz.prog 39 [some_1, v16] s fun v17 s =>
 kBin .geq v17 (.int .i64 0) fun v18 =>
 kCond v18 (
 kCall Tryz.prog 98 [out_5, (.int .u8 92)] s fun v19 s =>
 J5 [] s) (
 J5 [] s)) fun J3 =>
 kLen true s_0 fun v9 =>
 kBin .lss i_6 v9 fun v10 =>
 kCond v10 (
 J3 [] s) (
 J1 [] s)) [(.int .i64 0)] s
theorem F91_ok (s_0 some_1 : Value) (s : AS) (k : Value → AS → Prop) : denFn Tryz.prog [] 91 [s_0, some_1] s k = F91 s_0 some_1 s k := by kernel_rfl
theorem f91 {s_0 some_1 : Value} {s : AS} {k : Value → AS → Prop} (h : F91 s_0 some_1 s k) : kCall Tryz.prog 91 [s_0, some_1] s k := fn_by (F91_ok s_0 some_1 s k) h
theorem k91_ok : okFn Tryz.prog 91 = true := by kernel_rfl

/- conch word.styleOf$2 -/
def F92 (s_0 : Value) (s : AS) (k : Value → AS → Prop) : Prop :=
 kCall Tryz.prog 91 [s_0, (.string (bs [36, 34, 92, 96]))] s fun v4 s =>
 kBin .add (.string (bs [34])) v4 fun v5 =>
 kBin .add v5 (.string (bs [34])) fun v6 =>
 k v6 s
theorem F92_ok (s_0 : Value) (s : AS) (k : Value → AS → Prop) : denFn Tryz.prog [] 92 [s_0] s k = F92 s_0 s k := by kernel_rfl
theorem f92 {s_0 : Value} {s : AS} {k : Value → AS → Prop} (h : F92 s_0 s k) : kCall Tryz.prog 92 [s_0] s k := fn_by (F92_ok s_0 s k) h
theorem k92_ok : okFn Tryz.prog 92 = true := by kernel_rfl

/- conch word.styleOf$3 -/
def F93 (s_0 : Value) (s : AS) (k : Value → AS → Prop) : Prop :=
 kCall Tryz.prog 91 [s_0, (.string (bs [36, 92, 96]))] s fun v4 s =>
 k v4 s
theorem F93_ok (s_0 : Value) (s : AS) (k : Value → AS → Prop) : denFn Tryz.prog [] 93 [s_0] s k = F93 s_0 s k := by kernel_rfl
theorem f93 {s_0 : Value} {s : AS} {k : Value → AS → Prop} (h : F93 s_0 s k) : kCall Tryz.prog 93 [s_0] s k := fn_by (F93_ok s_0 s k) h
theorem k93_ok : okFn Tryz.prog 93 = true := by kernel_rfl

/- conch chars.Quote -/
def F94 (s_0 : Value) (s : AS) (k : Value → AS → Prop) : Prop :=
 kCall Tryz.prog 99 [s_0, (.string (bs [39])), (.string (bs [39, 92, 39, 39]))] s fun v4 s =>
 kBin .add (.string (bs [39])) v4 fun v5 =>
 kBin .add v5 (.string (bs [39])) fun v6 =>
 k v6 s
theorem F94_ok (s_0 : Value) (s : AS) (k : Value → AS → Prop) : denFn Tryz.prog [] 94 [s_0] s k = F94 s_0 s k := by kernel_rfl
theorem f94 {s_0 : Value} {s : AS} {k : Value → AS → Prop} (h : F94 s_0 s k) : kCall Tryz.prog 94 [s_0] s k := fn_by (F94_ok s_0 s k) h
theorem k94_ok : okFn Tryz.prog 94 = true := by kernel_rfl

/- (*conch lex.reader).opens -/
def F95 (r_0 at_1 : Value) (s : AS) (k : Value → AS → Prop) : Prop :=
 kJoin (fun _ s =>
 kNck r_0 fun v16 =>
 kFld 4 v16 fun v17 =>
 kLd s v17 fun v18 =>
 kBin .add v18 (.int .i64 1) fun v19 =>
 kNck r_0 fun v20 =>
 kFld 4 v20 fun v21 =>
 kSt s 1 v21 v19 fun s =>
 k (.bool true) s) fun J1 =>
 kNck r_0 fun v6 =>
 kFld 4 v6 fun v7 =>
 kLd s v7 fun v8 =>
 kBin .eql v8 (.int .i64 40) fun v9 =>
 kCond v9 (
 kNck r_0 fun v11 =>
 kFld 0 v11 fun v12 =>
 kCall Tryz.prog 86 [v12, (.int .i64 3), at_1] s fun v14 s =>
 k (.bool false) s) (
 J1 [] s)
theorem F95_ok (r_0 at_1 : Value) (s : AS) (k : Value → AS → Prop) : denFn Tryz.prog [] 95 [r_0, at_1] s k = F95 r_0 at_1 s k := by kernel_rfl
theorem f95 {r_0 at_1 : Value} {s : AS} {k : Value → AS → Prop} (h : F95 r_0 at_1 s k) : kCall Tryz.prog 95 [r_0, at_1] s k := fn_by (F95_ok r_0 at_1 s k) h
theorem k95_ok : okFn Tryz.prog 95 = true := by kernel_rfl

/- (*conch lex.reader).bracket$1 -/
def F96 (v0 : Value) (s : AS) (k : Value → AS → Prop) : Prop :=
 kLd s v0 fun v1 =>
 kCall Tryz.prog 64 [v1, (.bool false), (.bool true), (.bool true)] s fun v2 s =>
 k undef s
theorem F96_ok (v0 : Value) (s : AS) (k : Value → AS → Prop) : denFn Tryz.prog [] 96 [v0] s k = F96 v0 s k := by kernel_rfl
theorem f96 {v0 : Value} {s : AS} {k : Value → AS → Prop} (h : F96 v0 s k) : kCall Tryz.prog 96 [v0] s k := fn_by (F96_ok v0 s k) h
theorem k96_ok : okFn Tryz.prog 96 = true := by kernel_rfl

/- (*conch lex.reader).dollar$1 -/
def F97 (v0 v1 : Value) (s : AS) (k : Value → AS → Prop) : Prop :=
 kLd s v0 fun v2 =>
 kLd s v1 fun v3 =>
 kCall Tryz.prog 64 [v2, v3, (.bool true), (.bool false)] s fun v4 s =>
 k undef s
theorem F97_ok (v0 v1 : Value) (s : AS) (k : Value → AS → Prop) : denFn Tryz.prog [] 97 [v0, v1] s k = F97 v0 v1 s k := by kernel_rfl
theorem f97 {v0 v1 : Value} {s : AS} {k : Value → AS → Prop} (h : F97 v0 v1 s k) : kCall Tryz.prog 97 [v0, v1] s k := fn_by (F97_ok v0 v1 s k) h
theorem k97_ok : okFn Tryz.prog 97 = true := by kernel_rfl

/- (*strings.Builder).WriteByte -/
def F98 (b_0 c_1 : Value) (s : AS) (k : Value → AS → Prop) : Prop :=
 kCall Tryz.prog 36 [b_0] s fun v6 s =>
 kNck b_0 fun v9 =>
 kFld 1 v9 fun v10 =>
 kLd s v10 fun v11 =>
 kBsl s 1 [(.int .u8 0)] [(0, 1, c_1)] fun v13 s =>
 kApp Tryz.prog 42 42 v11 v13 s fun v14 s =>
 kNck b_0 fun v15 =>
 kFld 1 v15 fun v16 =>
 kSt s 1 v16 v14 fun s =>
 k .nilIface s
theorem F98_ok (b_0 c_1 : Value) (s : AS) (k : Value → AS → Prop) : denFn Tryz.prog [] 98 [b_0, c_1] s k = F98 b_0 c_1 s k := by kernel_rfl
theorem f98 {b_0 c_1 : Value} {s : AS} {k : Value → AS → Prop} (h : F98 b_0 c_1 s k) : kCall Tryz.prog 98 [b_0, c_1] s k := fn_by (F98_ok b_0 c_1 s k) h
theorem k98_ok : okFn Tryz.prog 98 = true := by kernel_rfl

/- strings.ReplaceAll -/
def F99 (s_0 old_1 new_2 : Value) (s : AS) (k : Value → AS → Prop) : Prop :=
 kCall Tryz.prog 100 [s_0, old_1, new_2, (.int .i64 (-1))] s fun v10 s =>
 k v10 s
theorem F99_ok (s_0 old_1 new_2 : Value) (s : AS) (k : Value → AS → Prop) : denFn Tryz.prog [] 99 [s_0, old_1, new_2] s k = F99 s_0 old_1 new_2 s k := by kernel_rfl
theorem f99 {s_0 old_1 new_2 : Value} {s : AS} {k : Value → AS → Prop} (h : F99 s_0 old_1 new_2 s k) : kCall Tryz.prog 99 [s_0, old_1, new_2] s k := fn_by (F99_ok s_0 old_1 new_2 s k) h
theorem k99_ok : okFn Tryz.prog 99 = true := by kernel_rfl

/- strings.Replace -/
def F100 (s_0 old_1 new_2 n_3 : Value) (s : AS) (k : Value → AS → Prop) : Prop :=
 kJoin (fun _ s =>
 kJoin (fun xs s =>
 un1 xs fun n_3 =>
 kNewT s 44 [(.pointer none), (.slice none 0 0)] fun b_10 s =>
 kLen true s_0 fun v39 =>
 kLen true new_2 fun v42 =>
 kLen true old_1 fun v44 =>
 kBin .sub v42 v44 fun v45 =>
 kBin .mul n_3 v45 fun v46 =>
 kBin .add v39 v46 fun v47 =>
 kCall Tryz.prog 102 [b_10, v47] s fun v48 s =>
 kJoin (fun xs s =>
 un1 xs fun start_11 =>
 kSubS s_0 (some start_11) none fun v101 =>
 kCall Tryz.prog 22 [b_10, v101] s fun v102 s =>
 kCall Tryz.prog 23 [b_10] s fun v103 s =>
 k v103 s) fun J3 =>
 kLen true old_1 fun v50 =>
 kBin .gtr v50 (.int .i64 0) fun v51 =>
 kCond v51 (
 kLoop (fun again4 xs s =>
 un2 xs fun start_11 v53 =>
 kBin .lss v53 n_3 fun v54 =>
 kJoin (fun _ s =>
 kJoin (fun xs s =>
 un1 xs fun start_11 =>
 kBin .add v53 (.int .i64 1) fun v73 =>
 again4 [start_11, v73] s) fun J6 =>
 kSubS s_0 (some start_11) none fun v58 =>
 kCall Tryz.prog 103 [v58, old_1] s fun v60 s =>
 kBin .add start_11 v60 fun v61 =>
 kSubS s_0 (some start_11) (some v61) fun v65 =>
 kCall Tryz.prog 22 [b_10, v65] s fun v66 s =>
 kCall Tryz.prog 22 [b_10, new_2] s fun v68 s =>
 kLen true old_1 fun v71 =>
 kBin .add v61 v71 fun v72 =>
 J6 [v72] s) fun J5 =>
 kCond v54 (
 J5 [] s) (
 J3 [start_11] s)) [(.int .i64 0), (.int .i64 0)] s) (
 kCall Tryz.prog 22 [b_10, new_2] s fun v75 s =>
 kBin .sub n_3 (.int .i64 1) fun v77 =>
 kLoop (fun again7 xs s =>
 un2 xs fun start_11 v78 =>
 kBin .lss v78 v77 fun v79 =>
 kJoin (fun _ s =>
 kJoin (fun xs s =>
 un1 xs fun start_11 =>
 kBin .add v78 (.int .i64 1) fun v98 =>
 again7 [start_11, v98] s) fun J9 =>
 kSubS s_0 (some start_11) none fun v83 =>
 kCall Tryz.prog 104 [v83] s fun v84 s =>
 kExt 0 v84 fun v85 =>
 kExt 1 v84 fun v86 =>
 kBin .add start_11 v86 fun v89 =>
 kSubS s_0 (some start_11) (some v89) fun v93 =>
 kCall Tryz.prog 22 [b_10, v93] s fun v94 s =>
 kCall Tryz.prog 22 [b_10, new_2] s fun v96 s =>
 J9 [v89] s) fun J8 =>
 kCond v79 (
 J8 [] s) (
 J3 [start_11] s)) [(.int .i64 0), (.int .i64 0)] s)) fun J2 =>
 kCall Tryz.prog 101 [s_0, old_1] s fun v26 s =>
 kBin .eql v26 (.int .i64 0) fun v28 =>
 kCond v28 (
 k s_0 s) (
 kBin .lss n_3 (.int .i64 0) fun v31 =>
 kGrd v31 false (fun k =>
 kBin .lss v26 n_3 fun v35 =>
 k [v35] s) [undef] s fun xs s =>
 un1 xs fun v35 =>
 kPick v31 (.bool true) v35 fun v36 =>
 kCond v36 (
 J2 [v26] s) (
 J2 [n_3] s))) fun J1 =>
 kBin .eql old_1 new_2 fun v18 =>
 kGrd v18 false (fun k =>
 kBin .eql n_3 (.int .i64 0) fun v21 =>
 k [v21] s) [undef] s fun xs s =>
 un1 xs fun v21 =>
 kPick v18 (.bool true) v21 fun v22 =>
 kCond v22 (
 k s_0 s) (
 J1 [] s)
theorem F100_ok (s_0 old_1 new_2 n_3 : Value) (s : AS) (k : Value → AS → Prop) : denFn Tryz.prog [] 100 [s_0, old_1, new_2, n_3] s k = F100 s_0 old_1 new_2 n_3 s k := by kernel_rfl
theorem f100 {s_0 old_1 new_2 n_3 : Value} {s : AS} {k : Value → AS → Prop} (h : F100 s_0 old_1 new_2 n_3 s k) : kCall Tryz.prog 100 [s_0, old_1, new_2, n_3] s k := fn_by (F100_ok s_0 old_1 new_2 n_3 s k) h
theorem k100_ok : okFn Tryz.prog 100 = true := by kernel_rfl

/- strings.Count -/
def F101 (s_0 substr_1 : Value) (s : AS) (k : Value → AS → Prop) : Prop :=
 kJoin (fun _ s =>
 kJoin (fun _ s =>
 kLoop (fun again3 xs s =>
 un2 xs fun s_0 n_5 =>
 kCall Tryz.prog 103 [s_0, substr_1] s fun v22 s =>
 kJoin (fun _ s =>
 kBin .add n_5 (.int .i64 1) fun v27 =>
 kLen true substr_1 fun v31 =>
 kBin .add v22 v31 fun v32 =>
 kSubS s_0 (some v32) none fun v33 =>
 again3 [v33, v27] s) fun J4 =>
 kBin .eql v22 (.int .i64 (-1)) fun v24 =>
 kCond v24 (
 k n_5 s) (
 J4 [] s)) [s_0, (.int .i64 0)] s) fun J2 =>
 kLen true substr_1 fun v14 =>
 kBin .eql v14 (.int .i64 1) fun v15 =>
 kCond v15 (
 kIxS substr_1 (.int .i64 0) fun v18 =>
 kGen Tryz.prog (.ext 106) [s_0, v18] s fun v19 s =>
 k v19 s) (
 J2 [] s)) fun J1 =>
 kLen true substr_1 fun v8 =>
 kBin .eql v8 (.int .i64 0) fun v9 =>
 kCond v9 (
 kCall Tryz.prog 105 [s_0] s fun v11 s =>
 kBin .add v11 (.int .i64 1) fun v12 =>
 k v12 s) (
 J1 [] s)
theorem F101_ok (s_0 substr_1 : Value) (s : AS) (k : Value → AS → Prop) : denFn Tryz.prog [] 101 [s_0, substr_1] s k = F101 s_0 substr_1 s k := by kernel_rfl
theorem f101 {s_0 substr_1 : Value} {s : AS} {k : Value → AS → Prop} (h : F101 s_0 substr_1 s k) : kCall Tryz.prog 101 [s_0, substr_1] s k := fn_by (F101_ok s_0 substr_1 s k) h
theorem k101_ok : okFn Tryz.prog 101 = true := by kernel_rfl

/- (*strings.Builder).Grow -/
def F102 (b_0 n_1 : Value) (s : AS) (k : Value → AS → Prop) : Prop :=
 kCall Tryz.prog 36 [b_0] s fun v5 s =>
 kJoin (fun _ s =>
 kNck b_0 fun v10 =>
 kFld 1 v10 fun v11 =>
 kNck b_0 fun v15 =>
 kFld 1 v15 fun v16 =>
 kLd s v11 fun v12 =>
 kLd s v16 fun v17 =>
 kLen false v17 fun v18 =>
 kGen Tryz.prog (.blt .cap [42] 3) [v12] s fun v13 s =>
 kChk s v16 v17 (
 kBin .sub v13 v18 fun v19 =>
 kBin .lss v19 n_1 fun v21 =>
 kCond v21 (
 kCall Tryz.prog 107 [b_0, n_1] s fun v24 s =>
 k undef s) (
 k undef s))) fun J1 =>
 kBin .lss n_1 (.int .i64 0) fun v7 =>
 kCond v7 (
 kGen Tryz.prog (.mki 9) [(.string (bs [115, 116, 114, 105, 110, 103, 115, 46, 66, 117, 105, 108, 100, 101, 114, 46, 71, 114, 111, 119, 58, 32, 110, 101, 103, 97, 116, 105, 118, 101, 32, 99, 111, 117, 110, 116]))] s fun v8 s =>
 False) (
 J1 [] s)
theorem F102_ok (b_0 n_1 : Value) (s : AS) (k : Value → AS → Prop) : denFn Tryz.prog [(3, (.go 0 (.go 1 (.go 2 (.go 5 (.go 6 (.go 7 (.go 11 (.go 3 (.go 8 (.go 9 (.go 4 (.go 10 (.go 12 .done))))))))))))))] 102 [b_0, n_1] s k = F102 b_0 n_1 s k := by kernel_rfl
theorem f102 {b_0 n_1 : Value} {s : AS} {k : Value → AS → Prop} (h : F102 b_0 n_1 s k) : kCall Tryz.prog 102 [b_0, n_1] s k := fn_by (F102_ok b_0 n_1 s k) h
theorem k102_ok : okFn Tryz.prog 102 = true := by kernel_rfl

/- strings.Index -/
def F103 (s_0 substr_1 : Value) (s : AS) (k : Value → AS → Prop) : Prop :=
 kCall Tryz.prog 108 [s_0, substr_1] s fun v7 s =>
 k v7 s
theorem F103_ok (s_0 substr_1 : Value) (s : AS) (k : Value → AS → Prop) : denFn Tryz.prog [] 103 [s_0, substr_1] s k = F103 s_0 substr_1 s k := by kernel_rfl
theorem f103 {s_0 substr_1 : Value} {s : AS} {k : Value → AS → Prop} (h : F103 s_0 substr_1 s k) : kCall Tryz.prog 103 [s_0, substr_1] s k := fn_by (F103_ok s_0 substr_1 s k) h
theorem k103_ok : okFn Tryz.prog 103 = true := by kernel_rfl

/- unicode utf8.DecodeRuneInString -/
def F104 (s_0 : Value) (s : AS) (k : Value → AS → Prop) : Prop :=
 kBin .neq s_0 (.string (bs [])) fun v5 =>
 kGrd v5 true (fun k =>
 kIxS s_0 (.int .i64 0) fun v8 =>
 kBin .lss v8 (.int .u8 128) fun v9 =>
 k [v9] s) [undef] s fun xs s =>
 un1 xs fun v9 =>
 kPick v5 v9 (.bool false) fun v10 =>
 kCond v10 (
 kIxS s_0 (.int .i64 0) fun v12 =>
 kCvi .i32 v12 fun v13 =>
 k (.tuple #[v13, (.int .i64 1)]) s) (
 kCall Tryz.prog 109 [s_0] s fun v16 s =>
 kExt 0 v16 fun v17 =>
 kExt 1 v16 fun v18 =>
 k (.tuple #[v17, v18]) s)
theorem F104_ok (s_0 : Value) (s : AS) (k : Value → AS → Prop) : denFn Tryz.prog [] 104 [s_0] s k = F104 s_0 s k := by kernel_rfl
theorem f104 {s_0 : Value} {s : AS} {k : Value → AS → Prop} (h : F104 s_0 s k) : kCall Tryz.prog 104 [s_0] s k := fn_by (F104_ok s_0 s k) h
theorem k104_ok : okFn Tryz.prog 104 = true := by kernel_rfl

/- unicode utf8.RuneCountInString -/
def F105 (s_0 : Value) (s : AS) (k : Value → AS → Prop) : Prop :=
 kJoin (fun xs s =>
 un1 xs fun n_2 =>
 k n_2 s) fun J1 =>
 kGen Tryz.prog (.rng 9) [s_0] s fun v4 s =>
 kLoop (fun again2 xs s =>
 un1 xs fun n_2 =>
 kGen Tryz.prog (.nxt true 0) [v4] s fun v5 s =>
 kExt 0 v5 fun v6 =>
 kJoin (fun _ s =>
 kBin .add n_2 (.int .i64 1) fun v8 =>
 again2 [v8] s) fun J3 =>
 kCond v6 (
 J3 [] s) (
 J1 [n_2] s)) [(.int .i64 0)] s
theorem F105_ok (s_0 : Value) (s : AS) (k : Value → AS → Prop) : denFn Tryz.prog [] 105 [s_0] s k = F105 s_0 s k := by kernel_rfl
theorem f105 {s_0 : Value} {s : AS} {k : Value → AS → Prop} (h : F105 s_0 s k) : kCall Tryz.prog 105 [s_0] s k := fn_by (F105_ok s_0 s k) h
theorem k105_ok : okFn Tryz.prog 105 = true := by kernel_rfl

/- (*strings.Builder).grow -/
def F107 (b_0 n_1 : Value) (s : AS) (k : Value → AS → Prop) : Prop :=
 kNck b_0 fun v6 =>
 kFld 1 v6 fun v7 =>
 kNck b_0 fun v15 =>
 kFld 1 v15 fun v16 =>
 kLd s v7 fun v8 =>
 kLd s v16 fun v17 =>
 kLen false v17 fun v18 =>
 kGen Tryz.prog (.blt .cap [42] 3) [v8] s fun v9 s =>
 kChk s v16 v17 (
 kBin .mul (.int .i64 2) v9 fun v10 =>
 kBin .add v10 n_1 fun v12 =>
 kGen Tryz.prog (.ext 110) [v12] s fun v13 s =>
 kChk s v16 v17 (
 kSubL 1 v13 none (some v18) fun v19 =>
 kNck b_0 fun v22 =>
 kFld 1 v22 fun v23 =>
 kLd s v23 fun v24 =>
 kCpy Tryz.prog 42 42 v19 v24 s fun v25 s =>
 kNck b_0 fun v28 =>
 kFld 1 v28 fun v29 =>
 kSt s 1 v29 v19 fun s =>
 k undef s))
theorem F107_ok (b_0 n_1 : Value) (s : AS) (k : Value → AS → Prop) : denFn Tryz.prog [(0, (.go 0 (.go 1 (.go 2 (.go 6 (.go 9 (.go 10 (.go 11 (.go 3 (.go 12 (.go 13 (.go 4 (.go 5 (.go 7 (.go 8 (.go 14 (.go 15 .done)))))))))))))))))] 107 [b_0, n_1] s k = F107 b_0 n_1 s k := by kernel_rfl
theorem f107 {b_0 n_1 : Value} {s : AS} {k : Value → AS → Prop} (h : F107 b_0 n_1 s k) : kCall Tryz.prog 107 [b_0, n_1] s k := fn_by (F107_ok b_0 n_1 s k) h
theorem k107_ok : okFn Tryz.prog 107 = true := by kernel_rfl

/- internal stringslite.Index -/
def F108 (s_0 substr_1 : Value) (s : AS) (k : Value → AS → Prop) : Prop :=
 kLen true substr_1 fun v15 =>
 kJoin (fun _ s =>
 kIxS substr_1 (.int .i64 0) fun v49 =>
 kIxS substr_1 (.int .i64 1) fun v51 =>
 kLen true s_0 fun v53 =>
 kBin .sub v53 v15 fun v55 =>
 kBin .add v55 (.int .i64 1) fun v56 =>
 kJoin (fun _ s =>
 k (.int .i64 (-1)) s) fun J2 =>
 kLoop (fun again3 xs s =>
 un2 xs fun i_8 fails_10 =>
 kJoin (fun _ s =>
 kJoin (fun xs s =>
 un1 xs fun i_8 =>
 kJoin (fun _ s =>
 kBin .add i_8 (.int .i64 1) fun v96 =>
 kBin .add fails_10 (.int .i64 1) fun v98 =>
 kLd s (.pointer (some ⟨0, 0, none⟩)) fun v100 =>
 kBin .leq v15 v100 fun v101 =>
 kGrd v101 true (fun k =>
 kCall Tryz.prog 112 [v96] s fun v105 s =>
 kBin .gtr v98 v105 fun v106 =>
 k [v106] s) [undef] s fun xs s =>
 un1 xs fun v106 =>
 kPick v101 v106 (.bool false) fun v107 =>
 kCond v107 (
 kSubS s_0 (some v96) none fun v110 =>
 kGen Tryz.prog (.ext 111) [v110, substr_1] s fun v112 s =>
 kJoin (fun _ s =>
 k (.int .i64 (-1)) s) fun J7 =>
 kBin .geq v112 (.int .i64 0) fun v114 =>
 kCond v114 (
 kBin .add v112 v96 fun v117 =>
 k v117 s) (
 J7 [] s)) (
 kLd s (.pointer (some ⟨0, 0, none⟩)) fun v119 =>
 kBin .gtr v15 v119 fun v120 =>
 kGrd v120 true (fun k =>
 kSft .shr v96 (.int .u64 4) fun v124 =>
 kBin .add (.int .i64 4) v124 fun v125 =>
 kBin .geq v98 v125 fun v126 =>
 k [v126] s) [undef] s fun xs s =>
 un1 xs fun v126 =>
 kPick v120 v126 (.bool false) fun v127 =>
 kGrd v127 true (fun k =>
 kBin .lss v96 v56 fun v131 =>
 k [v131] s) [undef] s fun xs s =>
 un1 xs fun v131 =>
 kPick v127 v131 (.bool false) fun v132 =>
 kCond v132 (
 kSubS s_0 (some v96) none fun v135 =>
 kCall Tryz.prog 113 [v135, substr_1] s fun v137 s =>
 kJoin (fun _ s =>
 kBin .add v96 v137 fun v142 =>
 k v142 s) fun J8 =>
 kBin .lss v137 (.int .i64 0) fun v139 =>
 kCond v139 (
 k (.int .i64 (-1)) s) (
 J8 [] s)) (
 again3 [v96, v98] s))) fun J6 =>
 kBin .add i_8 (.int .i64 1) fun v80 =>
 kIxS s_0 v80 fun v81 =>
 kBin .eql v81 v51 fun v83 =>
 kGrd v83 true (fun k =>
 kBin .add i_8 v15 fun v89 =>
 kSubS s_0 (some i_8) (some v89) fun v90 =>
 kBin .eql v90 substr_1 fun v92 =>
 k [v92] s) [undef] s fun xs s =>
 un1 xs fun v92 =>
 kPick v83 v92 (.bool false) fun v93 =>
 kCond v93 (
 k i_8 s) (
 J6 [] s)) fun J5 =>
 kIxS s_0 i_8 fun v62 =>
 kBin .neq v62 v49 fun v64 =>
 kCond v64 (
 kBin .add i_8 (.int .i64 1) fun v67 =>
 kSubS s_0 (some v67) (some v56) fun v69 =>
 kCall Tryz.prog 63 [v69, v49] s fun v71 s =>
 kJoin (fun _ s =>
 kBin .add v71 (.int .i64 1) fun v76 =>
 kBin .add i_8 v76 fun v77 =>
 J5 [v77] s) fun J9 =>
 kBin .lss v71 (.int .i64 0) fun v73 =>
 kCond v73 (
 k (.int .i64 (-1)) s) (
 J9 [] s)) (
 J5 [i_8] s)) fun J4 =>
 kBin .lss i_8 v56 fun v59 =>
 kCond v59 (
 J4 [] s) (
 J2 [] s)) [(.int .i64 0), (.int .i64 0)] s) fun J1 =>
 kBin .eql v15 (.int .i64 0) fun v18 =>
 kGrd v18 false (fun k =>
 kBin .eql substr_1 s_0 fun v22 =>
 k [v22] s) [undef] s fun xs s =>
 un1 xs fun v22 =>
 kPick v18 (.bool true) v22 fun v23 =>
 kCond v23 (
 k (.int .i64 0) s) (
 kBin .eql v15 (.int .i64 1) fun v26 =>
 kCond v26 (
 kIxS substr_1 (.int .i64 0) fun v29 =>
 kCall Tryz.prog 63 [s_0, v29] s fun v30 s =>
 k v30 s) (
 kLen true s_0 fun v34 =>
 kBin .geq v15 v34 fun v35 =>
 kCond v35 (
 k (.int .i64 (-1)) s) (
 kLd s (.pointer (some ⟨0, 0, none⟩)) fun v38 =>
 kBin .leq v15 v38 fun v39 =>
 kGrd v39 true (fun k =>
 kLen true s_0 fun v42 =>
 kBin .leq v42 (.int .i64 64) fun v43 =>
 k [v43] s) [undef] s fun xs s =>
 un1 xs fun v43 =>
 kPick v39 v43 (.bool false) fun v44 =>
 kCond v44 (
 kGen Tryz.prog (.ext 111) [s_0, substr_1] s fun v47 s =>
 k v47 s) (
 J1 [] s))))
theorem F108_ok (s_0 substr_1 : Value) (s : AS) (k : Value → AS → Prop) : denFn Tryz.prog [] 108 [s_0, substr_1] s k = F108 s_0 substr_1 s k := by kernel_rfl
theorem f108 {s_0 substr_1 : Value} {s : AS} {k : Value → AS → Prop} (h : F108 s_0 substr_1 s k) : kCall Tryz.prog 108 [s_0, substr_1] s k := fn_by (F108_ok s_0 substr_1 s k) h
theorem k108_ok : okFn Tryz.prog 108 = true := by kernel_rfl

/- unicode utf8.decodeRuneInStringSlow -/
def F109 (s_0 : Value) (s : AS) (k : Value → AS → Prop) : Prop :=
 kLen true s_0 fun v14 =>
 kJoin (fun _ s =>
 kIxS s_0 (.int .i64 0) fun v18 =>
 kIdxA 256 1 (.pointer (some ⟨1, 0, none⟩)) v18 fun v20 =>
 kLd s v20 fun v21 =>
 kJoin (fun _ s =>
 kBin .and v21 (.int .u8 7) fun v37 =>
 kCvi .i64 v37 fun v38 =>
 kSft .shr v21 (.int .u64 4) fun v40 =>
 kIdxA 16 2 (.pointer (some ⟨2, 0, none⟩)) v40 fun v41 =>
 kLdN s 2 v41 fun v42 =>
 kNew s [(.int .u8 0), (.int .u8 0)] fun accept_9 s =>
 kSt s 2 accept_9 v42 fun s =>
 kJoin (fun _ s =>
 kIxS s_0 (.int .i64 1) fun v47 =>
 kJoin (fun _ s =>
 kJoin (fun _ s =>
 kIxS s_0 (.int .i64 2) fun v69 =>
 kJoin (fun _ s =>
 kJoin (fun _ s =>
 kIxS s_0 (.int .i64 3) fun v92 =>
 kJoin (fun _ s =>
 kBin .and v18 (.int .u8 7) fun v100 =>
 kCvi .i32 v100 fun v101 =>
 kSft .shl v101 (.int .u64 18) fun v102 =>
 kBin .and v47 (.int .u8 63) fun v104 =>
 kCvi .i32 v104 fun v105 =>
 kSft .shl v105 (.int .u64 12) fun v106 =>
 kBin .or v102 v106 fun v107 =>
 kBin .and v69 (.int .u8 63) fun v109 =>
 kCvi .i32 v109 fun v110 =>
 kSft .shl v110 (.int .u64 6) fun v111 =>
 kBin .or v107 v111 fun v112 =>
 kBin .and v92 (.int .u8 63) fun v114 =>
 kCvi .i32 v114 fun v115 =>
 kBin .or v112 v115 fun v116 =>
 k (.tuple #[v116, (.int .i64 4)]) s) fun J8 =>
 kBin .lss v92 (.int .u8 128) fun v94 =>
 kGrd v94 false (fun k =>
 kBin .lss (.int .u8 191) v92 fun v97 =>
 k [v97] s) [undef] s fun xs s =>
 un1 xs fun v97 =>
 kPick v94 (.bool true) v97 fun v98 =>
 kCond v98 (
 k (.tuple #[(.int .i32 65533), (.int .i64 1)]) s) (
 J8 [] s)) fun J7 =>
 kBin .leq v38 (.int .i64 3) fun v77 =>
 kCond v77 (
 kBin .and v18 (.int .u8 15) fun v79 =>
 kCvi .i32 v79 fun v80 =>
 kSft .shl v80 (.int .u64 12) fun v81 =>
 kBin .and v47 (.int .u8 63) fun v83 =>
 kCvi .i32 v83 fun v84 =>
 kSft .shl v84 (.int .u64 6) fun v85 =>
 kBin .or v81 v85 fun v86 =>
 kBin .and v69 (.int .u8 63) fun v88 =>
 kCvi .i32 v88 fun v89 =>
 kBin .or v86 v89 fun v90 =>
 k (.tuple #[v90, (.int .i64 3)]) s) (
 J7 [] s)) fun J6 =>
 kBin .lss v69 (.int .u8 128) fun v71 =>
 kGrd v71 false (fun k =>
 kBin .lss (.int .u8 191) v69 fun v74 =>
 k [v74] s) [undef] s fun xs s =>
 un1 xs fun v74 =>
 kPick v71 (.bool true) v74 fun v75 =>
 kCond v75 (
 k (.tuple #[(.int .i32 65533), (.int .i64 1)]) s) (
 J6 [] s)) fun J5 =>
 kBin .leq v38 (.int .i64 2) fun v59 =>
 kCond v59 (
 kBin .and v18 (.int .u8 31) fun v61 =>
 kCvi .i32 v61 fun v62 =>
 kSft .shl v62 (.int .u64 6) fun v63 =>
 kBin .and v47 (.int .u8 63) fun v65 =>
 kCvi .i32 v65 fun v66 =>
 kBin .or v63 v66 fun v67 =>
 k (.tuple #[v67, (.int .i64 2)]) s) (
 J5 [] s)) fun J4 =>
 kFld 0 accept_9 fun v49 =>
 kLd s v49 fun v50 =>
 kBin .lss v47 v50 fun v51 =>
 kGrd v51 false (fun k =>
 kFld 1 accept_9 fun v53 =>
 kLd s v53 fun v54 =>
 kBin .lss v54 v47 fun v56 =>
 k [v56] s) [undef] s fun xs s =>
 un1 xs fun v56 =>
 kPick v51 (.bool true) v56 fun v57 =>
 kCond v57 (
 k (.tuple #[(.int .i32 65533), (.int .i64 1)]) s) (
 J4 [] s)) fun J3 =>
 kBin .lss v14 v38 fun v45 =>
 kCond v45 (
 k (.tuple #[(.int .i32 65533), (.int .i64 1)]) s) (
 J3 [] s)) fun J2 =>
 kBin .geq v21 (.int .u8 240) fun v23 =>
 kCond v23 (
 kCvi .i32 v21 fun v25 =>
 kSft .shl v25 (.int .u64 31) fun v26 =>
 kSft .shr v26 (.int .u64 31) fun v27 =>
 kIxS s_0 (.int .i64 0) fun v29 =>
 kCvi .i32 v29 fun v30 =>
 kBin .andNot v30 v27 fun v32 =>
 kBin .and (.int .i32 65533) v27 fun v34 =>
 kBin .or v32 v34 fun v35 =>
 k (.tuple #[v35, (.int .i64 1)]) s) (
 J2 [] s)) fun J1 =>
 kBin .lss v14 (.int .i64 1) fun v16 =>
 kCond v16 (
 k (.tuple #[(.int .i32 65533), (.int .i64 0)]) s) (
 J1 [] s)
theorem F109_ok (s_0 : Value) (s : AS) (k : Value → AS → Prop) : denFn Tryz.prog [] 109 [s_0] s k = F109 s_0 s k := by kernel_rfl
theorem f109 {s_0 : Value} {s : AS} {k : Value → AS → Prop} (h : F109 s_0 s k) : kCall Tryz.prog 109 [s_0] s k := fn_by (F109_ok s_0 s k) h
theorem k109_ok : okFn Tryz.prog 109 = true := by kernel_rfl

/- internal bytealg.Cutover -/
def F112 (n_0 : Value) (s : AS) (k : Value → AS → Prop) : Prop :=
 kBin .add n_0 (.int .i64 16) fun v4 =>
 kBin .quo v4 (.int .i64 8) fun v5 =>
 k v5 s
theorem F112_ok (n_0 : Value) (s : AS) (k : Value → AS → Prop) : denFn Tryz.prog [] 112 [n_0] s k = F112 n_0 s k := by kernel_rfl
theorem f112 {n_0 : Value} {s : AS} {k : Value → AS → Prop} (h : F112 n_0 s k) : kCall Tryz.prog 112 [n_0] s k := fn_by (F112_ok n_0 s k) h
theorem k112_ok : okFn Tryz.prog 112 = true := by kernel_rfl

/- internal bytealg.IndexRabinKarp[string] -/
def F113 (s_0 sep_1 : Value) (s : AS) (k : Value → AS → Prop) : Prop :=
 kCall Tryz.prog 114 [sep_1] s fun v13 s =>
 kExt 0 v13 fun v14 =>
 kExt 1 v13 fun v15 =>
 kLen true sep_1 fun v17 =>
 kJoin (fun xs s =>
 un1 xs fun h_8 =>
 kJoin (fun _ s =>
 kJoin (fun _ s =>
 k (.int .i64 (-1)) s) fun J3 =>
 kLoop (fun again4 xs s =>
 un2 xs fun h_8 i_10 =>
 kJoin (fun _ s =>
 kBin .mul h_8 (.int .u32 16777619) fun v46 =>
 kIxS s_0 i_10 fun v50 =>
 kCvi .u32 v50 fun v51 =>
 kBin .add v46 v51 fun v52 =>
 kBin .sub i_10 v17 fun v58 =>
 kIxS s_0 v58 fun v59 =>
 kCvi .u32 v59 fun v60 =>
 kBin .mul v15 v60 fun v61 =>
 kBin .sub v52 v61 fun v62 =>
 kBin .add i_10 (.int .i64 1) fun v64 =>
 kBin .eql v62 v14 fun v67 =>
 kGrd v67 true (fun k =>
 kBin .sub v64 v17 fun v72 =>
 kSubS s_0 (some v72) (some v64) fun v74 =>
 kBin .eql v74 sep_1 fun v76 =>
 k [v76] s) [undef] s fun xs s =>
 un1 xs fun v76 =>
 kPick v67 v76 (.bool false) fun v77 =>
 kCond v77 (
 kBin .sub v64 v17 fun v80 =>
 k v80 s) (
 again4 [v62, v64] s)) fun J5 =>
 kLen true s_0 fun v43 =>
 kBin .lss i_10 v43 fun v44 =>
 kCond v44 (
 J5 [] s) (
 J3 [] s)) [h_8, v17] s) fun J2 =>
 kBin .eql h_8 v14 fun v32 =>
 kGrd v32 true (fun k =>
 kSubS s_0 none (some v17) fun v36 =>
 kBin .eql v36 sep_1 fun v38 =>
 k [v38] s) [undef] s fun xs s =>
 un1 xs fun v38 =>
 kPick v32 v38 (.bool false) fun v39 =>
 kCond v39 (
 k (.int .i64 0) s) (
 J2 [] s)) fun J1 =>
 kLoop (fun again6 xs s =>
 un2 xs fun h_8 i_9 =>
 kJoin (fun _ s =>
 kJoin (fun xs s =>
 un1 xs fun h_8 =>
 kBin .add i_9 (.int .i64 1) fun v22 =>
 again6 [h_8, v22] s) fun J8 =>
 kBin .mul h_8 (.int .u32 16777619) fun v24 =>
 kIxS s_0 i_9 fun v27 =>
 kCvi .u32 v27 fun v28 =>
 kBin .add v24 v28 fun v29 =>
 J8 [v29] s) fun J7 =>
 kBin .lss i_9 v17 fun v20 =>
 kCond v20 (
 J7 [] s) (
 J1 [h_8] s)) [(.int .u32 0), (.int .i64 0)] s
theorem F113_ok (s_0 sep_1 : Value) (s : AS) (k : Value → AS → Prop) : denFn Tryz.prog [] 113 [s_0, sep_1] s k = F113 s_0 sep_1 s k := by kernel_rfl
theorem f113 {s_0 sep_1 : Value} {s : AS} {k : Value → AS → Prop} (h : F113 s_0 sep_1 s k) : kCall Tryz.prog 113 [s_0, sep_1] s k := fn_by (F113_ok s_0 sep_1 s k) h
theorem k113_ok : okFn Tryz.prog 113 = true := by kernel_rfl

/- internal bytealg.hashStr[string] -/
def F114 (sep_0 : Value) (s : AS) (k : Value → AS → Prop) : Prop :=
 kJoin (fun xs s =>
 un1 xs fun hash_4 =>
 kJoin (fun xs s =>
 un1 xs fun pow_6 =>
 k (.tuple #[hash_4, pow_6]) s) fun J2 =>
 kLen true sep_0 fun v23 =>
 kLoop (fun again3 xs s =>
 un3 xs fun pow_6 sq_7 i_8 =>
 kJoin (fun _ s =>
 kJoin (fun xs s =>
 un2 xs fun pow_6 sq_7 =>
 kSft .shr i_8 (.int .u64 1) fun v27 =>
 again3 [pow_6, sq_7, v27] s) fun J5 =>
 kJoin (fun xs s =>
 un1 xs fun pow_6 =>
 kBin .mul sq_7 sq_7 fun v36 =>
 J5 [pow_6, v36] s) fun J6 =>
 kBin .and i_8 (.int .i64 1) fun v29 =>
 kBin .neq v29 (.int .i64 0) fun v30 =>
 kCond v30 (
 kBin .mul pow_6 sq_7 fun v33 =>
 J6 [v33] s) (
 J6 [pow_6] s)) fun J4 =>
 kBin .gtr i_8 (.int .i64 0) fun v25 =>
 kCond v25 (
 J4 [] s) (
 J2 [pow_6] s)) [(.int .u32 1), (.int .u32 16777619), v23] s) fun J1 =>
 kLoop (fun again7 xs s =>
 un2 xs fun hash_4 i_5 =>
 kJoin (fun _ s =>
 kJoin (fun xs s =>
 un1 xs fun hash_4 =>
 kBin .add i_5 (.int .i64 1) fun v14 =>
 again7 [hash_4, v14] s) fun J9 =>
 kBin .mul hash_4 (.int .u32 16777619) fun v16 =>
 kIxS sep_0 i_5 fun v19 =>
 kCvi .u32 v19 fun v20 =>
 kBin .add v16 v20 fun v21 =>
 J9 [v21] s) fun J8 =>
 kLen true sep_0 fun v11 =>
 kBin .lss i_5 v11 fun v12 =>
 kCond v12 (
 J8 [] s) (
 J1 [hash_4] s)) [(.int .u32 0), (.int .i64 0)] s
theorem F114_ok (sep_0 : Value) (s : AS) (k : Value → AS → Prop) : denFn Tryz.prog [] 114 [sep_0] s k = F114 sep_0 s k := by kernel_rfl
theorem f114 {sep_0 : Value} {s : AS} {k : Value → AS → Prop} (h : F114 sep_0 s k) : kCall Tryz.prog 114 [sep_0] s k := fn_by (F114_ok sep_0 s k) h
theorem k114_ok : okFn Tryz.prog 114 = true := by kernel_rfl

end Go.Proofs.YtmgdkoidgoihfaaGreatDoor
