/- The walks of the functions, printed by a program of this proof, each held against the loaded program by the kernel. Conditions: none. -/
import Derived.Test.YtkpnackmijjciaaGreatDoorProg
import Derived.Test.YtkpnackmijjciaaGreatDoorF6
namespace Go.Proofs.YtkpnackmijjciaaGreatDoor
open E
set_option maxRecDepth 100000
set_option linter.unusedVariables false

/- conch conchlaw08.VarsParams -/
def F3 (ops_0 p_1 : Value) (s : AS) (k : Value → AS → Prop) : Prop :=
 kJoin (fun _ s =>
 kCall Tryz.prog 10 [(.string (bs [122, 101, 114, 111])), (.slice none 0 0)] s fun v21 s =>
 kBuild [(.slice none 0 0), (.string (bs [])), (.slice none 0 0), (.int .i64 0)] [(1, 1, (.string (bs [122, 101, 114, 111])))] fun v22 =>
 kNew s (cellsV v22) fun v23 s =>
 kJoin (fun _ s =>
 kCall Tryz.prog 13 [v21, p_1] s fun v45 s =>
 kExt 0 v45 fun v46 =>
 kExt 1 v45 fun v47 =>
 kCall Tryz.prog 14 [v23, p_1] s fun v51 s =>
 kExt 0 v51 fun v52 =>
 kExt 1 v51 fun v53 =>
 kBin .eql v46 v52 fun v56 =>
 kGrd v56 true (fun k =>
 kEq 4 false v47 v53 fun v60 =>
 k [v60] s) [undef] s fun xs s =>
 un1 xs fun v60 =>
 kPick v56 v60 (.bool false) fun v61 =>
 kGrd v61 true (fun k =>
 kCall Tryz.prog 9 [] s fun v63 s =>
 k [v63] s) [undef] s fun xs s =>
 un1 xs fun v63 =>
 kPick v61 v63 (.bool false) fun v64 =>
 k v64 s) fun J2 =>
 kLoop (fun again3 xs s =>
 un1 xs fun i_7 =>
 kJoin (fun _ s =>
 kJoin (fun _ s =>
 kBin .add i_7 (.int .i64 1) fun v29 =>
 again3 [v29] s) fun J5 =>
 kIdx 5 ops_0 i_7 fun v33 =>
 kLdN s 5 v33 fun v34 =>
 kCall Tryz.prog 11 [v21, v34] s fun v35 s =>
 kIdx 5 ops_0 i_7 fun v39 =>
 kLdN s 5 v39 fun v40 =>
 kCall Tryz.prog 12 [v23, v40] s fun v41 s =>
 J5 [] s) fun J4 =>
 kLen false ops_0 fun v26 =>
 kBin .lss i_7 v26 fun v27 =>
 kCond v27 (
 J4 [] s) (
 J2 [] s)) [(.int .i64 0)] s) fun J1 =>
 kCall Tryz.prog 8 [ops_0] s fun v13 s =>
 kUn .not v13 fun v14 =>
 kGrd v14 false (fun k =>
 kLen true p_1 fun v17 =>
 kBin .gtr v17 (.int .i64 200) fun v18 =>
 k [v18] s) [undef] s fun xs s =>
 un1 xs fun v18 =>
 kPick v14 (.bool true) v18 fun v19 =>
 kCond v19 (
 kCall Tryz.prog 9 [] s fun v20 s =>
 k v20 s) (
 J1 [] s)
theorem F3_ok (ops_0 p_1 : Value) (s : AS) (k : Value → AS → Prop) : denFn Tryz.prog [] 3 [ops_0, p_1] s k = F3 ops_0 p_1 s k := by kernel_rfl
theorem f3 {ops_0 p_1 : Value} {s : AS} {k : Value → AS → Prop} (h : F3 ops_0 p_1 s k) : kCall Tryz.prog 3 [ops_0, p_1] s k := denFn_ok [] (cast (F3_ok ops_0 p_1 s k).symm h)
theorem k3_ok : okFn Tryz.prog 3 = true := by kernel_rfl

/- conch conchlaw08.VarsKeeps -/
def F4 (ops_0 name_1 : Value) (s : AS) (k : Value → AS → Prop) : Prop :=
 kJoin (fun _ s =>
 kCall Tryz.prog 10 [(.string (bs [115, 104])), (.slice none 0 0)] s fun v24 s =>
 kJoin (fun _ s =>
 kCall Tryz.prog 9 [] s fun v102 s =>
 k v102 s) fun J2 =>
 kLoop (fun again3 xs s =>
 un3 xs fun value_6 set_7 i_8 =>
 kJoin (fun _ s =>
 kJoin (fun xs s =>
 un2 xs fun value_6 set_7 =>
 kBin .add i_8 (.int .i64 1) fun v30 =>
 again3 [value_6, set_7, v30] s) fun J5 =>
 kIdx 5 ops_0 i_8 fun v33 =>
 kLdN s 5 v33 fun v34 =>
 kNew s [(.int .i64 0), (.string (bs [])), (.string (bs [])), (.int .i64 0), (.slice none 0 0)] fun o_9 s =>
 kSt s 5 o_9 v34 fun s =>
 kCall Tryz.prog 16 [v24] s fun v36 s =>
 kCall Tryz.prog 15 [v36] s fun v37 s =>
 kCall Tryz.prog 17 [v24] s fun v39 s =>
 kLdN s 5 o_9 fun v41 =>
 kCall Tryz.prog 11 [v24, v41] s fun v42 s =>
 kJoin (fun _ s =>
 kJoin (fun xs s =>
 un2 xs fun value_6 set_7 =>
 kJoin (fun xs s =>
 un2 xs fun value_6 set_7 =>
 kCall Tryz.prog 21 [v24, name_1] s fun v91 s =>
 kExt 0 v91 fun v92 =>
 kExt 1 v91 fun v93 =>
 kBin .neq v92 value_6 fun v96 =>
 kGrd v96 false (fun k =>
 kEq 4 true v93 set_7 fun v100 =>
 k [v100] s) [undef] s fun xs s =>
 un1 xs fun v100 =>
 kPick v96 (.bool true) v100 fun v101 =>
 kCond v101 (
 k (.bool false) s) (
 J5 [value_6, set_7] s)) fun J8 =>
 kBin .eql v42 (.int .i64 0) fun v76 =>
 kGrd v76 true (fun k =>
 kFld 1 o_9 fun v78 =>
 kLd s v78 fun v79 =>
 kBin .eql v79 name_1 fun v81 =>
 k [v81] s) [undef] s fun xs s =>
 un1 xs fun v81 =>
 kPick v76 v81 (.bool false) fun v82 =>
 kGrd v82 true (fun k =>
 kLdN s 5 o_9 fun v84 =>
 kCall Tryz.prog 20 [v84] s fun v85 s =>
 kBin .eql v85 (.int .i64 2) fun v86 =>
 k [v86] s) [undef] s fun xs s =>
 un1 xs fun v86 =>
 kPick v82 v86 (.bool false) fun v87 =>
 kCond v87 (
 J8 [(.string (bs [])), (.bool false)] s) (
 J8 [value_6, set_7] s)) fun J7 =>
 kBin .eql v42 (.int .i64 0) fun v61 =>
 kGrd v61 true (fun k =>
 kFld 1 o_9 fun v63 =>
 kLd s v63 fun v64 =>
 kBin .eql v64 name_1 fun v66 =>
 k [v66] s) [undef] s fun xs s =>
 un1 xs fun v66 =>
 kPick v61 v66 (.bool false) fun v67 =>
 kGrd v67 true (fun k =>
 kLdN s 5 o_9 fun v69 =>
 kCall Tryz.prog 20 [v69] s fun v70 s =>
 kBin .lss v70 (.int .i64 2) fun v71 =>
 k [v71] s) [undef] s fun xs s =>
 un1 xs fun v71 =>
 kPick v67 v71 (.bool false) fun v72 =>
 kCond v72 (
 kFld 2 o_9 fun v73 =>
 kLd s v73 fun v74 =>
 J7 [v74, (.bool true)] s) (
 J7 [value_6, set_7] s)) fun J6 =>
 kBin .neq v42 (.int .i64 0) fun v44 =>
 kGrd v44 true (fun k =>
 kCall Tryz.prog 16 [v24] s fun v48 s =>
 kCall Tryz.prog 15 [v48] s fun v49 s =>
 kCall Tryz.prog 18 [v37, v49] s fun v50 s =>
 kUn .not v50 fun v51 =>
 k [v51] s) [undef] s fun xs s =>
 un1 xs fun v52 =>
 kGrd v52 false (fun k =>
 kCall Tryz.prog 17 [v24] s fun v55 s =>
 kCall Tryz.prog 19 [v39, v55] s fun v56 s =>
 kUn .not v56 fun v57 =>
 k [v57] s) [undef] s fun xs s =>
 un1 xs fun v57 =>
 kGrd v44 true (fun k =>
 kPick v52 (.bool true) v57 fun v58 =>
 k [v58] s) [undef] s fun xs s =>
 un1 xs fun v58 =>
 kPick v44 v58 (.bool false) fun v59 =>
 kCond v59 (
 k (.bool false) s) (
 J6 [] s)) fun J4 =>
 kLen false ops_0 fun v27 =>
 kBin .lss i_8 v27 fun v28 =>
 kCond v28 (
 J4 [] s) (
 J2 [] s)) [(.string (bs [])), (.bool false), (.int .i64 0)] s) fun J1 =>
 kCall Tryz.prog 8 [ops_0] s fun v16 s =>
 kUn .not v16 fun v17 =>
 kGrd v17 false (fun k =>
 kLen true name_1 fun v20 =>
 kBin .gtr v20 (.int .i64 200) fun v21 =>
 k [v21] s) [undef] s fun xs s =>
 un1 xs fun v21 =>
 kPick v17 (.bool true) v21 fun v22 =>
 kCond v22 (
 kCall Tryz.prog 9 [] s fun v23 s =>
 k v23 s) (
 J1 [] s)
theorem F4_ok (ops_0 name_1 : Value) (s : AS) (k : Value → AS → Prop) : denFn Tryz.prog [] 4 [ops_0, name_1] s k = F4 ops_0 name_1 s k := by kernel_rfl
theorem f4 {ops_0 name_1 : Value} {s : AS} {k : Value → AS → Prop} (h : F4 ops_0 name_1 s k) : kCall Tryz.prog 4 [ops_0, name_1] s k := denFn_ok [] (cast (F4_ok ops_0 name_1 s k).symm h)
theorem k4_ok : okFn Tryz.prog 4 = true := by kernel_rfl

/- conch conchlaw08.VarsPlays -/
def F5 (args_0 ops_1 : Value) (s : AS) (k : Value → AS → Prop) : Prop :=
 kJoin (fun _ s =>
 kCall Tryz.prog 10 [(.string (bs [122, 101, 114, 111])), args_0] s fun v24 s =>
 kBuild [(.slice none 0 0), (.string (bs [])), (.slice none 0 0), (.int .i64 0)] [(1, 1, (.string (bs [122, 101, 114, 111]))), (2, 1, args_0)] fun v26 =>
 kNew s (cellsV v26) fun v27 s =>
 kJoin (fun _ s =>
 kNck v27 fun v92 =>
 kFld 0 v92 fun v93 =>
 kLd s v93 fun v94 =>
 kCall Tryz.prog 16 [v24] s fun v89 s =>
 kChk s v93 v94 (
 kCall Tryz.prog 15 [v89] s fun v90 s =>
 kChk s v93 v94 (
 kCall Tryz.prog 18 [v90, v94] s fun v95 s =>
 kGrd v95 true (fun k =>
 kCall Tryz.prog 25 [v24] s fun v98 s =>
 kCall Tryz.prog 26 [v27] s fun v100 s =>
 kCall Tryz.prog 19 [v98, v100] s fun v101 s =>
 k [v101] s) [undef] s fun xs s =>
 un1 xs fun v101 =>
 kPick v95 v101 (.bool false) fun v102 =>
 kGrd v102 true (fun k =>
 kNck v27 fun v107 =>
 kFld 2 v107 fun v108 =>
 kLd s v108 fun v109 =>
 kCall Tryz.prog 17 [v24] s fun v105 s =>
 kChk s v108 v109 (
 kCall Tryz.prog 19 [v105, v109] s fun v110 s =>
 k [v110] s)) [undef] s fun xs s =>
 un1 xs fun v110 =>
 kPick v102 v110 (.bool false) fun v111 =>
 kGrd v111 true (fun k =>
 kCall Tryz.prog 9 [] s fun v113 s =>
 k [v113] s) [undef] s fun xs s =>
 un1 xs fun v113 =>
 kPick v111 v113 (.bool false) fun v114 =>
 k v114 s))) fun J2 =>
 kLoop (fun again3 xs s =>
 un1 xs fun i_7 =>
 kJoin (fun _ s =>
 kJoin (fun _ s =>
 kBin .add i_7 (.int .i64 1) fun v33 =>
 again3 [v33] s) fun J5 =>
 kIdx 5 ops_1 i_7 fun v37 =>
 kLdN s 5 v37 fun v38 =>
 kCall Tryz.prog 11 [v24, v38] s fun v39 s =>
 kIdx 5 ops_1 i_7 fun v43 =>
 kLdN s 5 v43 fun v44 =>
 kCall Tryz.prog 12 [v27, v44] s fun v45 s =>
 kIdx 5 ops_1 i_7 fun v50 =>
 kFld 1 v50 fun v51 =>
 kLd s v51 fun v52 =>
 kCall Tryz.prog 21 [v24, v52] s fun v53 s =>
 kExt 0 v53 fun v54 =>
 kExt 1 v53 fun v55 =>
 kIdx 5 ops_1 i_7 fun v60 =>
 kFld 1 v60 fun v61 =>
 kLd s v61 fun v62 =>
 kCall Tryz.prog 23 [v27, v62] s fun v63 s =>
 kExt 0 v63 fun v64 =>
 kExt 1 v63 fun v65 =>
 kBin .neq v39 v45 fun v68 =>
 kGrd v68 false (fun k =>
 kBin .neq v54 v64 fun v72 =>
 k [v72] s) [undef] s fun xs s =>
 un1 xs fun v72 =>
 kPick v68 (.bool true) v72 fun v73 =>
 kGrd v73 false (fun k =>
 kEq 4 true v55 v65 fun v77 =>
 k [v77] s) [undef] s fun xs s =>
 un1 xs fun v77 =>
 kPick v73 (.bool true) v77 fun v78 =>
 kGrd v78 false (fun k =>
 kNck v27 fun v83 =>
 kFld 3 v83 fun v84 =>
 kLd s v84 fun v85 =>
 kCall Tryz.prog 24 [v24] s fun v81 s =>
 kChk s v84 v85 (
 kBin .neq v81 v85 fun v86 =>
 k [v86] s)) [undef] s fun xs s =>
 un1 xs fun v86 =>
 kPick v78 (.bool true) v86 fun v87 =>
 kCond v87 (
 k (.bool false) s) (
 J5 [] s)) fun J4 =>
 kLen false ops_1 fun v30 =>
 kBin .lss i_7 v30 fun v31 =>
 kCond v31 (
 J4 [] s) (
 J2 [] s)) [(.int .i64 0)] s) fun J1 =>
 kCall Tryz.prog 22 [args_0] s fun v15 s =>
 kUn .not v15 fun v16 =>
 kGrd v16 false (fun k =>
 kCall Tryz.prog 8 [ops_1] s fun v19 s =>
 kUn .not v19 fun v20 =>
 k [v20] s) [undef] s fun xs s =>
 un1 xs fun v20 =>
 kPick v16 (.bool true) v20 fun v21 =>
 kCond v21 (
 kCall Tryz.prog 9 [] s fun v22 s =>
 k v22 s) (
 J1 [] s)
theorem F5_ok (args_0 ops_1 : Value) (s : AS) (k : Value → AS → Prop) : denFn Tryz.prog [(12, (.go 0 (.go 1 (.go 2 (.go 3 (.go 4 (.go 5 (.go 6 (.go 7 (.go 8 (.go 9 (.go 10 (.go 11 (.go 12 (.go 13 (.go 14 (.go 16 (.go 17 (.go 18 (.go 19 (.go 15 (.go 20 (.go 21 .done))))))))))))))))))))))), (14, (.go 0 (.go 3 (.go 4 (.go 5 (.go 6 (.go 1 (.go 2 (.go 7 (.go 8 (.go 9 (.go 11 (.go 10 (.go 12 (.go 13 (.go 14 (.go 15 (.go 16 (.go 18 (.go 19 (.go 20 (.go 21 (.go 17 (.go 22 (.go 23 (.go 24 (.go 25 (.go 26 (.go 27 .done)))))))))))))))))))))))))))))] 5 [args_0, ops_1] s k = F5 args_0 ops_1 s k := by kernel_rfl
theorem f5 {args_0 ops_1 : Value} {s : AS} {k : Value → AS → Prop} (h : F5 args_0 ops_1 s k) : kCall Tryz.prog 5 [args_0, ops_1] s k := denFn_ok [(12, (.go 0 (.go 1 (.go 2 (.go 3 (.go 4 (.go 5 (.go 6 (.go 7 (.go 8 (.go 9 (.go 10 (.go 11 (.go 12 (.go 13 (.go 14 (.go 16 (.go 17 (.go 18 (.go 19 (.go 15 (.go 20 (.go 21 .done))))))))))))))))))))))), (14, (.go 0 (.go 3 (.go 4 (.go 5 (.go 6 (.go 1 (.go 2 (.go 7 (.go 8 (.go 9 (.go 11 (.go 10 (.go 12 (.go 13 (.go 14 (.go 15 (.go 16 (.go 18 (.go 19 (.go 20 (.go 21 (.go 17 (.go 22 (.go 23 (.go 24 (.go 25 (.go 26 (.go 27 .done)))))))))))))))))))))))))))))] (cast (F5_ok args_0 ops_1 s k).symm h)
theorem k5_ok : okFn Tryz.prog 5 = true := by kernel_rfl

/- conch conchlaw08.VarsCopies -/
def F6 (ops_0 more_1 other_2 : Value) (s : AS) (k : Value → AS → Prop) : Prop :=
 kJoin (fun _ s =>
 kBsl s 1 [(.string (bs []))] [(0, 1, (.string (bs [97])))] fun v29 s =>
 kCall Tryz.prog 10 [(.string (bs [115, 104])), v29] s fun v30 s =>
 kJoin (fun _ s =>
 kCall Tryz.prog 27 [v30] s fun v44 s =>
 kJoin (fun _ s =>
 kJoin (fun _ s =>
 kJoin (fun xs s =>
 un2 xs fun a_10 b_11 =>
 kCall Tryz.prog 16 [b_11] s fun v76 s =>
 kCall Tryz.prog 15 [v76] s fun v77 s =>
 kCall Tryz.prog 17 [b_11] s fun v79 s =>
 kCall Tryz.prog 24 [b_11] s fun v81 s =>
 kJoin (fun _ s =>
 kCall Tryz.prog 17 [a_10] s fun v95 s =>
 kJoin (fun _ s =>
 kCall Tryz.prog 13 [b_11, (.string (bs [48]))] s fun v107 s =>
 kExt 0 v107 fun v108 =>
 kExt 1 v107 fun v109 =>
 kCall Tryz.prog 16 [b_11] s fun v111 s =>
 kCall Tryz.prog 15 [v111] s fun v112 s =>
 kCall Tryz.prog 18 [v112, v77] s fun v114 s =>
 kGrd v114 true (fun k =>
 kCall Tryz.prog 17 [b_11] s fun v117 s =>
 kCall Tryz.prog 19 [v117, v79] s fun v119 s =>
 k [v119] s) [undef] s fun xs s =>
 un1 xs fun v119 =>
 kPick v114 v119 (.bool false) fun v120 =>
 kGrd v120 true (fun k =>
 kCall Tryz.prog 24 [b_11] s fun v123 s =>
 kBin .eql v123 v81 fun v125 =>
 k [v125] s) [undef] s fun xs s =>
 un1 xs fun v125 =>
 kPick v120 v125 (.bool false) fun v126 =>
 kGrd v126 true (fun k =>
 kBin .eql v108 (.string (bs [115, 104])) fun v129 =>
 k [v129] s) [undef] s fun xs s =>
 un1 xs fun v129 =>
 kPick v126 v129 (.bool false) fun v130 =>
 kGrd v130 true (fun k =>
 kCall Tryz.prog 9 [] s fun v132 s =>
 k [v132] s) [undef] s fun xs s =>
 un1 xs fun v132 =>
 kPick v130 v132 (.bool false) fun v133 =>
 k v133 s) fun J7 =>
 kLoop (fun again8 xs s =>
 un1 xs fun i_17 =>
 kJoin (fun _ s =>
 kJoin (fun _ s =>
 kBin .add i_17 (.int .i64 1) fun v101 =>
 again8 [v101] s) fun J10 =>
 kIdx 1 v95 i_17 fun v104 =>
 kSt s 1 v104 (.string (bs [115, 112, 111, 105, 108, 116])) fun s =>
 J10 [] s) fun J9 =>
 kLen false v95 fun v98 =>
 kBin .lss i_17 v98 fun v99 =>
 kCond v99 (
 J9 [] s) (
 J7 [] s)) [(.int .i64 0)] s) fun J6 =>
 kLoop (fun again11 xs s =>
 un1 xs fun i_15 =>
 kJoin (fun _ s =>
 kJoin (fun _ s =>
 kBin .add i_15 (.int .i64 1) fun v87 =>
 again11 [v87] s) fun J13 =>
 kIdx 5 more_1 i_15 fun v91 =>
 kLdN s 5 v91 fun v92 =>
 kCall Tryz.prog 11 [a_10, v92] s fun v93 s =>
 J13 [] s) fun J12 =>
 kLen false more_1 fun v84 =>
 kBin .lss i_15 v84 fun v85 =>
 kCond v85 (
 J12 [] s) (
 J6 [] s)) [(.int .i64 0)] s) fun J5 =>
 kCond other_2 (
 J5 [v44, v30] s) (
 J5 [v30, v44] s)) fun J4 =>
 kCall Tryz.prog 16 [v30] s fun v48 s =>
 kCall Tryz.prog 15 [v48] s fun v49 s =>
 kCall Tryz.prog 16 [v44] s fun v51 s =>
 kCall Tryz.prog 15 [v51] s fun v52 s =>
 kCall Tryz.prog 18 [v49, v52] s fun v53 s =>
 kUn .not v53 fun v54 =>
 kGrd v54 false (fun k =>
 kCall Tryz.prog 17 [v30] s fun v57 s =>
 kCall Tryz.prog 17 [v44] s fun v59 s =>
 kCall Tryz.prog 19 [v57, v59] s fun v60 s =>
 kUn .not v60 fun v61 =>
 k [v61] s) [undef] s fun xs s =>
 un1 xs fun v61 =>
 kPick v54 (.bool true) v61 fun v62 =>
 kGrd v62 false (fun k =>
 kCall Tryz.prog 24 [v30] s fun v65 s =>
 kCall Tryz.prog 24 [v44] s fun v67 s =>
 kBin .neq v65 v67 fun v68 =>
 k [v68] s) [undef] s fun xs s =>
 un1 xs fun v68 =>
 kPick v62 (.bool true) v68 fun v69 =>
 kCond v69 (
 k (.bool false) s) (
 J4 [] s)) fun J3 =>
 kEq 0 false v44 (.pointer none) fun v46 =>
 kCond v46 (
 k (.bool false) s) (
 J3 [] s)) fun J2 =>
 kLoop (fun again14 xs s =>
 un1 xs fun i_8 =>
 kJoin (fun _ s =>
 kJoin (fun _ s =>
 kBin .add i_8 (.int .i64 1) fun v36 =>
 again14 [v36] s) fun J16 =>
 kIdx 5 ops_0 i_8 fun v40 =>
 kLdN s 5 v40 fun v41 =>
 kCall Tryz.prog 11 [v30, v41] s fun v42 s =>
 J16 [] s) fun J15 =>
 kLen false ops_0 fun v33 =>
 kBin .lss i_8 v33 fun v34 =>
 kCond v34 (
 J15 [] s) (
 J2 [] s)) [(.int .i64 0)] s) fun J1 =>
 kCall Tryz.prog 8 [ops_0] s fun v21 s =>
 kUn .not v21 fun v22 =>
 kGrd v22 false (fun k =>
 kCall Tryz.prog 8 [more_1] s fun v25 s =>
 kUn .not v25 fun v26 =>
 k [v26] s) [undef] s fun xs s =>
 un1 xs fun v26 =>
 kPick v22 (.bool true) v26 fun v27 =>
 kCond v27 (
 kCall Tryz.prog 9 [] s fun v28 s =>
 k v28 s) (
 J1 [] s)
theorem F6_ok (ops_0 more_1 other_2 : Value) (s : AS) (k : Value → AS → Prop) : denFn Tryz.prog [] 6 [ops_0, more_1, other_2] s k = F6 ops_0 more_1 other_2 s k := by kernel_rfl
theorem f6 {ops_0 more_1 other_2 : Value} {s : AS} {k : Value → AS → Prop} (h : F6 ops_0 more_1 other_2 s k) : kCall Tryz.prog 6 [ops_0, more_1, other_2] s k := denFn_ok [] (cast (F6_ok ops_0 more_1 other_2 s k).symm h)
theorem k6_ok : okFn Tryz.prog 6 = true := by kernel_rfl

/- conch conchlaw08.VarsNil -/
def F7 (o_0 p_1 : Value) (s : AS) (k : Value → AS → Prop) : Prop :=
 kNew s (cellsV o_0) fun o_2 s =>
 kJoin (fun _ s =>
 kLdN s 5 o_2 fun v23 =>
 kCall Tryz.prog 11 [(.pointer none), v23] s fun v24 s =>
 kFld 1 o_2 fun v27 =>
 kLd s v27 fun v28 =>
 kCall Tryz.prog 21 [(.pointer none), v28] s fun v29 s =>
 kExt 0 v29 fun v30 =>
 kExt 1 v29 fun v31 =>
 kCall Tryz.prog 13 [(.pointer none), p_1] s fun v35 s =>
 kExt 0 v35 fun v36 =>
 kExt 1 v35 fun v37 =>
 kJoin (fun xs s =>
 un1 xs fun want_11 =>
 kBin .eql v24 want_11 fun v48 =>
 kGrd v48 true (fun k =>
 kBin .eql v30 (.string (bs [])) fun v51 =>
 k [v51] s) [undef] s fun xs s =>
 un1 xs fun v51 =>
 kPick v48 v51 (.bool false) fun v52 =>
 kGrd v52 true (fun k =>
 kUn .not v31 fun v55 =>
 k [v55] s) [undef] s fun xs s =>
 un1 xs fun v55 =>
 kPick v52 v55 (.bool false) fun v56 =>
 kGrd v56 true (fun k =>
 kBin .eql v36 (.string (bs [])) fun v59 =>
 k [v59] s) [undef] s fun xs s =>
 un1 xs fun v59 =>
 kPick v56 v59 (.bool false) fun v60 =>
 kGrd v60 true (fun k =>
 kUn .not v37 fun v63 =>
 k [v63] s) [undef] s fun xs s =>
 un1 xs fun v63 =>
 kPick v60 v63 (.bool false) fun v64 =>
 kGrd v64 true (fun k =>
 kCall Tryz.prog 16 [(.pointer none)] s fun v67 s =>
 kLen false v67 fun v68 =>
 kBin .eql v68 (.int .i64 0) fun v69 =>
 k [v69] s) [undef] s fun xs s =>
 un1 xs fun v69 =>
 kPick v64 v69 (.bool false) fun v70 =>
 kGrd v70 true (fun k =>
 kCall Tryz.prog 25 [(.pointer none)] s fun v73 s =>
 kLen false v73 fun v74 =>
 kBin .eql v74 (.int .i64 0) fun v75 =>
 k [v75] s) [undef] s fun xs s =>
 un1 xs fun v75 =>
 kPick v70 v75 (.bool false) fun v76 =>
 kGrd v76 true (fun k =>
 kCall Tryz.prog 17 [(.pointer none)] s fun v79 s =>
 kLen false v79 fun v80 =>
 kBin .eql v80 (.int .i64 0) fun v81 =>
 k [v81] s) [undef] s fun xs s =>
 un1 xs fun v81 =>
 kPick v76 v81 (.bool false) fun v82 =>
 kGrd v82 true (fun k =>
 kCall Tryz.prog 24 [(.pointer none)] s fun v85 s =>
 kBin .eql v85 (.int .i64 0) fun v86 =>
 k [v86] s) [undef] s fun xs s =>
 un1 xs fun v86 =>
 kPick v82 v86 (.bool false) fun v87 =>
 kGrd v87 true (fun k =>
 kCall Tryz.prog 27 [(.pointer none)] s fun v90 s =>
 kEq 0 false v90 (.pointer none) fun v91 =>
 k [v91] s) [undef] s fun xs s =>
 un1 xs fun v91 =>
 kPick v87 v91 (.bool false) fun v92 =>
 kGrd v92 true (fun k =>
 kCall Tryz.prog 9 [] s fun v94 s =>
 k [v94] s) [undef] s fun xs s =>
 un1 xs fun v94 =>
 kPick v92 v94 (.bool false) fun v95 =>
 k v95 s) fun J2 =>
 kLdN s 5 o_2 fun v38 =>
 kCall Tryz.prog 20 [v38] s fun v39 s =>
 kBin .eql v39 (.int .i64 5) fun v40 =>
 kGrd v40 false (fun k =>
 kLdN s 5 o_2 fun v42 =>
 kCall Tryz.prog 20 [v42] s fun v43 s =>
 kBin .eql v43 (.int .i64 7) fun v44 =>
 k [v44] s) [undef] s fun xs s =>
 un1 xs fun v44 =>
 kPick v40 (.bool true) v44 fun v45 =>
 kCond v45 (
 J2 [(.int .i64 0)] s) (
 J2 [(.int .i64 2)] s)) fun J1 =>
 kLdN s 5 o_2 fun v12 =>
 kBsl s 1 [(.int .i64 0), (.string (bs [])), (.string (bs [])), (.int .i64 0), (.slice none 0 0)] [(0, 5, v12)] fun v13 s =>
 kCall Tryz.prog 8 [v13] s fun v14 s =>
 kUn .not v14 fun v15 =>
 kGrd v15 false (fun k =>
 kLen true p_1 fun v18 =>
 kBin .gtr v18 (.int .i64 200) fun v19 =>
 k [v19] s) [undef] s fun xs s =>
 un1 xs fun v19 =>
 kPick v15 (.bool true) v19 fun v20 =>
 kCond v20 (
 kCall Tryz.prog 9 [] s fun v21 s =>
 k v21 s) (
 J1 [] s)
theorem F7_ok (o_0 p_1 : Value) (s : AS) (k : Value → AS → Prop) : denFn Tryz.prog [] 7 [o_0, p_1] s k = F7 o_0 p_1 s k := by kernel_rfl
theorem f7 {o_0 p_1 : Value} {s : AS} {k : Value → AS → Prop} (h : F7 o_0 p_1 s k) : kCall Tryz.prog 7 [o_0, p_1] s k := denFn_ok [] (cast (F7_ok o_0 p_1 s k).symm h)
theorem k7_ok : okFn Tryz.prog 7 = true := by kernel_rfl

/- conch conchlaw08.few -/
def F8 (l_0 : Value) (s : AS) (k : Value → AS → Prop) : Prop :=
 kJoin (fun _ s =>
 kJoin (fun _ s =>
 k (.bool true) s) fun J2 =>
 kLoop (fun again3 xs s =>
 un1 xs fun i_3 =>
 kJoin (fun _ s =>
 kJoin (fun _ s =>
 kBin .add i_3 (.int .i64 1) fun v12 =>
 again3 [v12] s) fun J5 =>
 kIdx 5 l_0 i_3 fun v15 =>
 kFld 1 v15 fun v16 =>
 kLd s v16 fun v17 =>
 kLen true v17 fun v18 =>
 kBin .gtr v18 (.int .i64 200) fun v19 =>
 kGrd v19 false (fun k =>
 kIdx 5 l_0 i_3 fun v23 =>
 kFld 2 v23 fun v24 =>
 kLd s v24 fun v25 =>
 kLen true v25 fun v26 =>
 kBin .gtr v26 (.int .i64 200) fun v27 =>
 k [v27] s) [undef] s fun xs s =>
 un1 xs fun v27 =>
 kPick v19 (.bool true) v27 fun v28 =>
 kGrd v28 false (fun k =>
 kIdx 5 l_0 i_3 fun v32 =>
 kFld 4 v32 fun v33 =>
 kLd s v33 fun v34 =>
 kCall Tryz.prog 22 [v34] s fun v35 s =>
 kUn .not v35 fun v36 =>
 k [v36] s) [undef] s fun xs s =>
 un1 xs fun v36 =>
 kPick v28 (.bool true) v36 fun v37 =>
 kCond v37 (
 k (.bool false) s) (
 J5 [] s)) fun J4 =>
 kLen false l_0 fun v9 =>
 kBin .lss i_3 v9 fun v10 =>
 kCond v10 (
 J4 [] s) (
 J2 [] s)) [(.int .i64 0)] s) fun J1 =>
 kLen false l_0 fun v5 =>
 kBin .gtr v5 (.int .i64 60) fun v6 =>
 kCond v6 (
 k (.bool false) s) (
 J1 [] s)
theorem F8_ok (l_0 : Value) (s : AS) (k : Value → AS → Prop) : denFn Tryz.prog [] 8 [l_0] s k = F8 l_0 s k := by kernel_rfl
theorem f8 {l_0 : Value} {s : AS} {k : Value → AS → Prop} (h : F8 l_0 s k) : kCall Tryz.prog 8 [l_0] s k := denFn_ok [] (cast (F8_ok l_0 s k).symm h)
theorem k8_ok : okFn Tryz.prog 8 = true := by kernel_rfl

/- conch conchlaw08.awake -/
def F9 (s : AS) (k : Value → AS → Prop) : Prop :=
 kBsl s 2 [(.string (bs [])), (.string (bs []))] [(0, 1, (.string (bs [97]))), (1, 1, (.string (bs [98])))] fun v14 s =>
 kCall Tryz.prog 10 [(.string (bs [115, 104])), v14] s fun v15 s =>
 kCall Tryz.prog 13 [v15, (.string (bs [49]))] s fun v18 s =>
 kExt 0 v18 fun v19 =>
 kExt 1 v18 fun v20 =>
 kCall Tryz.prog 13 [v15, (.string (bs [51]))] s fun v23 s =>
 kExt 0 v23 fun v24 =>
 kExt 1 v23 fun v25 =>
 kCall Tryz.prog 28 [v15, (.string (bs [120])), (.string (bs [49]))] s fun v27 s =>
 kCall Tryz.prog 29 [v15, (.string (bs [120]))] s fun v29 s =>
 kCall Tryz.prog 28 [v15, (.string (bs [120])), (.string (bs [50]))] s fun v31 s =>
 kCall Tryz.prog 21 [v15, (.string (bs [120]))] s fun v34 s =>
 kExt 0 v34 fun v35 =>
 kExt 1 v34 fun v36 =>
 kCall Tryz.prog 30 [v15, (.int .i64 3)] s fun v38 s =>
 kCall Tryz.prog 30 [v15, (.int .i64 1)] s fun v40 s =>
 kCall Tryz.prog 17 [v15] s fun v42 s =>
 kBin .eql v19 (.string (bs [97])) fun v44 =>
 kGrd v44 true (fun k =>
 k [v20] s) [undef] s fun xs s =>
 un1 xs fun v46 =>
 kPick v44 v46 (.bool false) fun v47 =>
 kGrd v47 true (fun k =>
 kUn .not v25 fun v50 =>
 k [v50] s) [undef] s fun xs s =>
 un1 xs fun v50 =>
 kPick v47 v50 (.bool false) fun v51 =>
 kGrd v51 true (fun k =>
 kBin .eql v27 (.int .i64 0) fun v54 =>
 k [v54] s) [undef] s fun xs s =>
 un1 xs fun v54 =>
 kPick v51 v54 (.bool false) fun v55 =>
 kGrd v55 true (fun k =>
 kBin .eql v29 (.int .i64 0) fun v58 =>
 k [v58] s) [undef] s fun xs s =>
 un1 xs fun v58 =>
 kPick v55 v58 (.bool false) fun v59 =>
 kGrd v59 true (fun k =>
 kBin .eql v31 (.int .i64 15) fun v62 =>
 k [v62] s) [undef] s fun xs s =>
 un1 xs fun v62 =>
 kPick v59 v62 (.bool false) fun v63 =>
 kGrd v63 true (fun k =>
 kBin .eql v35 (.string (bs [49])) fun v66 =>
 k [v66] s) [undef] s fun xs s =>
 un1 xs fun v66 =>
 kPick v63 v66 (.bool false) fun v67 =>
 kGrd v67 true (fun k =>
 k [v36] s) [undef] s fun xs s =>
 un1 xs fun v69 =>
 kPick v67 v69 (.bool false) fun v70 =>
 kGrd v70 true (fun k =>
 kBin .eql v38 (.int .i64 1) fun v73 =>
 k [v73] s) [undef] s fun xs s =>
 un1 xs fun v73 =>
 kPick v70 v73 (.bool false) fun v74 =>
 kGrd v74 true (fun k =>
 kBin .eql v40 (.int .i64 0) fun v77 =>
 k [v77] s) [undef] s fun xs s =>
 un1 xs fun v77 =>
 kPick v74 v77 (.bool false) fun v78 =>
 kGrd v78 true (fun k =>
 kLen false v42 fun v81 =>
 kBin .eql v81 (.int .i64 1) fun v82 =>
 k [v82] s) [undef] s fun xs s =>
 un1 xs fun v82 =>
 kPick v78 v82 (.bool false) fun v83 =>
 kGrd v83 true (fun k =>
 kIdx 1 v42 (.int .i64 0) fun v86 =>
 kLd s v86 fun v87 =>
 kBin .eql v87 (.string (bs [98])) fun v88 =>
 k [v88] s) [undef] s fun xs s =>
 un1 xs fun v88 =>
 kPick v83 v88 (.bool false) fun v89 =>
 k v89 s
theorem F9_ok (s : AS) (k : Value → AS → Prop) : denFn Tryz.prog [] 9 [] s k = F9 s k := by kernel_rfl
theorem f9 {s : AS} {k : Value → AS → Prop} (h : F9 s k) : kCall Tryz.prog 9 [] s k := denFn_ok [] (cast (F9_ok s k).symm h)
theorem k9_ok : okFn Tryz.prog 9 = true := by kernel_rfl

/- conch vars.New -/
def F10 (zero_0 args_1 : Value) (s : AS) (k : Value → AS → Prop) : Prop :=
 kCall Tryz.prog 31 [args_1] s fun v7 s =>
 kBuild [(.string (bs [])), (.slice none 0 0)] [(0, 1, zero_0), (1, 1, v7)] fun v8 =>
 kMkm s fun v9 s =>
 kBuild [(.string (bs [])), (.slice none 0 0), (.map none), (.int .i64 0)] [(0, 2, v8), (2, 1, v9)] fun v10 =>
 kNew s (cellsV v10) fun v11 s =>
 k v11 s
theorem F10_ok (zero_0 args_1 : Value) (s : AS) (k : Value → AS → Prop) : denFn Tryz.prog [] 10 [zero_0, args_1] s k = F10 zero_0 args_1 s k := by kernel_rfl
theorem f10 {zero_0 args_1 : Value} {s : AS} {k : Value → AS → Prop} (h : F10 zero_0 args_1 s k) : kCall Tryz.prog 10 [zero_0, args_1] s k := denFn_ok [] (cast (F10_ok zero_0 args_1 s k).symm h)
theorem k10_ok : okFn Tryz.prog 10 = true := by kernel_rfl

/- conch conchlaw08.do -/
def F11 (v_0 o_1 : Value) (s : AS) (k : Value → AS → Prop) : Prop :=
 kNew s (cellsV o_1) fun o_3 s =>
 kJoin (fun _ s =>
 kFld 1 o_3 fun v44 =>
 kLd s v44 fun v45 =>
 kFld 2 o_3 fun v46 =>
 kLd s v46 fun v47 =>
 kCall Tryz.prog 28 [v_0, v45, v47] s fun v48 s =>
 k v48 s) fun J1 =>
 kLdN s 5 o_3 fun v5 =>
 kCall Tryz.prog 20 [v5] s fun v6 s =>
 kBin .eql v6 (.int .i64 2) fun v8 =>
 kCond v8 (
 kFld 1 o_3 fun v10 =>
 kLd s v10 fun v11 =>
 kCall Tryz.prog 32 [v_0, v11] s fun v12 s =>
 k v12 s) (
 kBin .eql v6 (.int .i64 3) fun v14 =>
 kCond v14 (
 kFld 1 o_3 fun v16 =>
 kLd s v16 fun v17 =>
 kCall Tryz.prog 33 [v_0, v17] s fun v18 s =>
 k v18 s) (
 kBin .eql v6 (.int .i64 4) fun v20 =>
 kCond v20 (
 kFld 1 o_3 fun v22 =>
 kLd s v22 fun v23 =>
 kCall Tryz.prog 29 [v_0, v23] s fun v24 s =>
 k v24 s) (
 kBin .eql v6 (.int .i64 5) fun v26 =>
 kCond v26 (
 kFld 4 o_3 fun v28 =>
 kLd s v28 fun v29 =>
 kCall Tryz.prog 34 [v_0, v29] s fun v30 s =>
 k (.int .i64 0) s) (
 kBin .eql v6 (.int .i64 6) fun v32 =>
 kCond v32 (
 kFld 3 o_3 fun v34 =>
 kLd s v34 fun v35 =>
 kCall Tryz.prog 30 [v_0, v35] s fun v36 s =>
 k v36 s) (
 kBin .eql v6 (.int .i64 7) fun v38 =>
 kCond v38 (
 kFld 3 o_3 fun v40 =>
 kLd s v40 fun v41 =>
 kCall Tryz.prog 35 [v_0, v41] s fun v42 s =>
 k (.int .i64 0) s) (
 J1 [] s))))))
theorem F11_ok (v_0 o_1 : Value) (s : AS) (k : Value → AS → Prop) : denFn Tryz.prog [] 11 [v_0, o_1] s k = F11 v_0 o_1 s k := by kernel_rfl
theorem f11 {v_0 o_1 : Value} {s : AS} {k : Value → AS → Prop} (h : F11 v_0 o_1 s k) : kCall Tryz.prog 11 [v_0, o_1] s k := denFn_ok [] (cast (F11_ok v_0 o_1 s k).symm h)
theorem k11_ok : okFn Tryz.prog 11 = true := by kernel_rfl

/- conch conchlaw08.asked -/
def F12 (v_0 o_1 : Value) (s : AS) (k : Value → AS → Prop) : Prop :=
 kNew s (cellsV o_1) fun o_3 s =>
 kJoin (fun _ s =>
 kFld 1 o_3 fun v46 =>
 kLd s v46 fun v47 =>
 kFld 2 o_3 fun v48 =>
 kLd s v48 fun v49 =>
 kCall Tryz.prog 39 [v_0, v47, v49] s fun v50 s =>
 k v50 s) fun J1 =>
 kLdN s 5 o_3 fun v5 =>
 kCall Tryz.prog 20 [v5] s fun v6 s =>
 kBin .eql v6 (.int .i64 2) fun v8 =>
 kCond v8 (
 kFld 1 o_3 fun v10 =>
 kLd s v10 fun v11 =>
 kCall Tryz.prog 36 [v_0, v11] s fun v12 s =>
 k v12 s) (
 kBin .eql v6 (.int .i64 3) fun v14 =>
 kCond v14 (
 kFld 1 o_3 fun v16 =>
 kLd s v16 fun v17 =>
 kCall Tryz.prog 37 [v_0, v17, (.bool false)] s fun v18 s =>
 k v18 s) (
 kBin .eql v6 (.int .i64 4) fun v20 =>
 kCond v20 (
 kFld 1 o_3 fun v22 =>
 kLd s v22 fun v23 =>
 kCall Tryz.prog 37 [v_0, v23, (.bool true)] s fun v24 s =>
 k v24 s) (
 kBin .eql v6 (.int .i64 5) fun v26 =>
 kCond v26 (
 kFld 4 o_3 fun v28 =>
 kLd s v28 fun v29 =>
 kNck v_0 fun v30 =>
 kFld 2 v30 fun v31 =>
 kSt s 1 v31 v29 fun s =>
 k (.int .i64 0) s) (
 kBin .eql v6 (.int .i64 6) fun v33 =>
 kCond v33 (
 kFld 3 o_3 fun v35 =>
 kLd s v35 fun v36 =>
 kCall Tryz.prog 38 [v_0, v36] s fun v37 s =>
 k v37 s) (
 kBin .eql v6 (.int .i64 7) fun v39 =>
 kCond v39 (
 kFld 3 o_3 fun v41 =>
 kLd s v41 fun v42 =>
 kNck v_0 fun v43 =>
 kFld 3 v43 fun v44 =>
 kSt s 1 v44 v42 fun s =>
 k (.int .i64 0) s) (
 J1 [] s))))))
theorem F12_ok (v_0 o_1 : Value) (s : AS) (k : Value → AS → Prop) : denFn Tryz.prog [] 12 [v_0, o_1] s k = F12 v_0 o_1 s k := by kernel_rfl
theorem f12 {v_0 o_1 : Value} {s : AS} {k : Value → AS → Prop} (h : F12 v_0 o_1 s k) : kCall Tryz.prog 12 [v_0, o_1] s k := denFn_ok [] (cast (F12_ok v_0 o_1 s k).symm h)
theorem k12_ok : okFn Tryz.prog 12 = true := by kernel_rfl

/- (*conch vars.Vars).Param -/
def F13 (v_0 p_1 : Value) (s : AS) (k : Value → AS → Prop) : Prop :=
 kJoin (fun _ s =>
 kJoin (fun _ s =>
 kJoin (fun _ s =>
 kNck v_0 fun v49 =>
 kFld 0 v49 fun v50 =>
 kCall Tryz.prog 43 [v50, p_1] s fun v52 s =>
 kExt 0 v52 fun v53 =>
 kExt 1 v52 fun v54 =>
 k (.tuple #[v53, v54]) s) fun J3 =>
 kCall Tryz.prog 42 [p_1] s fun v42 s =>
 kCond v42 (
 kCall Tryz.prog 21 [v_0, p_1] s fun v45 s =>
 kExt 0 v45 fun v46 =>
 kExt 1 v45 fun v47 =>
 k (.tuple #[v46, v47]) s) (
 J3 [] s)) fun J2 =>
 kBin .eql p_1 (.string (bs [35])) fun v10 =>
 kCond v10 (
 kNck v_0 fun v12 =>
 kFld 0 v12 fun v13 =>
 kFld 1 v13 fun v14 =>
 kLd s v14 fun v15 =>
 kLen false v15 fun v16 =>
 kCall Tryz.prog 40 [v16] s fun v17 s =>
 k (.tuple #[v17, (.bool true)]) s) (
 kBin .eql p_1 (.string (bs [63])) fun v19 =>
 kCond v19 (
 kNck v_0 fun v21 =>
 kFld 3 v21 fun v22 =>
 kLd s v22 fun v23 =>
 kCall Tryz.prog 40 [v23] s fun v24 s =>
 k (.tuple #[v24, (.bool true)]) s) (
 kJoin (fun xs s =>
 un1 xs fun v25 =>
 kCond v25 (
 kNck v_0 fun v29 =>
 kFld 0 v29 fun v30 =>
 kFld 1 v30 fun v31 =>
 kNck v_0 fun v35 =>
 kFld 0 v35 fun v36 =>
 kFld 1 v36 fun v37 =>
 kLd s v31 fun v32 =>
 kLd s v37 fun v38 =>
 kLen false v38 fun v39 =>
 kBin .gtr v39 (.int .i64 0) fun v40 =>
 kCall Tryz.prog 41 [(.string (bs [32])), v32] s fun v33 s =>
 kChk s v37 v38 (
 k (.tuple #[v33, v40]) s)) (
 J2 [] s)) fun J4 =>
 kBin .eql p_1 (.string (bs [64])) fun v26 =>
 kCond v26 (
 J4 [v26] s) (
 kBin .eql p_1 (.string (bs [42])) fun v27 =>
 J4 [v27] s)))) fun J1 =>
 kEq 0 false v_0 (.pointer none) fun v7 =>
 kCond v7 (
 k (.tuple #[(.string (bs [])), (.bool false)]) s) (
 J1 [] s)
theorem F13_ok (v_0 p_1 : Value) (s : AS) (k : Value → AS → Prop) : denFn Tryz.prog [(10, (.go 0 (.go 1 (.go 2 (.go 3 (.go 6 (.go 7 (.go 8 (.go 9 (.go 4 (.go 10 (.go 11 (.go 12 (.go 5 (.go 13 (.go 14 .done))))))))))))))))] 13 [v_0, p_1] s k = F13 v_0 p_1 s k := by kernel_rfl
theorem f13 {v_0 p_1 : Value} {s : AS} {k : Value → AS → Prop} (h : F13 v_0 p_1 s k) : kCall Tryz.prog 13 [v_0, p_1] s k := denFn_ok [(10, (.go 0 (.go 1 (.go 2 (.go 3 (.go 6 (.go 7 (.go 8 (.go 9 (.go 4 (.go 10 (.go 11 (.go 12 (.go 5 (.go 13 (.go 14 .done))))))))))))))))] (cast (F13_ok v_0 p_1 s k).symm h)
theorem k13_ok : okFn Tryz.prog 13 = true := by kernel_rfl

/- (*conch conchref08.Vars).Param -/
def F14 (v_0 p_1 : Value) (s : AS) (k : Value → AS → Prop) : Prop :=
 kJoin (fun _ s =>
 kJoin (fun _ s =>
 kJoin (fun _ s =>
 k (.tuple #[(.string (bs [])), (.bool false)]) s) fun J3 =>
 kLoop (fun again4 xs s =>
 un1 xs fun i_6 =>
 kJoin (fun _ s =>
 kJoin (fun _ s =>
 kBin .add i_6 (.int .i64 1) fun v58 =>
 again4 [v58] s) fun J6 =>
 kBin .add i_6 (.int .i64 1) fun v60 =>
 kCall Tryz.prog 45 [v60] s fun v61 s =>
 kBin .eql v61 p_1 fun v63 =>
 kCond v63 (
 kNck v_0 fun v65 =>
 kFld 2 v65 fun v66 =>
 kLd s v66 fun v67 =>
 kIdx 1 v67 i_6 fun v69 =>
 kLd s v69 fun v70 =>
 k (.tuple #[v70, (.bool true)]) s) (
 J6 [] s)) fun J5 =>
 kNck v_0 fun v52 =>
 kFld 2 v52 fun v53 =>
 kLd s v53 fun v54 =>
 kLen false v54 fun v55 =>
 kBin .lss i_6 v55 fun v56 =>
 kCond v56 (
 J5 [] s) (
 J3 [] s)) [(.int .i64 0)] s) fun J2 =>
 kBin .eql p_1 (.string (bs [48])) fun v16 =>
 kCond v16 (
 kNck v_0 fun v18 =>
 kFld 1 v18 fun v19 =>
 kLd s v19 fun v20 =>
 k (.tuple #[v20, (.bool true)]) s) (
 kBin .eql p_1 (.string (bs [35])) fun v22 =>
 kCond v22 (
 kNck v_0 fun v24 =>
 kFld 2 v24 fun v25 =>
 kLd s v25 fun v26 =>
 kLen false v26 fun v27 =>
 kCall Tryz.prog 45 [v27] s fun v28 s =>
 k (.tuple #[v28, (.bool true)]) s) (
 kBin .eql p_1 (.string (bs [63])) fun v30 =>
 kCond v30 (
 kNck v_0 fun v32 =>
 kFld 3 v32 fun v33 =>
 kLd s v33 fun v34 =>
 kCall Tryz.prog 45 [v34] s fun v35 s =>
 k (.tuple #[v35, (.bool true)]) s) (
 kJoin (fun xs s =>
 un1 xs fun v36 =>
 kCond v36 (
 kNck v_0 fun v40 =>
 kFld 2 v40 fun v41 =>
 kNck v_0 fun v45 =>
 kFld 2 v45 fun v46 =>
 kLd s v41 fun v42 =>
 kLd s v46 fun v47 =>
 kLen false v47 fun v48 =>
 kBin .gtr v48 (.int .i64 0) fun v49 =>
 kCall Tryz.prog 46 [(.string (bs [32])), v42] s fun v43 s =>
 kChk s v46 v47 (
 k (.tuple #[v43, v49]) s)) (
 J2 [] s)) fun J7 =>
 kBin .eql p_1 (.string (bs [64])) fun v37 =>
 kCond v37 (
 J7 [v37] s) (
 kBin .eql p_1 (.string (bs [42])) fun v38 =>
 J7 [v38] s))))) fun J1 =>
 kCall Tryz.prog 44 [p_1] s fun v8 s =>
 kCond v8 (
 kCall Tryz.prog 23 [v_0, p_1] s fun v11 s =>
 kExt 0 v11 fun v12 =>
 kExt 1 v11 fun v13 =>
 k (.tuple #[v12, v13]) s) (
 J1 [] s)
theorem F14_ok (v_0 p_1 : Value) (s : AS) (k : Value → AS → Prop) : denFn Tryz.prog [(12, (.go 0 (.go 1 (.go 2 (.go 5 (.go 6 (.go 7 (.go 3 (.go 8 (.go 9 (.go 10 (.go 4 (.go 11 (.go 12 .done))))))))))))))] 14 [v_0, p_1] s k = F14 v_0 p_1 s k := by kernel_rfl
theorem f14 {v_0 p_1 : Value} {s : AS} {k : Value → AS → Prop} (h : F14 v_0 p_1 s k) : kCall Tryz.prog 14 [v_0, p_1] s k := denFn_ok [(12, (.go 0 (.go 1 (.go 2 (.go 5 (.go 6 (.go 7 (.go 3 (.go 8 (.go 9 (.go 10 (.go 4 (.go 11 (.go 12 .done))))))))))))))] (cast (F14_ok v_0 p_1 s k).symm h)
theorem k14_ok : okFn Tryz.prog 14 = true := by kernel_rfl

/- conch conchlaw08.Plain -/
def F15 (l_0 : Value) (s : AS) (k : Value → AS → Prop) : Prop :=
 kJoin (fun xs s =>
 un1 xs fun out_3 =>
 k out_3 s) fun J1 =>
 kLoop (fun again2 xs s =>
 un2 xs fun out_3 i_4 =>
 kJoin (fun _ s =>
 kJoin (fun xs s =>
 un1 xs fun out_3 =>
 kBin .add i_4 (.int .i64 1) fun v10 =>
 again2 [out_3, v10] s) fun J4 =>
 kIdx 5 l_0 i_4 fun v14 =>
 kFld 0 v14 fun v15 =>
 kIdx 5 l_0 i_4 fun v19 =>
 kFld 1 v19 fun v20 =>
 kIdx 5 l_0 i_4 fun v24 =>
 kFld 2 v24 fun v25 =>
 kIdx 5 l_0 i_4 fun v29 =>
 kFld 3 v29 fun v30 =>
 kIdx 5 l_0 i_4 fun v34 =>
 kFld 4 v34 fun v35 =>
 kLd s v15 fun v16 =>
 kLd s v20 fun v21 =>
 kLd s v25 fun v26 =>
 kLd s v30 fun v31 =>
 kLd s v35 fun v36 =>
 kBuild [(.string (bs [])), (.string (bs [])), (.bool false), (.bool false), (.bool false)] [(0, 1, v16), (1, 1, v21), (2, 1, v26), (3, 1, v31), (4, 1, v36)] fun v37 =>
 kBsl s 1 [(.string (bs [])), (.string (bs [])), (.bool false), (.bool false), (.bool false)] [(0, 5, v37)] fun v38 s =>
 kApp Tryz.prog 28 28 out_3 v38 s fun v39 s =>
 J4 [v39] s) fun J3 =>
 kLen false l_0 fun v7 =>
 kBin .lss i_4 v7 fun v8 =>
 kCond v8 (
 J3 [] s) (
 J1 [out_3] s)) [(.slice none 0 0), (.int .i64 0)] s
theorem F15_ok (l_0 : Value) (s : AS) (k : Value → AS → Prop) : denFn Tryz.prog [(5, (.go 0 (.go 1 (.go 2 (.go 3 (.go 4 (.go 6 (.go 7 (.go 8 (.go 9 (.go 11 (.go 12 (.go 13 (.go 14 (.go 16 (.go 17 (.go 18 (.go 19 (.go 21 (.go 22 (.go 23 (.go 24 (.go 5 (.go 10 (.go 15 (.go 20 (.go 25 (.go 26 (.go 27 (.go 28 (.go 29 .done)))))))))))))))))))))))))))))))] 15 [l_0] s k = F15 l_0 s k := by kernel_rfl
theorem f15 {l_0 : Value} {s : AS} {k : Value → AS → Prop} (h : F15 l_0 s k) : kCall Tryz.prog 15 [l_0] s k := denFn_ok [(5, (.go 0 (.go 1 (.go 2 (.go 3 (.go 4 (.go 6 (.go 7 (.go 8 (.go 9 (.go 11 (.go 12 (.go 13 (.go 14 (.go 16 (.go 17 (.go 18 (.go 19 (.go 21 (.go 22 (.go 23 (.go 24 (.go 5 (.go 10 (.go 15 (.go 20 (.go 25 (.go 26 (.go 27 (.go 28 (.go 29 .done)))))))))))))))))))))))))))))))] (cast (F15_ok l_0 s k).symm h)
theorem k15_ok : okFn Tryz.prog 15 = true := by kernel_rfl

/- (*conch vars.Vars).All -/
def F16 (v_0 : Value) (s : AS) (k : Value → AS → Prop) : Prop :=
 kJoin (fun _ s =>
 kNck v_0 fun v6 =>
 kFld 2 v6 fun v7 =>
 kLd s v7 fun v8 =>
 kCall Tryz.prog 48 [v8] s fun v9 s =>
 kCall Tryz.prog 47 [v9, (.func (.func 49) #[] #[])] s fun v10 s =>
 k v10 s) fun J1 =>
 kEq 0 false v_0 (.pointer none) fun v4 =>
 kCond v4 (
 k (.slice none 0 0) s) (
 J1 [] s)
theorem F16_ok (v_0 : Value) (s : AS) (k : Value → AS → Prop) : denFn Tryz.prog [] 16 [v_0] s k = F16 v_0 s k := by kernel_rfl
theorem f16 {v_0 : Value} {s : AS} {k : Value → AS → Prop} (h : F16 v_0 s k) : kCall Tryz.prog 16 [v_0] s k := denFn_ok [] (cast (F16_ok v_0 s k).symm h)
theorem k16_ok : okFn Tryz.prog 16 = true := by kernel_rfl

/- (*conch vars.Vars).Args -/
def F17 (v_0 : Value) (s : AS) (k : Value → AS → Prop) : Prop :=
 kJoin (fun _ s =>
 kNck v_0 fun v6 =>
 kFld 0 v6 fun v7 =>
 kFld 1 v7 fun v8 =>
 kLd s v8 fun v9 =>
 kCall Tryz.prog 31 [v9] s fun v10 s =>
 k v10 s) fun J1 =>
 kEq 0 false v_0 (.pointer none) fun v4 =>
 kCond v4 (
 k (.slice none 0 0) s) (
 J1 [] s)
theorem F17_ok (v_0 : Value) (s : AS) (k : Value → AS → Prop) : denFn Tryz.prog [] 17 [v_0] s k = F17 v_0 s k := by kernel_rfl
theorem f17 {v_0 : Value} {s : AS} {k : Value → AS → Prop} (h : F17 v_0 s k) : kCall Tryz.prog 17 [v_0] s k := denFn_ok [] (cast (F17_ok v_0 s k).symm h)
theorem k17_ok : okFn Tryz.prog 17 = true := by kernel_rfl

/- conch conchref08.Same -/
def F18 (a_0 b_1 : Value) (s : AS) (k : Value → AS → Prop) : Prop :=
 kJoin (fun _ s =>
 kJoin (fun _ s =>
 k (.bool true) s) fun J2 =>
 kLoop (fun again3 xs s =>
 un1 xs fun i_5 =>
 kJoin (fun _ s =>
 kJoin (fun _ s =>
 kBin .add i_5 (.int .i64 1) fun v16 =>
 again3 [v16] s) fun J5 =>
 kIdx 5 a_0 i_5 fun v19 =>
 kIdx 5 b_1 i_5 fun v23 =>
 kLdN s 5 v19 fun v20 =>
 kLdN s 5 v23 fun v24 =>
 kGen Tryz.prog (.bop .neq 71 (.tmp 20) (.tmp 24)) [v20, v24] s fun v25 s =>
 kCond v25 (
 k (.bool false) s) (
 J5 [] s)) fun J4 =>
 kLen false a_0 fun v13 =>
 kBin .lss i_5 v13 fun v14 =>
 kCond v14 (
 J4 [] s) (
 J2 [] s)) [(.int .i64 0)] s) fun J1 =>
 kLen false a_0 fun v7 =>
 kLen false b_1 fun v9 =>
 kBin .neq v7 v9 fun v10 =>
 kCond v10 (
 k (.bool false) s) (
 J1 [] s)
theorem F18_ok (a_0 b_1 : Value) (s : AS) (k : Value → AS → Prop) : denFn Tryz.prog [(6, (.go 0 (.go 1 (.go 2 (.go 4 (.go 5 (.go 6 (.go 3 (.go 7 (.go 8 .done))))))))))] 18 [a_0, b_1] s k = F18 a_0 b_1 s k := by kernel_rfl
theorem f18 {a_0 b_1 : Value} {s : AS} {k : Value → AS → Prop} (h : F18 a_0 b_1 s k) : kCall Tryz.prog 18 [a_0, b_1] s k := denFn_ok [(6, (.go 0 (.go 1 (.go 2 (.go 4 (.go 5 (.go 6 (.go 3 (.go 7 (.go 8 .done))))))))))] (cast (F18_ok a_0 b_1 s k).symm h)
theorem k18_ok : okFn Tryz.prog 18 = true := by kernel_rfl

/- conch conchref08.Texts -/
def F19 (a_0 b_1 : Value) (s : AS) (k : Value → AS → Prop) : Prop :=
 kJoin (fun _ s =>
 kJoin (fun _ s =>
 k (.bool true) s) fun J2 =>
 kLoop (fun again3 xs s =>
 un1 xs fun i_5 =>
 kJoin (fun _ s =>
 kJoin (fun _ s =>
 kBin .add i_5 (.int .i64 1) fun v16 =>
 again3 [v16] s) fun J5 =>
 kIdx 1 a_0 i_5 fun v19 =>
 kIdx 1 b_1 i_5 fun v23 =>
 kLd s v19 fun v20 =>
 kLd s v23 fun v24 =>
 kBin .neq v20 v24 fun v25 =>
 kCond v25 (
 k (.bool false) s) (
 J5 [] s)) fun J4 =>
 kLen false a_0 fun v13 =>
 kBin .lss i_5 v13 fun v14 =>
 kCond v14 (
 J4 [] s) (
 J2 [] s)) [(.int .i64 0)] s) fun J1 =>
 kLen false a_0 fun v7 =>
 kLen false b_1 fun v9 =>
 kBin .neq v7 v9 fun v10 =>
 kCond v10 (
 k (.bool false) s) (
 J1 [] s)
theorem F19_ok (a_0 b_1 : Value) (s : AS) (k : Value → AS → Prop) : denFn Tryz.prog [(6, (.go 0 (.go 1 (.go 2 (.go 4 (.go 5 (.go 6 (.go 3 (.go 7 (.go 8 .done))))))))))] 19 [a_0, b_1] s k = F19 a_0 b_1 s k := by kernel_rfl
theorem f19 {a_0 b_1 : Value} {s : AS} {k : Value → AS → Prop} (h : F19 a_0 b_1 s k) : kCall Tryz.prog 19 [a_0, b_1] s k := denFn_ok [(6, (.go 0 (.go 1 (.go 2 (.go 4 (.go 5 (.go 6 (.go 3 (.go 7 (.go 8 .done))))))))))] (cast (F19_ok a_0 b_1 s k).symm h)
theorem k19_ok : okFn Tryz.prog 19 = true := by kernel_rfl

/- conch conchlaw08.kind -/
def F20 (o_0 : Value) (s : AS) (k : Value → AS → Prop) : Prop :=
 kNew s (cellsV o_0) fun o_1 s =>
 kFld 0 o_1 fun v3 =>
 kLd s v3 fun v4 =>
 kBin .rem v4 (.int .i64 8) fun v5 =>
 kBin .add v5 (.int .i64 8) fun v6 =>
 kBin .rem v6 (.int .i64 8) fun v7 =>
 k v7 s
theorem F20_ok (o_0 : Value) (s : AS) (k : Value → AS → Prop) : denFn Tryz.prog [] 20 [o_0] s k = F20 o_0 s k := by kernel_rfl
theorem f20 {o_0 : Value} {s : AS} {k : Value → AS → Prop} (h : F20 o_0 s k) : kCall Tryz.prog 20 [o_0] s k := denFn_ok [] (cast (F20_ok o_0 s k).symm h)
theorem k20_ok : okFn Tryz.prog 20 = true := by kernel_rfl

/- (*conch vars.Vars).Get -/
def F21 (v_0 name_1 : Value) (s : AS) (k : Value → AS → Prop) : Prop :=
 kJoin (fun _ s =>
 kNck v_0 fun v10 =>
 kFld 2 v10 fun v11 =>
 kLd s v11 fun v12 =>
 kGen Tryz.prog (.lk 59 false) [v12, name_1] s fun v14 s =>
 kNew s [(.string (bs [])), (.string (bs [])), (.bool false), (.bool false), (.bool false)] fun x_6 s =>
 kSt s 5 x_6 v14 fun s =>
 kFld 1 x_6 fun v15 =>
 kFld 2 x_6 fun v17 =>
 kLd s v15 fun v16 =>
 kLd s v17 fun v18 =>
 k (.tuple #[v16, v18]) s) fun J1 =>
 kEq 0 false v_0 (.pointer none) fun v8 =>
 kCond v8 (
 k (.tuple #[(.string (bs [])), (.bool false)]) s) (
 J1 [] s)
theorem F21_ok (v_0 name_1 : Value) (s : AS) (k : Value → AS → Prop) : denFn Tryz.prog [(4, (.go 0 (.go 2 (.go 1 (.go 4 (.go 3 (.go 5 .done)))))))] 21 [v_0, name_1] s k = F21 v_0 name_1 s k := by kernel_rfl
theorem f21 {v_0 name_1 : Value} {s : AS} {k : Value → AS → Prop} (h : F21 v_0 name_1 s k) : kCall Tryz.prog 21 [v_0, name_1] s k := denFn_ok [(4, (.go 0 (.go 2 (.go 1 (.go 4 (.go 3 (.go 5 .done)))))))] (cast (F21_ok v_0 name_1 s k).symm h)
theorem k21_ok : okFn Tryz.prog 21 = true := by kernel_rfl

/- conch conchlaw08.Texts -/
def F22 (l_0 : Value) (s : AS) (k : Value → AS → Prop) : Prop :=
 kJoin (fun _ s =>
 kJoin (fun _ s =>
 k (.bool true) s) fun J2 =>
 kLoop (fun again3 xs s =>
 un1 xs fun i_3 =>
 kJoin (fun _ s =>
 kJoin (fun _ s =>
 kBin .add i_3 (.int .i64 1) fun v12 =>
 again3 [v12] s) fun J5 =>
 kIdx 1 l_0 i_3 fun v15 =>
 kLd s v15 fun v16 =>
 kLen true v16 fun v17 =>
 kBin .gtr v17 (.int .i64 200) fun v18 =>
 kCond v18 (
 k (.bool false) s) (
 J5 [] s)) fun J4 =>
 kLen false l_0 fun v9 =>
 kBin .lss i_3 v9 fun v10 =>
 kCond v10 (
 J4 [] s) (
 J2 [] s)) [(.int .i64 0)] s) fun J1 =>
 kLen false l_0 fun v5 =>
 kBin .gtr v5 (.int .i64 20) fun v6 =>
 kCond v6 (
 k (.bool false) s) (
 J1 [] s)
theorem F22_ok (l_0 : Value) (s : AS) (k : Value → AS → Prop) : denFn Tryz.prog [] 22 [l_0] s k = F22 l_0 s k := by kernel_rfl
theorem f22 {l_0 : Value} {s : AS} {k : Value → AS → Prop} (h : F22 l_0 s k) : kCall Tryz.prog 22 [l_0] s k := denFn_ok [] (cast (F22_ok l_0 s k).symm h)
theorem k22_ok : okFn Tryz.prog 22 = true := by kernel_rfl

/- (*conch conchref08.Vars).Get -/
def F23 (v_0 name_1 : Value) (s : AS) (k : Value → AS → Prop) : Prop :=
 kCall Tryz.prog 51 [v_0, name_1] s fun v9 s =>
 kNew s [(.string (bs [])), (.string (bs [])), (.bool false), (.bool false), (.bool false)] fun x_6 s =>
 kSt s 5 x_6 v9 fun s =>
 kFld 1 x_6 fun v10 =>
 kFld 2 x_6 fun v12 =>
 kLd s v10 fun v11 =>
 kLd s v12 fun v13 =>
 k (.tuple #[v11, v13]) s
theorem F23_ok (v_0 name_1 : Value) (s : AS) (k : Value → AS → Prop) : denFn Tryz.prog [(2, (.go 0 (.go 2 (.go 1 (.go 4 (.go 3 (.go 5 .done)))))))] 23 [v_0, name_1] s k = F23 v_0 name_1 s k := by kernel_rfl
theorem f23 {v_0 name_1 : Value} {s : AS} {k : Value → AS → Prop} (h : F23 v_0 name_1 s k) : kCall Tryz.prog 23 [v_0, name_1] s k := denFn_ok [(2, (.go 0 (.go 2 (.go 1 (.go 4 (.go 3 (.go 5 .done)))))))] (cast (F23_ok v_0 name_1 s k).symm h)
theorem k23_ok : okFn Tryz.prog 23 = true := by kernel_rfl

/- (*conch vars.Vars).Status -/
def F24 (v_0 : Value) (s : AS) (k : Value → AS → Prop) : Prop :=
 kJoin (fun _ s =>
 kNck v_0 fun v6 =>
 kFld 3 v6 fun v7 =>
 kLd s v7 fun v8 =>
 k v8 s) fun J1 =>
 kEq 0 false v_0 (.pointer none) fun v4 =>
 kCond v4 (
 k (.int .i64 0) s) (
 J1 [] s)
theorem F24_ok (v_0 : Value) (s : AS) (k : Value → AS → Prop) : denFn Tryz.prog [] 24 [v_0] s k = F24 v_0 s k := by kernel_rfl
theorem f24 {v_0 : Value} {s : AS} {k : Value → AS → Prop} (h : F24 v_0 s k) : kCall Tryz.prog 24 [v_0] s k := denFn_ok [] (cast (F24_ok v_0 s k).symm h)
theorem k24_ok : okFn Tryz.prog 24 = true := by kernel_rfl

/- (*conch vars.Vars).Env -/
def F25 (v_0 : Value) (s : AS) (k : Value → AS → Prop) : Prop :=
 kJoin (fun xs s =>
 un1 xs fun out_3 =>
 k out_3 s) fun J1 =>
 kCall Tryz.prog 16 [v_0] s fun v7 s =>
 kLen false v7 fun v8 =>
 kLoop (fun again2 xs s =>
 un2 xs fun out_3 v9 =>
 kBin .lss v9 v8 fun v10 =>
 kJoin (fun _ s =>
 kJoin (fun xs s =>
 un1 xs fun out_3 =>
 kBin .add v9 (.int .i64 1) fun v28 =>
 again2 [out_3, v28] s) fun J4 =>
 kIdx 5 v7 v9 fun v11 =>
 kLdN s 5 v11 fun v12 =>
 kNew s [(.string (bs [])), (.string (bs [])), (.bool false), (.bool false), (.bool false)] fun x_5 s =>
 kSt s 5 x_5 v12 fun s =>
 kFld 2 x_5 fun v13 =>
 kLd s v13 fun v14 =>
 kGrd v14 true (fun k =>
 kFld 3 x_5 fun v16 =>
 kLd s v16 fun v17 =>
 k [v17] s) [undef] s fun xs s =>
 un1 xs fun v17 =>
 kPick v14 v17 (.bool false) fun v18 =>
 kCond v18 (
 kFld 0 x_5 fun v20 =>
 kLd s v20 fun v21 =>
 kBin .add v21 (.string (bs [61])) fun v22 =>
 kFld 1 x_5 fun v23 =>
 kLd s v23 fun v24 =>
 kBin .add v22 v24 fun v25 =>
 kBsl s 1 [(.string (bs []))] [(0, 1, v25)] fun v26 s =>
 kApp Tryz.prog 29 29 out_3 v26 s fun v27 s =>
 J4 [v27] s) (
 J4 [out_3] s)) fun J3 =>
 kCond v10 (
 J3 [] s) (
 J1 [out_3] s)) [(.slice none 0 0), (.int .i64 0)] s
theorem F25_ok (v_0 : Value) (s : AS) (k : Value → AS → Prop) : denFn Tryz.prog [] 25 [v_0] s k = F25 v_0 s k := by kernel_rfl
theorem f25 {v_0 : Value} {s : AS} {k : Value → AS → Prop} (h : F25 v_0 s k) : kCall Tryz.prog 25 [v_0] s k := denFn_ok [] (cast (F25_ok v_0 s k).symm h)
theorem k25_ok : okFn Tryz.prog 25 = true := by kernel_rfl

/- (*conch conchref08.Vars).Env -/
def F26 (v_0 : Value) (s : AS) (k : Value → AS → Prop) : Prop :=
 kJoin (fun xs s =>
 un1 xs fun out_3 =>
 k out_3 s) fun J1 =>
 kLoop (fun again2 xs s =>
 un2 xs fun out_3 i_4 =>
 kJoin (fun _ s =>
 kJoin (fun xs s =>
 un1 xs fun out_3 =>
 kBin .add i_4 (.int .i64 1) fun v13 =>
 again2 [out_3, v13] s) fun J4 =>
 kNck v_0 fun v15 =>
 kFld 0 v15 fun v16 =>
 kLd s v16 fun v17 =>
 kIdx 5 v17 i_4 fun v19 =>
 kFld 2 v19 fun v20 =>
 kLd s v20 fun v21 =>
 kGrd v21 true (fun k =>
 kNck v_0 fun v24 =>
 kFld 0 v24 fun v25 =>
 kLd s v25 fun v26 =>
 kIdx 5 v26 i_4 fun v28 =>
 kFld 3 v28 fun v29 =>
 kLd s v29 fun v30 =>
 k [v30] s) [undef] s fun xs s =>
 un1 xs fun v30 =>
 kPick v21 v30 (.bool false) fun v31 =>
 kCond v31 (
 kNck v_0 fun v34 =>
 kFld 0 v34 fun v35 =>
 kNck v_0 fun v43 =>
 kFld 0 v43 fun v44 =>
 kLd s v35 fun v36 =>
 kIdx 5 v36 i_4 fun v38 =>
 kFld 0 v38 fun v39 =>
 kLd s v39 fun v40 =>
 kBin .add v40 (.string (bs [61])) fun v41 =>
 kLd s v44 fun v45 =>
 kIdx 5 v45 i_4 fun v47 =>
 kFld 1 v47 fun v48 =>
 kLd s v48 fun v49 =>
 kBin .add v41 v49 fun v50 =>
 kBsl s 1 [(.string (bs []))] [(0, 1, v50)] fun v51 s =>
 kApp Tryz.prog 29 29 out_3 v51 s fun v52 s =>
 J4 [v52] s) (
 J4 [out_3] s)) fun J3 =>
 kNck v_0 fun v7 =>
 kFld 0 v7 fun v8 =>
 kLd s v8 fun v9 =>
 kLen false v9 fun v10 =>
 kBin .lss i_4 v10 fun v11 =>
 kCond v11 (
 J3 [] s) (
 J1 [out_3] s)) [(.slice none 0 0), (.int .i64 0)] s
theorem F26_ok (v_0 : Value) (s : AS) (k : Value → AS → Prop) : denFn Tryz.prog [(6, (.go 0 (.go 1 (.go 2 (.go 3 (.go 5 (.go 10 (.go 11 (.go 12 (.go 14 (.go 4 (.go 6 (.go 7 (.go 8 (.go 9 (.go 13 (.go 15 (.go 16 (.go 17 (.go 18 (.go 19 (.go 20 (.go 21 .done)))))))))))))))))))))))] 26 [v_0] s k = F26 v_0 s k := by kernel_rfl
theorem f26 {v_0 : Value} {s : AS} {k : Value → AS → Prop} (h : F26 v_0 s k) : kCall Tryz.prog 26 [v_0] s k := denFn_ok [(6, (.go 0 (.go 1 (.go 2 (.go 3 (.go 5 (.go 10 (.go 11 (.go 12 (.go 14 (.go 4 (.go 6 (.go 7 (.go 8 (.go 9 (.go 13 (.go 15 (.go 16 (.go 17 (.go 18 (.go 19 (.go 20 (.go 21 .done)))))))))))))))))))))))] (cast (F26_ok v_0 s k).symm h)
theorem k26_ok : okFn Tryz.prog 26 = true := by kernel_rfl

/- (*conch vars.Vars).Copy -/
def F27 (v_0 : Value) (s : AS) (k : Value → AS → Prop) : Prop :=
 kJoin (fun _ s =>
 kNck v_0 fun v7 =>
 kLdN s 4 v7 fun v8 =>
 kNew s [(.string (bs [])), (.slice none 0 0), (.map none), (.int .i64 0)] fun out_3 s =>
 kSt s 4 out_3 v8 fun s =>
 kNck v_0 fun v10 =>
 kFld 0 v10 fun v11 =>
 kFld 1 v11 fun v12 =>
 kLd s v12 fun v13 =>
 kCall Tryz.prog 31 [v13] s fun v14 s =>
 kFld 0 out_3 fun v15 =>
 kFld 1 v15 fun v16 =>
 kSt s 1 v16 v14 fun s =>
 kNck v_0 fun v18 =>
 kFld 2 v18 fun v19 =>
 kLd s v19 fun v20 =>
 kCall Tryz.prog 52 [v20] s fun v21 s =>
 kFld 2 out_3 fun v22 =>
 kSt s 1 v22 v21 fun s =>
 k out_3 s) fun J1 =>
 kEq 0 false v_0 (.pointer none) fun v5 =>
 kCond v5 (
 k (.pointer none) s) (
 J1 [] s)
theorem F27_ok (v_0 : Value) (s : AS) (k : Value → AS → Prop) : denFn Tryz.prog [] 27 [v_0] s k = F27 v_0 s k := by kernel_rfl
theorem f27 {v_0 : Value} {s : AS} {k : Value → AS → Prop} (h : F27 v_0 s k) : kCall Tryz.prog 27 [v_0] s k := denFn_ok [] (cast (F27_ok v_0 s k).symm h)
theorem k27_ok : okFn Tryz.prog 27 = true := by kernel_rfl

/- (*conch vars.Vars).Set -/
def F28 (v_0 name_1 value_2 : Value) (s : AS) (k : Value → AS → Prop) : Prop :=
 kNew s (cellsV value_2) fun value_5 s =>
 kCall Tryz.prog 53 [v_0, name_1, (.bool true), (.func (.func 54) #[] #[value_5])] s fun v10 s =>
 k v10 s
theorem F28_ok (v_0 name_1 value_2 : Value) (s : AS) (k : Value → AS → Prop) : denFn Tryz.prog [] 28 [v_0, name_1, value_2] s k = F28 v_0 name_1 value_2 s k := by kernel_rfl
theorem f28 {v_0 name_1 value_2 : Value} {s : AS} {k : Value → AS → Prop} (h : F28 v_0 name_1 value_2 s k) : kCall Tryz.prog 28 [v_0, name_1, value_2] s k := denFn_ok [] (cast (F28_ok v_0 name_1 value_2 s k).symm h)
theorem k28_ok : okFn Tryz.prog 28 = true := by kernel_rfl

/- (*conch vars.Vars).Readonly -/
def F29 (v_0 name_1 : Value) (s : AS) (k : Value → AS → Prop) : Prop :=
 kCall Tryz.prog 53 [v_0, name_1, (.bool false), (.func (.func 55) #[] #[])] s fun v7 s =>
 k v7 s
theorem F29_ok (v_0 name_1 : Value) (s : AS) (k : Value → AS → Prop) : denFn Tryz.prog [] 29 [v_0, name_1] s k = F29 v_0 name_1 s k := by kernel_rfl
theorem f29 {v_0 name_1 : Value} {s : AS} {k : Value → AS → Prop} (h : F29 v_0 name_1 s k) : kCall Tryz.prog 29 [v_0, name_1] s k := denFn_ok [] (cast (F29_ok v_0 name_1 s k).symm h)
theorem k29_ok : okFn Tryz.prog 29 = true := by kernel_rfl

/- (*conch vars.Vars).Shift -/
def F30 (v_0 n_1 : Value) (s : AS) (k : Value → AS → Prop) : Prop :=
 kJoin (fun _ s =>
 kNck v_0 fun v8 =>
 kFld 0 v8 fun v9 =>
 kCall Tryz.prog 56 [v9, n_1] s fun v11 s =>
 k v11 s) fun J1 =>
 kEq 0 false v_0 (.pointer none) fun v6 =>
 kCond v6 (
 k (.int .i64 2) s) (
 J1 [] s)
theorem F30_ok (v_0 n_1 : Value) (s : AS) (k : Value → AS → Prop) : denFn Tryz.prog [] 30 [v_0, n_1] s k = F30 v_0 n_1 s k := by kernel_rfl
theorem f30 {v_0 n_1 : Value} {s : AS} {k : Value → AS → Prop} (h : F30 v_0 n_1 s k) : kCall Tryz.prog 30 [v_0, n_1] s k := denFn_ok [] (cast (F30_ok v_0 n_1 s k).symm h)
theorem k30_ok : okFn Tryz.prog 30 = true := by kernel_rfl

/- slices.Clone[[]string,string] -/
def F31 (s_0 : Value) (s : AS) (k : Value → AS → Prop) : Prop :=
 kJoin (fun _ s =>
 kBsl s 0 [] [] fun v5 s =>
 kApp Tryz.prog 29 29 v5 s_0 s fun v7 s =>
 k v7 s) fun J1 =>
 kEq 1 false s_0 (.slice none 0 0) fun v4 =>
 kCond v4 (
 k (.slice none 0 0) s) (
 J1 [] s)
theorem F31_ok (s_0 : Value) (s : AS) (k : Value → AS → Prop) : denFn Tryz.prog [] 31 [s_0] s k = F31 s_0 s k := by kernel_rfl
theorem f31 {s_0 : Value} {s : AS} {k : Value → AS → Prop} (h : F31 s_0 s k) : kCall Tryz.prog 31 [s_0] s k := denFn_ok [] (cast (F31_ok s_0 s k).symm h)
theorem k31_ok : okFn Tryz.prog 31 = true := by kernel_rfl

/- (*conch vars.Vars).Unset -/
def F32 (v_0 name_1 : Value) (s : AS) (k : Value → AS → Prop) : Prop :=
 kCall Tryz.prog 53 [v_0, name_1, (.bool true), (.func (.func 57) #[] #[])] s fun v7 s =>
 k v7 s
theorem F32_ok (v_0 name_1 : Value) (s : AS) (k : Value → AS → Prop) : denFn Tryz.prog [] 32 [v_0, name_1] s k = F32 v_0 name_1 s k := by kernel_rfl
theorem f32 {v_0 name_1 : Value} {s : AS} {k : Value → AS → Prop} (h : F32 v_0 name_1 s k) : kCall Tryz.prog 32 [v_0, name_1] s k := denFn_ok [] (cast (F32_ok v_0 name_1 s k).symm h)
theorem k32_ok : okFn Tryz.prog 32 = true := by kernel_rfl

/- (*conch vars.Vars).Export -/
def F33 (v_0 name_1 : Value) (s : AS) (k : Value → AS → Prop) : Prop :=
 kCall Tryz.prog 53 [v_0, name_1, (.bool false), (.func (.func 58) #[] #[])] s fun v7 s =>
 k v7 s
theorem F33_ok (v_0 name_1 : Value) (s : AS) (k : Value → AS → Prop) : denFn Tryz.prog [] 33 [v_0, name_1] s k = F33 v_0 name_1 s k := by kernel_rfl
theorem f33 {v_0 name_1 : Value} {s : AS} {k : Value → AS → Prop} (h : F33 v_0 name_1 s k) : kCall Tryz.prog 33 [v_0, name_1] s k := denFn_ok [] (cast (F33_ok v_0 name_1 s k).symm h)
theorem k33_ok : okFn Tryz.prog 33 = true := by kernel_rfl

/- (*conch vars.Vars).SetArgs -/
def F34 (v_0 args_1 : Value) (s : AS) (k : Value → AS → Prop) : Prop :=
 kEq 0 true v_0 (.pointer none) fun v5 =>
 kCond v5 (
 kCall Tryz.prog 31 [args_1] s fun v8 s =>
 kNck v_0 fun v9 =>
 kFld 0 v9 fun v10 =>
 kFld 1 v10 fun v11 =>
 kSt s 1 v11 v8 fun s =>
 k undef s) (
 k undef s)
theorem F34_ok (v_0 args_1 : Value) (s : AS) (k : Value → AS → Prop) : denFn Tryz.prog [] 34 [v_0, args_1] s k = F34 v_0 args_1 s k := by kernel_rfl
theorem f34 {v_0 args_1 : Value} {s : AS} {k : Value → AS → Prop} (h : F34 v_0 args_1 s k) : kCall Tryz.prog 34 [v_0, args_1] s k := denFn_ok [] (cast (F34_ok v_0 args_1 s k).symm h)
theorem k34_ok : okFn Tryz.prog 34 = true := by kernel_rfl

/- (*conch vars.Vars).SetStatus -/
def F35 (v_0 n_1 : Value) (s : AS) (k : Value → AS → Prop) : Prop :=
 kEq 0 true v_0 (.pointer none) fun v5 =>
 kCond v5 (
 kNck v_0 fun v8 =>
 kFld 3 v8 fun v9 =>
 kSt s 1 v9 n_1 fun s =>
 k undef s) (
 k undef s)
theorem F35_ok (v_0 n_1 : Value) (s : AS) (k : Value → AS → Prop) : denFn Tryz.prog [] 35 [v_0, n_1] s k = F35 v_0 n_1 s k := by kernel_rfl
theorem f35 {v_0 n_1 : Value} {s : AS} {k : Value → AS → Prop} (h : F35 v_0 n_1 s k) : kCall Tryz.prog 35 [v_0, n_1] s k := denFn_ok [] (cast (F35_ok v_0 n_1 s k).symm h)
theorem k35_ok : okFn Tryz.prog 35 = true := by kernel_rfl

/- (*conch conchref08.Vars).Unset -/
def F36 (v_0 name_1 : Value) (s : AS) (k : Value → AS → Prop) : Prop :=
 kJoin (fun _ s =>
 kJoin (fun _ s =>
 kBuild [(.string (bs [])), (.string (bs [])), (.bool false), (.bool false), (.bool false)] [(0, 1, name_1)] fun v14 =>
 kCall Tryz.prog 59 [v_0, v14] s fun v15 s =>
 k (.int .i64 0) s) fun J2 =>
 kCall Tryz.prog 51 [v_0, name_1] s fun v10 s =>
 kGet 4 v10 fun v11 =>
 kCond v11 (
 k (.int .i64 15) s) (
 J2 [] s)) fun J1 =>
 kCall Tryz.prog 44 [name_1] s fun v6 s =>
 kUn .not v6 fun v7 =>
 kCond v7 (
 k (.int .i64 16) s) (
 J1 [] s)
theorem F36_ok (v_0 name_1 : Value) (s : AS) (k : Value → AS → Prop) : denFn Tryz.prog [] 36 [v_0, name_1] s k = F36 v_0 name_1 s k := by kernel_rfl
theorem f36 {v_0 name_1 : Value} {s : AS} {k : Value → AS → Prop} (h : F36 v_0 name_1 s k) : kCall Tryz.prog 36 [v_0, name_1] s k := denFn_ok [] (cast (F36_ok v_0 name_1 s k).symm h)
theorem k36_ok : okFn Tryz.prog 36 = true := by kernel_rfl

/- (*conch conchref08.Vars).Mark -/
def F37 (v_0 name_1 read_2 : Value) (s : AS) (k : Value → AS → Prop) : Prop :=
 kJoin (fun _ s =>
 kCall Tryz.prog 51 [v_0, name_1] s fun v13 s =>
 kNew s [(.string (bs [])), (.string (bs [])), (.bool false), (.bool false), (.bool false)] fun x_7 s =>
 kSt s 5 x_7 v13 fun s =>
 kFld 0 x_7 fun v15 =>
 kSt s 1 v15 name_1 fun s =>
 kJoin (fun _ s =>
 kLdN s 5 x_7 fun v20 =>
 kCall Tryz.prog 59 [v_0, v20] s fun v21 s =>
 k (.int .i64 0) s) fun J2 =>
 kCond read_2 (
 kFld 4 x_7 fun v17 =>
 kSt s 1 v17 (.bool true) fun s =>
 J2 [] s) (
 kFld 3 x_7 fun v18 =>
 kSt s 1 v18 (.bool true) fun s =>
 J2 [] s)) fun J1 =>
 kCall Tryz.prog 44 [name_1] s fun v9 s =>
 kUn .not v9 fun v10 =>
 kCond v10 (
 k (.int .i64 16) s) (
 J1 [] s)
theorem F37_ok (v_0 name_1 read_2 : Value) (s : AS) (k : Value → AS → Prop) : denFn Tryz.prog [] 37 [v_0, name_1, read_2] s k = F37 v_0 name_1 read_2 s k := by kernel_rfl
theorem f37 {v_0 name_1 read_2 : Value} {s : AS} {k : Value → AS → Prop} (h : F37 v_0 name_1 read_2 s k) : kCall Tryz.prog 37 [v_0, name_1, read_2] s k := denFn_ok [] (cast (F37_ok v_0 name_1 read_2 s k).symm h)
theorem k37_ok : okFn Tryz.prog 37 = true := by kernel_rfl

/- (*conch conchref08.Vars).Shift -/
def F38 (v_0 n_1 : Value) (s : AS) (k : Value → AS → Prop) : Prop :=
 kJoin (fun _ s =>
 kNck v_0 fun v18 =>
 kFld 2 v18 fun v19 =>
 kLd s v19 fun v20 =>
 kSubL 1 v20 (some n_1) none fun v22 =>
 kNck v_0 fun v23 =>
 kFld 2 v23 fun v24 =>
 kSt s 1 v24 v22 fun s =>
 k (.int .i64 0) s) fun J1 =>
 kBin .lss n_1 (.int .i64 0) fun v6 =>
 kGrd v6 false (fun k =>
 kNck v_0 fun v10 =>
 kFld 2 v10 fun v11 =>
 kLd s v11 fun v12 =>
 kLen false v12 fun v13 =>
 kBin .gtr n_1 v13 fun v14 =>
 k [v14] s) [undef] s fun xs s =>
 un1 xs fun v14 =>
 kPick v6 (.bool true) v14 fun v15 =>
 kCond v15 (
 k (.int .i64 1) s) (
 J1 [] s)
theorem F38_ok (v_0 n_1 : Value) (s : AS) (k : Value → AS → Prop) : denFn Tryz.prog [] 38 [v_0, n_1] s k = F38 v_0 n_1 s k := by kernel_rfl
theorem f38 {v_0 n_1 : Value} {s : AS} {k : Value → AS → Prop} (h : F38 v_0 n_1 s k) : kCall Tryz.prog 38 [v_0, n_1] s k := denFn_ok [] (cast (F38_ok v_0 n_1 s k).symm h)
theorem k38_ok : okFn Tryz.prog 38 = true := by kernel_rfl

/- (*conch conchref08.Vars).Set -/
def F39 (v_0 name_1 value_2 : Value) (s : AS) (k : Value → AS → Prop) : Prop :=
 kJoin (fun _ s =>
 kCall Tryz.prog 51 [v_0, name_1] s fun v13 s =>
 kNew s [(.string (bs [])), (.string (bs [])), (.bool false), (.bool false), (.bool false)] fun x_7 s =>
 kSt s 5 x_7 v13 fun s =>
 kJoin (fun _ s =>
 kFld 3 x_7 fun v19 =>
 kLd s v19 fun v20 =>
 kBuild [(.string (bs [])), (.string (bs [])), (.bool false), (.bool false), (.bool false)] [(0, 1, name_1), (1, 1, value_2), (2, 1, (.bool true)), (3, 1, v20)] fun v21 =>
 kCall Tryz.prog 59 [v_0, v21] s fun v22 s =>
 k (.int .i64 0) s) fun J2 =>
 kFld 4 x_7 fun v14 =>
 kLd s v14 fun v15 =>
 kCond v15 (
 k (.int .i64 15) s) (
 J2 [] s)) fun J1 =>
 kCall Tryz.prog 44 [name_1] s fun v9 s =>
 kUn .not v9 fun v10 =>
 kCond v10 (
 k (.int .i64 16) s) (
 J1 [] s)
theorem F39_ok (v_0 name_1 value_2 : Value) (s : AS) (k : Value → AS → Prop) : denFn Tryz.prog [] 39 [v_0, name_1, value_2] s k = F39 v_0 name_1 value_2 s k := by kernel_rfl
theorem f39 {v_0 name_1 value_2 : Value} {s : AS} {k : Value → AS → Prop} (h : F39 v_0 name_1 value_2 s k) : kCall Tryz.prog 39 [v_0, name_1, value_2] s k := denFn_ok [] (cast (F39_ok v_0 name_1 value_2 s k).symm h)
theorem k39_ok : okFn Tryz.prog 39 = true := by kernel_rfl

/- conch chars.Text -/
def F40 (n_0 : Value) (s : AS) (k : Value → AS → Prop) : Prop :=
 kCall Tryz.prog 60 [n_0] s fun v4 s =>
 k v4 s
theorem F40_ok (n_0 : Value) (s : AS) (k : Value → AS → Prop) : denFn Tryz.prog [] 40 [n_0] s k = F40 n_0 s k := by kernel_rfl
theorem f40 {n_0 : Value} {s : AS} {k : Value → AS → Prop} (h : F40 n_0 s k) : kCall Tryz.prog 40 [n_0] s k := denFn_ok [] (cast (F40_ok n_0 s k).symm h)
theorem k40_ok : okFn Tryz.prog 40 = true := by kernel_rfl

/- conch chars.Join -/
def F41 (by_0 l_1 : Value) (s : AS) (k : Value → AS → Prop) : Prop :=
 kCall Tryz.prog 61 [l_1, by_0] s fun v7 s =>
 k v7 s
theorem F41_ok (by_0 l_1 : Value) (s : AS) (k : Value → AS → Prop) : denFn Tryz.prog [] 41 [by_0, l_1] s k = F41 by_0 l_1 s k := by kernel_rfl
theorem f41 {by_0 l_1 : Value} {s : AS} {k : Value → AS → Prop} (h : F41 by_0 l_1 s k) : kCall Tryz.prog 41 [by_0, l_1] s k := denFn_ok [] (cast (F41_ok by_0 l_1 s k).symm h)
theorem k41_ok : okFn Tryz.prog 41 = true := by kernel_rfl

/- conch chars.Name -/
def F42 (s_0 : Value) (s : AS) (k : Value → AS → Prop) : Prop :=
 kBin .neq s_0 (.string (bs [])) fun v4 =>
 kGrd v4 true (fun k =>
 kCall Tryz.prog 62 [s_0] s fun v7 s =>
 kLen true s_0 fun v9 =>
 kBin .eql v7 v9 fun v10 =>
 k [v10] s) [undef] s fun xs s =>
 un1 xs fun v10 =>
 kPick v4 v10 (.bool false) fun v11 =>
 k v11 s
theorem F42_ok (s_0 : Value) (s : AS) (k : Value → AS → Prop) : denFn Tryz.prog [] 42 [s_0] s k = F42 s_0 s k := by kernel_rfl
theorem f42 {s_0 : Value} {s : AS} {k : Value → AS → Prop} (h : F42 s_0 s k) : kCall Tryz.prog 42 [s_0] s k := denFn_ok [] (cast (F42_ok s_0 s k).symm h)
theorem k42_ok : okFn Tryz.prog 42 = true := by kernel_rfl

/- (*conch vars.arguments).numbered -/
def F43 (a_0 p_1 : Value) (s : AS) (k : Value → AS → Prop) : Prop :=
 kNck a_0 fun v11 =>
 kFld 1 v11 fun v12 =>
 kLd s v12 fun v13 =>
 kLen false v13 fun v14 =>
 kCall Tryz.prog 63 [p_1, v14] s fun v15 s =>
 kExt 0 v15 fun v16 =>
 kExt 1 v15 fun v17 =>
 kJoin (fun _ s =>
 kNck a_0 fun v34 =>
 kFld 1 v34 fun v35 =>
 kLd s v35 fun v36 =>
 kBin .sub v16 (.int .i64 1) fun v38 =>
 kIdx 1 v36 v38 fun v39 =>
 kLd s v39 fun v40 =>
 k (.tuple #[v40, (.bool true)]) s) fun J1 =>
 kBin .eql p_1 (.string (bs [48])) fun v20 =>
 kCond v20 (
 kNck a_0 fun v22 =>
 kFld 0 v22 fun v23 =>
 kLd s v23 fun v24 =>
 k (.tuple #[v24, (.bool true)]) s) (
 kBin .neq v17 (.int .i64 0) fun v27 =>
 kGrd v27 false (fun k =>
 kIxS p_1 (.int .i64 0) fun v30 =>
 kBin .eql v30 (.int .u8 48) fun v31 =>
 k [v31] s) [undef] s fun xs s =>
 un1 xs fun v31 =>
 kPick v27 (.bool true) v31 fun v32 =>
 kCond v32 (
 k (.tuple #[(.string (bs [])), (.bool false)]) s) (
 J1 [] s))
theorem F43_ok (a_0 p_1 : Value) (s : AS) (k : Value → AS → Prop) : denFn Tryz.prog [] 43 [a_0, p_1] s k = F43 a_0 p_1 s k := by kernel_rfl
theorem f43 {a_0 p_1 : Value} {s : AS} {k : Value → AS → Prop} (h : F43 a_0 p_1 s k) : kCall Tryz.prog 43 [a_0, p_1] s k := denFn_ok [] (cast (F43_ok a_0 p_1 s k).symm h)
theorem k43_ok : okFn Tryz.prog 43 = true := by kernel_rfl

/- conch conchref01.Name -/
def F44 (s_0 : Value) (s : AS) (k : Value → AS → Prop) : Prop :=
 kBin .neq s_0 (.string (bs [])) fun v4 =>
 kGrd v4 true (fun k =>
 kCall Tryz.prog 64 [s_0] s fun v7 s =>
 kLen true s_0 fun v9 =>
 kBin .eql v7 v9 fun v10 =>
 k [v10] s) [undef] s fun xs s =>
 un1 xs fun v10 =>
 kPick v4 v10 (.bool false) fun v11 =>
 k v11 s
theorem F44_ok (s_0 : Value) (s : AS) (k : Value → AS → Prop) : denFn Tryz.prog [] 44 [s_0] s k = F44 s_0 s k := by kernel_rfl
theorem f44 {s_0 : Value} {s : AS} {k : Value → AS → Prop} (h : F44 s_0 s k) : kCall Tryz.prog 44 [s_0] s k := denFn_ok [] (cast (F44_ok s_0 s k).symm h)
theorem k44_ok : okFn Tryz.prog 44 = true := by kernel_rfl

/- conch conchref01.Text -/
def F45 (n_0 : Value) (s : AS) (k : Value → AS → Prop) : Prop :=
 kJoin (fun _ s =>
 kJoin (fun xs s =>
 un1 xs fun out_3 =>
 kJoin (fun xs s =>
 un1 xs fun out_3 =>
 kJoin (fun xs s =>
 un1 xs fun s_6 =>
 kCvBS s s_6 fun v47 =>
 k v47 s) fun J4 =>
 kLen false out_3 fun v33 =>
 kBin .sub v33 (.int .i64 1) fun v34 =>
 kLoop (fun again5 xs s =>
 un2 xs fun s_6 i_7 =>
 kJoin (fun _ s =>
 kJoin (fun xs s =>
 un1 xs fun s_6 =>
 kBin .sub i_7 (.int .i64 1) fun v38 =>
 again5 [s_6, v38] s) fun J7 =>
 kIdx 1 out_3 i_7 fun v42 =>
 kLd s v42 fun v43 =>
 kBsl s 1 [(.int .u8 0)] [(0, 1, v43)] fun v44 s =>
 kApp Tryz.prog 89 89 s_6 v44 s fun v45 s =>
 J7 [v45] s) fun J6 =>
 kBin .geq i_7 (.int .i64 0) fun v36 =>
 kCond v36 (
 J6 [] s) (
 J4 [s_6] s)) [(.slice none 0 0), v34] s) fun J3 =>
 kBin .lss n_0 (.int .i64 0) fun v28 =>
 kCond v28 (
 kBsl s 1 [(.int .u8 0)] [(0, 1, (.int .u8 45))] fun v30 s =>
 kApp Tryz.prog 89 89 out_3 v30 s fun v31 s =>
 J3 [v31] s) (
 J3 [out_3] s)) fun J2 =>
 kLoop (fun again8 xs s =>
 un2 xs fun out_3 m_4 =>
 kJoin (fun _ s =>
 kJoin (fun xs s =>
 un1 xs fun out_3 =>
 kBin .quo m_4 (.int .i64 10) fun v14 =>
 again8 [out_3, v14] s) fun J10 =>
 kBin .rem m_4 (.int .i64 10) fun v16 =>
 kJoin (fun xs s =>
 un1 xs fun d_5 =>
 kBin .add (.int .i64 48) d_5 fun v23 =>
 kCvi .u8 v23 fun v24 =>
 kBsl s 1 [(.int .u8 0)] [(0, 1, v24)] fun v25 s =>
 kApp Tryz.prog 89 89 out_3 v25 s fun v26 s =>
 J10 [v26] s) fun J11 =>
 kBin .lss v16 (.int .i64 0) fun v18 =>
 kCond v18 (
 kUn .neg v16 fun v20 =>
 J11 [v20] s) (
 J11 [v16] s)) fun J9 =>
 kBin .neq m_4 (.int .i64 0) fun v12 =>
 kCond v12 (
 J9 [] s) (
 J2 [out_3] s)) [(.slice none 0 0), n_0] s) fun J1 =>
 kBin .eql n_0 (.int .i64 0) fun v9 =>
 kCond v9 (
 k (.string (bs [48])) s) (
 J1 [] s)
theorem F45_ok (n_0 : Value) (s : AS) (k : Value → AS → Prop) : denFn Tryz.prog [] 45 [n_0] s k = F45 n_0 s k := by kernel_rfl
theorem f45 {n_0 : Value} {s : AS} {k : Value → AS → Prop} (h : F45 n_0 s k) : kCall Tryz.prog 45 [n_0] s k := denFn_ok [] (cast (F45_ok n_0 s k).symm h)
theorem k45_ok : okFn Tryz.prog 45 = true := by kernel_rfl

/- conch conchref01.Join -/
def F46 (by_0 l_1 : Value) (s : AS) (k : Value → AS → Prop) : Prop :=
 kJoin (fun xs s =>
 un1 xs fun out_5 =>
 k out_5 s) fun J1 =>
 kLoop (fun again2 xs s =>
 un2 xs fun out_5 i_6 =>
 kJoin (fun _ s =>
 kJoin (fun xs s =>
 un1 xs fun out_5 =>
 kBin .add i_6 (.int .i64 1) fun v12 =>
 again2 [out_5, v12] s) fun J4 =>
 kJoin (fun xs s =>
 un1 xs fun out_5 =>
 kIdx 1 l_1 i_6 fun v21 =>
 kLd s v21 fun v22 =>
 kBin .add out_5 v22 fun v23 =>
 J4 [v23] s) fun J5 =>
 kBin .gtr i_6 (.int .i64 0) fun v14 =>
 kCond v14 (
 kBin .add out_5 by_0 fun v17 =>
 J5 [v17] s) (
 J5 [out_5] s)) fun J3 =>
 kLen false l_1 fun v9 =>
 kBin .lss i_6 v9 fun v10 =>
 kCond v10 (
 J3 [] s) (
 J1 [out_5] s)) [(.string (bs [])), (.int .i64 0)] s
theorem F46_ok (by_0 l_1 : Value) (s : AS) (k : Value → AS → Prop) : denFn Tryz.prog [] 46 [by_0, l_1] s k = F46 by_0 l_1 s k := by kernel_rfl
theorem f46 {by_0 l_1 : Value} {s : AS} {k : Value → AS → Prop} (h : F46 by_0 l_1 s k) : kCall Tryz.prog 46 [by_0, l_1] s k := denFn_ok [] (cast (F46_ok by_0 l_1 s k).symm h)
theorem k46_ok : okFn Tryz.prog 46 = true := by kernel_rfl

/- slices.SortedFunc[conch vars.Var] -/
def F47 (seq_0 cmp_1 : Value) (s : AS) (k : Value → AS → Prop) : Prop :=
 kCall Tryz.prog 65 [seq_0] s fun v7 s =>
 kCall Tryz.prog 66 [v7, cmp_1] s fun v10 s =>
 k v7 s
theorem F47_ok (seq_0 cmp_1 : Value) (s : AS) (k : Value → AS → Prop) : denFn Tryz.prog [] 47 [seq_0, cmp_1] s k = F47 seq_0 cmp_1 s k := by kernel_rfl
theorem f47 {seq_0 cmp_1 : Value} {s : AS} {k : Value → AS → Prop} (h : F47 seq_0 cmp_1 s k) : kCall Tryz.prog 47 [seq_0, cmp_1] s k := denFn_ok [] (cast (F47_ok seq_0 cmp_1 s k).symm h)
theorem k47_ok : okFn Tryz.prog 47 = true := by kernel_rfl

/- maps.Values[map[string]conch vars.Var,string,conch vars.Var] -/
def F48 (m_0 : Value) (s : AS) (k : Value → AS → Prop) : Prop :=
 kNew s (cellsV m_0) fun m_1 s =>
 k (.func (.func 67) #[] #[m_1]) s
theorem F48_ok (m_0 : Value) (s : AS) (k : Value → AS → Prop) : denFn Tryz.prog [] 48 [m_0] s k = F48 m_0 s k := by kernel_rfl
theorem f48 {m_0 : Value} {s : AS} {k : Value → AS → Prop} (h : F48 m_0 s k) : kCall Tryz.prog 48 [m_0] s k := denFn_ok [] (cast (F48_ok m_0 s k).symm h)
theorem k48_ok : okFn Tryz.prog 48 = true := by kernel_rfl

/- (*conch vars.Vars).All$1 -/
def F49 (a_0 b_1 : Value) (s : AS) (k : Value → AS → Prop) : Prop :=
 kNew s (cellsV a_0) fun a_2 s =>
 kNew s (cellsV b_1) fun b_3 s =>
 kFld 0 a_2 fun v5 =>
 kLd s v5 fun v6 =>
 kFld 0 b_3 fun v7 =>
 kLd s v7 fun v8 =>
 kCall Tryz.prog 50 [v6, v8] s fun v9 s =>
 k v9 s
theorem F49_ok (a_0 b_1 : Value) (s : AS) (k : Value → AS → Prop) : denFn Tryz.prog [] 49 [a_0, b_1] s k = F49 a_0 b_1 s k := by kernel_rfl
theorem f49 {a_0 b_1 : Value} {s : AS} {k : Value → AS → Prop} (h : F49 a_0 b_1 s k) : kCall Tryz.prog 49 [a_0, b_1] s k := denFn_ok [] (cast (F49_ok a_0 b_1 s k).symm h)
theorem k49_ok : okFn Tryz.prog 49 = true := by kernel_rfl

/- (*conch conchref08.Vars).find -/
def F51 (v_0 name_1 : Value) (s : AS) (k : Value → AS → Prop) : Prop :=
 kNew s [(.string (bs [])), (.string (bs [])), (.bool false), (.bool false), (.bool false)] fun v4 s =>
 kJoin (fun _ s =>
 kBuild [(.string (bs [])), (.string (bs [])), (.bool false), (.bool false), (.bool false)] [] fun v32 =>
 kSt s 5 v4 v32 fun s =>
 kLdN s 5 v4 fun r0 =>
 k r0 s) fun J1 =>
 kLoop (fun again2 xs s =>
 un1 xs fun i_5 =>
 kJoin (fun _ s =>
 kJoin (fun _ s =>
 kBin .add i_5 (.int .i64 1) fun v14 =>
 again2 [v14] s) fun J4 =>
 kNck v_0 fun v16 =>
 kFld 0 v16 fun v17 =>
 kLd s v17 fun v18 =>
 kIdx 5 v18 i_5 fun v20 =>
 kFld 0 v20 fun v21 =>
 kLd s v21 fun v22 =>
 kBin .eql v22 name_1 fun v24 =>
 kCond v24 (
 kNck v_0 fun v26 =>
 kFld 0 v26 fun v27 =>
 kLd s v27 fun v28 =>
 kIdx 5 v28 i_5 fun v30 =>
 kLdN s 5 v30 fun v31 =>
 kSt s 5 v4 v31 fun s =>
 kLdN s 5 v4 fun r0 =>
 k r0 s) (
 J4 [] s)) fun J3 =>
 kNck v_0 fun v8 =>
 kFld 0 v8 fun v9 =>
 kLd s v9 fun v10 =>
 kLen false v10 fun v11 =>
 kBin .lss i_5 v11 fun v12 =>
 kCond v12 (
 J3 [] s) (
 J1 [] s)) [(.int .i64 0)] s
theorem F51_ok (v_0 name_1 : Value) (s : AS) (k : Value → AS → Prop) : denFn Tryz.prog [] 51 [v_0, name_1] s k = F51 v_0 name_1 s k := by kernel_rfl
theorem f51 {v_0 name_1 : Value} {s : AS} {k : Value → AS → Prop} (h : F51 v_0 name_1 s k) : kCall Tryz.prog 51 [v_0, name_1] s k := denFn_ok [] (cast (F51_ok v_0 name_1 s k).symm h)
theorem k51_ok : okFn Tryz.prog 51 = true := by kernel_rfl

/- maps.Clone[map[string]conch vars.Var,string,conch vars.Var] -/
def F52 (m_0 : Value) (s : AS) (k : Value → AS → Prop) : Prop :=
 kJoin (fun _ s =>
 kGen Tryz.prog (.mki 59) [m_0] s fun v6 s =>
 kGen Tryz.prog (.ext 69) [v6] s fun v7 s =>
 kGen Tryz.prog (.tas 20 59 false) [v7] s fun v8 s =>
 k v8 s) fun J1 =>
 kEq 2 false m_0 (.map none) fun v4 =>
 kCond v4 (
 k (.map none) s) (
 J1 [] s)
theorem F52_ok (m_0 : Value) (s : AS) (k : Value → AS → Prop) : denFn Tryz.prog [] 52 [m_0] s k = F52 m_0 s k := by kernel_rfl
theorem f52 {m_0 : Value} {s : AS} {k : Value → AS → Prop} (h : F52 m_0 s k) : kCall Tryz.prog 52 [m_0] s k := denFn_ok [] (cast (F52_ok m_0 s k).symm h)
theorem k52_ok : okFn Tryz.prog 52 = true := by kernel_rfl

/- (*conch vars.Vars).turn -/
def F53 (v_0 name_1 writes_2 how_3 : Value) (s : AS) (k : Value → AS → Prop) : Prop :=
 kJoin (fun _ s =>
 kNck v_0 fun v29 =>
 kFld 2 v29 fun v30 =>
 kLd s v30 fun v31 =>
 kGen Tryz.prog (.lk 59 false) [v31, name_1] s fun v33 s =>
 kNew s [(.string (bs [])), (.string (bs [])), (.bool false), (.bool false), (.bool false)] fun x_9 s =>
 kSt s 5 x_9 v33 fun s =>
 kFld 0 x_9 fun v35 =>
 kSt s 1 v35 name_1 fun s =>
 kCallv Tryz.prog how_3 [x_9] s fun v37 s =>
 kNck v_0 fun v39 =>
 kFld 2 v39 fun v40 =>
 kLd s v40 fun v41 =>
 kLdN s 5 x_9 fun v43 =>
 kGen Tryz.prog (.mup 59) [v41, name_1, v43] s fun _ s =>
 kJoin (fun _ s =>
 k (.int .i64 0) s) fun J2 =>
 kFld 2 x_9 fun v44 =>
 kLd s v44 fun v45 =>
 kUn .not v45 fun v46 =>
 kGrd v46 true (fun k =>
 kFld 3 x_9 fun v48 =>
 kLd s v48 fun v49 =>
 kUn .not v49 fun v50 =>
 k [v50] s) [undef] s fun xs s =>
 un1 xs fun v50 =>
 kPick v46 v50 (.bool false) fun v51 =>
 kGrd v51 true (fun k =>
 kFld 4 x_9 fun v53 =>
 kLd s v53 fun v54 =>
 kUn .not v54 fun v55 =>
 k [v55] s) [undef] s fun xs s =>
 un1 xs fun v55 =>
 kPick v51 v55 (.bool false) fun v56 =>
 kCond v56 (
 kNck v_0 fun v58 =>
 kFld 2 v58 fun v59 =>
 kLd s v59 fun v60 =>
 kGen Tryz.prog (.blt .delete [59, 9] 0) [v60, name_1] s fun _ s =>
 J2 [] s) (
 J2 [] s)) fun J1 =>
 kEq 0 false v_0 (.pointer none) fun v12 =>
 kCond v12 (
 k (.int .i64 2) s) (
 kCall Tryz.prog 42 [name_1] s fun v15 s =>
 kUn .not v15 fun v16 =>
 kCond v16 (
 k (.int .i64 16) s) (
 kGrd writes_2 true (fun k =>
 kNck v_0 fun v21 =>
 kFld 2 v21 fun v22 =>
 kLd s v22 fun v23 =>
 kGen Tryz.prog (.lk 59 false) [v23, name_1] s fun v25 s =>
 kGet 4 v25 fun v26 =>
 k [v26] s) [undef] s fun xs s =>
 un1 xs fun v26 =>
 kPick writes_2 v26 (.bool false) fun v27 =>
 kCond v27 (
 k (.int .i64 15) s) (
 J1 [] s)))
theorem F53_ok (v_0 name_1 writes_2 how_3 : Value) (s : AS) (k : Value → AS → Prop) : denFn Tryz.prog [(10, (.go 0 (.go 1 (.go 2 (.go 4 (.go 3 (.go 5 (.go 6 .done))))))))] 53 [v_0, name_1, writes_2, how_3] s k = F53 v_0 name_1 writes_2 how_3 s k := by kernel_rfl
theorem f53 {v_0 name_1 writes_2 how_3 : Value} {s : AS} {k : Value → AS → Prop} (h : F53 v_0 name_1 writes_2 how_3 s k) : kCall Tryz.prog 53 [v_0, name_1, writes_2, how_3] s k := denFn_ok [(10, (.go 0 (.go 1 (.go 2 (.go 4 (.go 3 (.go 5 (.go 6 .done))))))))] (cast (F53_ok v_0 name_1 writes_2 how_3 s k).symm h)
theorem k53_ok : okFn Tryz.prog 53 = true := by kernel_rfl

/- (*conch vars.Vars).Set$1 -/
def F54 (x_0 v1 : Value) (s : AS) (k : Value → AS → Prop) : Prop :=
 kLd s v1 fun v5 =>
 kNck x_0 fun v6 =>
 kFld 1 v6 fun v7 =>
 kSt s 1 v7 v5 fun s =>
 kNck x_0 fun v8 =>
 kFld 2 v8 fun v9 =>
 kSt s 1 v9 (.bool true) fun s =>
 k undef s
theorem F54_ok (x_0 v1 : Value) (s : AS) (k : Value → AS → Prop) : denFn Tryz.prog [] 54 [x_0, v1] s k = F54 x_0 v1 s k := by kernel_rfl
theorem f54 {x_0 v1 : Value} {s : AS} {k : Value → AS → Prop} (h : F54 x_0 v1 s k) : kCall Tryz.prog 54 [x_0, v1] s k := denFn_ok [] (cast (F54_ok x_0 v1 s k).symm h)
theorem k54_ok : okFn Tryz.prog 54 = true := by kernel_rfl

/- (*conch vars.Vars).Readonly$1 -/
def F55 (x_0 : Value) (s : AS) (k : Value → AS → Prop) : Prop :=
 kNck x_0 fun v3 =>
 kFld 4 v3 fun v4 =>
 kSt s 1 v4 (.bool true) fun s =>
 k undef s
theorem F55_ok (x_0 : Value) (s : AS) (k : Value → AS → Prop) : denFn Tryz.prog [] 55 [x_0] s k = F55 x_0 s k := by kernel_rfl
theorem f55 {x_0 : Value} {s : AS} {k : Value → AS → Prop} (h : F55 x_0 s k) : kCall Tryz.prog 55 [x_0] s k := denFn_ok [] (cast (F55_ok x_0 s k).symm h)
theorem k55_ok : okFn Tryz.prog 55 = true := by kernel_rfl

/- (*conch vars.arguments).shift -/
def F56 (a_0 n_1 : Value) (s : AS) (k : Value → AS → Prop) : Prop :=
 kJoin (fun _ s =>
 kNck a_0 fun v18 =>
 kFld 1 v18 fun v19 =>
 kLd s v19 fun v20 =>
 kSubL 1 v20 (some n_1) none fun v22 =>
 kNck a_0 fun v23 =>
 kFld 1 v23 fun v24 =>
 kSt s 1 v24 v22 fun s =>
 k (.int .i64 0) s) fun J1 =>
 kBin .lss n_1 (.int .i64 0) fun v6 =>
 kGrd v6 false (fun k =>
 kNck a_0 fun v10 =>
 kFld 1 v10 fun v11 =>
 kLd s v11 fun v12 =>
 kLen false v12 fun v13 =>
 kBin .gtr n_1 v13 fun v14 =>
 k [v14] s) [undef] s fun xs s =>
 un1 xs fun v14 =>
 kPick v6 (.bool true) v14 fun v15 =>
 kCond v15 (
 k (.int .i64 1) s) (
 J1 [] s)
theorem F56_ok (a_0 n_1 : Value) (s : AS) (k : Value → AS → Prop) : denFn Tryz.prog [] 56 [a_0, n_1] s k = F56 a_0 n_1 s k := by kernel_rfl
theorem f56 {a_0 n_1 : Value} {s : AS} {k : Value → AS → Prop} (h : F56 a_0 n_1 s k) : kCall Tryz.prog 56 [a_0, n_1] s k := denFn_ok [] (cast (F56_ok a_0 n_1 s k).symm h)
theorem k56_ok : okFn Tryz.prog 56 = true := by kernel_rfl

/- (*conch vars.Vars).Unset$1 -/
def F57 (x_0 : Value) (s : AS) (k : Value → AS → Prop) : Prop :=
 kBuild [(.string (bs [])), (.string (bs [])), (.bool false), (.bool false), (.bool false)] [] fun v3 =>
 kNck x_0 fun v4 =>
 kSt s 5 v4 v3 fun s =>
 k undef s
theorem F57_ok (x_0 : Value) (s : AS) (k : Value → AS → Prop) : denFn Tryz.prog [] 57 [x_0] s k = F57 x_0 s k := by kernel_rfl
theorem f57 {x_0 : Value} {s : AS} {k : Value → AS → Prop} (h : F57 x_0 s k) : kCall Tryz.prog 57 [x_0] s k := denFn_ok [] (cast (F57_ok x_0 s k).symm h)
theorem k57_ok : okFn Tryz.prog 57 = true := by kernel_rfl

/- (*conch vars.Vars).Export$1 -/
def F58 (x_0 : Value) (s : AS) (k : Value → AS → Prop) : Prop :=
 kNck x_0 fun v3 =>
 kFld 3 v3 fun v4 =>
 kSt s 1 v4 (.bool true) fun s =>
 k undef s
theorem F58_ok (x_0 : Value) (s : AS) (k : Value → AS → Prop) : denFn Tryz.prog [] 58 [x_0] s k = F58 x_0 s k := by kernel_rfl
theorem f58 {x_0 : Value} {s : AS} {k : Value → AS → Prop} (h : F58 x_0 s k) : kCall Tryz.prog 58 [x_0] s k := denFn_ok [] (cast (F58_ok x_0 s k).symm h)
theorem k58_ok : okFn Tryz.prog 58 = true := by kernel_rfl

/- (*conch conchref08.Vars).put -/
def F59 (v_0 x_1 : Value) (s : AS) (k : Value → AS → Prop) : Prop :=
 kNew s (cellsV x_1) fun x_3 s =>
 kFld 2 x_3 fun v7 =>
 kLd s v7 fun v8 =>
 kUn .not v8 fun v9 =>
 kGrd v9 true (fun k =>
 kFld 3 x_3 fun v11 =>
 kLd s v11 fun v12 =>
 kUn .not v12 fun v13 =>
 k [v13] s) [undef] s fun xs s =>
 un1 xs fun v13 =>
 kPick v9 v13 (.bool false) fun v14 =>
 kGrd v14 true (fun k =>
 kFld 4 x_3 fun v16 =>
 kLd s v16 fun v17 =>
 kUn .not v17 fun v18 =>
 k [v18] s) [undef] s fun xs s =>
 un1 xs fun v18 =>
 kPick v14 v18 (.bool false) fun v19 =>
 kJoin (fun xs s =>
 un2 xs fun out_4 done_5 =>
 kJoin (fun xs s =>
 un1 xs fun out_4 =>
 kNck v_0 fun v77 =>
 kFld 0 v77 fun v78 =>
 kSt s 1 v78 out_4 fun s =>
 k undef s) fun J2 =>
 kUn .not done_5 fun v70 =>
 kCond v70 (
 kLdN s 5 x_3 fun v72 =>
 kBsl s 1 [(.string (bs [])), (.string (bs [])), (.bool false), (.bool false), (.bool false)] [(0, 5, v72)] fun v73 s =>
 kApp Tryz.prog 28 28 out_4 v73 s fun v74 s =>
 J2 [v74] s) (
 J2 [out_4] s)) fun J1 =>
 kLoop (fun again3 xs s =>
 un3 xs fun out_4 done_5 i_6 =>
 kJoin (fun _ s =>
 kJoin (fun xs s =>
 un2 xs fun out_4 done_5 =>
 kBin .add i_6 (.int .i64 1) fun v28 =>
 again3 [out_4, done_5, v28] s) fun J5 =>
 kJoin (fun xs s =>
 un2 xs fun out_4 done_5 =>
 kNck v_0 fun v49 =>
 kFld 0 v49 fun v50 =>
 kFld 0 x_3 fun v56 =>
 kLd s v50 fun v51 =>
 kIdx 5 v51 i_6 fun v53 =>
 kFld 0 v53 fun v54 =>
 kLd s v54 fun v55 =>
 kLd s v56 fun v57 =>
 kBin .neq v55 v57 fun v58 =>
 kCond v58 (
 kNck v_0 fun v61 =>
 kFld 0 v61 fun v62 =>
 kLd s v62 fun v63 =>
 kIdx 5 v63 i_6 fun v65 =>
 kLdN s 5 v65 fun v66 =>
 kBsl s 1 [(.string (bs [])), (.string (bs [])), (.bool false), (.bool false), (.bool false)] [(0, 5, v66)] fun v67 s =>
 kApp Tryz.prog 28 28 out_4 v67 s fun v68 s =>
 J5 [v68, done_5] s) (
 J5 [out_4, done_5] s)) fun J6 =>
 kUn .not done_5 fun v30 =>
 kGrd v30 true (fun k =>
 kNck v_0 fun v33 =>
 kFld 0 v33 fun v34 =>
 kFld 0 x_3 fun v40 =>
 kLd s v34 fun v35 =>
 kIdx 5 v35 i_6 fun v37 =>
 kFld 0 v37 fun v38 =>
 kLd s v38 fun v39 =>
 kLd s v40 fun v41 =>
 kBin .gtr v39 v41 fun v42 =>
 k [v42] s) [undef] s fun xs s =>
 un1 xs fun v42 =>
 kPick v30 v42 (.bool false) fun v43 =>
 kCond v43 (
 kLdN s 5 x_3 fun v45 =>
 kBsl s 1 [(.string (bs [])), (.string (bs [])), (.bool false), (.bool false), (.bool false)] [(0, 5, v45)] fun v46 s =>
 kApp Tryz.prog 28 28 out_4 v46 s fun v47 s =>
 J6 [v47, (.bool true)] s) (
 J6 [out_4, done_5] s)) fun J4 =>
 kNck v_0 fun v22 =>
 kFld 0 v22 fun v23 =>
 kLd s v23 fun v24 =>
 kLen false v24 fun v25 =>
 kBin .lss i_6 v25 fun v26 =>
 kCond v26 (
 J4 [] s) (
 J1 [out_4, done_5] s)) [(.slice none 0 0), v19, (.int .i64 0)] s
theorem F59_ok (v_0 x_1 : Value) (s : AS) (k : Value → AS → Prop) : denFn Tryz.prog [(6, (.go 0 (.go 1 (.go 2 (.go 3 (.go 4 (.go 5 (.go 7 (.go 11 (.go 6 (.go 8 (.go 9 (.go 10 (.go 12 (.go 13 (.go 14 .done)))))))))))))))), (9, (.go 0 (.go 1 (.go 2 (.go 4 (.go 8 (.go 3 (.go 5 (.go 6 (.go 7 (.go 9 (.go 10 .done))))))))))))] 59 [v_0, x_1] s k = F59 v_0 x_1 s k := by kernel_rfl
theorem f59 {v_0 x_1 : Value} {s : AS} {k : Value → AS → Prop} (h : F59 v_0 x_1 s k) : kCall Tryz.prog 59 [v_0, x_1] s k := denFn_ok [(6, (.go 0 (.go 1 (.go 2 (.go 3 (.go 4 (.go 5 (.go 7 (.go 11 (.go 6 (.go 8 (.go 9 (.go 10 (.go 12 (.go 13 (.go 14 .done)))))))))))))))), (9, (.go 0 (.go 1 (.go 2 (.go 4 (.go 8 (.go 3 (.go 5 (.go 6 (.go 7 (.go 9 (.go 10 .done))))))))))))] (cast (F59_ok v_0 x_1 s k).symm h)
theorem k59_ok : okFn Tryz.prog 59 = true := by kernel_rfl

/- conch chars.Front -/
def F62 (s_0 : Value) (s : AS) (k : Value → AS → Prop) : Prop :=
 kJoin (fun xs s =>
 un1 xs fun n_3 =>
 k n_3 s) fun J1 =>
 kLoop (fun again2 xs s =>
 un1 xs fun n_3 =>
 kJoin (fun _ s =>
 kBin .add n_3 (.int .i64 1) fun v25 =>
 again2 [v25] s) fun J3 =>
 kLen true s_0 fun v6 =>
 kBin .lss n_3 v6 fun v7 =>
 kGrd v7 true (fun k =>
 kIxS s_0 n_3 fun v11 =>
 kCall Tryz.prog 74 [v11] s fun v12 s =>
 k [v12] s) [undef] s fun xs s =>
 un1 xs fun v13 =>
 kGrd v13 false (fun k =>
 kBin .gtr n_3 (.int .i64 0) fun v15 =>
 k [v15] s) [undef] s fun xs s =>
 un1 xs fun v16 =>
 kGrd v16 true (fun k =>
 kIxS s_0 n_3 fun v19 =>
 kCall Tryz.prog 75 [v19] s fun v20 s =>
 k [v20] s) [undef] s fun xs s =>
 un1 xs fun v20 =>
 kGrd v13 false (fun k =>
 kPick v16 v20 (.bool false) fun v21 =>
 k [v21] s) [undef] s fun xs s =>
 un1 xs fun v21 =>
 kGrd v7 true (fun k =>
 kPick v13 (.bool true) v21 fun v22 =>
 k [v22] s) [undef] s fun xs s =>
 un1 xs fun v22 =>
 kPick v7 v22 (.bool false) fun v23 =>
 kCond v23 (
 J3 [] s) (
 J1 [n_3] s)) [(.int .i64 0)] s
theorem F62_ok (s_0 : Value) (s : AS) (k : Value → AS → Prop) : denFn Tryz.prog [] 62 [s_0] s k = F62 s_0 s k := by kernel_rfl
theorem f62 {s_0 : Value} {s : AS} {k : Value → AS → Prop} (h : F62 s_0 s k) : kCall Tryz.prog 62 [s_0] s k := denFn_ok [] (cast (F62_ok s_0 s k).symm h)
theorem k62_ok : okFn Tryz.prog 62 = true := by kernel_rfl

/- conch chars.Number -/
def F63 (s_0 most_1 : Value) (s : AS) (k : Value → AS → Prop) : Prop :=
 kJoin (fun _ s =>
 kCall Tryz.prog 77 [s_0] s fun v17 s =>
 kExt 0 v17 fun v18 =>
 kExt 1 v17 fun v19 =>
 kJoin (fun _ s =>
 k (.tuple #[v18, (.int .i64 0)]) s) fun J2 =>
 kEqi true v19 .nilIface fun v21 =>
 kGrd v21 false (fun k =>
 kBin .gtr v18 most_1 fun v25 =>
 k [v25] s) [undef] s fun xs s =>
 un1 xs fun v25 =>
 kPick v21 (.bool true) v25 fun v26 =>
 kCond v26 (
 k (.tuple #[(.int .i64 0), (.int .i64 3)]) s) (
 J2 [] s)) fun J1 =>
 kBin .eql s_0 (.string (bs [])) fun v9 =>
 kGrd v9 false (fun k =>
 kCall Tryz.prog 76 [s_0, (.string (bs [48, 49, 50, 51, 52, 53, 54, 55, 56, 57]))] s fun v12 s =>
 kBin .neq v12 (.string (bs [])) fun v13 =>
 k [v13] s) [undef] s fun xs s =>
 un1 xs fun v13 =>
 kPick v9 (.bool true) v13 fun v14 =>
 kCond v14 (
 k (.tuple #[(.int .i64 0), (.int .i64 10)]) s) (
 J1 [] s)
theorem F63_ok (s_0 most_1 : Value) (s : AS) (k : Value → AS → Prop) : denFn Tryz.prog [] 63 [s_0, most_1] s k = F63 s_0 most_1 s k := by kernel_rfl
theorem f63 {s_0 most_1 : Value} {s : AS} {k : Value → AS → Prop} (h : F63 s_0 most_1 s k) : kCall Tryz.prog 63 [s_0, most_1] s k := denFn_ok [] (cast (F63_ok s_0 most_1 s k).symm h)
theorem k63_ok : okFn Tryz.prog 63 = true := by kernel_rfl

/- conch conchref01.Front -/
def F64 (s_0 : Value) (s : AS) (k : Value → AS → Prop) : Prop :=
 kJoin (fun _ s =>
 kJoin (fun xs s =>
 un1 xs fun n_3 =>
 k n_3 s) fun J2 =>
 kLoop (fun again3 xs s =>
 un1 xs fun n_3 =>
 kJoin (fun _ s =>
 kBin .add n_3 (.int .i64 1) fun v29 =>
 again3 [v29] s) fun J4 =>
 kLen true s_0 fun v14 =>
 kBin .lss n_3 v14 fun v15 =>
 kGrd v15 true (fun k =>
 kIxS s_0 n_3 fun v19 =>
 kCall Tryz.prog 78 [v19] s fun v20 s =>
 k [v20] s) [undef] s fun xs s =>
 un1 xs fun v21 =>
 kGrd v21 false (fun k =>
 kIxS s_0 n_3 fun v24 =>
 kCall Tryz.prog 79 [v24] s fun v25 s =>
 k [v25] s) [undef] s fun xs s =>
 un1 xs fun v25 =>
 kGrd v15 true (fun k =>
 kPick v21 (.bool true) v25 fun v26 =>
 k [v26] s) [undef] s fun xs s =>
 un1 xs fun v26 =>
 kPick v15 v26 (.bool false) fun v27 =>
 kCond v27 (
 J4 [] s) (
 J2 [n_3] s)) [(.int .i64 1)] s) fun J1 =>
 kBin .eql s_0 (.string (bs [])) fun v5 =>
 kGrd v5 false (fun k =>
 kIxS s_0 (.int .i64 0) fun v8 =>
 kCall Tryz.prog 78 [v8] s fun v9 s =>
 kUn .not v9 fun v10 =>
 k [v10] s) [undef] s fun xs s =>
 un1 xs fun v10 =>
 kPick v5 (.bool true) v10 fun v11 =>
 kCond v11 (
 k (.int .i64 0) s) (
 J1 [] s)
theorem F64_ok (s_0 : Value) (s : AS) (k : Value → AS → Prop) : denFn Tryz.prog [] 64 [s_0] s k = F64 s_0 s k := by kernel_rfl
theorem f64 {s_0 : Value} {s : AS} {k : Value → AS → Prop} (h : F64 s_0 s k) : kCall Tryz.prog 64 [s_0] s k := denFn_ok [] (cast (F64_ok s_0 s k).symm h)
theorem k64_ok : okFn Tryz.prog 64 = true := by kernel_rfl

/- slices.Collect[conch vars.Var] -/
def F65 (seq_0 : Value) (s : AS) (k : Value → AS → Prop) : Prop :=
 kCall Tryz.prog 80 [(.slice none 0 0), seq_0] s fun v4 s =>
 k v4 s
theorem F65_ok (seq_0 : Value) (s : AS) (k : Value → AS → Prop) : denFn Tryz.prog [] 65 [seq_0] s k = F65 seq_0 s k := by kernel_rfl
theorem f65 {seq_0 : Value} {s : AS} {k : Value → AS → Prop} (h : F65 seq_0 s k) : kCall Tryz.prog 65 [seq_0] s k := denFn_ok [] (cast (F65_ok seq_0 s k).symm h)
theorem k65_ok : okFn Tryz.prog 65 = true := by kernel_rfl

/- maps.Values[map[string]conch vars.Var,string,conch vars.Var]$1 -/
def F67 (yield_0 v1 : Value) (s : AS) (k : Value → AS → Prop) : Prop :=
 kLd s v1 fun v5 =>
 kGen Tryz.prog (.rng 59) [v5] s fun v6 s =>
 kLoop (fun again1 _ s =>
 kGen Tryz.prog (.nxt false 0) [v6] s fun v7 s =>
 kExt 0 v7 fun v8 =>
 kJoin (fun _ s =>
 kGen Tryz.prog .ent [v6] s fun v9 s =>
 kExt 1 v9 fun v10 =>
 kNew s [(.string (bs [])), (.string (bs [])), (.bool false), (.bool false), (.bool false)] fun v_4 s =>
 kSt s 5 v_4 v10 fun s =>
 kLdN s 5 v_4 fun v12 =>
 kCallv Tryz.prog yield_0 [v12] s fun v13 s =>
 kUn .not v13 fun v14 =>
 kCond v14 (
 k undef s) (
 again1 [] s)) fun J2 =>
 kCond v8 (
 J2 [] s) (
 k undef s)) [] s
theorem F67_ok (yield_0 v1 : Value) (s : AS) (k : Value → AS → Prop) : denFn Tryz.prog [] 67 [yield_0, v1] s k = F67 yield_0 v1 s k := by kernel_rfl
theorem f67 {yield_0 v1 : Value} {s : AS} {k : Value → AS → Prop} (h : F67 yield_0 v1 s k) : kCall Tryz.prog 67 [yield_0, v1] s k := denFn_ok [] (cast (F67_ok yield_0 v1 s k).symm h)
theorem k67_ok : okFn Tryz.prog 67 = true := by kernel_rfl

/- conch chars.Alpha -/
def F74 (c_0 : Value) (s : AS) (k : Value → AS → Prop) : Prop :=
 kBin .eql c_0 (.int .u8 95) fun v4 =>
 kGrd v4 false (fun k =>
 kBin .or c_0 (.int .u8 32) fun v7 =>
 kBin .geq v7 (.int .u8 97) fun v8 =>
 k [v8] s) [undef] s fun xs s =>
 un1 xs fun v9 =>
 kGrd v9 true (fun k =>
 kBin .or c_0 (.int .u8 32) fun v11 =>
 kBin .leq v11 (.int .u8 122) fun v12 =>
 k [v12] s) [undef] s fun xs s =>
 un1 xs fun v12 =>
 kGrd v4 false (fun k =>
 kPick v9 v12 (.bool false) fun v13 =>
 k [v13] s) [undef] s fun xs s =>
 un1 xs fun v13 =>
 kPick v4 (.bool true) v13 fun v14 =>
 k v14 s
theorem F74_ok (c_0 : Value) (s : AS) (k : Value → AS → Prop) : denFn Tryz.prog [] 74 [c_0] s k = F74 c_0 s k := by kernel_rfl
theorem f74 {c_0 : Value} {s : AS} {k : Value → AS → Prop} (h : F74 c_0 s k) : kCall Tryz.prog 74 [c_0] s k := denFn_ok [] (cast (F74_ok c_0 s k).symm h)
theorem k74_ok : okFn Tryz.prog 74 = true := by kernel_rfl

/- conch chars.Digit -/
def F75 (c_0 : Value) (s : AS) (k : Value → AS → Prop) : Prop :=
 kBin .geq c_0 (.int .u8 48) fun v4 =>
 kGrd v4 true (fun k =>
 kBin .leq c_0 (.int .u8 57) fun v7 =>
 k [v7] s) [undef] s fun xs s =>
 un1 xs fun v7 =>
 kPick v4 v7 (.bool false) fun v8 =>
 k v8 s
theorem F75_ok (c_0 : Value) (s : AS) (k : Value → AS → Prop) : denFn Tryz.prog [] 75 [c_0] s k = F75 c_0 s k := by kernel_rfl
theorem f75 {c_0 : Value} {s : AS} {k : Value → AS → Prop} (h : F75 c_0 s k) : kCall Tryz.prog 75 [c_0] s k := denFn_ok [] (cast (F75_ok c_0 s k).symm h)
theorem k75_ok : okFn Tryz.prog 75 = true := by kernel_rfl

/- conch conchref01.Alpha -/
def F78 (c_0 : Value) (s : AS) (k : Value → AS → Prop) : Prop :=
 kBin .geq c_0 (.int .u8 97) fun v4 =>
 kGrd v4 true (fun k =>
 kBin .leq c_0 (.int .u8 122) fun v7 =>
 k [v7] s) [undef] s fun xs s =>
 un1 xs fun v7 =>
 kPick v4 v7 (.bool false) fun v8 =>
 kGrd v8 false (fun k =>
 kBin .geq c_0 (.int .u8 65) fun v11 =>
 k [v11] s) [undef] s fun xs s =>
 un1 xs fun v12 =>
 kGrd v12 true (fun k =>
 kBin .leq c_0 (.int .u8 90) fun v14 =>
 k [v14] s) [undef] s fun xs s =>
 un1 xs fun v14 =>
 kGrd v8 false (fun k =>
 kPick v12 v14 (.bool false) fun v15 =>
 k [v15] s) [undef] s fun xs s =>
 un1 xs fun v15 =>
 kPick v8 (.bool true) v15 fun v16 =>
 kGrd v16 false (fun k =>
 kBin .eql c_0 (.int .u8 95) fun v19 =>
 k [v19] s) [undef] s fun xs s =>
 un1 xs fun v19 =>
 kPick v16 (.bool true) v19 fun v20 =>
 k v20 s
theorem F78_ok (c_0 : Value) (s : AS) (k : Value → AS → Prop) : denFn Tryz.prog [] 78 [c_0] s k = F78 c_0 s k := by kernel_rfl
theorem f78 {c_0 : Value} {s : AS} {k : Value → AS → Prop} (h : F78 c_0 s k) : kCall Tryz.prog 78 [c_0] s k := denFn_ok [] (cast (F78_ok c_0 s k).symm h)
theorem k78_ok : okFn Tryz.prog 78 = true := by kernel_rfl

/- conch conchref01.Digit -/
def F79 (c_0 : Value) (s : AS) (k : Value → AS → Prop) : Prop :=
 kBin .geq c_0 (.int .u8 48) fun v4 =>
 kGrd v4 true (fun k =>
 kBin .leq c_0 (.int .u8 57) fun v7 =>
 k [v7] s) [undef] s fun xs s =>
 un1 xs fun v7 =>
 kPick v4 v7 (.bool false) fun v8 =>
 k v8 s
theorem F79_ok (c_0 : Value) (s : AS) (k : Value → AS → Prop) : denFn Tryz.prog [] 79 [c_0] s k = F79 c_0 s k := by kernel_rfl
theorem f79 {c_0 : Value} {s : AS} {k : Value → AS → Prop} (h : F79 c_0 s k) : kCall Tryz.prog 79 [c_0] s k := denFn_ok [] (cast (F79_ok c_0 s k).symm h)
theorem k79_ok : okFn Tryz.prog 79 = true := by kernel_rfl

/- slices.AppendSeq[[]conch vars.Var,conch vars.Var] -/
def F80 (s_0 seq_1 : Value) (s : AS) (k : Value → AS → Prop) : Prop :=
 kNew s (cellsV s_0) fun s_2 s =>
 kJoin (fun xs s =>
 un1 xs fun v13 =>
 kLd s s_2 fun v12 =>
 kFin (valsOf v13) s fun s =>
 k v12 s) fun J1 =>
 kRng Tryz.prog seq_1 (fun xs s bg k =>
 xs.length = 1 ∧ (
 un1 xs fun v7 =>
 kNew s [(.string (bs [])), (.string (bs [])), (.bool false), (.bool false), (.bool false)] fun v_5 s =>
 kSt s 5 v_5 v7 fun s =>
 bg s fun s =>
 kLd s s_2 fun v8 =>
 kLdN s 5 v_5 fun v9 =>
 kBsl s 1 [(.string (bs [])), (.string (bs [])), (.bool false), (.bool false), (.bool false)] [(0, 5, v9)] fun v10 s =>
 kApp Tryz.prog 41 41 v8 v10 s fun v11 s =>
 kSt s 1 s_2 v11 fun s =>
 k s)) s fun m2 s =>
 J1 [(consM m2 undef)] s
theorem F80_ok (s_0 seq_1 : Value) (s : AS) (k : Value → AS → Prop) : denFn Tryz.prog [] 80 [s_0, seq_1] s k = F80 s_0 seq_1 s k := by kernel_rfl
theorem f80 {s_0 seq_1 : Value} {s : AS} {k : Value → AS → Prop} (h : F80 s_0 seq_1 s k) : kCall Tryz.prog 80 [s_0, seq_1] s k := denFn_ok [] (cast (F80_ok s_0 seq_1 s k).symm h)
theorem k80_ok : okFn Tryz.prog 80 = true := by kernel_rfl

end Go.Proofs.YtkpnackmijjciaaGreatDoor
