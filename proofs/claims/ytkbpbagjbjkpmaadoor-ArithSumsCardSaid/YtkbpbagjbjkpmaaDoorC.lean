/- The walks of the functions, printed by a program of this proof, each held against the loaded program by the kernel. Conditions: none. -/
import Derived.Test.YtkbpbagjbjkpmaaDoorProg
import Derived.Test.YtkbpbagjbjkpmaaDoorF6
namespace Go.Proofs.YtkbpbagjbjkpmaaDoor
open E
set_option maxRecDepth 100000
set_option linter.unusedVariables false

/- conch conchlaw03.ArithSums -/
def F3 (a_0 b_1 : Value) (s : AS) (k : Value → AS → Prop) : Prop :=
 kCall Tryd.prog 5 [a_0] s fun v25 s =>
 kBuild [(.string (bs [])), (.string (bs []))] [(0, 1, (.string (bs [97]))), (1, 1, v25)] fun v26 =>
 kCall Tryd.prog 5 [b_1] s fun v28 s =>
 kBuild [(.string (bs [])), (.string (bs []))] [(0, 1, (.string (bs [98]))), (1, 1, v28)] fun v29 =>
 kBsl s 2 [(.string (bs [])), (.string (bs [])), (.string (bs [])), (.string (bs []))] [(0, 2, v26), (2, 2, v29)] fun v30 s =>
 kBsl s 10 [(.string (bs [])), (.string (bs [])), (.string (bs [])), (.string (bs [])), (.string (bs [])), (.string (bs [])), (.string (bs [])), (.string (bs [])), (.string (bs [])), (.string (bs []))] [(0, 1, (.string (bs [97, 32, 43, 32, 98]))), (1, 1, (.string (bs [97, 32, 45, 32, 98]))), (2, 1, (.string (bs [97, 32, 42, 32, 98]))), (3, 1, (.string (bs [97, 32, 38, 32, 98]))), (4, 1, (.string (bs [97, 32, 124, 32, 98]))), (5, 1, (.string (bs [97, 32, 94, 32, 98]))), (6, 1, (.string (bs [45, 97]))), (7, 1, (.string (bs [126, 97]))), (8, 1, (.string (bs [97, 32, 60, 60, 32, 49]))), (9, 1, (.string (bs [97, 32, 62, 62, 32, 54, 51])))] fun v31 s =>
 kBin .add a_0 b_1 fun v34 =>
 kBin .sub a_0 b_1 fun v37 =>
 kBin .mul a_0 b_1 fun v40 =>
 kBin .and a_0 b_1 fun v43 =>
 kBin .or a_0 b_1 fun v46 =>
 kBin .xor a_0 b_1 fun v49 =>
 kUn .neg a_0 fun v51 =>
 kUn .xor a_0 fun v53 =>
 kSft .shl a_0 (.int .u64 1) fun v55 =>
 kSft .shr a_0 (.int .u64 63) fun v57 =>
 kBsl s 10 [(.int .i64 0), (.int .i64 0), (.int .i64 0), (.int .i64 0), (.int .i64 0), (.int .i64 0), (.int .i64 0), (.int .i64 0), (.int .i64 0), (.int .i64 0)] [(0, 1, v34), (1, 1, v37), (2, 1, v40), (3, 1, v43), (4, 1, v46), (5, 1, v49), (6, 1, v51), (7, 1, v53), (8, 1, v55), (9, 1, v57)] fun v58 s =>
 kJoin (fun _ s =>
 kBsl s 6 [(.string (bs [])), (.string (bs [])), (.string (bs [])), (.string (bs [])), (.string (bs [])), (.string (bs []))] [(0, 1, (.string (bs [97, 32, 60, 32, 98]))), (1, 1, (.string (bs [97, 32, 60, 61, 32, 98]))), (2, 1, (.string (bs [97, 32, 62, 32, 98]))), (3, 1, (.string (bs [97, 32, 62, 61, 32, 98]))), (4, 1, (.string (bs [97, 32, 61, 61, 32, 98]))), (5, 1, (.string (bs [97, 32, 33, 61, 32, 98])))] fun v90 s =>
 kBin .lss a_0 b_1 fun v93 =>
 kBin .leq a_0 b_1 fun v96 =>
 kBin .gtr a_0 b_1 fun v99 =>
 kBin .geq a_0 b_1 fun v102 =>
 kBin .eql a_0 b_1 fun v105 =>
 kBin .neq a_0 b_1 fun v108 =>
 kBsl s 6 [(.bool false), (.bool false), (.bool false), (.bool false), (.bool false), (.bool false)] [(0, 1, v93), (1, 1, v96), (2, 1, v99), (3, 1, v102), (4, 1, v105), (5, 1, v108)] fun v109 s =>
 kJoin (fun _ s =>
 kJoin (fun _ s =>
 kCall Tryd.prog 6 [(.string (bs [97, 32, 47, 32, 98, 32, 42, 32, 98, 32, 43, 32, 97, 32, 37, 32, 98, 32, 45, 32, 97])), v30] s fun v160 s =>
 kExt 0 v160 fun v161 =>
 kExt 1 v160 fun v162 =>
 kExt 2 v160 fun v163 =>
 kBin .eql v161 (.int .i64 0) fun v165 =>
 kGrd v165 true (fun k =>
 kBin .eql v163 (.int .i64 0) fun v168 =>
 k [v168] s) [undef] s fun xs s =>
 un1 xs fun v168 =>
 kPick v165 v168 (.bool false) fun v169 =>
 kGrd v169 true (fun k =>
 kCall Tryd.prog 7 [] s fun v171 s =>
 k [v171] s) [undef] s fun xs s =>
 un1 xs fun v171 =>
 kPick v169 v171 (.bool false) fun v172 =>
 k v172 s) fun J3 =>
 kBin .eql b_1 (.int .i64 0) fun v146 =>
 kCond v146 (
 kCall Tryd.prog 6 [(.string (bs [97, 32, 37, 32, 98])), v30] s fun v149 s =>
 kExt 0 v149 fun v150 =>
 kExt 1 v149 fun v151 =>
 kExt 2 v149 fun v152 =>
 kBin .eql v152 (.int .i64 13) fun v154 =>
 kGrd v154 true (fun k =>
 kCall Tryd.prog 7 [] s fun v156 s =>
 k [v156] s) [undef] s fun xs s =>
 un1 xs fun v156 =>
 kPick v154 v156 (.bool false) fun v157 =>
 k v157 s) (
 J3 [] s)) fun J2 =>
 kLoop (fun again4 xs s =>
 un1 xs fun i_14 =>
 kJoin (fun _ s =>
 kJoin (fun _ s =>
 kBin .add i_14 (.int .i64 1) fun v115 =>
 again4 [v115] s) fun J6 =>
 kIdx 1 v90 i_14 fun v119 =>
 kLd s v119 fun v120 =>
 kCall Tryd.prog 6 [v120, v30] s fun v122 s =>
 kExt 0 v122 fun v123 =>
 kExt 1 v122 fun v124 =>
 kExt 2 v122 fun v125 =>
 kBin .eql v123 (.int .i64 1) fun v127 =>
 kIdx 1 v109 i_14 fun v130 =>
 kLd s v130 fun v131 =>
 kEq 4 true v127 v131 fun v132 =>
 kGrd v132 false (fun k =>
 kBin .neq v123 (.int .i64 0) fun v135 =>
 k [v135] s) [undef] s fun xs s =>
 un1 xs fun v136 =>
 kGrd v136 true (fun k =>
 kBin .neq v123 (.int .i64 1) fun v138 =>
 k [v138] s) [undef] s fun xs s =>
 un1 xs fun v138 =>
 kGrd v132 false (fun k =>
 kPick v136 v138 (.bool false) fun v139 =>
 k [v139] s) [undef] s fun xs s =>
 un1 xs fun v139 =>
 kPick v132 (.bool true) v139 fun v140 =>
 kGrd v140 false (fun k =>
 kBin .neq v125 (.int .i64 0) fun v143 =>
 k [v143] s) [undef] s fun xs s =>
 un1 xs fun v143 =>
 kPick v140 (.bool true) v143 fun v144 =>
 kCond v144 (
 k (.bool false) s) (
 J6 [] s)) fun J5 =>
 kLen false v90 fun v112 =>
 kBin .lss i_14 v112 fun v113 =>
 kCond v113 (
 J5 [] s) (
 J2 [] s)) [(.int .i64 0)] s) fun J1 =>
 kLoop (fun again7 xs s =>
 un1 xs fun i_8 =>
 kJoin (fun _ s =>
 kJoin (fun _ s =>
 kBin .add i_8 (.int .i64 1) fun v64 =>
 again7 [v64] s) fun J9 =>
 kIdx 1 v31 i_8 fun v68 =>
 kLd s v68 fun v69 =>
 kCall Tryd.prog 6 [v69, v30] s fun v71 s =>
 kExt 0 v71 fun v72 =>
 kExt 1 v71 fun v73 =>
 kExt 2 v71 fun v74 =>
 kIdx 1 v58 i_8 fun v78 =>
 kLd s v78 fun v79 =>
 kBin .neq v72 v79 fun v80 =>
 kGrd v80 false (fun k =>
 kLen false v73 fun v83 =>
 kBin .neq v83 (.int .i64 0) fun v84 =>
 k [v84] s) [undef] s fun xs s =>
 un1 xs fun v84 =>
 kPick v80 (.bool true) v84 fun v85 =>
 kGrd v85 false (fun k =>
 kBin .neq v74 (.int .i64 0) fun v88 =>
 k [v88] s) [undef] s fun xs s =>
 un1 xs fun v88 =>
 kPick v85 (.bool true) v88 fun v89 =>
 kCond v89 (
 k (.bool false) s) (
 J9 [] s)) fun J8 =>
 kLen false v31 fun v61 =>
 kBin .lss i_8 v61 fun v62 =>
 kCond v62 (
 J8 [] s) (
 J1 [] s)) [(.int .i64 0)] s
theorem F3_ok (a_0 b_1 : Value) (s : AS) (k : Value → AS → Prop) : denFn Tryd.prog [] 3 [a_0, b_1] s k = F3 a_0 b_1 s k := by kernel_rfl
theorem f3 {a_0 b_1 : Value} {s : AS} {k : Value → AS → Prop} (h : F3 a_0 b_1 s k) : kCall Tryd.prog 3 [a_0, b_1] s k := fn_by (F3_ok a_0 b_1 s k) h
theorem k3_ok : okFn Tryd.prog 3 = true := by kernel_rfl

/- conch conchlaw03.ArithSets -/
def F4 (a_0 b_1 : Value) (s : AS) (k : Value → AS → Prop) : Prop :=
 kCall Tryd.prog 5 [a_0] s fun v10 s =>
 kBuild [(.string (bs [])), (.string (bs []))] [(0, 1, (.string (bs [97]))), (1, 1, v10)] fun v11 =>
 kCall Tryd.prog 5 [b_1] s fun v13 s =>
 kBuild [(.string (bs [])), (.string (bs []))] [(0, 1, (.string (bs [98]))), (1, 1, v13)] fun v14 =>
 kBsl s 2 [(.string (bs [])), (.string (bs [])), (.string (bs [])), (.string (bs []))] [(0, 2, v11), (2, 2, v14)] fun v15 s =>
 kCall Tryd.prog 6 [(.string (bs [99, 32, 61, 32, 97, 32, 45, 32, 98])), v15] s fun v18 s =>
 kExt 0 v18 fun v19 =>
 kExt 1 v18 fun v20 =>
 kExt 2 v18 fun v21 =>
 kJoin (fun _ s =>
 kCall Tryd.prog 6 [(.string (bs [40, 97, 32, 43, 61, 32, 98, 41, 32, 45, 32, 97])), v15] s fun v56 s =>
 kExt 0 v56 fun v57 =>
 kExt 1 v56 fun v58 =>
 kExt 2 v56 fun v59 =>
 kJoin (fun _ s =>
 kCall Tryd.prog 6 [(.string (bs [97, 32, 63, 32, 40, 120, 32, 61, 32, 98, 41, 32, 58, 32, 40, 121, 32, 61, 32, 98, 41])), v15] s fun v84 s =>
 kExt 0 v84 fun v85 =>
 kExt 1 v84 fun v86 =>
 kExt 2 v84 fun v87 =>
 kJoin (fun _ s =>
 kCall Tryd.prog 6 [(.string (bs [49, 32, 124, 124, 32, 40, 120, 32, 61, 32, 49, 32, 47, 32, 48, 41])), v15] s fun v112 s =>
 kExt 0 v112 fun v113 =>
 kExt 1 v112 fun v114 =>
 kExt 2 v112 fun v115 =>
 kBin .eql v113 (.int .i64 1) fun v117 =>
 kGrd v117 true (fun k =>
 kLen false v114 fun v120 =>
 kBin .eql v120 (.int .i64 0) fun v121 =>
 k [v121] s) [undef] s fun xs s =>
 un1 xs fun v121 =>
 kPick v117 v121 (.bool false) fun v122 =>
 kGrd v122 true (fun k =>
 kBin .eql v115 (.int .i64 0) fun v125 =>
 k [v125] s) [undef] s fun xs s =>
 un1 xs fun v125 =>
 kPick v122 v125 (.bool false) fun v126 =>
 kGrd v126 true (fun k =>
 kCall Tryd.prog 7 [] s fun v128 s =>
 k [v128] s) [undef] s fun xs s =>
 un1 xs fun v128 =>
 kPick v126 v128 (.bool false) fun v129 =>
 k v129 s) fun J3 =>
 kBin .neq v85 b_1 fun v90 =>
 kGrd v90 false (fun k =>
 kLen false v86 fun v93 =>
 kBin .neq v93 (.int .i64 1) fun v94 =>
 k [v94] s) [undef] s fun xs s =>
 un1 xs fun v94 =>
 kPick v90 (.bool true) v94 fun v95 =>
 kGrd v95 false (fun k =>
 kIdx 2 v86 (.int .i64 0) fun v98 =>
 kFld 0 v98 fun v99 =>
 kLd s v99 fun v100 =>
 kBin .eql v100 (.string (bs [120])) fun v101 =>
 kBin .neq a_0 (.int .i64 0) fun v103 =>
 kEq 4 true v101 v103 fun v104 =>
 k [v104] s) [undef] s fun xs s =>
 un1 xs fun v104 =>
 kPick v95 (.bool true) v104 fun v105 =>
 kGrd v105 false (fun k =>
 kBin .neq v87 (.int .i64 0) fun v108 =>
 k [v108] s) [undef] s fun xs s =>
 un1 xs fun v108 =>
 kPick v105 (.bool true) v108 fun v109 =>
 kCond v109 (
 k (.bool false) s) (
 J3 [] s)) fun J2 =>
 kBin .neq v57 (.int .i64 0) fun v61 =>
 kGrd v61 false (fun k =>
 kLen false v58 fun v64 =>
 kBin .neq v64 (.int .i64 1) fun v65 =>
 k [v65] s) [undef] s fun xs s =>
 un1 xs fun v65 =>
 kPick v61 (.bool true) v65 fun v66 =>
 kGrd v66 false (fun k =>
 kIdx 2 v58 (.int .i64 0) fun v69 =>
 kFld 1 v69 fun v70 =>
 kBin .add a_0 b_1 fun v74 =>
 kLd s v70 fun v71 =>
 kCall Tryd.prog 5 [v74] s fun v75 s =>
 kChk s v70 v71 (
 kBin .neq v71 v75 fun v76 =>
 k [v76] s)) [undef] s fun xs s =>
 un1 xs fun v76 =>
 kPick v66 (.bool true) v76 fun v77 =>
 kGrd v77 false (fun k =>
 kBin .neq v59 (.int .i64 0) fun v80 =>
 k [v80] s) [undef] s fun xs s =>
 un1 xs fun v80 =>
 kPick v77 (.bool true) v80 fun v81 =>
 kCond v81 (
 k (.bool false) s) (
 J2 [] s)) fun J1 =>
 kBin .sub a_0 b_1 fun v25 =>
 kBin .neq v19 v25 fun v26 =>
 kGrd v26 false (fun k =>
 kLen false v20 fun v29 =>
 kBin .neq v29 (.int .i64 1) fun v30 =>
 k [v30] s) [undef] s fun xs s =>
 un1 xs fun v30 =>
 kPick v26 (.bool true) v30 fun v31 =>
 kGrd v31 false (fun k =>
 kIdx 2 v20 (.int .i64 0) fun v34 =>
 kFld 0 v34 fun v35 =>
 kLd s v35 fun v36 =>
 kBin .neq v36 (.string (bs [99])) fun v37 =>
 k [v37] s) [undef] s fun xs s =>
 un1 xs fun v37 =>
 kPick v31 (.bool true) v37 fun v38 =>
 kGrd v38 false (fun k =>
 kIdx 2 v20 (.int .i64 0) fun v41 =>
 kFld 1 v41 fun v42 =>
 kBin .sub a_0 b_1 fun v46 =>
 kLd s v42 fun v43 =>
 kCall Tryd.prog 5 [v46] s fun v47 s =>
 kChk s v42 v43 (
 kBin .neq v43 v47 fun v48 =>
 k [v48] s)) [undef] s fun xs s =>
 un1 xs fun v48 =>
 kPick v38 (.bool true) v48 fun v49 =>
 kGrd v49 false (fun k =>
 kBin .neq v21 (.int .i64 0) fun v52 =>
 k [v52] s) [undef] s fun xs s =>
 un1 xs fun v52 =>
 kPick v49 (.bool true) v52 fun v53 =>
 kCond v53 (
 k (.bool false) s) (
 J1 [] s)
theorem F4_ok (a_0 b_1 : Value) (s : AS) (k : Value → AS → Prop) : denFn Tryd.prog [(3, (.go 0 (.go 1 (.go 2 (.go 3 (.go 4 (.go 5 (.go 6 (.go 7 (.go 8 (.go 9 (.go 10 (.go 11 (.go 12 (.go 13 (.go 14 (.go 15 (.go 16 (.go 17 (.go 18 (.go 19 (.go 20 (.go 22 (.go 23 (.go 24 (.go 21 (.go 25 (.go 26 (.go 27 (.go 28 (.go 29 (.go 30 (.go 31 .done))))))))))))))))))))))))))))))))), (6, (.go 0 (.go 1 (.go 2 (.go 3 (.go 4 (.go 5 (.go 6 (.go 7 (.go 8 (.go 9 (.go 10 (.go 12 (.go 13 (.go 14 (.go 11 (.go 15 (.go 16 (.go 17 (.go 18 (.go 19 (.go 20 (.go 21 .done)))))))))))))))))))))))] 4 [a_0, b_1] s k = F4 a_0 b_1 s k := by kernel_rfl
theorem f4 {a_0 b_1 : Value} {s : AS} {k : Value → AS → Prop} (h : F4 a_0 b_1 s k) : kCall Tryd.prog 4 [a_0, b_1] s k := fn_by (F4_ok a_0 b_1 s k) h
theorem k4_ok : okFn Tryd.prog 4 = true := by kernel_rfl

/- conch chars.Text -/
def F5 (n_0 : Value) (s : AS) (k : Value → AS → Prop) : Prop :=
 kCall Tryd.prog 8 [n_0] s fun v4 s =>
 k v4 s
theorem F5_ok (n_0 : Value) (s : AS) (k : Value → AS → Prop) : denFn Tryd.prog [] 5 [n_0] s k = F5 n_0 s k := by kernel_rfl
theorem f5 {n_0 : Value} {s : AS} {k : Value → AS → Prop} (h : F5 n_0 s k) : kCall Tryd.prog 5 [n_0] s k := fn_by (F5_ok n_0 s k) h
theorem k5_ok : okFn Tryd.prog 5 = true := by kernel_rfl

/- conch arith.Eval -/
def F6 (s_0 vars_1 : Value) (s : AS) (k : Value → AS → Prop) : Prop :=
 kJoin (fun _ s =>
 kCall Tryd.prog 9 [] s fun v13 s =>
 kBuild [(.string (bs [])), (.map none), (.slice none 0 0), (.slice none 0 0), (.int .i64 0), (.bool false), (.int .i64 0)] [(0, 1, s_0), (1, 1, v13), (2, 1, vars_1)] fun v15 =>
 kNew s (cellsV v15) fun v16 s =>
 kJoin (fun _ s =>
 kCall Tryd.prog 11 [v16] s fun v21 s =>
 kJoin (fun _ s =>
 kNck v16 fun v44 =>
 kFld 3 v44 fun v45 =>
 kLd s v45 fun v46 =>
 k (.tuple #[v21, v46, (.int .i64 0)]) s) fun J3 =>
 kNck v16 fun v24 =>
 kFld 5 v24 fun v25 =>
 kLd s v25 fun v26 =>
 kGrd v26 false (fun k =>
 kCall Tryd.prog 10 [v16] s fun v29 s =>
 kBin .neq v29 (.string (bs [])) fun v30 =>
 k [v30] s) [undef] s fun xs s =>
 un1 xs fun v30 =>
 kPick v26 (.bool true) v30 fun v31 =>
 kCond v31 (
 k (.tuple #[(.int .i64 0), (.slice none 0 0), (.int .i64 10)]) s) (
 kNck v16 fun v34 =>
 kFld 6 v34 fun v35 =>
 kLd s v35 fun v36 =>
 kBin .neq v36 (.int .i64 0) fun v37 =>
 kCond v37 (
 kNck v16 fun v39 =>
 kFld 6 v39 fun v40 =>
 kLd s v40 fun v41 =>
 k (.tuple #[(.int .i64 0), (.slice none 0 0), v41]) s) (
 J3 [] s))) fun J2 =>
 kCall Tryd.prog 10 [v16] s fun v18 s =>
 kBin .eql v18 (.string (bs [])) fun v19 =>
 kCond v19 (
 k (.tuple #[(.int .i64 0), (.slice none 0 0), (.int .i64 0)]) s) (
 J2 [] s)) fun J1 =>
 kLen true s_0 fun v10 =>
 kBin .gtr v10 (.int .i64 4096) fun v11 =>
 kCond v11 (
 k (.tuple #[(.int .i64 0), (.slice none 0 0), (.int .i64 3)]) s) (
 J1 [] s)
theorem F6_ok (s_0 vars_1 : Value) (s : AS) (k : Value → AS → Prop) : denFn Tryd.prog [(10, (.go 0 (.go 1 (.go 2 (.go 4 (.go 5 (.go 3 (.go 6 .done)))))))), (11, (.go 0 (.go 1 (.go 2 (.go 3 (.go 5 (.go 4 (.go 6 (.go 7 .done)))))))))] 6 [s_0, vars_1] s k = F6 s_0 vars_1 s k := by kernel_rfl
theorem f6 {s_0 vars_1 : Value} {s : AS} {k : Value → AS → Prop} (h : F6 s_0 vars_1 s k) : kCall Tryd.prog 6 [s_0, vars_1] s k := fn_by (F6_ok s_0 vars_1 s k) h
theorem k6_ok : okFn Tryd.prog 6 = true := by kernel_rfl

/- conch conchlaw03.awake -/
def F7 (s : AS) (k : Value → AS → Prop) : Prop :=
 kBuild [(.string (bs [])), (.string (bs []))] [(0, 1, (.string (bs [120]))), (1, 1, (.string (bs [53])))] fun v17 =>
 kBsl s 1 [(.string (bs [])), (.string (bs []))] [(0, 2, v17)] fun v18 s =>
 kCall Tryd.prog 6 [(.string (bs [49, 32, 43, 32, 50, 32, 42, 32, 51])), (.slice none 0 0)] s fun v20 s =>
 kExt 0 v20 fun v21 =>
 kExt 1 v20 fun v22 =>
 kExt 2 v20 fun v23 =>
 kCall Tryd.prog 6 [(.string (bs [121, 32, 61, 32, 120, 32, 60, 60, 32, 49])), v18] s fun v26 s =>
 kExt 0 v26 fun v27 =>
 kExt 1 v26 fun v28 =>
 kExt 2 v26 fun v29 =>
 kCall Tryd.prog 6 [(.string (bs [48, 32, 38, 38, 32, 49, 32, 47, 32, 48])), (.slice none 0 0)] s fun v31 s =>
 kExt 0 v31 fun v32 =>
 kExt 1 v31 fun v33 =>
 kExt 2 v31 fun v34 =>
 kCall Tryd.prog 6 [(.string (bs [49, 32, 47, 32, 48])), (.slice none 0 0)] s fun v36 s =>
 kExt 0 v36 fun v37 =>
 kExt 1 v36 fun v38 =>
 kExt 2 v36 fun v39 =>
 kCall Tryd.prog 6 [(.string (bs [120, 32, 62, 32, 51, 32, 63, 32, 120, 32, 58, 32, 45, 120])), v18] s fun v42 s =>
 kExt 0 v42 fun v43 =>
 kExt 1 v42 fun v44 =>
 kExt 2 v42 fun v45 =>
 kBin .eql v21 (.int .i64 7) fun v47 =>
 kGrd v47 true (fun k =>
 kBin .eql v23 (.int .i64 0) fun v50 =>
 k [v50] s) [undef] s fun xs s =>
 un1 xs fun v50 =>
 kPick v47 v50 (.bool false) fun v51 =>
 kGrd v51 true (fun k =>
 kBin .eql v27 (.int .i64 10) fun v54 =>
 k [v54] s) [undef] s fun xs s =>
 un1 xs fun v54 =>
 kPick v51 v54 (.bool false) fun v55 =>
 kGrd v55 true (fun k =>
 kBin .eql v29 (.int .i64 0) fun v58 =>
 k [v58] s) [undef] s fun xs s =>
 un1 xs fun v58 =>
 kPick v55 v58 (.bool false) fun v59 =>
 kGrd v59 true (fun k =>
 kLen false v28 fun v62 =>
 kBin .eql v62 (.int .i64 1) fun v63 =>
 k [v63] s) [undef] s fun xs s =>
 un1 xs fun v63 =>
 kPick v59 v63 (.bool false) fun v64 =>
 kGrd v64 true (fun k =>
 kIdx 2 v28 (.int .i64 0) fun v67 =>
 kLdN s 2 v67 fun v68 =>
 kBuild [(.string (bs [])), (.string (bs []))] [(0, 1, (.string (bs [121]))), (1, 1, (.string (bs [49, 48])))] fun v69 =>
 kGen Tryd.prog (.bop .eql 24 (.tmp 68) (.tmp 69)) [v68, v69] s fun v70 s =>
 k [v70] s) [undef] s fun xs s =>
 un1 xs fun v70 =>
 kPick v64 v70 (.bool false) fun v71 =>
 kGrd v71 true (fun k =>
 kBin .eql v32 (.int .i64 0) fun v74 =>
 k [v74] s) [undef] s fun xs s =>
 un1 xs fun v74 =>
 kPick v71 v74 (.bool false) fun v75 =>
 kGrd v75 true (fun k =>
 kBin .eql v34 (.int .i64 0) fun v78 =>
 k [v78] s) [undef] s fun xs s =>
 un1 xs fun v78 =>
 kPick v75 v78 (.bool false) fun v79 =>
 kGrd v79 true (fun k =>
 kBin .eql v39 (.int .i64 13) fun v82 =>
 k [v82] s) [undef] s fun xs s =>
 un1 xs fun v82 =>
 kPick v79 v82 (.bool false) fun v83 =>
 kGrd v83 true (fun k =>
 kBin .eql v43 (.int .i64 5) fun v86 =>
 k [v86] s) [undef] s fun xs s =>
 un1 xs fun v86 =>
 kPick v83 v86 (.bool false) fun v87 =>
 kGrd v87 true (fun k =>
 kBin .eql v45 (.int .i64 0) fun v90 =>
 k [v90] s) [undef] s fun xs s =>
 un1 xs fun v90 =>
 kPick v87 v90 (.bool false) fun v91 =>
 k v91 s
theorem F7_ok (s : AS) (k : Value → AS → Prop) : denFn Tryd.prog [] 7 [] s k = F7 s k := by kernel_rfl
theorem f7 {s : AS} {k : Value → AS → Prop} (h : F7 s k) : kCall Tryd.prog 7 [] s k := fn_by (F7_ok s k) h
theorem k7_ok : okFn Tryd.prog 7 = true := by kernel_rfl

/- strconv.Itoa -/
def F8 (i_0 : Value) (s : AS) (k : Value → AS → Prop) : Prop :=
 kCall Tryd.prog 12 [i_0] s fun v4 s =>
 k v4 s
theorem F8_ok (i_0 : Value) (s : AS) (k : Value → AS → Prop) : denFn Tryd.prog [] 8 [i_0] s k = F8 i_0 s k := by kernel_rfl
theorem f8 {i_0 : Value} {s : AS} {k : Value → AS → Prop} (h : F8 i_0 s k) : kCall Tryd.prog 8 [i_0] s k := fn_by (F8_ok i_0 s k) h
theorem k8_ok : okFn Tryd.prog 8 = true := by kernel_rfl

/- conch arith.operators -/
def F9 (s : AS) (k : Value → AS → Prop) : Prop :=
 kMkm s fun v1 s =>
 kBuild [(.int .i64 0), .nilFunc] [(0, 1, (.int .i64 1)), (1, 1, .nilFunc)] fun v2 =>
 kGen Tryd.prog (.mup 36) [v1, (.string (bs [124, 124])), v2] s fun _ s =>
 kBuild [(.int .i64 0), .nilFunc] [(0, 1, (.int .i64 2)), (1, 1, .nilFunc)] fun v3 =>
 kGen Tryd.prog (.mup 36) [v1, (.string (bs [38, 38])), v3] s fun _ s =>
 kCall Tryd.prog 13 [(.func (.func 14) #[] #[])] s fun v4 s =>
 kBuild [(.int .i64 0), .nilFunc] [(0, 1, (.int .i64 3)), (1, 1, v4)] fun v5 =>
 kGen Tryd.prog (.mup 36) [v1, (.string (bs [124])), v5] s fun _ s =>
 kCall Tryd.prog 13 [(.func (.func 15) #[] #[])] s fun v6 s =>
 kBuild [(.int .i64 0), .nilFunc] [(0, 1, (.int .i64 4)), (1, 1, v6)] fun v7 =>
 kGen Tryd.prog (.mup 36) [v1, (.string (bs [94])), v7] s fun _ s =>
 kCall Tryd.prog 13 [(.func (.func 16) #[] #[])] s fun v8 s =>
 kBuild [(.int .i64 0), .nilFunc] [(0, 1, (.int .i64 5)), (1, 1, v8)] fun v9 =>
 kGen Tryd.prog (.mup 36) [v1, (.string (bs [38])), v9] s fun _ s =>
 kCall Tryd.prog 13 [(.func (.func 17) #[] #[])] s fun v10 s =>
 kBuild [(.int .i64 0), .nilFunc] [(0, 1, (.int .i64 6)), (1, 1, v10)] fun v11 =>
 kGen Tryd.prog (.mup 36) [v1, (.string (bs [61, 61])), v11] s fun _ s =>
 kCall Tryd.prog 13 [(.func (.func 19) #[] #[])] s fun v12 s =>
 kBuild [(.int .i64 0), .nilFunc] [(0, 1, (.int .i64 6)), (1, 1, v12)] fun v13 =>
 kGen Tryd.prog (.mup 36) [v1, (.string (bs [33, 61])), v13] s fun _ s =>
 kCall Tryd.prog 13 [(.func (.func 20) #[] #[])] s fun v14 s =>
 kBuild [(.int .i64 0), .nilFunc] [(0, 1, (.int .i64 7)), (1, 1, v14)] fun v15 =>
 kGen Tryd.prog (.mup 36) [v1, (.string (bs [60])), v15] s fun _ s =>
 kCall Tryd.prog 13 [(.func (.func 21) #[] #[])] s fun v16 s =>
 kBuild [(.int .i64 0), .nilFunc] [(0, 1, (.int .i64 7)), (1, 1, v16)] fun v17 =>
 kGen Tryd.prog (.mup 36) [v1, (.string (bs [60, 61])), v17] s fun _ s =>
 kCall Tryd.prog 13 [(.func (.func 22) #[] #[])] s fun v18 s =>
 kBuild [(.int .i64 0), .nilFunc] [(0, 1, (.int .i64 7)), (1, 1, v18)] fun v19 =>
 kGen Tryd.prog (.mup 36) [v1, (.string (bs [62])), v19] s fun _ s =>
 kCall Tryd.prog 13 [(.func (.func 23) #[] #[])] s fun v20 s =>
 kBuild [(.int .i64 0), .nilFunc] [(0, 1, (.int .i64 7)), (1, 1, v20)] fun v21 =>
 kGen Tryd.prog (.mup 36) [v1, (.string (bs [62, 61])), v21] s fun _ s =>
 kCall Tryd.prog 13 [(.func (.func 24) #[] #[])] s fun v22 s =>
 kBuild [(.int .i64 0), .nilFunc] [(0, 1, (.int .i64 8)), (1, 1, v22)] fun v23 =>
 kGen Tryd.prog (.mup 36) [v1, (.string (bs [60, 60])), v23] s fun _ s =>
 kCall Tryd.prog 13 [(.func (.func 25) #[] #[])] s fun v24 s =>
 kBuild [(.int .i64 0), .nilFunc] [(0, 1, (.int .i64 8)), (1, 1, v24)] fun v25 =>
 kGen Tryd.prog (.mup 36) [v1, (.string (bs [62, 62])), v25] s fun _ s =>
 kCall Tryd.prog 13 [(.func (.func 26) #[] #[])] s fun v26 s =>
 kBuild [(.int .i64 0), .nilFunc] [(0, 1, (.int .i64 9)), (1, 1, v26)] fun v27 =>
 kGen Tryd.prog (.mup 36) [v1, (.string (bs [43])), v27] s fun _ s =>
 kCall Tryd.prog 13 [(.func (.func 27) #[] #[])] s fun v28 s =>
 kBuild [(.int .i64 0), .nilFunc] [(0, 1, (.int .i64 9)), (1, 1, v28)] fun v29 =>
 kGen Tryd.prog (.mup 36) [v1, (.string (bs [45])), v29] s fun _ s =>
 kCall Tryd.prog 13 [(.func (.func 28) #[] #[])] s fun v30 s =>
 kBuild [(.int .i64 0), .nilFunc] [(0, 1, (.int .i64 10)), (1, 1, v30)] fun v31 =>
 kGen Tryd.prog (.mup 36) [v1, (.string (bs [42])), v31] s fun _ s =>
 kCall Tryd.prog 29 [(.func (.func 30) #[] #[]), (.int .i64 (-9223372036854775808))] s fun v32 s =>
 kBuild [(.int .i64 0), .nilFunc] [(0, 1, (.int .i64 10)), (1, 1, v32)] fun v33 =>
 kGen Tryd.prog (.mup 36) [v1, (.string (bs [47])), v33] s fun _ s =>
 kCall Tryd.prog 29 [(.func (.func 31) #[] #[]), (.int .i64 0)] s fun v34 s =>
 kBuild [(.int .i64 0), .nilFunc] [(0, 1, (.int .i64 10)), (1, 1, v34)] fun v35 =>
 kGen Tryd.prog (.mup 36) [v1, (.string (bs [37])), v35] s fun _ s =>
 k v1 s
theorem F9_ok (s : AS) (k : Value → AS → Prop) : denFn Tryd.prog [] 9 [] s k = F9 s k := by kernel_rfl
theorem f9 {s : AS} {k : Value → AS → Prop} (h : F9 s k) : kCall Tryd.prog 9 [] s k := fn_by (F9_ok s k) h
theorem k9_ok : okFn Tryd.prog 9 = true := by kernel_rfl

/- (*conch arith.worker).next -/
def F10 (w_0 : Value) (s : AS) (k : Value → AS → Prop) : Prop :=
 kCall Tryd.prog 32 [w_0] s fun v7 s =>
 kJoin (fun _ s =>
 kJoin (fun _ s =>
 kNck w_0 fun v47 =>
 kFld 0 v47 fun v48 =>
 kLd s v48 fun v49 =>
 kSubS v49 none (some (.int .i64 1)) fun v50 =>
 k v50 s) fun J2 =>
 kNck w_0 fun v42 =>
 kFld 0 v42 fun v43 =>
 kLd s v43 fun v44 =>
 kBin .eql v44 (.string (bs [])) fun v45 =>
 kCond v45 (
 k (.string (bs [])) s) (
 J2 [] s)) fun J1 =>
 kNck w_0 fun v9 =>
 kFld 0 v9 fun v10 =>
 kLd s v10 fun v11 =>
 kLen true v11 fun v12 =>
 kBin .gtr v12 (.int .i64 1) fun v13 =>
 kCond v13 (
 kNck w_0 fun v15 =>
 kFld 0 v15 fun v16 =>
 kLd s v16 fun v17 =>
 kSubS v17 none (some (.int .i64 2)) fun v18 =>
 kNck w_0 fun v21 =>
 kFld 1 v21 fun v22 =>
 kLd s v22 fun v23 =>
 kGen Tryd.prog (.lk 36 true) [v23, v18] s fun v25 s =>
 kExt 0 v25 fun v26 =>
 kExt 1 v25 fun v27 =>
 kNew s [(.int .i64 0), .nilFunc] fun v4 s =>
 kSt s 2 v4 v26 fun s =>
 kGrd v27 false (fun k =>
 kIxS v18 (.int .i64 1) fun v31 =>
 kBin .eql v31 (.int .u8 61) fun v32 =>
 k [v32] s) [undef] s fun xs s =>
 un1 xs fun v33 =>
 kGrd v33 true (fun k =>
 kIxS v18 (.int .i64 0) fun v35 =>
 kCall Tryd.prog 33 [(.string (bs [43, 45, 42, 47, 37])), v35] s fun v36 s =>
 kBin .geq v36 (.int .i64 0) fun v37 =>
 k [v37] s) [undef] s fun xs s =>
 un1 xs fun v37 =>
 kGrd v27 false (fun k =>
 kPick v33 v37 (.bool false) fun v38 =>
 k [v38] s) [undef] s fun xs s =>
 un1 xs fun v38 =>
 kPick v27 (.bool true) v38 fun v39 =>
 kCond v39 (
 k v18 s) (
 J1 [] s)) (
 J1 [] s)
theorem F10_ok (w_0 : Value) (s : AS) (k : Value → AS → Prop) : denFn Tryd.prog [] 10 [w_0] s k = F10 w_0 s k := by kernel_rfl
theorem f10 {w_0 : Value} {s : AS} {k : Value → AS → Prop} (h : F10 w_0 s k) : kCall Tryd.prog 10 [w_0] s k := fn_by (F10_ok w_0 s k) h
theorem k10_ok : okFn Tryd.prog 10 = true := by kernel_rfl

/- (*conch arith.worker).set -/
def F11 (w_0 : Value) (s : AS) (k : Value → AS → Prop) : Prop :=
 kCall Tryd.prog 32 [w_0] s fun v8 s =>
 kNck w_0 fun v10 =>
 kFld 0 v10 fun v11 =>
 kNck w_0 fun v14 =>
 kFld 0 v14 fun v15 =>
 kLd s v11 fun v12 =>
 kLd s v15 fun v16 =>
 kCall Tryd.prog 34 [v16] s fun v17 s =>
 kChk s v11 v12 (
 kSubS v12 none (some v17) fun v18 =>
 kJoin (fun _ s =>
 kNck w_0 fun v24 =>
 kFld 0 v24 fun v25 =>
 kLd s v25 fun v26 =>
 kLen true v18 fun v30 =>
 kSubS v26 (some v30) none fun v31 =>
 kNck w_0 fun v32 =>
 kFld 0 v32 fun v33 =>
 kSt s 1 v33 v31 fun s =>
 kCall Tryd.prog 10 [w_0] s fun v35 s =>
 kJoin (fun _ s =>
 kNck w_0 fun v52 =>
 kFld 0 v52 fun v53 =>
 kLd s v53 fun v54 =>
 kLen true v35 fun v56 =>
 kSubS v54 (some v56) none fun v57 =>
 kNck w_0 fun v58 =>
 kFld 0 v58 fun v59 =>
 kSt s 1 v59 v57 fun s =>
 kCall Tryd.prog 11 [w_0] s fun v61 s =>
 kJoin (fun xs s =>
 un1 xs fun n_6 =>
 kJoin (fun _ s =>
 k n_6 s) fun J4 =>
 kCall Tryd.prog 38 [w_0] s fun v73 s =>
 kCond v73 (
 kNck w_0 fun v76 =>
 kFld 3 v76 fun v77 =>
 kLd s v77 fun v78 =>
 kCall Tryd.prog 5 [n_6] s fun v81 s =>
 kChk s v77 v78 (
 kBuild [(.string (bs [])), (.string (bs []))] [(0, 1, v18), (1, 1, v81)] fun v82 =>
 kBsl s 1 [(.string (bs [])), (.string (bs []))] [(0, 2, v82)] fun v83 s =>
 kChk s v77 v78 (
 kApp Tryd.prog 25 25 v78 v83 s fun v84 s =>
 kNck w_0 fun v85 =>
 kFld 3 v85 fun v86 =>
 kSt s 1 v86 v84 fun s =>
 J4 [] s))) (
 J4 [] s)) fun J3 =>
 kBin .neq v35 (.string (bs [61])) fun v63 =>
 kCond v63 (
 kSubS v35 none (some (.int .i64 1)) fun v66 =>
 kCall Tryd.prog 37 [w_0, v18] s fun v69 s =>
 kCall Tryd.prog 36 [w_0, v66, v69, v61] s fun v71 s =>
 J3 [v71] s) (
 J3 [v61] s)) fun J2 =>
 kJoin (fun xs s =>
 un1 xs fun v43 =>
 kCond v43 (
 J2 [] s) (
 kNck w_0 fun v39 =>
 kFld 0 v39 fun v40 =>
 kSt s 1 v40 v26 fun s =>
 kCall Tryd.prog 35 [w_0] s fun v42 s =>
 k v42 s)) fun J5 =>
 kBin .eql v35 (.string (bs [43, 61])) fun v44 =>
 kCond v44 (
 J5 [v44] s) (
 kBin .eql v35 (.string (bs [45, 61])) fun v45 =>
 kCond v45 (
 J5 [v45] s) (
 kBin .eql v35 (.string (bs [42, 61])) fun v46 =>
 kCond v46 (
 J5 [v46] s) (
 kBin .eql v35 (.string (bs [47, 61])) fun v47 =>
 kCond v47 (
 J5 [v47] s) (
 kBin .eql v35 (.string (bs [37, 61])) fun v48 =>
 kCond v48 (
 J5 [v48] s) (
 kBin .eql v35 (.string (bs [61])) fun v49 =>
 J5 [v49] s)))))) fun J1 =>
 kBin .eql v18 (.string (bs [])) fun v20 =>
 kCond v20 (
 kCall Tryd.prog 35 [w_0] s fun v22 s =>
 k v22 s) (
 J1 [] s))
theorem F11_ok (w_0 : Value) (s : AS) (k : Value → AS → Prop) : denFn Tryd.prog [(2, (.go 0 (.go 1 (.go 2 (.go 4 (.go 5 (.go 6 (.go 3 (.go 7 (.go 8 (.go 9 (.go 10 .done)))))))))))), (20, (.go 0 (.go 1 (.go 2 (.go 3 (.go 4 (.go 6 (.go 5 (.go 7 (.go 8 .done)))))))))), (22, (.go 0 (.go 1 (.go 2 (.go 3 (.go 5 (.go 6 (.go 4 (.go 7 (.go 8 (.go 9 (.go 10 (.go 11 (.go 12 (.go 13 .done)))))))))))))))] 11 [w_0] s k = F11 w_0 s k := by kernel_rfl
theorem f11 {w_0 : Value} {s : AS} {k : Value → AS → Prop} (h : F11 w_0 s k) : kCall Tryd.prog 11 [w_0] s k := fn_by (F11_ok w_0 s k) h
theorem k11_ok : okFn Tryd.prog 11 = true := by kernel_rfl

/- internal strconv.Itoa -/
def F12 (i_0 : Value) (s : AS) (k : Value → AS → Prop) : Prop :=
 kCall Tryd.prog 39 [i_0, (.int .i64 10)] s fun v4 s =>
 k v4 s
theorem F12_ok (i_0 : Value) (s : AS) (k : Value → AS → Prop) : denFn Tryd.prog [] 12 [i_0] s k = F12 i_0 s k := by kernel_rfl
theorem f12 {i_0 : Value} {s : AS} {k : Value → AS → Prop} (h : F12 i_0 s k) : kCall Tryd.prog 12 [i_0] s k := fn_by (F12_ok i_0 s k) h
theorem k12_ok : okFn Tryd.prog 12 = true := by kernel_rfl

/- conch arith.plain -/
def F13 (f_0 : Value) (s : AS) (k : Value → AS → Prop) : Prop :=
 kNew s (cellsV f_0) fun f_1 s =>
 k (.func (.func 40) #[] #[f_1]) s
theorem F13_ok (f_0 : Value) (s : AS) (k : Value → AS → Prop) : denFn Tryd.prog [] 13 [f_0] s k = F13 f_0 s k := by kernel_rfl
theorem f13 {f_0 : Value} {s : AS} {k : Value → AS → Prop} (h : F13 f_0 s k) : kCall Tryd.prog 13 [f_0] s k := fn_by (F13_ok f_0 s k) h
theorem k13_ok : okFn Tryd.prog 13 = true := by kernel_rfl

/- conch arith.operators$1 -/
def F14 (a_0 b_1 : Value) (s : AS) (k : Value → AS → Prop) : Prop :=
 kBin .or a_0 b_1 fun v7 =>
 k v7 s
theorem F14_ok (a_0 b_1 : Value) (s : AS) (k : Value → AS → Prop) : denFn Tryd.prog [] 14 [a_0, b_1] s k = F14 a_0 b_1 s k := by kernel_rfl
theorem f14 {a_0 b_1 : Value} {s : AS} {k : Value → AS → Prop} (h : F14 a_0 b_1 s k) : kCall Tryd.prog 14 [a_0, b_1] s k := fn_by (F14_ok a_0 b_1 s k) h
theorem k14_ok : okFn Tryd.prog 14 = true := by kernel_rfl

/- conch arith.operators$2 -/
def F15 (a_0 b_1 : Value) (s : AS) (k : Value → AS → Prop) : Prop :=
 kBin .xor a_0 b_1 fun v7 =>
 k v7 s
theorem F15_ok (a_0 b_1 : Value) (s : AS) (k : Value → AS → Prop) : denFn Tryd.prog [] 15 [a_0, b_1] s k = F15 a_0 b_1 s k := by kernel_rfl
theorem f15 {a_0 b_1 : Value} {s : AS} {k : Value → AS → Prop} (h : F15 a_0 b_1 s k) : kCall Tryd.prog 15 [a_0, b_1] s k := fn_by (F15_ok a_0 b_1 s k) h
theorem k15_ok : okFn Tryd.prog 15 = true := by kernel_rfl

/- conch arith.operators$3 -/
def F16 (a_0 b_1 : Value) (s : AS) (k : Value → AS → Prop) : Prop :=
 kBin .and a_0 b_1 fun v7 =>
 k v7 s
theorem F16_ok (a_0 b_1 : Value) (s : AS) (k : Value → AS → Prop) : denFn Tryd.prog [] 16 [a_0, b_1] s k = F16 a_0 b_1 s k := by kernel_rfl
theorem f16 {a_0 b_1 : Value} {s : AS} {k : Value → AS → Prop} (h : F16 a_0 b_1 s k) : kCall Tryd.prog 16 [a_0, b_1] s k := fn_by (F16_ok a_0 b_1 s k) h
theorem k16_ok : okFn Tryd.prog 16 = true := by kernel_rfl

/- conch arith.operators$4 -/
def F17 (a_0 b_1 : Value) (s : AS) (k : Value → AS → Prop) : Prop :=
 kBin .eql a_0 b_1 fun v7 =>
 kCall Tryd.prog 18 [v7] s fun v8 s =>
 k v8 s
theorem F17_ok (a_0 b_1 : Value) (s : AS) (k : Value → AS → Prop) : denFn Tryd.prog [] 17 [a_0, b_1] s k = F17 a_0 b_1 s k := by kernel_rfl
theorem f17 {a_0 b_1 : Value} {s : AS} {k : Value → AS → Prop} (h : F17 a_0 b_1 s k) : kCall Tryd.prog 17 [a_0, b_1] s k := fn_by (F17_ok a_0 b_1 s k) h
theorem k17_ok : okFn Tryd.prog 17 = true := by kernel_rfl

/- conch arith.yes -/
def F18 (is_0 : Value) (s : AS) (k : Value → AS → Prop) : Prop :=
 kJoin (fun _ s =>
 k (.int .i64 0) s) fun J1 =>
 kCond is_0 (
 k (.int .i64 1) s) (
 J1 [] s)
theorem F18_ok (is_0 : Value) (s : AS) (k : Value → AS → Prop) : denFn Tryd.prog [] 18 [is_0] s k = F18 is_0 s k := by kernel_rfl
theorem f18 {is_0 : Value} {s : AS} {k : Value → AS → Prop} (h : F18 is_0 s k) : kCall Tryd.prog 18 [is_0] s k := fn_by (F18_ok is_0 s k) h
theorem k18_ok : okFn Tryd.prog 18 = true := by kernel_rfl

/- conch arith.operators$5 -/
def F19 (a_0 b_1 : Value) (s : AS) (k : Value → AS → Prop) : Prop :=
 kBin .neq a_0 b_1 fun v7 =>
 kCall Tryd.prog 18 [v7] s fun v8 s =>
 k v8 s
theorem F19_ok (a_0 b_1 : Value) (s : AS) (k : Value → AS → Prop) : denFn Tryd.prog [] 19 [a_0, b_1] s k = F19 a_0 b_1 s k := by kernel_rfl
theorem f19 {a_0 b_1 : Value} {s : AS} {k : Value → AS → Prop} (h : F19 a_0 b_1 s k) : kCall Tryd.prog 19 [a_0, b_1] s k := fn_by (F19_ok a_0 b_1 s k) h
theorem k19_ok : okFn Tryd.prog 19 = true := by kernel_rfl

/- conch arith.operators$6 -/
def F20 (a_0 b_1 : Value) (s : AS) (k : Value → AS → Prop) : Prop :=
 kBin .lss a_0 b_1 fun v7 =>
 kCall Tryd.prog 18 [v7] s fun v8 s =>
 k v8 s
theorem F20_ok (a_0 b_1 : Value) (s : AS) (k : Value → AS → Prop) : denFn Tryd.prog [] 20 [a_0, b_1] s k = F20 a_0 b_1 s k := by kernel_rfl
theorem f20 {a_0 b_1 : Value} {s : AS} {k : Value → AS → Prop} (h : F20 a_0 b_1 s k) : kCall Tryd.prog 20 [a_0, b_1] s k := fn_by (F20_ok a_0 b_1 s k) h
theorem k20_ok : okFn Tryd.prog 20 = true := by kernel_rfl

/- conch arith.operators$7 -/
def F21 (a_0 b_1 : Value) (s : AS) (k : Value → AS → Prop) : Prop :=
 kBin .leq a_0 b_1 fun v7 =>
 kCall Tryd.prog 18 [v7] s fun v8 s =>
 k v8 s
theorem F21_ok (a_0 b_1 : Value) (s : AS) (k : Value → AS → Prop) : denFn Tryd.prog [] 21 [a_0, b_1] s k = F21 a_0 b_1 s k := by kernel_rfl
theorem f21 {a_0 b_1 : Value} {s : AS} {k : Value → AS → Prop} (h : F21 a_0 b_1 s k) : kCall Tryd.prog 21 [a_0, b_1] s k := fn_by (F21_ok a_0 b_1 s k) h
theorem k21_ok : okFn Tryd.prog 21 = true := by kernel_rfl

/- conch arith.operators$8 -/
def F22 (a_0 b_1 : Value) (s : AS) (k : Value → AS → Prop) : Prop :=
 kBin .gtr a_0 b_1 fun v7 =>
 kCall Tryd.prog 18 [v7] s fun v8 s =>
 k v8 s
theorem F22_ok (a_0 b_1 : Value) (s : AS) (k : Value → AS → Prop) : denFn Tryd.prog [] 22 [a_0, b_1] s k = F22 a_0 b_1 s k := by kernel_rfl
theorem f22 {a_0 b_1 : Value} {s : AS} {k : Value → AS → Prop} (h : F22 a_0 b_1 s k) : kCall Tryd.prog 22 [a_0, b_1] s k := fn_by (F22_ok a_0 b_1 s k) h
theorem k22_ok : okFn Tryd.prog 22 = true := by kernel_rfl

/- conch arith.operators$9 -/
def F23 (a_0 b_1 : Value) (s : AS) (k : Value → AS → Prop) : Prop :=
 kBin .geq a_0 b_1 fun v7 =>
 kCall Tryd.prog 18 [v7] s fun v8 s =>
 k v8 s
theorem F23_ok (a_0 b_1 : Value) (s : AS) (k : Value → AS → Prop) : denFn Tryd.prog [] 23 [a_0, b_1] s k = F23 a_0 b_1 s k := by kernel_rfl
theorem f23 {a_0 b_1 : Value} {s : AS} {k : Value → AS → Prop} (h : F23 a_0 b_1 s k) : kCall Tryd.prog 23 [a_0, b_1] s k := fn_by (F23_ok a_0 b_1 s k) h
theorem k23_ok : okFn Tryd.prog 23 = true := by kernel_rfl

/- conch arith.operators$10 -/
def F24 (a_0 b_1 : Value) (s : AS) (k : Value → AS → Prop) : Prop :=
 kBin .and b_1 (.int .i64 63) fun v7 =>
 kSft .shl a_0 v7 fun v8 =>
 k v8 s
theorem F24_ok (a_0 b_1 : Value) (s : AS) (k : Value → AS → Prop) : denFn Tryd.prog [] 24 [a_0, b_1] s k = F24 a_0 b_1 s k := by kernel_rfl
theorem f24 {a_0 b_1 : Value} {s : AS} {k : Value → AS → Prop} (h : F24 a_0 b_1 s k) : kCall Tryd.prog 24 [a_0, b_1] s k := fn_by (F24_ok a_0 b_1 s k) h
theorem k24_ok : okFn Tryd.prog 24 = true := by kernel_rfl

/- conch arith.operators$11 -/
def F25 (a_0 b_1 : Value) (s : AS) (k : Value → AS → Prop) : Prop :=
 kBin .and b_1 (.int .i64 63) fun v7 =>
 kSft .shr a_0 v7 fun v8 =>
 k v8 s
theorem F25_ok (a_0 b_1 : Value) (s : AS) (k : Value → AS → Prop) : denFn Tryd.prog [] 25 [a_0, b_1] s k = F25 a_0 b_1 s k := by kernel_rfl
theorem f25 {a_0 b_1 : Value} {s : AS} {k : Value → AS → Prop} (h : F25 a_0 b_1 s k) : kCall Tryd.prog 25 [a_0, b_1] s k := fn_by (F25_ok a_0 b_1 s k) h
theorem k25_ok : okFn Tryd.prog 25 = true := by kernel_rfl

/- conch arith.operators$12 -/
def F26 (a_0 b_1 : Value) (s : AS) (k : Value → AS → Prop) : Prop :=
 kBin .add a_0 b_1 fun v7 =>
 k v7 s
theorem F26_ok (a_0 b_1 : Value) (s : AS) (k : Value → AS → Prop) : denFn Tryd.prog [] 26 [a_0, b_1] s k = F26 a_0 b_1 s k := by kernel_rfl
theorem f26 {a_0 b_1 : Value} {s : AS} {k : Value → AS → Prop} (h : F26 a_0 b_1 s k) : kCall Tryd.prog 26 [a_0, b_1] s k := fn_by (F26_ok a_0 b_1 s k) h
theorem k26_ok : okFn Tryd.prog 26 = true := by kernel_rfl

/- conch arith.operators$13 -/
def F27 (a_0 b_1 : Value) (s : AS) (k : Value → AS → Prop) : Prop :=
 kBin .sub a_0 b_1 fun v7 =>
 k v7 s
theorem F27_ok (a_0 b_1 : Value) (s : AS) (k : Value → AS → Prop) : denFn Tryd.prog [] 27 [a_0, b_1] s k = F27 a_0 b_1 s k := by kernel_rfl
theorem f27 {a_0 b_1 : Value} {s : AS} {k : Value → AS → Prop} (h : F27 a_0 b_1 s k) : kCall Tryd.prog 27 [a_0, b_1] s k := fn_by (F27_ok a_0 b_1 s k) h
theorem k27_ok : okFn Tryd.prog 27 = true := by kernel_rfl

/- conch arith.operators$14 -/
def F28 (a_0 b_1 : Value) (s : AS) (k : Value → AS → Prop) : Prop :=
 kBin .mul a_0 b_1 fun v7 =>
 k v7 s
theorem F28_ok (a_0 b_1 : Value) (s : AS) (k : Value → AS → Prop) : denFn Tryd.prog [] 28 [a_0, b_1] s k = F28 a_0 b_1 s k := by kernel_rfl
theorem f28 {a_0 b_1 : Value} {s : AS} {k : Value → AS → Prop} (h : F28 a_0 b_1 s k) : kCall Tryd.prog 28 [a_0, b_1] s k := fn_by (F28_ok a_0 b_1 s k) h
theorem k28_ok : okFn Tryd.prog 28 = true := by kernel_rfl

/- conch arith.over -/
def F29 (f_0 least_1 : Value) (s : AS) (k : Value → AS → Prop) : Prop :=
 kNew s (cellsV f_0) fun f_2 s =>
 kNew s (cellsV least_1) fun least_3 s =>
 k (.func (.func 41) #[] #[least_3, f_2]) s
theorem F29_ok (f_0 least_1 : Value) (s : AS) (k : Value → AS → Prop) : denFn Tryd.prog [] 29 [f_0, least_1] s k = F29 f_0 least_1 s k := by kernel_rfl
theorem f29 {f_0 least_1 : Value} {s : AS} {k : Value → AS → Prop} (h : F29 f_0 least_1 s k) : kCall Tryd.prog 29 [f_0, least_1] s k := fn_by (F29_ok f_0 least_1 s k) h
theorem k29_ok : okFn Tryd.prog 29 = true := by kernel_rfl

/- conch arith.operators$15 -/
def F30 (a_0 b_1 : Value) (s : AS) (k : Value → AS → Prop) : Prop :=
 kBin .quo a_0 b_1 fun v7 =>
 k v7 s
theorem F30_ok (a_0 b_1 : Value) (s : AS) (k : Value → AS → Prop) : denFn Tryd.prog [] 30 [a_0, b_1] s k = F30 a_0 b_1 s k := by kernel_rfl
theorem f30 {a_0 b_1 : Value} {s : AS} {k : Value → AS → Prop} (h : F30 a_0 b_1 s k) : kCall Tryd.prog 30 [a_0, b_1] s k := fn_by (F30_ok a_0 b_1 s k) h
theorem k30_ok : okFn Tryd.prog 30 = true := by kernel_rfl

/- conch arith.operators$16 -/
def F31 (a_0 b_1 : Value) (s : AS) (k : Value → AS → Prop) : Prop :=
 kBin .rem a_0 b_1 fun v7 =>
 k v7 s
theorem F31_ok (a_0 b_1 : Value) (s : AS) (k : Value → AS → Prop) : denFn Tryd.prog [] 31 [a_0, b_1] s k = F31 a_0 b_1 s k := by kernel_rfl
theorem f31 {a_0 b_1 : Value} {s : AS} {k : Value → AS → Prop} (h : F31 a_0 b_1 s k) : kCall Tryd.prog 31 [a_0, b_1] s k := fn_by (F31_ok a_0 b_1 s k) h
theorem k31_ok : okFn Tryd.prog 31 = true := by kernel_rfl

/- (*conch arith.worker).skip -/
def F32 (w_0 : Value) (s : AS) (k : Value → AS → Prop) : Prop :=
 kNck w_0 fun v4 =>
 kFld 0 v4 fun v5 =>
 kLd s v5 fun v6 =>
 kCall Tryd.prog 42 [v6, (.string (bs [32, 9, 10]))] s fun v7 s =>
 kNck w_0 fun v8 =>
 kFld 0 v8 fun v9 =>
 kSt s 1 v9 v7 fun s =>
 k undef s
theorem F32_ok (w_0 : Value) (s : AS) (k : Value → AS → Prop) : denFn Tryd.prog [] 32 [w_0] s k = F32 w_0 s k := by kernel_rfl
theorem f32 {w_0 : Value} {s : AS} {k : Value → AS → Prop} (h : F32 w_0 s k) : kCall Tryd.prog 32 [w_0] s k := fn_by (F32_ok w_0 s k) h
theorem k32_ok : okFn Tryd.prog 32 = true := by kernel_rfl

/- strings.IndexByte -/
def F33 (s_0 c_1 : Value) (s : AS) (k : Value → AS → Prop) : Prop :=
 kCall Tryd.prog 43 [s_0, c_1] s fun v7 s =>
 k v7 s
theorem F33_ok (s_0 c_1 : Value) (s : AS) (k : Value → AS → Prop) : denFn Tryd.prog [] 33 [s_0, c_1] s k = F33 s_0 c_1 s k := by kernel_rfl
theorem f33 {s_0 c_1 : Value} {s : AS} {k : Value → AS → Prop} (h : F33 s_0 c_1 s k) : kCall Tryd.prog 33 [s_0, c_1] s k := fn_by (F33_ok s_0 c_1 s k) h
theorem k33_ok : okFn Tryd.prog 33 = true := by kernel_rfl

/- conch chars.Front -/
def F34 (s_0 : Value) (s : AS) (k : Value → AS → Prop) : Prop :=
 kJoin (fun xs s =>
 un1 xs fun n_3 =>
 k n_3 s) fun J1 =>
 kLoop (fun again2 xs s =>
 un1 xs fun n_3 =>
 kJoin (fun _ s =>
 kBin .add n_3 (.int .i64 1) fun v25 =>
 again2 [v25] s) fun J3 =>
 kLen true s_0 fun v6 =>
 kBin .lss n_3 v6 fun v7 =>
 kGrd v7 true (fun k =>
 kIxS s_0 n_3 fun v11 =>
 kCall Tryd.prog 44 [v11] s fun v12 s =>
 k [v12] s) [undef] s fun xs s =>
 un1 xs fun v13 =>
 kGrd v13 false (fun k =>
 kBin .gtr n_3 (.int .i64 0) fun v15 =>
 k [v15] s) [undef] s fun xs s =>
 un1 xs fun v16 =>
 kGrd v16 true (fun k =>
 kIxS s_0 n_3 fun v19 =>
 kCall Tryd.prog 45 [v19] s fun v20 s =>
 k [v20] s) [undef] s fun xs s =>
 un1 xs fun v20 =>
 kGrd v13 false (fun k =>
 kPick v16 v20 (.bool false) fun v21 =>
 k [v21] s) [undef] s fun xs s =>
 un1 xs fun v21 =>
 kGrd v7 true (fun k =>
 kPick v13 (.bool true) v21 fun v22 =>
 k [v22] s) [undef] s fun xs s =>
 un1 xs fun v22 =>
 kPick v7 v22 (.bool false) fun v23 =>
 kCond v23 (
 J3 [] s) (
 J1 [n_3] s)) [(.int .i64 0)] s
theorem F34_ok (s_0 : Value) (s : AS) (k : Value → AS → Prop) : denFn Tryd.prog [] 34 [s_0] s k = F34 s_0 s k := by kernel_rfl
theorem f34 {s_0 : Value} {s : AS} {k : Value → AS → Prop} (h : F34 s_0 s k) : kCall Tryd.prog 34 [s_0] s k := fn_by (F34_ok s_0 s k) h
theorem k34_ok : okFn Tryd.prog 34 = true := by kernel_rfl

/- (*conch arith.worker).choice -/
def F35 (w_0 : Value) (s : AS) (k : Value → AS → Prop) : Prop :=
 kCall Tryd.prog 46 [w_0, (.int .i64 1)] s fun v7 s =>
 kJoin (fun _ s =>
 kNck w_0 fun v20 =>
 kFld 0 v20 fun v21 =>
 kLd s v21 fun v22 =>
 kSubS v22 (some (.int .i64 1)) none fun v23 =>
 kNck w_0 fun v24 =>
 kFld 0 v24 fun v25 =>
 kSt s 1 v25 v23 fun s =>
 kBin .neq v7 (.int .i64 0) fun v28 =>
 kCall Tryd.prog 47 [w_0, v28, (.func (.func 11) #[w_0] #[])] s fun v31 s =>
 kJoin (fun _ s =>
 kNck w_0 fun v40 =>
 kFld 0 v40 fun v41 =>
 kLd s v41 fun v42 =>
 kSubS v42 (some (.int .i64 1)) none fun v43 =>
 kNck w_0 fun v44 =>
 kFld 0 v44 fun v45 =>
 kSt s 1 v45 v43 fun s =>
 kBin .eql v7 (.int .i64 0) fun v48 =>
 kCall Tryd.prog 47 [w_0, v48, (.func (.func 35) #[w_0] #[])] s fun v51 s =>
 kJoin (fun _ s =>
 k v51 s) fun J3 =>
 kBin .neq v7 (.int .i64 0) fun v53 =>
 kCond v53 (
 k v31 s) (
 J3 [] s)) fun J2 =>
 kCall Tryd.prog 10 [w_0] s fun v33 s =>
 kBin .neq v33 (.string (bs [58])) fun v34 =>
 kCond v34 (
 kNck w_0 fun v36 =>
 kFld 5 v36 fun v37 =>
 kSt s 1 v37 (.bool true) fun s =>
 k (.int .i64 0) s) (
 J2 [] s)) fun J1 =>
 kCall Tryd.prog 10 [w_0] s fun v9 s =>
 kBin .neq v9 (.string (bs [63])) fun v10 =>
 kGrd v10 false (fun k =>
 kNck w_0 fun v13 =>
 kFld 5 v13 fun v14 =>
 kLd s v14 fun v15 =>
 k [v15] s) [undef] s fun xs s =>
 un1 xs fun v15 =>
 kPick v10 (.bool true) v15 fun v16 =>
 kCond v16 (
 k v7 s) (
 J1 [] s)
theorem F35_ok (w_0 : Value) (s : AS) (k : Value → AS → Prop) : denFn Tryd.prog [] 35 [w_0] s k = F35 w_0 s k := by kernel_rfl
theorem f35 {w_0 : Value} {s : AS} {k : Value → AS → Prop} (h : F35 w_0 s k) : kCall Tryd.prog 35 [w_0] s k := fn_by (F35_ok w_0 s k) h
theorem k35_ok : okFn Tryd.prog 35 = true := by kernel_rfl

/- (*conch arith.worker).does -/
def F36 (w_0 op_1 a_2 b_3 : Value) (s : AS) (k : Value → AS → Prop) : Prop :=
 kJoin (fun _ s =>
 kNck w_0 fun v16 =>
 kFld 1 v16 fun v17 =>
 kLd s v17 fun v18 =>
 kGen Tryd.prog (.lk 36 false) [v18, op_1] s fun v20 s =>
 kGet 1 v20 fun v21 =>
 kCallv Tryd.prog v21 [a_2, b_3] s fun v24 s =>
 kExt 0 v24 fun v25 =>
 kExt 1 v24 fun v26 =>
 kNck w_0 fun v29 =>
 kFld 6 v29 fun v30 =>
 kSt s 1 v30 v26 fun s =>
 k v25 s) fun J1 =>
 kCall Tryd.prog 38 [w_0] s fun v12 s =>
 kUn .not v12 fun v13 =>
 kCond v13 (
 k (.int .i64 0) s) (
 J1 [] s)
theorem F36_ok (w_0 op_1 a_2 b_3 : Value) (s : AS) (k : Value → AS → Prop) : denFn Tryd.prog [] 36 [w_0, op_1, a_2, b_3] s k = F36 w_0 op_1 a_2 b_3 s k := by kernel_rfl
theorem f36 {w_0 op_1 a_2 b_3 : Value} {s : AS} {k : Value → AS → Prop} (h : F36 w_0 op_1 a_2 b_3 s k) : kCall Tryd.prog 36 [w_0, op_1, a_2, b_3] s k := fn_by (F36_ok w_0 op_1 a_2 b_3 s k) h
theorem k36_ok : okFn Tryd.prog 36 = true := by kernel_rfl

/- (*conch arith.worker).ask -/
def F37 (w_0 name_1 : Value) (s : AS) (k : Value → AS → Prop) : Prop :=
 kNew s (cellsV name_1) fun name_3 s =>
 kJoin (fun _ s =>
 kJoin (fun xs s =>
 un1 xs fun value_6 =>
 kJoin (fun xs s =>
 un1 xs fun value_6 =>
 kCall Tryd.prog 50 [value_6] s fun v49 s =>
 kExt 0 v49 fun v50 =>
 kExt 1 v49 fun v51 =>
 kNck w_0 fun v54 =>
 kFld 6 v54 fun v55 =>
 kSt s 1 v55 v51 fun s =>
 k v50 s) fun J3 =>
 kNck w_0 fun v33 =>
 kFld 3 v33 fun v34 =>
 kLd s v34 fun v35 =>
 kLen false v35 fun v36 =>
 kLoop (fun again4 xs s =>
 un2 xs fun value_6 v37 =>
 kBin .lss v37 v36 fun v38 =>
 kJoin (fun _ s =>
 kJoin (fun xs s =>
 un1 xs fun value_6 =>
 kBin .add v37 (.int .i64 1) fun v46 =>
 again4 [value_6, v46] s) fun J6 =>
 kIdx 2 v35 v37 fun v39 =>
 kLdN s 2 v39 fun v40 =>
 kNew s [(.string (bs [])), (.string (bs []))] fun p_9 s =>
 kSt s 2 p_9 v40 fun s =>
 kLdN s 2 p_9 fun v42 =>
 kCallv Tryd.prog (.func (.func 48) #[] #[name_3]) [v42] s fun v43 s =>
 kCond v43 (
 kFld 1 p_9 fun v44 =>
 kLd s v44 fun v45 =>
 J6 [v45] s) (
 J6 [value_6] s)) fun J5 =>
 kCond v38 (
 J5 [] s) (
 J3 [value_6] s)) [value_6, (.int .i64 0)] s) fun J2 =>
 kNck w_0 fun v17 =>
 kFld 2 v17 fun v18 =>
 kLd s v18 fun v19 =>
 kCall Tryd.prog 49 [v19, (.func (.func 48) #[] #[name_3])] s fun v21 s =>
 kBin .geq v21 (.int .i64 0) fun v23 =>
 kCond v23 (
 kNck w_0 fun v25 =>
 kFld 2 v25 fun v26 =>
 kLd s v26 fun v27 =>
 kIdx 2 v27 v21 fun v29 =>
 kFld 1 v29 fun v30 =>
 kLd s v30 fun v31 =>
 J2 [v31] s) (
 J2 [(.string (bs []))] s)) fun J1 =>
 kCall Tryd.prog 38 [w_0] s fun v13 s =>
 kUn .not v13 fun v14 =>
 kCond v14 (
 k (.int .i64 0) s) (
 J1 [] s)
theorem F37_ok (w_0 name_1 : Value) (s : AS) (k : Value → AS → Prop) : denFn Tryd.prog [] 37 [w_0, name_1] s k = F37 w_0 name_1 s k := by kernel_rfl
theorem f37 {w_0 name_1 : Value} {s : AS} {k : Value → AS → Prop} (h : F37 w_0 name_1 s k) : kCall Tryd.prog 37 [w_0, name_1] s k := fn_by (F37_ok w_0 name_1 s k) h
theorem k37_ok : okFn Tryd.prog 37 = true := by kernel_rfl

/- (*conch arith.worker).live -/
def F38 (w_0 : Value) (s : AS) (k : Value → AS → Prop) : Prop :=
 kNck w_0 fun v4 =>
 kFld 4 v4 fun v5 =>
 kLd s v5 fun v6 =>
 kBin .eql v6 (.int .i64 0) fun v7 =>
 kGrd v7 true (fun k =>
 kNck w_0 fun v10 =>
 kFld 5 v10 fun v11 =>
 kLd s v11 fun v12 =>
 kUn .not v12 fun v13 =>
 k [v13] s) [undef] s fun xs s =>
 un1 xs fun v13 =>
 kPick v7 v13 (.bool false) fun v14 =>
 kGrd v14 true (fun k =>
 kNck w_0 fun v17 =>
 kFld 6 v17 fun v18 =>
 kLd s v18 fun v19 =>
 kBin .eql v19 (.int .i64 0) fun v20 =>
 k [v20] s) [undef] s fun xs s =>
 un1 xs fun v20 =>
 kPick v14 v20 (.bool false) fun v21 =>
 k v21 s
theorem F38_ok (w_0 : Value) (s : AS) (k : Value → AS → Prop) : denFn Tryd.prog [] 38 [w_0] s k = F38 w_0 s k := by kernel_rfl
theorem f38 {w_0 : Value} {s : AS} {k : Value → AS → Prop} (h : F38 w_0 s k) : kCall Tryd.prog 38 [w_0] s k := fn_by (F38_ok w_0 s k) h
theorem k38_ok : okFn Tryd.prog 38 = true := by kernel_rfl

/- internal strconv.FormatInt -/
def F39 (i_0 base_1 : Value) (s : AS) (k : Value → AS → Prop) : Prop :=
 kJoin (fun _ s =>
 kCvi .u64 i_0 fun v46 =>
 kBin .lss i_0 (.int .i64 0) fun v49 =>
 kCall Tryd.prog 54 [(.slice none 0 0), v46, base_1, v49, (.bool false)] s fun v50 s =>
 kExt 0 v50 fun v51 =>
 kExt 1 v50 fun v52 =>
 k v52 s) fun J1 =>
 kBin .eql base_1 (.int .i64 10) fun v11 =>
 kCond v11 (
 kJoin (fun _ s =>
 kNew s (List.replicate 24 (.int .u8 0)) fun a_5 s =>
 kCvi .u64 i_0 fun v21 =>
 kJoin (fun xs s =>
 un1 xs fun u_6 =>
 kCall Tryd.prog 52 [u_6] s fun v27 s =>
 kBin .add (.int .i64 1) v27 fun v29 =>
 kSubA 24 1 a_5 (some (.int .i64 1)) (some v29) fun v30 =>
 kCall Tryd.prog 53 [v30, u_6] s fun v32 s =>
 kJoin (fun _ s =>
 kBin .add (.int .i64 1) v27 fun v41 =>
 kSubA 24 1 a_5 (some (.int .i64 1)) (some v41) fun v42 =>
 kCvBS s v42 fun v43 =>
 k v43 s) fun J4 =>
 kBin .lss i_0 (.int .i64 0) fun v34 =>
 kCond v34 (
 kIdxA 24 1 a_5 (.int .i64 0) fun v35 =>
 kSt s 1 v35 (.int .u8 45) fun s =>
 kBin .add (.int .i64 1) v27 fun v37 =>
 kSubA 24 1 a_5 none (some v37) fun v38 =>
 kCvBS s v38 fun v39 =>
 k v39 s) (
 J4 [] s)) fun J3 =>
 kBin .lss i_0 (.int .i64 0) fun v23 =>
 kCond v23 (
 kUn .neg v21 fun v25 =>
 J3 [v25] s) (
 J3 [v21] s)) fun J2 =>
 kBin .leq (.int .i64 0) i_0 fun v13 =>
 kGrd v13 true (fun k =>
 kBin .lss i_0 (.int .i64 100) fun v16 =>
 k [v16] s) [undef] s fun xs s =>
 un1 xs fun v16 =>
 kPick v13 v16 (.bool false) fun v17 =>
 kCond v17 (
 kCall Tryd.prog 51 [i_0] s fun v19 s =>
 k v19 s) (
 J2 [] s)) (
 J1 [] s)
theorem F39_ok (i_0 base_1 : Value) (s : AS) (k : Value → AS → Prop) : denFn Tryd.prog [] 39 [i_0, base_1] s k = F39 i_0 base_1 s k := by kernel_rfl
theorem f39 {i_0 base_1 : Value} {s : AS} {k : Value → AS → Prop} (h : F39 i_0 base_1 s k) : kCall Tryd.prog 39 [i_0, base_1] s k := fn_by (F39_ok i_0 base_1 s k) h
theorem k39_ok : okFn Tryd.prog 39 = true := by kernel_rfl

/- conch arith.plain$1 -/
def F40 (a_0 b_1 v2 : Value) (s : AS) (k : Value → AS → Prop) : Prop :=
 kLd s v2 fun v7 =>
 kCallv Tryd.prog v7 [a_0, b_1] s fun v10 s =>
 k (.tuple #[v10, (.int .i64 0)]) s
theorem F40_ok (a_0 b_1 v2 : Value) (s : AS) (k : Value → AS → Prop) : denFn Tryd.prog [] 40 [a_0, b_1, v2] s k = F40 a_0 b_1 v2 s k := by kernel_rfl
theorem f40 {a_0 b_1 v2 : Value} {s : AS} {k : Value → AS → Prop} (h : F40 a_0 b_1 v2 s k) : kCall Tryd.prog 40 [a_0, b_1, v2] s k := fn_by (F40_ok a_0 b_1 v2 s k) h
theorem k40_ok : okFn Tryd.prog 40 = true := by kernel_rfl

/- conch arith.over$1 -/
def F41 (a_0 b_1 v2 v3 : Value) (s : AS) (k : Value → AS → Prop) : Prop :=
 kJoin (fun _ s =>
 kLd s v3 fun v19 =>
 kCallv Tryd.prog v19 [a_0, b_1] s fun v22 s =>
 k (.tuple #[v22, (.int .i64 0)]) s) fun J1 =>
 kBin .eql b_1 (.int .i64 0) fun v10 =>
 kCond v10 (
 k (.tuple #[(.int .i64 0), (.int .i64 13)]) s) (
 kBin .eql a_0 (.int .i64 (-9223372036854775808)) fun v13 =>
 kGrd v13 true (fun k =>
 kBin .eql b_1 (.int .i64 (-1)) fun v16 =>
 k [v16] s) [undef] s fun xs s =>
 un1 xs fun v16 =>
 kPick v13 v16 (.bool false) fun v17 =>
 kCond v17 (
 kLd s v2 fun v18 =>
 k (.tuple #[v18, (.int .i64 0)]) s) (
 J1 [] s))
theorem F41_ok (a_0 b_1 v2 v3 : Value) (s : AS) (k : Value → AS → Prop) : denFn Tryd.prog [] 41 [a_0, b_1, v2, v3] s k = F41 a_0 b_1 v2 v3 s k := by kernel_rfl
theorem f41 {a_0 b_1 v2 v3 : Value} {s : AS} {k : Value → AS → Prop} (h : F41 a_0 b_1 v2 v3 s k) : kCall Tryd.prog 41 [a_0, b_1, v2, v3] s k := fn_by (F41_ok a_0 b_1 v2 v3 s k) h
theorem k41_ok : okFn Tryd.prog 41 = true := by kernel_rfl

/- strings.TrimLeft -/
def F42 (s_0 cutset_1 : Value) (s : AS) (k : Value → AS → Prop) : Prop :=
 kJoin (fun _ s =>
 kJoin (fun _ s =>
 kJoin (fun _ s =>
 kCall Tryd.prog 58 [s_0, cutset_1] s fun v36 s =>
 k v36 s) fun J3 =>
 kCall Tryd.prog 56 [cutset_1] s fun v28 s =>
 kExt 0 v28 fun v29 =>
 kExt 1 v28 fun v30 =>
 kNew s (List.replicate 256 (.bool false)) fun as_5 s =>
 kSt s 256 as_5 v29 fun s =>
 kCond v30 (
 kCall Tryd.prog 57 [s_0, as_5] s fun v33 s =>
 k v33 s) (
 J3 [] s)) fun J2 =>
 kLen true cutset_1 fun v15 =>
 kBin .eql v15 (.int .i64 1) fun v16 =>
 kGrd v16 true (fun k =>
 kIxS cutset_1 (.int .i64 0) fun v19 =>
 kBin .lss v19 (.int .u8 128) fun v20 =>
 k [v20] s) [undef] s fun xs s =>
 un1 xs fun v20 =>
 kPick v16 v20 (.bool false) fun v21 =>
 kCond v21 (
 kIxS cutset_1 (.int .i64 0) fun v24 =>
 kCall Tryd.prog 55 [s_0, v24] s fun v25 s =>
 k v25 s) (
 J2 [] s)) fun J1 =>
 kBin .eql s_0 (.string (bs [])) fun v8 =>
 kGrd v8 false (fun k =>
 kBin .eql cutset_1 (.string (bs [])) fun v11 =>
 k [v11] s) [undef] s fun xs s =>
 un1 xs fun v11 =>
 kPick v8 (.bool true) v11 fun v12 =>
 kCond v12 (
 k s_0 s) (
 J1 [] s)
theorem F42_ok (s_0 cutset_1 : Value) (s : AS) (k : Value → AS → Prop) : denFn Tryd.prog [] 42 [s_0, cutset_1] s k = F42 s_0 cutset_1 s k := by kernel_rfl
theorem f42 {s_0 cutset_1 : Value} {s : AS} {k : Value → AS → Prop} (h : F42 s_0 cutset_1 s k) : kCall Tryd.prog 42 [s_0, cutset_1] s k := fn_by (F42_ok s_0 cutset_1 s k) h
theorem k42_ok : okFn Tryd.prog 42 = true := by kernel_rfl

/- internal stringslite.IndexByte -/
def F43 (s_0 c_1 : Value) (s : AS) (k : Value → AS → Prop) : Prop :=
 kGen Tryd.prog (.ext 59) [s_0, c_1] s fun v7 s =>
 k v7 s
theorem F43_ok (s_0 c_1 : Value) (s : AS) (k : Value → AS → Prop) : denFn Tryd.prog [] 43 [s_0, c_1] s k = F43 s_0 c_1 s k := by kernel_rfl
theorem f43 {s_0 c_1 : Value} {s : AS} {k : Value → AS → Prop} (h : F43 s_0 c_1 s k) : kCall Tryd.prog 43 [s_0, c_1] s k := fn_by (F43_ok s_0 c_1 s k) h
theorem k43_ok : okFn Tryd.prog 43 = true := by kernel_rfl

/- conch chars.Alpha -/
def F44 (c_0 : Value) (s : AS) (k : Value → AS → Prop) : Prop :=
 kBin .eql c_0 (.int .u8 95) fun v4 =>
 kGrd v4 false (fun k =>
 kBin .or c_0 (.int .u8 32) fun v7 =>
 kBin .geq v7 (.int .u8 97) fun v8 =>
 k [v8] s) [undef] s fun xs s =>
 un1 xs fun v9 =>
 kGrd v9 true (fun k =>
 kBin .or c_0 (.int .u8 32) fun v11 =>
 kBin .leq v11 (.int .u8 122) fun v12 =>
 k [v12] s) [undef] s fun xs s =>
 un1 xs fun v12 =>
 kGrd v4 false (fun k =>
 kPick v9 v12 (.bool false) fun v13 =>
 k [v13] s) [undef] s fun xs s =>
 un1 xs fun v13 =>
 kPick v4 (.bool true) v13 fun v14 =>
 k v14 s
theorem F44_ok (c_0 : Value) (s : AS) (k : Value → AS → Prop) : denFn Tryd.prog [] 44 [c_0] s k = F44 c_0 s k := by kernel_rfl
theorem f44 {c_0 : Value} {s : AS} {k : Value → AS → Prop} (h : F44 c_0 s k) : kCall Tryd.prog 44 [c_0] s k := fn_by (F44_ok c_0 s k) h
theorem k44_ok : okFn Tryd.prog 44 = true := by kernel_rfl

/- conch chars.Digit -/
def F45 (c_0 : Value) (s : AS) (k : Value → AS → Prop) : Prop :=
 kBin .geq c_0 (.int .u8 48) fun v4 =>
 kGrd v4 true (fun k =>
 kBin .leq c_0 (.int .u8 57) fun v7 =>
 k [v7] s) [undef] s fun xs s =>
 un1 xs fun v7 =>
 kPick v4 v7 (.bool false) fun v8 =>
 k v8 s
theorem F45_ok (c_0 : Value) (s : AS) (k : Value → AS → Prop) : denFn Tryd.prog [] 45 [c_0] s k = F45 c_0 s k := by kernel_rfl
theorem f45 {c_0 : Value} {s : AS} {k : Value → AS → Prop} (h : F45 c_0 s k) : kCall Tryd.prog 45 [c_0] s k := fn_by (F45_ok c_0 s k) h
theorem k45_ok : okFn Tryd.prog 45 = true := by kernel_rfl

/- (*conch arith.worker).rank -/
def F46 (w_0 r_1 : Value) (s : AS) (k : Value → AS → Prop) : Prop :=
 kNew s (cellsV w_0) fun w_2 s =>
 kNew s (cellsV r_1) fun r_3 s =>
 kJoin (fun _ s =>
 kLd s w_2 fun v17 =>
 kLd s r_3 fun v18 =>
 kBin .add v18 (.int .i64 1) fun v19 =>
 kCall Tryd.prog 46 [v17, v19] s fun v20 s =>
 kJoin (fun xs s =>
 un1 xs fun a_5 =>
 k a_5 s) fun J2 =>
 kLoop (fun again3 xs s =>
 un1 xs fun a_5 =>
 kJoin (fun _ s =>
 kLd s w_2 fun v26 =>
 kCall Tryd.prog 10 [v26] s fun v27 s =>
 kLd s w_2 fun v29 =>
 kNck v29 fun v30 =>
 kFld 1 v30 fun v31 =>
 kLd s v31 fun v32 =>
 kGen Tryd.prog (.lk 36 true) [v32, v27] s fun v34 s =>
 kExt 0 v34 fun v35 =>
 kExt 1 v34 fun v36 =>
 kNew s [(.int .i64 0), .nilFunc] fun o_7 s =>
 kSt s 2 o_7 v35 fun s =>
 kJoin (fun _ s =>
 kLen true v27 fun v51 =>
 kLd s w_2 fun v45 =>
 kLd s w_2 fun v46 =>
 kNck v46 fun v47 =>
 kFld 0 v47 fun v48 =>
 kLd s v48 fun v49 =>
 kSubS v49 (some v51) none fun v52 =>
 kNck v45 fun v53 =>
 kFld 0 v53 fun v54 =>
 kSt s 1 v54 v52 fun s =>
 kBin .eql v27 (.string (bs [124, 124])) fun v65 =>
 kCond v65 (
 kLd s w_2 fun v66 =>
 kBin .eql a_5 (.int .i64 0) fun v68 =>
 kCall Tryd.prog 47 [v66, v68, (.func (.func 61) #[] #[w_2, r_3])] s fun v70 s =>
 kBin .neq a_5 (.int .i64 0) fun v72 =>
 kGrd v72 false (fun k =>
 kBin .neq v70 (.int .i64 0) fun v75 =>
 k [v75] s) [undef] s fun xs s =>
 un1 xs fun v75 =>
 kPick v72 (.bool true) v75 fun v76 =>
 kCall Tryd.prog 18 [v76] s fun v77 s =>
 again3 [v77] s) (
 kBin .eql v27 (.string (bs [38, 38])) fun v79 =>
 kCond v79 (
 kLd s w_2 fun v80 =>
 kBin .neq a_5 (.int .i64 0) fun v82 =>
 kCall Tryd.prog 47 [v80, v82, (.func (.func 61) #[] #[w_2, r_3])] s fun v84 s =>
 kBin .neq a_5 (.int .i64 0) fun v86 =>
 kGrd v86 true (fun k =>
 kBin .neq v84 (.int .i64 0) fun v89 =>
 k [v89] s) [undef] s fun xs s =>
 un1 xs fun v89 =>
 kPick v86 v89 (.bool false) fun v90 =>
 kCall Tryd.prog 18 [v90] s fun v91 s =>
 again3 [v91] s) (
 kCallv Tryd.prog (.func (.func 61) #[] #[w_2, r_3]) [] s fun v58 s =>
 kLd s w_2 fun v59 =>
 kCall Tryd.prog 36 [v59, v27, a_5, v58] s fun v63 s =>
 again3 [v63] s))) fun J5 =>
 kUn .not v36 fun v38 =>
 kGrd v38 false (fun k =>
 kFld 0 o_7 fun v40 =>
 kLd s v40 fun v41 =>
 kLd s r_3 fun v42 =>
 kBin .neq v41 v42 fun v43 =>
 k [v43] s) [undef] s fun xs s =>
 un1 xs fun v43 =>
 kPick v38 (.bool true) v43 fun v44 =>
 kCond v44 (
 J2 [a_5] s) (
 J5 [] s)) fun J4 =>
 kLd s w_2 fun v21 =>
 kNck v21 fun v22 =>
 kFld 5 v22 fun v23 =>
 kLd s v23 fun v24 =>
 kUn .not v24 fun v25 =>
 kCond v25 (
 J4 [] s) (
 J2 [a_5] s)) [v20] s) fun J1 =>
 kLd s r_3 fun v13 =>
 kBin .gtr v13 (.int .i64 10) fun v14 =>
 kCond v14 (
 kLd s w_2 fun v15 =>
 kCall Tryd.prog 60 [v15] s fun v16 s =>
 k v16 s) (
 J1 [] s)
theorem F46_ok (w_0 r_1 : Value) (s : AS) (k : Value → AS → Prop) : denFn Tryd.prog [(8, (.go 5 (.go 6 (.go 0 (.go 1 (.go 2 (.go 3 (.go 4 (.go 7 (.go 8 (.go 9 (.go 10 .done))))))))))))] 46 [w_0, r_1] s k = F46 w_0 r_1 s k := by kernel_rfl
theorem f46 {w_0 r_1 : Value} {s : AS} {k : Value → AS → Prop} (h : F46 w_0 r_1 s k) : kCall Tryd.prog 46 [w_0, r_1] s k := fn_by (F46_ok w_0 r_1 s k) h
theorem k46_ok : okFn Tryd.prog 46 = true := by kernel_rfl

/- (*conch arith.worker).passing -/
def F47 (w_0 is_1 read_2 : Value) (s : AS) (k : Value → AS → Prop) : Prop :=
 kNew s (cellsV w_0) fun w_3 s =>
 kJoin (fun xs s =>
 un1 xs fun v19 =>
 kCallv Tryd.prog read_2 [] s fun v18 s =>
 kFin Tryd.prog (valsOf v19) s fun s =>
 k v18 s) fun J1 =>
 kUn .not is_1 fun v8 =>
 kCond v8 (
 kLd s w_3 fun v9 =>
 kNck v9 fun v10 =>
 kFld 4 v10 fun v11 =>
 kLd s v11 fun v12 =>
 kBin .add v12 (.int .i64 1) fun v13 =>
 kNck v9 fun v14 =>
 kFld 4 v14 fun v15 =>
 kSt s 1 v15 v13 fun s =>
 kGen Tryd.prog .dfr [(.func (.func 62) #[] #[w_3]), undef] s fun v19 s =>
 J1 [v19] s) (
 J1 [undef] s)
theorem F47_ok (w_0 is_1 read_2 : Value) (s : AS) (k : Value → AS → Prop) : denFn Tryd.prog [] 47 [w_0, is_1, read_2] s k = F47 w_0 is_1 read_2 s k := by kernel_rfl
theorem f47 {w_0 is_1 read_2 : Value} {s : AS} {k : Value → AS → Prop} (h : F47 w_0 is_1 read_2 s k) : kCall Tryd.prog 47 [w_0, is_1, read_2] s k := fn_by (F47_ok w_0 is_1 read_2 s k) h
theorem k47_ok : okFn Tryd.prog 47 = true := by kernel_rfl

/- (*conch arith.worker).ask$1 -/
def F48 (p_0 v1 : Value) (s : AS) (k : Value → AS → Prop) : Prop :=
 kNew s (cellsV p_0) fun p_2 s =>
 kFld 0 p_2 fun v4 =>
 kLd s v4 fun v5 =>
 kLd s v1 fun v6 =>
 kBin .eql v5 v6 fun v7 =>
 k v7 s
theorem F48_ok (p_0 v1 : Value) (s : AS) (k : Value → AS → Prop) : denFn Tryd.prog [] 48 [p_0, v1] s k = F48 p_0 v1 s k := by kernel_rfl
theorem f48 {p_0 v1 : Value} {s : AS} {k : Value → AS → Prop} (h : F48 p_0 v1 s k) : kCall Tryd.prog 48 [p_0, v1] s k := fn_by (F48_ok p_0 v1 s k) h
theorem k48_ok : okFn Tryd.prog 48 = true := by kernel_rfl

/- slices.IndexFunc[[]conch arith.Pair,conch arith.Pair] -/
def F49 (s_0 f_1 : Value) (s : AS) (k : Value → AS → Prop) : Prop :=
 kJoin (fun _ s =>
 k (.int .i64 (-1)) s) fun J1 =>
 kLen false s_0 fun v7 =>
 kLoop (fun again2 xs s =>
 un1 xs fun v8 =>
 kBin .lss v8 v7 fun v9 =>
 kJoin (fun _ s =>
 kJoin (fun _ s =>
 kBin .add v8 (.int .i64 1) fun v18 =>
 again2 [v18] s) fun J4 =>
 kIdx 2 s_0 v8 fun v14 =>
 kLdN s 2 v14 fun v15 =>
 kCallv Tryd.prog f_1 [v15] s fun v16 s =>
 kCond v16 (
 k v8 s) (
 J4 [] s)) fun J3 =>
 kCond v9 (
 J3 [] s) (
 J1 [] s)) [(.int .i64 0)] s
theorem F49_ok (s_0 f_1 : Value) (s : AS) (k : Value → AS → Prop) : denFn Tryd.prog [] 49 [s_0, f_1] s k = F49 s_0 f_1 s k := by kernel_rfl
theorem f49 {s_0 f_1 : Value} {s : AS} {k : Value → AS → Prop} (h : F49 s_0 f_1 s k) : kCall Tryd.prog 49 [s_0, f_1] s k := fn_by (F49_ok s_0 f_1 s k) h
theorem k49_ok : okFn Tryd.prog 49 = true := by kernel_rfl

/- conch arith.Value -/
def F50 (s_0 : Value) (s : AS) (k : Value → AS → Prop) : Prop :=
 kCall Tryd.prog 63 [s_0, (.string (bs [32, 9, 10]))] s fun v8 s =>
 kJoin (fun _ s =>
 kJoin (fun xs s =>
 un2 xs fun s_0' sign_4 =>
 kCall Tryd.prog 64 [s_0'] s fun v25 s =>
 kExt 0 v25 fun v26 =>
 kExt 1 v25 fun v27 =>
 kJoin (fun _ s =>
 kCvi .i64 v26 fun v50 =>
 k (.tuple #[v50, (.int .i64 0)]) s) fun J3 =>
 kUn .not v27 fun v30 =>
 kGrd v30 false (fun k =>
 kBin .gtr v26 (.int .u64 9223372036854775808) fun v33 =>
 k [v33] s) [undef] s fun xs s =>
 un1 xs fun v33 =>
 kPick v30 (.bool true) v33 fun v34 =>
 kGrd v34 false (fun k =>
 kBin .eql v26 (.int .u64 9223372036854775808) fun v37 =>
 k [v37] s) [undef] s fun xs s =>
 un1 xs fun v38 =>
 kGrd v38 true (fun k =>
 kBin .neq sign_4 (.string (bs [45])) fun v40 =>
 k [v40] s) [undef] s fun xs s =>
 un1 xs fun v40 =>
 kGrd v34 false (fun k =>
 kPick v38 v40 (.bool false) fun v41 =>
 k [v41] s) [undef] s fun xs s =>
 un1 xs fun v41 =>
 kPick v34 (.bool true) v41 fun v42 =>
 kCond v42 (
 k (.tuple #[(.int .i64 0), (.int .i64 10)]) s) (
 kBin .eql sign_4 (.string (bs [45])) fun v45 =>
 kCond v45 (
 kCvi .i64 v26 fun v47 =>
 kUn .neg v47 fun v48 =>
 k (.tuple #[v48, (.int .i64 0)]) s) (
 J3 [] s))) fun J2 =>
 kIxS v8 (.int .i64 0) fun v12 =>
 kBin .eql v12 (.int .u8 43) fun v13 =>
 kGrd v13 false (fun k =>
 kIxS v8 (.int .i64 0) fun v16 =>
 kBin .eql v16 (.int .u8 45) fun v17 =>
 k [v17] s) [undef] s fun xs s =>
 un1 xs fun v17 =>
 kPick v13 (.bool true) v17 fun v18 =>
 kCond v18 (
 kSubS v8 none (some (.int .i64 1)) fun v20 =>
 kSubS v8 (some (.int .i64 1)) none fun v22 =>
 J2 [v22, v20] s) (
 J2 [v8, (.string (bs []))] s)) fun J1 =>
 kBin .eql v8 (.string (bs [])) fun v10 =>
 kCond v10 (
 k (.tuple #[(.int .i64 0), (.int .i64 0)]) s) (
 J1 [] s)
theorem F50_ok (s_0 : Value) (s : AS) (k : Value → AS → Prop) : denFn Tryd.prog [(6, (.go 0 (.go 1 (.go 2 (.go 3 (.go 4 (.go 5 .done)))))))] 50 [s_0] s k = F50 s_0 s k := by kernel_rfl
theorem f50 {s_0 : Value} {s : AS} {k : Value → AS → Prop} (h : F50 s_0 s k) : kCall Tryd.prog 50 [s_0] s k := fn_by (F50_ok s_0 s k) h
theorem k50_ok : okFn Tryd.prog 50 = true := by kernel_rfl

/- internal strconv.small -/
def F51 (i_0 : Value) (s : AS) (k : Value → AS → Prop) : Prop :=
 kJoin (fun _ s =>
 kBin .mul i_0 (.int .i64 2) fun v10 =>
 kBin .mul i_0 (.int .i64 2) fun v12 =>
 kBin .add v12 (.int .i64 2) fun v13 =>
 kSubS (.string (bs [48, 48, 48, 49, 48, 50, 48, 51, 48, 52, 48, 53, 48, 54, 48, 55, 48, 56, 48, 57, 49, 48, 49, 49, 49, 50, 49, 51, 49, 52, 49, 53, 49, 54, 49, 55, 49, 56, 49, 57, 50, 48, 50, 49, 50, 50, 50, 51, 50, 52, 50, 53, 50, 54, 50, 55, 50, 56, 50, 57, 51, 48, 51, 49, 51, 50, 51, 51, 51, 52, 51, 53, 51, 54, 51, 55, 51, 56, 51, 57, 52, 48, 52, 49, 52, 50, 52, 51, 52, 52, 52, 53, 52, 54, 52, 55, 52, 56, 52, 57, 53, 48, 53, 49, 53, 50, 53, 51, 53, 52, 53, 53, 53, 54, 53, 55, 53, 56, 53, 57, 54, 48, 54, 49, 54, 50, 54, 51, 54, 52, 54, 53, 54, 54, 54, 55, 54, 56, 54, 57, 55, 48, 55, 49, 55, 50, 55, 51, 55, 52, 55, 53, 55, 54, 55, 55, 55, 56, 55, 57, 56, 48, 56, 49, 56, 50, 56, 51, 56, 52, 56, 53, 56, 54, 56, 55, 56, 56, 56, 57, 57, 48, 57, 49, 57, 50, 57, 51, 57, 52, 57, 53, 57, 54, 57, 55, 57, 56, 57, 57])) (some v10) (some v13) fun v14 =>
 k v14 s) fun J1 =>
 kBin .lss i_0 (.int .i64 10) fun v4 =>
 kCond v4 (
 kBin .add i_0 (.int .i64 1) fun v7 =>
 kSubS (.string (bs [48, 49, 50, 51, 52, 53, 54, 55, 56, 57, 97, 98, 99, 100, 101, 102, 103, 104, 105, 106, 107, 108, 109, 110, 111, 112, 113, 114, 115, 116, 117, 118, 119, 120, 121, 122])) (some i_0) (some v7) fun v8 =>
 k v8 s) (
 J1 [] s)
theorem F51_ok (i_0 : Value) (s : AS) (k : Value → AS → Prop) : denFn Tryd.prog [] 51 [i_0] s k = F51 i_0 s k := by kernel_rfl
theorem f51 {i_0 : Value} {s : AS} {k : Value → AS → Prop} (h : F51 i_0 s k) : kCall Tryd.prog 51 [i_0] s k := fn_by (F51_ok i_0 s k) h
theorem k51_ok : okFn Tryd.prog 51 = true := by kernel_rfl

/- internal strconv.numDigits -/
def F52 (d_0 : Value) (s : AS) (k : Value → AS → Prop) : Prop :=
 kCall Tryd.prog 66 [d_0] s fun v5 s =>
 kCall Tryd.prog 65 [v5] s fun v6 s =>
 kIdxA 20 1 (.pointer (some ⟨0, 0, none⟩)) v6 fun v10 =>
 kLd s v10 fun v11 =>
 kBin .geq d_0 v11 fun v12 =>
 kCall Tryd.prog 67 [v12] s fun v13 s =>
 kBin .add v6 v13 fun v14 =>
 k v14 s
theorem F52_ok (d_0 : Value) (s : AS) (k : Value → AS → Prop) : denFn Tryd.prog [] 52 [d_0] s k = F52 d_0 s k := by kernel_rfl
theorem f52 {d_0 : Value} {s : AS} {k : Value → AS → Prop} (h : F52 d_0 s k) : kCall Tryd.prog 52 [d_0] s k := fn_by (F52_ok d_0 s k) h
theorem k52_ok : okFn Tryd.prog 52 = true := by kernel_rfl

/- internal strconv.formatBase10 -/
def F53 (a_0 u_1 : Value) (s : AS) (k : Value → AS → Prop) : Prop :=
 kLen false a_0 fun v18 =>
 kJoin (fun xs s =>
 un2 xs fun u_1 nd_4 =>
 kCvi .u32 u_1 fun v97 =>
 kJoin (fun xs s =>
 un2 xs fun nd_4 x_12 =>
 kJoin (fun xs s =>
 un2 xs fun nd_4 x_12 =>
 kBin .gtr nd_4 (.int .i64 0) fun v161 =>
 kCond v161 (
 kBin .add (.int .u32 48) x_12 fun v164 =>
 kCvi .u8 v164 fun v165 =>
 kIdx 1 a_0 (.int .i64 0) fun v166 =>
 kSt s 1 v166 v165 fun s =>
 k undef s) (
 k undef s)) fun J3 =>
 kBin .geq nd_4 (.int .i64 2) fun v139 =>
 kCond v139 (
 kBin .rem x_12 (.int .u32 100) fun v141 =>
 kBin .mul v141 (.int .u32 2) fun v142 =>
 kBin .quo x_12 (.int .u32 100) fun v144 =>
 kBin .sub nd_4 (.int .i64 1) fun v147 =>
 kBin .sub nd_4 (.int .i64 2) fun v150 =>
 kBin .add v142 (.int .u32 1) fun v152 =>
 kIxS (.string (bs [48, 48, 48, 49, 48, 50, 48, 51, 48, 52, 48, 53, 48, 54, 48, 55, 48, 56, 48, 57, 49, 48, 49, 49, 49, 50, 49, 51, 49, 52, 49, 53, 49, 54, 49, 55, 49, 56, 49, 57, 50, 48, 50, 49, 50, 50, 50, 51, 50, 52, 50, 53, 50, 54, 50, 55, 50, 56, 50, 57, 51, 48, 51, 49, 51, 50, 51, 51, 51, 52, 51, 53, 51, 54, 51, 55, 51, 56, 51, 57, 52, 48, 52, 49, 52, 50, 52, 51, 52, 52, 52, 53, 52, 54, 52, 55, 52, 56, 52, 57, 53, 48, 53, 49, 53, 50, 53, 51, 53, 52, 53, 53, 53, 54, 53, 55, 53, 56, 53, 57, 54, 48, 54, 49, 54, 50, 54, 51, 54, 52, 54, 53, 54, 54, 54, 55, 54, 56, 54, 57, 55, 48, 55, 49, 55, 50, 55, 51, 55, 52, 55, 53, 55, 54, 55, 55, 55, 56, 55, 57, 56, 48, 56, 49, 56, 50, 56, 51, 56, 52, 56, 53, 56, 54, 56, 55, 56, 56, 56, 57, 57, 48, 57, 49, 57, 50, 57, 51, 57, 52, 57, 53, 57, 54, 57, 55, 57, 56, 57, 57])) v152 fun v153 =>
 kIxS (.string (bs [48, 48, 48, 49, 48, 50, 48, 51, 48, 52, 48, 53, 48, 54, 48, 55, 48, 56, 48, 57, 49, 48, 49, 49, 49, 50, 49, 51, 49, 52, 49, 53, 49, 54, 49, 55, 49, 56, 49, 57, 50, 48, 50, 49, 50, 50, 50, 51, 50, 52, 50, 53, 50, 54, 50, 55, 50, 56, 50, 57, 51, 48, 51, 49, 51, 50, 51, 51, 51, 52, 51, 53, 51, 54, 51, 55, 51, 56, 51, 57, 52, 48, 52, 49, 52, 50, 52, 51, 52, 52, 52, 53, 52, 54, 52, 55, 52, 56, 52, 57, 53, 48, 53, 49, 53, 50, 53, 51, 53, 52, 53, 53, 53, 54, 53, 55, 53, 56, 53, 57, 54, 48, 54, 49, 54, 50, 54, 51, 54, 52, 54, 53, 54, 54, 54, 55, 54, 56, 54, 57, 55, 48, 55, 49, 55, 50, 55, 51, 55, 52, 55, 53, 55, 54, 55, 55, 55, 56, 55, 57, 56, 48, 56, 49, 56, 50, 56, 51, 56, 52, 56, 53, 56, 54, 56, 55, 56, 56, 56, 57, 57, 48, 57, 49, 57, 50, 57, 51, 57, 52, 57, 53, 57, 54, 57, 55, 57, 56, 57, 57])) v142 fun v155 =>
 kIdx 1 a_0 v147 fun v156 =>
 kSt s 1 v156 v153 fun s =>
 kIdx 1 a_0 v150 fun v157 =>
 kSt s 1 v157 v155 fun s =>
 kBin .sub nd_4 (.int .i64 2) fun v159 =>
 J3 [v159, v144] s) (
 J3 [nd_4, x_12] s)) fun J2 =>
 kBin .geq nd_4 (.int .i64 4) fun v99 =>
 kCond v99 (
 kBin .rem v97 (.int .u32 10000) fun v101 =>
 kBin .quo v97 (.int .u32 10000) fun v103 =>
 kBin .quo v101 (.int .u32 100) fun v105 =>
 kBin .mul v105 (.int .u32 2) fun v106 =>
 kBin .rem v101 (.int .u32 100) fun v108 =>
 kBin .mul v108 (.int .u32 2) fun v109 =>
 kBin .sub nd_4 (.int .i64 1) fun v112 =>
 kBin .sub nd_4 (.int .i64 2) fun v115 =>
 kBin .add v109 (.int .u32 1) fun v117 =>
 kIxS (.string (bs [48, 48, 48, 49, 48, 50, 48, 51, 48, 52, 48, 53, 48, 54, 48, 55, 48, 56, 48, 57, 49, 48, 49, 49, 49, 50, 49, 51, 49, 52, 49, 53, 49, 54, 49, 55, 49, 56, 49, 57, 50, 48, 50, 49, 50, 50, 50, 51, 50, 52, 50, 53, 50, 54, 50, 55, 50, 56, 50, 57, 51, 48, 51, 49, 51, 50, 51, 51, 51, 52, 51, 53, 51, 54, 51, 55, 51, 56, 51, 57, 52, 48, 52, 49, 52, 50, 52, 51, 52, 52, 52, 53, 52, 54, 52, 55, 52, 56, 52, 57, 53, 48, 53, 49, 53, 50, 53, 51, 53, 52, 53, 53, 53, 54, 53, 55, 53, 56, 53, 57, 54, 48, 54, 49, 54, 50, 54, 51, 54, 52, 54, 53, 54, 54, 54, 55, 54, 56, 54, 57, 55, 48, 55, 49, 55, 50, 55, 51, 55, 52, 55, 53, 55, 54, 55, 55, 55, 56, 55, 57, 56, 48, 56, 49, 56, 50, 56, 51, 56, 52, 56, 53, 56, 54, 56, 55, 56, 56, 56, 57, 57, 48, 57, 49, 57, 50, 57, 51, 57, 52, 57, 53, 57, 54, 57, 55, 57, 56, 57, 57])) v117 fun v118 =>
 kIxS (.string (bs [48, 48, 48, 49, 48, 50, 48, 51, 48, 52, 48, 53, 48, 54, 48, 55, 48, 56, 48, 57, 49, 48, 49, 49, 49, 50, 49, 51, 49, 52, 49, 53, 49, 54, 49, 55, 49, 56, 49, 57, 50, 48, 50, 49, 50, 50, 50, 51, 50, 52, 50, 53, 50, 54, 50, 55, 50, 56, 50, 57, 51, 48, 51, 49, 51, 50, 51, 51, 51, 52, 51, 53, 51, 54, 51, 55, 51, 56, 51, 57, 52, 48, 52, 49, 52, 50, 52, 51, 52, 52, 52, 53, 52, 54, 52, 55, 52, 56, 52, 57, 53, 48, 53, 49, 53, 50, 53, 51, 53, 52, 53, 53, 53, 54, 53, 55, 53, 56, 53, 57, 54, 48, 54, 49, 54, 50, 54, 51, 54, 52, 54, 53, 54, 54, 54, 55, 54, 56, 54, 57, 55, 48, 55, 49, 55, 50, 55, 51, 55, 52, 55, 53, 55, 54, 55, 55, 55, 56, 55, 57, 56, 48, 56, 49, 56, 50, 56, 51, 56, 52, 56, 53, 56, 54, 56, 55, 56, 56, 56, 57, 57, 48, 57, 49, 57, 50, 57, 51, 57, 52, 57, 53, 57, 54, 57, 55, 57, 56, 57, 57])) v109 fun v120 =>
 kIdx 1 a_0 v112 fun v121 =>
 kSt s 1 v121 v118 fun s =>
 kIdx 1 a_0 v115 fun v122 =>
 kSt s 1 v122 v120 fun s =>
 kBin .sub nd_4 (.int .i64 3) fun v125 =>
 kBin .sub nd_4 (.int .i64 4) fun v128 =>
 kBin .add v106 (.int .u32 1) fun v130 =>
 kIxS (.string (bs [48, 48, 48, 49, 48, 50, 48, 51, 48, 52, 48, 53, 48, 54, 48, 55, 48, 56, 48, 57, 49, 48, 49, 49, 49, 50, 49, 51, 49, 52, 49, 53, 49, 54, 49, 55, 49, 56, 49, 57, 50, 48, 50, 49, 50, 50, 50, 51, 50, 52, 50, 53, 50, 54, 50, 55, 50, 56, 50, 57, 51, 48, 51, 49, 51, 50, 51, 51, 51, 52, 51, 53, 51, 54, 51, 55, 51, 56, 51, 57, 52, 48, 52, 49, 52, 50, 52, 51, 52, 52, 52, 53, 52, 54, 52, 55, 52, 56, 52, 57, 53, 48, 53, 49, 53, 50, 53, 51, 53, 52, 53, 53, 53, 54, 53, 55, 53, 56, 53, 57, 54, 48, 54, 49, 54, 50, 54, 51, 54, 52, 54, 53, 54, 54, 54, 55, 54, 56, 54, 57, 55, 48, 55, 49, 55, 50, 55, 51, 55, 52, 55, 53, 55, 54, 55, 55, 55, 56, 55, 57, 56, 48, 56, 49, 56, 50, 56, 51, 56, 52, 56, 53, 56, 54, 56, 55, 56, 56, 56, 57, 57, 48, 57, 49, 57, 50, 57, 51, 57, 52, 57, 53, 57, 54, 57, 55, 57, 56, 57, 57])) v130 fun v131 =>
 kIxS (.string (bs [48, 48, 48, 49, 48, 50, 48, 51, 48, 52, 48, 53, 48, 54, 48, 55, 48, 56, 48, 57, 49, 48, 49, 49, 49, 50, 49, 51, 49, 52, 49, 53, 49, 54, 49, 55, 49, 56, 49, 57, 50, 48, 50, 49, 50, 50, 50, 51, 50, 52, 50, 53, 50, 54, 50, 55, 50, 56, 50, 57, 51, 48, 51, 49, 51, 50, 51, 51, 51, 52, 51, 53, 51, 54, 51, 55, 51, 56, 51, 57, 52, 48, 52, 49, 52, 50, 52, 51, 52, 52, 52, 53, 52, 54, 52, 55, 52, 56, 52, 57, 53, 48, 53, 49, 53, 50, 53, 51, 53, 52, 53, 53, 53, 54, 53, 55, 53, 56, 53, 57, 54, 48, 54, 49, 54, 50, 54, 51, 54, 52, 54, 53, 54, 54, 54, 55, 54, 56, 54, 57, 55, 48, 55, 49, 55, 50, 55, 51, 55, 52, 55, 53, 55, 54, 55, 55, 55, 56, 55, 57, 56, 48, 56, 49, 56, 50, 56, 51, 56, 52, 56, 53, 56, 54, 56, 55, 56, 56, 56, 57, 57, 48, 57, 49, 57, 50, 57, 51, 57, 52, 57, 53, 57, 54, 57, 55, 57, 56, 57, 57])) v106 fun v133 =>
 kIdx 1 a_0 v125 fun v134 =>
 kSt s 1 v134 v131 fun s =>
 kIdx 1 a_0 v128 fun v135 =>
 kSt s 1 v135 v133 fun s =>
 kBin .sub nd_4 (.int .i64 4) fun v137 =>
 J2 [v137, v103] s) (
 J2 [nd_4, v97] s)) fun J1 =>
 kLoop (fun again4 xs s =>
 un2 xs fun u_1 nd_4 =>
 kJoin (fun _ s =>
 kBin .rem u_1 (.int .u64 100000000) fun v22 =>
 kCvi .u32 v22 fun v23 =>
 kBin .quo u_1 (.int .u64 100000000) fun v25 =>
 kBin .quo v23 (.int .u32 10000) fun v27 =>
 kBin .rem v23 (.int .u32 10000) fun v29 =>
 kBin .quo v29 (.int .u32 100) fun v31 =>
 kBin .mul v31 (.int .u32 2) fun v32 =>
 kBin .rem v29 (.int .u32 100) fun v34 =>
 kBin .mul v34 (.int .u32 2) fun v35 =>
 kBin .quo v27 (.int .u32 100) fun v37 =>
 kBin .mul v37 (.int .u32 2) fun v38 =>
 kBin .rem v27 (.int .u32 100) fun v40 =>
 kBin .mul v40 (.int .u32 2) fun v41 =>
 kBin .sub nd_4 (.int .i64 1) fun v44 =>
 kBin .sub nd_4 (.int .i64 2) fun v47 =>
 kBin .add v35 (.int .u32 1) fun v49 =>
 kIxS (.string (bs [48, 48, 48, 49, 48, 50, 48, 51, 48, 52, 48, 53, 48, 54, 48, 55, 48, 56, 48, 57, 49, 48, 49, 49, 49, 50, 49, 51, 49, 52, 49, 53, 49, 54, 49, 55, 49, 56, 49, 57, 50, 48, 50, 49, 50, 50, 50, 51, 50, 52, 50, 53, 50, 54, 50, 55, 50, 56, 50, 57, 51, 48, 51, 49, 51, 50, 51, 51, 51, 52, 51, 53, 51, 54, 51, 55, 51, 56, 51, 57, 52, 48, 52, 49, 52, 50, 52, 51, 52, 52, 52, 53, 52, 54, 52, 55, 52, 56, 52, 57, 53, 48, 53, 49, 53, 50, 53, 51, 53, 52, 53, 53, 53, 54, 53, 55, 53, 56, 53, 57, 54, 48, 54, 49, 54, 50, 54, 51, 54, 52, 54, 53, 54, 54, 54, 55, 54, 56, 54, 57, 55, 48, 55, 49, 55, 50, 55, 51, 55, 52, 55, 53, 55, 54, 55, 55, 55, 56, 55, 57, 56, 48, 56, 49, 56, 50, 56, 51, 56, 52, 56, 53, 56, 54, 56, 55, 56, 56, 56, 57, 57, 48, 57, 49, 57, 50, 57, 51, 57, 52, 57, 53, 57, 54, 57, 55, 57, 56, 57, 57])) v49 fun v50 =>
 kIxS (.string (bs [48, 48, 48, 49, 48, 50, 48, 51, 48, 52, 48, 53, 48, 54, 48, 55, 48, 56, 48, 57, 49, 48, 49, 49, 49, 50, 49, 51, 49, 52, 49, 53, 49, 54, 49, 55, 49, 56, 49, 57, 50, 48, 50, 49, 50, 50, 50, 51, 50, 52, 50, 53, 50, 54, 50, 55, 50, 56, 50, 57, 51, 48, 51, 49, 51, 50, 51, 51, 51, 52, 51, 53, 51, 54, 51, 55, 51, 56, 51, 57, 52, 48, 52, 49, 52, 50, 52, 51, 52, 52, 52, 53, 52, 54, 52, 55, 52, 56, 52, 57, 53, 48, 53, 49, 53, 50, 53, 51, 53, 52, 53, 53, 53, 54, 53, 55, 53, 56, 53, 57, 54, 48, 54, 49, 54, 50, 54, 51, 54, 52, 54, 53, 54, 54, 54, 55, 54, 56, 54, 57, 55, 48, 55, 49, 55, 50, 55, 51, 55, 52, 55, 53, 55, 54, 55, 55, 55, 56, 55, 57, 56, 48, 56, 49, 56, 50, 56, 51, 56, 52, 56, 53, 56, 54, 56, 55, 56, 56, 56, 57, 57, 48, 57, 49, 57, 50, 57, 51, 57, 52, 57, 53, 57, 54, 57, 55, 57, 56, 57, 57])) v35 fun v52 =>
 kIdx 1 a_0 v44 fun v53 =>
 kSt s 1 v53 v50 fun s =>
 kIdx 1 a_0 v47 fun v54 =>
 kSt s 1 v54 v52 fun s =>
 kBin .sub nd_4 (.int .i64 3) fun v57 =>
 kBin .sub nd_4 (.int .i64 4) fun v60 =>
 kBin .add v32 (.int .u32 1) fun v62 =>
 kIxS (.string (bs [48, 48, 48, 49, 48, 50, 48, 51, 48, 52, 48, 53, 48, 54, 48, 55, 48, 56, 48, 57, 49, 48, 49, 49, 49, 50, 49, 51, 49, 52, 49, 53, 49, 54, 49, 55, 49, 56, 49, 57, 50, 48, 50, 49, 50, 50, 50, 51, 50, 52, 50, 53, 50, 54, 50, 55, 50, 56, 50, 57, 51, 48, 51, 49, 51, 50, 51, 51, 51, 52, 51, 53, 51, 54, 51, 55, 51, 56, 51, 57, 52, 48, 52, 49, 52, 50, 52, 51, 52, 52, 52, 53, 52, 54, 52, 55, 52, 56, 52, 57, 53, 48, 53, 49, 53, 50, 53, 51, 53, 52, 53, 53, 53, 54, 53, 55, 53, 56, 53, 57, 54, 48, 54, 49, 54, 50, 54, 51, 54, 52, 54, 53, 54, 54, 54, 55, 54, 56, 54, 57, 55, 48, 55, 49, 55, 50, 55, 51, 55, 52, 55, 53, 55, 54, 55, 55, 55, 56, 55, 57, 56, 48, 56, 49, 56, 50, 56, 51, 56, 52, 56, 53, 56, 54, 56, 55, 56, 56, 56, 57, 57, 48, 57, 49, 57, 50, 57, 51, 57, 52, 57, 53, 57, 54, 57, 55, 57, 56, 57, 57])) v62 fun v63 =>
 kIxS (.string (bs [48, 48, 48, 49, 48, 50, 48, 51, 48, 52, 48, 53, 48, 54, 48, 55, 48, 56, 48, 57, 49, 48, 49, 49, 49, 50, 49, 51, 49, 52, 49, 53, 49, 54, 49, 55, 49, 56, 49, 57, 50, 48, 50, 49, 50, 50, 50, 51, 50, 52, 50, 53, 50, 54, 50, 55, 50, 56, 50, 57, 51, 48, 51, 49, 51, 50, 51, 51, 51, 52, 51, 53, 51, 54, 51, 55, 51, 56, 51, 57, 52, 48, 52, 49, 52, 50, 52, 51, 52, 52, 52, 53, 52, 54, 52, 55, 52, 56, 52, 57, 53, 48, 53, 49, 53, 50, 53, 51, 53, 52, 53, 53, 53, 54, 53, 55, 53, 56, 53, 57, 54, 48, 54, 49, 54, 50, 54, 51, 54, 52, 54, 53, 54, 54, 54, 55, 54, 56, 54, 57, 55, 48, 55, 49, 55, 50, 55, 51, 55, 52, 55, 53, 55, 54, 55, 55, 55, 56, 55, 57, 56, 48, 56, 49, 56, 50, 56, 51, 56, 52, 56, 53, 56, 54, 56, 55, 56, 56, 56, 57, 57, 48, 57, 49, 57, 50, 57, 51, 57, 52, 57, 53, 57, 54, 57, 55, 57, 56, 57, 57])) v32 fun v65 =>
 kIdx 1 a_0 v57 fun v66 =>
 kSt s 1 v66 v63 fun s =>
 kIdx 1 a_0 v60 fun v67 =>
 kSt s 1 v67 v65 fun s =>
 kBin .sub nd_4 (.int .i64 5) fun v70 =>
 kBin .sub nd_4 (.int .i64 6) fun v73 =>
 kBin .add v41 (.int .u32 1) fun v75 =>
 kIxS (.string (bs [48, 48, 48, 49, 48, 50, 48, 51, 48, 52, 48, 53, 48, 54, 48, 55, 48, 56, 48, 57, 49, 48, 49, 49, 49, 50, 49, 51, 49, 52, 49, 53, 49, 54, 49, 55, 49, 56, 49, 57, 50, 48, 50, 49, 50, 50, 50, 51, 50, 52, 50, 53, 50, 54, 50, 55, 50, 56, 50, 57, 51, 48, 51, 49, 51, 50, 51, 51, 51, 52, 51, 53, 51, 54, 51, 55, 51, 56, 51, 57, 52, 48, 52, 49, 52, 50, 52, 51, 52, 52, 52, 53, 52, 54, 52, 55, 52, 56, 52, 57, 53, 48, 53, 49, 53, 50, 53, 51, 53, 52, 53, 53, 53, 54, 53, 55, 53, 56, 53, 57, 54, 48, 54, 49, 54, 50, 54, 51, 54, 52, 54, 53, 54, 54, 54, 55, 54, 56, 54, 57, 55, 48, 55, 49, 55, 50, 55, 51, 55, 52, 55, 53, 55, 54, 55, 55, 55, 56, 55, 57, 56, 48, 56, 49, 56, 50, 56, 51, 56, 52, 56, 53, 56, 54, 56, 55, 56, 56, 56, 57, 57, 48, 57, 49, 57, 50, 57, 51, 57, 52, 57, 53, 57, 54, 57, 55, 57, 56, 57, 57])) v75 fun v76 =>
 kIxS (.string (bs [48, 48, 48, 49, 48, 50, 48, 51, 48, 52, 48, 53, 48, 54, 48, 55, 48, 56, 48, 57, 49, 48, 49, 49, 49, 50, 49, 51, 49, 52, 49, 53, 49, 54, 49, 55, 49, 56, 49, 57, 50, 48, 50, 49, 50, 50, 50, 51, 50, 52, 50, 53, 50, 54, 50, 55, 50, 56, 50, 57, 51, 48, 51, 49, 51, 50, 51, 51, 51, 52, 51, 53, 51, 54, 51, 55, 51, 56, 51, 57, 52, 48, 52, 49, 52, 50, 52, 51, 52, 52, 52, 53, 52, 54, 52, 55, 52, 56, 52, 57, 53, 48, 53, 49, 53, 50, 53, 51, 53, 52, 53, 53, 53, 54, 53, 55, 53, 56, 53, 57, 54, 48, 54, 49, 54, 50, 54, 51, 54, 52, 54, 53, 54, 54, 54, 55, 54, 56, 54, 57, 55, 48, 55, 49, 55, 50, 55, 51, 55, 52, 55, 53, 55, 54, 55, 55, 55, 56, 55, 57, 56, 48, 56, 49, 56, 50, 56, 51, 56, 52, 56, 53, 56, 54, 56, 55, 56, 56, 56, 57, 57, 48, 57, 49, 57, 50, 57, 51, 57, 52, 57, 53, 57, 54, 57, 55, 57, 56, 57, 57])) v41 fun v78 =>
 kIdx 1 a_0 v70 fun v79 =>
 kSt s 1 v79 v76 fun s =>
 kIdx 1 a_0 v73 fun v80 =>
 kSt s 1 v80 v78 fun s =>
 kBin .sub nd_4 (.int .i64 7) fun v83 =>
 kBin .sub nd_4 (.int .i64 8) fun v86 =>
 kBin .add v38 (.int .u32 1) fun v88 =>
 kIxS (.string (bs [48, 48, 48, 49, 48, 50, 48, 51, 48, 52, 48, 53, 48, 54, 48, 55, 48, 56, 48, 57, 49, 48, 49, 49, 49, 50, 49, 51, 49, 52, 49, 53, 49, 54, 49, 55, 49, 56, 49, 57, 50, 48, 50, 49, 50, 50, 50, 51, 50, 52, 50, 53, 50, 54, 50, 55, 50, 56, 50, 57, 51, 48, 51, 49, 51, 50, 51, 51, 51, 52, 51, 53, 51, 54, 51, 55, 51, 56, 51, 57, 52, 48, 52, 49, 52, 50, 52, 51, 52, 52, 52, 53, 52, 54, 52, 55, 52, 56, 52, 57, 53, 48, 53, 49, 53, 50, 53, 51, 53, 52, 53, 53, 53, 54, 53, 55, 53, 56, 53, 57, 54, 48, 54, 49, 54, 50, 54, 51, 54, 52, 54, 53, 54, 54, 54, 55, 54, 56, 54, 57, 55, 48, 55, 49, 55, 50, 55, 51, 55, 52, 55, 53, 55, 54, 55, 55, 55, 56, 55, 57, 56, 48, 56, 49, 56, 50, 56, 51, 56, 52, 56, 53, 56, 54, 56, 55, 56, 56, 56, 57, 57, 48, 57, 49, 57, 50, 57, 51, 57, 52, 57, 53, 57, 54, 57, 55, 57, 56, 57, 57])) v88 fun v89 =>
 kIxS (.string (bs [48, 48, 48, 49, 48, 50, 48, 51, 48, 52, 48, 53, 48, 54, 48, 55, 48, 56, 48, 57, 49, 48, 49, 49, 49, 50, 49, 51, 49, 52, 49, 53, 49, 54, 49, 55, 49, 56, 49, 57, 50, 48, 50, 49, 50, 50, 50, 51, 50, 52, 50, 53, 50, 54, 50, 55, 50, 56, 50, 57, 51, 48, 51, 49, 51, 50, 51, 51, 51, 52, 51, 53, 51, 54, 51, 55, 51, 56, 51, 57, 52, 48, 52, 49, 52, 50, 52, 51, 52, 52, 52, 53, 52, 54, 52, 55, 52, 56, 52, 57, 53, 48, 53, 49, 53, 50, 53, 51, 53, 52, 53, 53, 53, 54, 53, 55, 53, 56, 53, 57, 54, 48, 54, 49, 54, 50, 54, 51, 54, 52, 54, 53, 54, 54, 54, 55, 54, 56, 54, 57, 55, 48, 55, 49, 55, 50, 55, 51, 55, 52, 55, 53, 55, 54, 55, 55, 55, 56, 55, 57, 56, 48, 56, 49, 56, 50, 56, 51, 56, 52, 56, 53, 56, 54, 56, 55, 56, 56, 56, 57, 57, 48, 57, 49, 57, 50, 57, 51, 57, 52, 57, 53, 57, 54, 57, 55, 57, 56, 57, 57])) v38 fun v91 =>
 kIdx 1 a_0 v83 fun v92 =>
 kSt s 1 v92 v89 fun s =>
 kIdx 1 a_0 v86 fun v93 =>
 kSt s 1 v93 v91 fun s =>
 kBin .sub nd_4 (.int .i64 8) fun v95 =>
 again4 [v25, v95] s) fun J5 =>
 kBin .geq nd_4 (.int .i64 8) fun v20 =>
 kCond v20 (
 J5 [] s) (
 J1 [u_1, nd_4] s)) [u_1, v18] s
theorem F53_ok (a_0 u_1 : Value) (s : AS) (k : Value → AS → Prop) : denFn Tryd.prog [(7, (.go 0 (.go 1 (.go 2 (.go 3 (.go 4 (.go 5 (.go 6 (.go 7 (.go 8 (.go 9 (.go 10 (.go 11 (.go 12 (.go 13 (.go 14 .done)))))))))))))))), (8, (.go 0 (.go 1 (.go 2 (.go 3 (.go 4 (.go 5 (.go 6 (.go 7 (.go 8 (.go 9 (.go 10 (.go 11 (.go 12 (.go 13 (.go 14 .done)))))))))))))))), (9, (.go 0 (.go 1 (.go 2 (.go 3 (.go 4 (.go 5 (.go 6 (.go 7 (.go 8 (.go 9 (.go 10 (.go 11 (.go 12 (.go 13 (.go 14 .done)))))))))))))))), (10, (.go 0 (.go 1 (.go 2 (.go 3 (.go 4 (.go 5 (.go 6 (.go 7 (.go 8 (.go 9 (.go 10 (.go 11 (.go 12 (.go 13 (.go 14 .done)))))))))))))))), (17, (.go 0 (.go 1 (.go 2 (.go 3 (.go 4 (.go 5 (.go 6 (.go 7 (.go 8 (.go 9 (.go 10 (.go 11 (.go 12 (.go 13 (.go 14 .done)))))))))))))))), (18, (.go 0 (.go 1 (.go 2 (.go 3 (.go 4 (.go 5 (.go 6 (.go 7 (.go 8 (.go 9 (.go 10 (.go 11 (.go 12 (.go 13 (.go 14 .done)))))))))))))))), (23, (.go 0 (.go 1 (.go 2 (.go 3 (.go 4 (.go 5 (.go 6 (.go 7 (.go 8 (.go 9 (.go 10 (.go 11 (.go 12 (.go 13 (.go 14 .done))))))))))))))))] 53 [a_0, u_1] s k = F53 a_0 u_1 s k := by kernel_rfl
theorem f53 {a_0 u_1 : Value} {s : AS} {k : Value → AS → Prop} (h : F53 a_0 u_1 s k) : kCall Tryd.prog 53 [a_0, u_1] s k := fn_by (F53_ok a_0 u_1 s k) h
theorem k53_ok : okFn Tryd.prog 53 = true := by kernel_rfl

/- internal strconv.formatBits -/
def F54 (dst_0 u_1 base_2 neg_3 append_4 : Value) (s : AS) (k : Value → AS → Prop) : Prop :=
 kJoin (fun _ s =>
 kNew s (List.replicate 65 (.int .u8 0)) fun a_12 s =>
 kJoin (fun xs s =>
 un1 xs fun u_1 =>
 kJoin (fun xs s =>
 un1 xs fun i_13 =>
 kJoin (fun xs s =>
 un1 xs fun i_13 =>
 kJoin (fun xs s =>
 un1 xs fun d_10 =>
 kSubA 65 1 a_12 (some i_13) none fun v100 =>
 kCvBS s v100 fun v101 =>
 k (.tuple #[d_10, v101]) s) fun J5 =>
 kCond append_4 (
 kSubA 65 1 a_12 (some i_13) none fun v97 =>
 kApp Tryd.prog 66 66 dst_0 v97 s fun v98 s =>
 k (.tuple #[v98, (.string (bs []))]) s) (
 J5 [(.slice none 0 0)] s)) fun J4 =>
 kCond neg_3 (
 kBin .sub i_13 (.int .i64 1) fun v91 =>
 kIdxA 65 1 a_12 v91 fun v93 =>
 kSt s 1 v93 (.int .u8 45) fun s =>
 J4 [v91] s) (
 J4 [i_13] s)) fun J3 =>
 kCall Tryd.prog 68 [base_2] s fun v34 s =>
 kCond v34 (
 kCvi .u64 base_2 fun v36 =>
 kCall Tryd.prog 69 [v36] s fun v37 s =>
 kCvi .u64 v37 fun v38 =>
 kCvi .u64 base_2 fun v40 =>
 kCvi .u64 base_2 fun v42 =>
 kBin .sub v42 (.int .u64 1) fun v43 =>
 kJoin (fun xs s =>
 un2 xs fun u_1 i_13 =>
 kBin .sub i_13 (.int .i64 1) fun v59 =>
 kIxS (.string (bs [48, 49, 50, 51, 52, 53, 54, 55, 56, 57, 97, 98, 99, 100, 101, 102, 103, 104, 105, 106, 107, 108, 109, 110, 111, 112, 113, 114, 115, 116, 117, 118, 119, 120, 121, 122])) u_1 fun v62 =>
 kIdxA 65 1 a_12 v59 fun v63 =>
 kSt s 1 v63 v62 fun s =>
 J3 [v59] s) fun J6 =>
 kLoop (fun again7 xs s =>
 un2 xs fun u_1 i_13 =>
 kJoin (fun _ s =>
 kBin .sub i_13 (.int .i64 1) fun v48 =>
 kBin .and u_1 v43 fun v52 =>
 kIxS (.string (bs [48, 49, 50, 51, 52, 53, 54, 55, 56, 57, 97, 98, 99, 100, 101, 102, 103, 104, 105, 106, 107, 108, 109, 110, 111, 112, 113, 114, 115, 116, 117, 118, 119, 120, 121, 122])) v52 fun v53 =>
 kIdxA 65 1 a_12 v48 fun v54 =>
 kSt s 1 v54 v53 fun s =>
 kSft .shr u_1 v38 fun v57 =>
 again7 [v57, v48] s) fun J8 =>
 kBin .geq u_1 v40 fun v46 =>
 kCond v46 (
 J8 [] s) (
 J6 [u_1, i_13] s)) [u_1, (.int .i64 65)] s) (
 kCvi .u64 base_2 fun v65 =>
 kJoin (fun xs s =>
 un2 xs fun u_1 i_13 =>
 kBin .sub i_13 (.int .i64 1) fun v84 =>
 kIxS (.string (bs [48, 49, 50, 51, 52, 53, 54, 55, 56, 57, 97, 98, 99, 100, 101, 102, 103, 104, 105, 106, 107, 108, 109, 110, 111, 112, 113, 114, 115, 116, 117, 118, 119, 120, 121, 122])) u_1 fun v87 =>
 kIdxA 65 1 a_12 v84 fun v88 =>
 kSt s 1 v88 v87 fun s =>
 J3 [v84] s) fun J9 =>
 kLoop (fun again10 xs s =>
 un2 xs fun u_1 i_13 =>
 kJoin (fun _ s =>
 kBin .sub i_13 (.int .i64 1) fun v70 =>
 kBin .quo u_1 v65 fun v73 =>
 kBin .mul v73 v65 fun v78 =>
 kBin .sub u_1 v78 fun v79 =>
 kIxS (.string (bs [48, 49, 50, 51, 52, 53, 54, 55, 56, 57, 97, 98, 99, 100, 101, 102, 103, 104, 105, 106, 107, 108, 109, 110, 111, 112, 113, 114, 115, 116, 117, 118, 119, 120, 121, 122])) v79 fun v80 =>
 kIdxA 65 1 a_12 v70 fun v81 =>
 kSt s 1 v81 v80 fun s =>
 again10 [v73, v70] s) fun J11 =>
 kBin .geq u_1 v65 fun v68 =>
 kCond v68 (
 J11 [] s) (
 J9 [u_1, i_13] s)) [u_1, (.int .i64 65)] s)) fun J2 =>
 kCond neg_3 (
 kUn .neg u_1 fun v32 =>
 J2 [v32] s) (
 J2 [u_1] s)) fun J1 =>
 kBin .lss base_2 (.int .i64 2) fun v20 =>
 kGrd v20 false (fun k =>
 kBin .eql base_2 (.int .i64 10) fun v23 =>
 k [v23] s) [undef] s fun xs s =>
 un1 xs fun v23 =>
 kPick v20 (.bool true) v23 fun v24 =>
 kGrd v24 false (fun k =>
 kBin .gtr base_2 (.int .i64 36) fun v27 =>
 k [v27] s) [undef] s fun xs s =>
 un1 xs fun v27 =>
 kPick v24 (.bool true) v27 fun v28 =>
 kCond v28 (
 kGen Tryd.prog (.mki 9) [(.string (bs [115, 116, 114, 99, 111, 110, 118, 58, 32, 105, 108, 108, 101, 103, 97, 108, 32, 65, 112, 112, 101, 110, 100, 73, 110, 116, 47, 70, 111, 114, 109, 97, 116, 73, 110, 116, 32, 98, 97, 115, 101]))] s fun v29 s =>
 False) (
 J1 [] s)
theorem F54_ok (dst_0 u_1 base_2 neg_3 append_4 : Value) (s : AS) (k : Value → AS → Prop) : denFn Tryd.prog [] 54 [dst_0, u_1, base_2, neg_3, append_4] s k = F54 dst_0 u_1 base_2 neg_3 append_4 s k := by kernel_rfl
theorem f54 {dst_0 u_1 base_2 neg_3 append_4 : Value} {s : AS} {k : Value → AS → Prop} (h : F54 dst_0 u_1 base_2 neg_3 append_4 s k) : kCall Tryd.prog 54 [dst_0, u_1, base_2, neg_3, append_4] s k := fn_by (F54_ok dst_0 u_1 base_2 neg_3 append_4 s k) h
theorem k54_ok : okFn Tryd.prog 54 = true := by kernel_rfl

/- strings.trimLeftByte -/
def F55 (s_0 c_1 : Value) (s : AS) (k : Value → AS → Prop) : Prop :=
 kJoin (fun xs s =>
 un1 xs fun s_0 =>
 k s_0 s) fun J1 =>
 kLoop (fun again2 xs s =>
 un1 xs fun s_0 =>
 kJoin (fun _ s =>
 kSubS s_0 (some (.int .i64 1)) none fun v15 =>
 again2 [v15] s) fun J3 =>
 kLen true s_0 fun v6 =>
 kBin .gtr v6 (.int .i64 0) fun v7 =>
 kGrd v7 true (fun k =>
 kIxS s_0 (.int .i64 0) fun v10 =>
 kBin .eql v10 c_1 fun v12 =>
 k [v12] s) [undef] s fun xs s =>
 un1 xs fun v12 =>
 kPick v7 v12 (.bool false) fun v13 =>
 kCond v13 (
 J3 [] s) (
 J1 [s_0] s)) [s_0] s
theorem F55_ok (s_0 c_1 : Value) (s : AS) (k : Value → AS → Prop) : denFn Tryd.prog [] 55 [s_0, c_1] s k = F55 s_0 c_1 s k := by kernel_rfl
theorem f55 {s_0 c_1 : Value} {s : AS} {k : Value → AS → Prop} (h : F55 s_0 c_1 s k) : kCall Tryd.prog 55 [s_0, c_1] s k := fn_by (F55_ok s_0 c_1 s k) h
theorem k55_ok : okFn Tryd.prog 55 = true := by kernel_rfl

/- strings.makeASCIISet -/
def F56 (chars_0 : Value) (s : AS) (k : Value → AS → Prop) : Prop :=
 kNew s (List.replicate 256 (.bool false)) fun as_2 s =>
 kJoin (fun _ s =>
 kLdN s 256 as_2 fun v20 =>
 kSt s 256 as_2 v20 fun s =>
 kLdN s 256 as_2 fun r0 =>
 k (.tuple #[r0, (.bool true)]) s) fun J1 =>
 kLoop (fun again2 xs s =>
 un1 xs fun i_4 =>
 kJoin (fun _ s =>
 kJoin (fun _ s =>
 kBin .add i_4 (.int .i64 1) fun v11 =>
 again2 [v11] s) fun J4 =>
 kIxS chars_0 i_4 fun v14 =>
 kJoin (fun _ s =>
 kIdxA 256 1 as_2 v14 fun v19 =>
 kSt s 1 v19 (.bool true) fun s =>
 J4 [] s) fun J5 =>
 kBin .geq v14 (.int .u8 128) fun v16 =>
 kCond v16 (
 kLdN s 256 as_2 fun v17 =>
 kSt s 256 as_2 v17 fun s =>
 kLdN s 256 as_2 fun r0 =>
 k (.tuple #[r0, (.bool false)]) s) (
 J5 [] s)) fun J3 =>
 kLen true chars_0 fun v8 =>
 kBin .lss i_4 v8 fun v9 =>
 kCond v9 (
 J3 [] s) (
 J1 [] s)) [(.int .i64 0)] s
theorem F56_ok (chars_0 : Value) (s : AS) (k : Value → AS → Prop) : denFn Tryd.prog [] 56 [chars_0] s k = F56 chars_0 s k := by kernel_rfl
theorem f56 {chars_0 : Value} {s : AS} {k : Value → AS → Prop} (h : F56 chars_0 s k) : kCall Tryd.prog 56 [chars_0] s k := fn_by (F56_ok chars_0 s k) h
theorem k56_ok : okFn Tryd.prog 56 = true := by kernel_rfl

/- strings.trimLeftASCII -/
def F57 (s_0 as_1 : Value) (s : AS) (k : Value → AS → Prop) : Prop :=
 kJoin (fun xs s =>
 un1 xs fun s_0 =>
 k s_0 s) fun J1 =>
 kLoop (fun again2 xs s =>
 un1 xs fun s_0 =>
 kJoin (fun _ s =>
 kJoin (fun _ s =>
 kSubS s_0 (some (.int .i64 1)) none fun v14 =>
 again2 [v14] s) fun J4 =>
 kIxS s_0 (.int .i64 0) fun v10 =>
 kCall Tryd.prog 70 [as_1, v10] s fun v11 s =>
 kUn .not v11 fun v12 =>
 kCond v12 (
 J1 [s_0] s) (
 J4 [] s)) fun J3 =>
 kLen true s_0 fun v6 =>
 kBin .gtr v6 (.int .i64 0) fun v7 =>
 kCond v7 (
 J3 [] s) (
 J1 [s_0] s)) [s_0] s
theorem F57_ok (s_0 as_1 : Value) (s : AS) (k : Value → AS → Prop) : denFn Tryd.prog [] 57 [s_0, as_1] s k = F57 s_0 as_1 s k := by kernel_rfl
theorem f57 {s_0 as_1 : Value} {s : AS} {k : Value → AS → Prop} (h : F57 s_0 as_1 s k) : kCall Tryd.prog 57 [s_0, as_1] s k := fn_by (F57_ok s_0 as_1 s k) h
theorem k57_ok : okFn Tryd.prog 57 = true := by kernel_rfl

/- strings.trimLeftUnicode -/
def F58 (s_0 cutset_1 : Value) (s : AS) (k : Value → AS → Prop) : Prop :=
 kJoin (fun xs s =>
 un1 xs fun s_0 =>
 k s_0 s) fun J1 =>
 kLoop (fun again2 xs s =>
 un1 xs fun s_0 =>
 kJoin (fun _ s =>
 kCall Tryd.prog 71 [s_0] s fun v12 s =>
 kExt 0 v12 fun v13 =>
 kExt 1 v12 fun v14 =>
 kJoin (fun _ s =>
 kSubS s_0 (some v14) none fun v21 =>
 again2 [v21] s) fun J4 =>
 kCall Tryd.prog 72 [cutset_1, v13] s fun v17 s =>
 kUn .not v17 fun v18 =>
 kCond v18 (
 J1 [s_0] s) (
 J4 [] s)) fun J3 =>
 kLen true s_0 fun v8 =>
 kBin .gtr v8 (.int .i64 0) fun v9 =>
 kCond v9 (
 J3 [] s) (
 J1 [s_0] s)) [s_0] s
theorem F58_ok (s_0 cutset_1 : Value) (s : AS) (k : Value → AS → Prop) : denFn Tryd.prog [] 58 [s_0, cutset_1] s k = F58 s_0 cutset_1 s k := by kernel_rfl
theorem f58 {s_0 cutset_1 : Value} {s : AS} {k : Value → AS → Prop} (h : F58 s_0 cutset_1 s k) : kCall Tryd.prog 58 [s_0, cutset_1] s k := fn_by (F58_ok s_0 cutset_1 s k) h
theorem k58_ok : okFn Tryd.prog 58 = true := by kernel_rfl

/- (*conch arith.worker).operand -/
def F60 (w_0 : Value) (s : AS) (k : Value → AS → Prop) : Prop :=
 kCall Tryd.prog 32 [w_0] s fun v11 s =>
 kJoin (fun _ s =>
 kJoin (fun _ s =>
 kNck w_0 fun v166 =>
 kFld 5 v166 fun v167 =>
 kSt s 1 v167 (.bool true) fun s =>
 k (.int .i64 0) s) fun J2 =>
 kNck w_0 fun v27 =>
 kFld 0 v27 fun v28 =>
 kLd s v28 fun v29 =>
 kIxS v29 (.int .i64 0) fun v30 =>
 kBin .eql v30 (.int .u8 43) fun v33 =>
 kGrd v33 false (fun k =>
 kBin .eql v30 (.int .u8 45) fun v36 =>
 k [v36] s) [undef] s fun xs s =>
 un1 xs fun v36 =>
 kPick v33 (.bool true) v36 fun v37 =>
 kGrd v37 false (fun k =>
 kBin .eql v30 (.int .u8 33) fun v40 =>
 k [v40] s) [undef] s fun xs s =>
 un1 xs fun v40 =>
 kPick v37 (.bool true) v40 fun v41 =>
 kGrd v41 false (fun k =>
 kBin .eql v30 (.int .u8 126) fun v44 =>
 k [v44] s) [undef] s fun xs s =>
 un1 xs fun v44 =>
 kPick v41 (.bool true) v44 fun v45 =>
 kCond v45 (
 kNck w_0 fun v48 =>
 kFld 0 v48 fun v49 =>
 kLd s v49 fun v50 =>
 kSubS v50 (some (.int .i64 1)) none fun v51 =>
 kNck w_0 fun v52 =>
 kFld 0 v52 fun v53 =>
 kSt s 1 v53 v51 fun s =>
 kCall Tryd.prog 60 [w_0] s fun v55 s =>
 kJoin (fun _ s =>
 k v55 s) fun J3 =>
 kBin .eql v30 (.int .u8 45) fun v58 =>
 kCond v58 (
 kUn .neg v55 fun v60 =>
 k v60 s) (
 kBin .eql v30 (.int .u8 33) fun v62 =>
 kCond v62 (
 kBin .eql v55 (.int .i64 0) fun v64 =>
 kCall Tryd.prog 18 [v64] s fun v65 s =>
 k v65 s) (
 kBin .eql v30 (.int .u8 126) fun v67 =>
 kCond v67 (
 kUn .xor v55 fun v69 =>
 k v69 s) (
 J3 [] s)))) (
 kBin .eql v30 (.int .u8 40) fun v73 =>
 kCond v73 (
 kNck w_0 fun v76 =>
 kFld 0 v76 fun v77 =>
 kLd s v77 fun v78 =>
 kSubS v78 (some (.int .i64 1)) none fun v79 =>
 kNck w_0 fun v80 =>
 kFld 0 v80 fun v81 =>
 kSt s 1 v81 v79 fun s =>
 kCall Tryd.prog 11 [w_0] s fun v83 s =>
 kJoin (fun _ s =>
 kNck w_0 fun v92 =>
 kFld 0 v92 fun v93 =>
 kLd s v93 fun v94 =>
 kSubS v94 (some (.int .i64 1)) none fun v95 =>
 kNck w_0 fun v96 =>
 kFld 0 v96 fun v97 =>
 kSt s 1 v97 v95 fun s =>
 k v83 s) fun J4 =>
 kCall Tryd.prog 10 [w_0] s fun v85 s =>
 kBin .neq v85 (.string (bs [41])) fun v86 =>
 kCond v86 (
 kNck w_0 fun v88 =>
 kFld 5 v88 fun v89 =>
 kSt s 1 v89 (.bool true) fun s =>
 k (.int .i64 0) s) (
 J4 [] s)) (
 kCall Tryd.prog 44 [v30] s fun v101 s =>
 kCond v101 (
 kNck w_0 fun v103 =>
 kFld 0 v103 fun v104 =>
 kNck w_0 fun v107 =>
 kFld 0 v107 fun v108 =>
 kLd s v104 fun v105 =>
 kLd s v108 fun v109 =>
 kCall Tryd.prog 34 [v109] s fun v110 s =>
 kChk s v104 v105 (
 kSubS v105 none (some v110) fun v111 =>
 kNck w_0 fun v114 =>
 kFld 0 v114 fun v115 =>
 kLd s v115 fun v116 =>
 kLen true v111 fun v118 =>
 kSubS v116 (some v118) none fun v119 =>
 kNck w_0 fun v120 =>
 kFld 0 v120 fun v121 =>
 kSt s 1 v121 v119 fun s =>
 kCall Tryd.prog 37 [w_0, v111] s fun v124 s =>
 k v124 s)) (
 kCall Tryd.prog 45 [v30] s fun v127 s =>
 kCond v127 (
 kNck w_0 fun v129 =>
 kFld 0 v129 fun v130 =>
 kLd s v130 fun v131 =>
 kBin .add (.string (bs [95])) v131 fun v132 =>
 kCall Tryd.prog 34 [v132] s fun v133 s =>
 kBin .sub v133 (.int .i64 1) fun v134 =>
 kNck w_0 fun v137 =>
 kFld 0 v137 fun v138 =>
 kLd s v138 fun v139 =>
 kSubS v139 none (some v134) fun v141 =>
 kCall Tryd.prog 64 [v141] s fun v142 s =>
 kExt 0 v142 fun v143 =>
 kExt 1 v142 fun v144 =>
 kNck w_0 fun v147 =>
 kFld 0 v147 fun v148 =>
 kLd s v148 fun v149 =>
 kSubS v149 (some v134) none fun v151 =>
 kNck w_0 fun v152 =>
 kFld 0 v152 fun v153 =>
 kSt s 1 v153 v151 fun s =>
 kUn .not v144 fun v156 =>
 kGrd v156 false (fun k =>
 kBin .geq v143 (.int .u64 9223372036854775808) fun v159 =>
 k [v159] s) [undef] s fun xs s =>
 un1 xs fun v159 =>
 kPick v156 (.bool true) v159 fun v160 =>
 kNck w_0 fun v161 =>
 kFld 5 v161 fun v162 =>
 kSt s 1 v162 v160 fun s =>
 kCvi .i64 v143 fun v164 =>
 k v164 s) (
 J2 [] s))))) fun J1 =>
 kNck w_0 fun v13 =>
 kFld 5 v13 fun v14 =>
 kLd s v14 fun v15 =>
 kGrd v15 false (fun k =>
 kNck w_0 fun v18 =>
 kFld 0 v18 fun v19 =>
 kLd s v19 fun v20 =>
 kBin .eql v20 (.string (bs [])) fun v21 =>
 k [v21] s) [undef] s fun xs s =>
 un1 xs fun v21 =>
 kPick v15 (.bool true) v21 fun v22 =>
 kCond v22 (
 kNck w_0 fun v24 =>
 kFld 5 v24 fun v25 =>
 kSt s 1 v25 (.bool true) fun s =>
 k (.int .i64 0) s) (
 J1 [] s)
theorem F60_ok (w_0 : Value) (s : AS) (k : Value → AS → Prop) : denFn Tryd.prog [(26, (.go 0 (.go 1 (.go 2 (.go 4 (.go 5 (.go 6 (.go 3 (.go 7 (.go 8 (.go 9 (.go 10 .done))))))))))))] 60 [w_0] s k = F60 w_0 s k := by kernel_rfl
theorem f60 {w_0 : Value} {s : AS} {k : Value → AS → Prop} (h : F60 w_0 s k) : kCall Tryd.prog 60 [w_0] s k := fn_by (F60_ok w_0 s k) h
theorem k60_ok : okFn Tryd.prog 60 = true := by kernel_rfl

/- (*conch arith.worker).rank$1 -/
def F61 (v0 v1 : Value) (s : AS) (k : Value → AS → Prop) : Prop :=
 kLd s v0 fun v3 =>
 kLd s v1 fun v4 =>
 kBin .add v4 (.int .i64 1) fun v5 =>
 kCall Tryd.prog 46 [v3, v5] s fun v6 s =>
 k v6 s
theorem F61_ok (v0 v1 : Value) (s : AS) (k : Value → AS → Prop) : denFn Tryd.prog [] 61 [v0, v1] s k = F61 v0 v1 s k := by kernel_rfl
theorem f61 {v0 v1 : Value} {s : AS} {k : Value → AS → Prop} (h : F61 v0 v1 s k) : kCall Tryd.prog 61 [v0, v1] s k := fn_by (F61_ok v0 v1 s k) h
theorem k61_ok : okFn Tryd.prog 61 = true := by kernel_rfl

/- (*conch arith.worker).passing$1 -/
def F62 (v0 : Value) (s : AS) (k : Value → AS → Prop) : Prop :=
 kLd s v0 fun v1 =>
 kNck v1 fun v2 =>
 kFld 4 v2 fun v3 =>
 kLd s v3 fun v4 =>
 kBin .sub v4 (.int .i64 1) fun v5 =>
 kNck v1 fun v6 =>
 kFld 4 v6 fun v7 =>
 kSt s 1 v7 v5 fun s =>
 k undef s
theorem F62_ok (v0 : Value) (s : AS) (k : Value → AS → Prop) : denFn Tryd.prog [] 62 [v0] s k = F62 v0 s k := by kernel_rfl
theorem f62 {v0 : Value} {s : AS} {k : Value → AS → Prop} (h : F62 v0 s k) : kCall Tryd.prog 62 [v0] s k := fn_by (F62_ok v0 s k) h
theorem k62_ok : okFn Tryd.prog 62 = true := by kernel_rfl

/- strings.Trim -/
def F63 (s_0 cutset_1 : Value) (s : AS) (k : Value → AS → Prop) : Prop :=
 kJoin (fun _ s =>
 kJoin (fun _ s =>
 kJoin (fun _ s =>
 kCall Tryd.prog 75 [s_0, cutset_1] s fun v40 s =>
 kCall Tryd.prog 58 [v40, cutset_1] s fun v42 s =>
 k v42 s) fun J3 =>
 kCall Tryd.prog 56 [cutset_1] s fun v31 s =>
 kExt 0 v31 fun v32 =>
 kExt 1 v31 fun v33 =>
 kNew s (List.replicate 256 (.bool false)) fun as_5 s =>
 kSt s 256 as_5 v32 fun s =>
 kCond v33 (
 kCall Tryd.prog 74 [s_0, as_5] s fun v36 s =>
 kCall Tryd.prog 57 [v36, as_5] s fun v37 s =>
 k v37 s) (
 J3 [] s)) fun J2 =>
 kLen true cutset_1 fun v15 =>
 kBin .eql v15 (.int .i64 1) fun v16 =>
 kGrd v16 true (fun k =>
 kIxS cutset_1 (.int .i64 0) fun v19 =>
 kBin .lss v19 (.int .u8 128) fun v20 =>
 k [v20] s) [undef] s fun xs s =>
 un1 xs fun v20 =>
 kPick v16 v20 (.bool false) fun v21 =>
 kCond v21 (
 kIxS cutset_1 (.int .i64 0) fun v24 =>
 kIxS cutset_1 (.int .i64 0) fun v27 =>
 kCall Tryd.prog 73 [s_0, v24] s fun v25 s =>
 kCall Tryd.prog 55 [v25, v27] s fun v28 s =>
 k v28 s) (
 J2 [] s)) fun J1 =>
 kBin .eql s_0 (.string (bs [])) fun v8 =>
 kGrd v8 false (fun k =>
 kBin .eql cutset_1 (.string (bs [])) fun v11 =>
 k [v11] s) [undef] s fun xs s =>
 un1 xs fun v11 =>
 kPick v8 (.bool true) v11 fun v12 =>
 kCond v12 (
 k s_0 s) (
 J1 [] s)
theorem F63_ok (s_0 cutset_1 : Value) (s : AS) (k : Value → AS → Prop) : denFn Tryd.prog [(4, (.go 0 (.go 1 (.go 2 (.go 4 (.go 5 (.go 3 (.go 6 (.go 7 .done)))))))))] 63 [s_0, cutset_1] s k = F63 s_0 cutset_1 s k := by kernel_rfl
theorem f63 {s_0 cutset_1 : Value} {s : AS} {k : Value → AS → Prop} (h : F63 s_0 cutset_1 s k) : kCall Tryd.prog 63 [s_0, cutset_1] s k := fn_by (F63_ok s_0 cutset_1 s k) h
theorem k63_ok : okFn Tryd.prog 63 = true := by kernel_rfl

/- conch arith.number -/
def F64 (w_0 : Value) (s : AS) (k : Value → AS → Prop) : Prop :=
 kJoin (fun xs s =>
 un2 xs fun base_4 digits_5 =>
 kJoin (fun _ s =>
 kCall Tryd.prog 77 [digits_5, base_4, (.int .i64 64)] s fun v43 s =>
 kExt 0 v43 fun v44 =>
 kExt 1 v43 fun v45 =>
 kEqi false v45 .nilIface fun v48 =>
 k (.tuple #[v44, v48]) s) fun J2 =>
 kBin .eql digits_5 (.string (bs [])) fun v35 =>
 kGrd v35 false (fun k =>
 kCall Tryd.prog 76 [digits_5, (.string (bs [95, 43, 45]))] s fun v38 s =>
 k [v38] s) [undef] s fun xs s =>
 un1 xs fun v38 =>
 kPick v35 (.bool true) v38 fun v39 =>
 kCond v39 (
 k (.tuple #[(.int .u64 0), (.bool false)]) s) (
 J2 [] s)) fun J1 =>
 kLen true w_0 fun v11 =>
 kBin .gtr v11 (.int .i64 2) fun v12 =>
 kGrd v12 true (fun k =>
 kSubS w_0 none (some (.int .i64 2)) fun v15 =>
 kBin .eql v15 (.string (bs [48, 120])) fun v16 =>
 k [v16] s) [undef] s fun xs s =>
 un1 xs fun v17 =>
 kGrd v17 false (fun k =>
 kSubS w_0 none (some (.int .i64 2)) fun v19 =>
 kBin .eql v19 (.string (bs [48, 88])) fun v20 =>
 k [v20] s) [undef] s fun xs s =>
 un1 xs fun v20 =>
 kGrd v12 true (fun k =>
 kPick v17 (.bool true) v20 fun v21 =>
 k [v21] s) [undef] s fun xs s =>
 un1 xs fun v21 =>
 kPick v12 v21 (.bool false) fun v22 =>
 kCond v22 (
 kSubS w_0 (some (.int .i64 2)) none fun v24 =>
 J1 [(.int .i64 16), v24] s) (
 kLen true w_0 fun v27 =>
 kBin .gtr v27 (.int .i64 1) fun v28 =>
 kGrd v28 true (fun k =>
 kIxS w_0 (.int .i64 0) fun v31 =>
 kBin .eql v31 (.int .u8 48) fun v32 =>
 k [v32] s) [undef] s fun xs s =>
 un1 xs fun v32 =>
 kPick v28 v32 (.bool false) fun v33 =>
 kCond v33 (
 J1 [(.int .i64 8), w_0] s) (
 J1 [(.int .i64 10), w_0] s))
theorem F64_ok (w_0 : Value) (s : AS) (k : Value → AS → Prop) : denFn Tryd.prog [(3, (.go 0 (.go 1 (.go 2 (.go 3 .done))))), (9, (.go 0 (.go 1 (.go 2 (.go 3 (.go 4 .done))))))] 64 [w_0] s k = F64 w_0 s k := by kernel_rfl
theorem f64 {w_0 : Value} {s : AS} {k : Value → AS → Prop} (h : F64 w_0 s k) : kCall Tryd.prog 64 [w_0] s k := fn_by (F64_ok w_0 s k) h
theorem k64_ok : okFn Tryd.prog 64 = true := by kernel_rfl

/- internal strconv.log10Pow2 -/
def F65 (x_0 : Value) (s : AS) (k : Value → AS → Prop) : Prop :=
 kBin .mul x_0 (.int .i64 78913) fun v4 =>
 kSft .shr v4 (.int .u64 18) fun v5 =>
 k v5 s
theorem F65_ok (x_0 : Value) (s : AS) (k : Value → AS → Prop) : denFn Tryd.prog [] 65 [x_0] s k = F65 x_0 s k := by kernel_rfl
theorem f65 {x_0 : Value} {s : AS} {k : Value → AS → Prop} (h : F65 x_0 s k) : kCall Tryd.prog 65 [x_0] s k := fn_by (F65_ok x_0 s k) h
theorem k65_ok : okFn Tryd.prog 65 = true := by kernel_rfl

/- math bits.Len64 -/
def F66 (x_0 : Value) (s : AS) (k : Value → AS → Prop) : Prop :=
 kJoin (fun xs s =>
 un2 xs fun x_0 n_2 =>
 kJoin (fun xs s =>
 un2 xs fun x_0 n_2 =>
 kJoin (fun xs s =>
 un2 xs fun x_0 n_2 =>
 kCvi .u8 x_0 fun v21 =>
 kIxS (.string (bs [0, 1, 2, 2, 3, 3, 3, 3, 4, 4, 4, 4, 4, 4, 4, 4, 5, 5, 5, 5, 5, 5, 5, 5, 5, 5, 5, 5, 5, 5, 5, 5, 6, 6, 6, 6, 6, 6, 6, 6, 6, 6, 6, 6, 6, 6, 6, 6, 6, 6, 6, 6, 6, 6, 6, 6, 6, 6, 6, 6, 6, 6, 6, 6, 7, 7, 7, 7, 7, 7, 7, 7, 7, 7, 7, 7, 7, 7, 7, 7, 7, 7, 7, 7, 7, 7, 7, 7, 7, 7, 7, 7, 7, 7, 7, 7, 7, 7, 7, 7, 7, 7, 7, 7, 7, 7, 7, 7, 7, 7, 7, 7, 7, 7, 7, 7, 7, 7, 7, 7, 7, 7, 7, 7, 7, 7, 7, 7, 8, 8, 8, 8, 8, 8, 8, 8, 8, 8, 8, 8, 8, 8, 8, 8, 8, 8, 8, 8, 8, 8, 8, 8, 8, 8, 8, 8, 8, 8, 8, 8, 8, 8, 8, 8, 8, 8, 8, 8, 8, 8, 8, 8, 8, 8, 8, 8, 8, 8, 8, 8, 8, 8, 8, 8, 8, 8, 8, 8, 8, 8, 8, 8, 8, 8, 8, 8, 8, 8, 8, 8, 8, 8, 8, 8, 8, 8, 8, 8, 8, 8, 8, 8, 8, 8, 8, 8, 8, 8, 8, 8, 8, 8, 8, 8, 8, 8, 8, 8, 8, 8, 8, 8, 8, 8, 8, 8, 8, 8, 8, 8, 8, 8, 8, 8, 8, 8, 8, 8, 8, 8, 8, 8, 8, 8, 8, 8])) v21 fun v22 =>
 kCvi .i64 v22 fun v23 =>
 kBin .add n_2 v23 fun v24 =>
 k v24 s) fun J3 =>
 kBin .geq x_0 (.int .u64 256) fun v14 =>
 kCond v14 (
 kSft .shr x_0 (.int .u64 8) fun v16 =>
 kBin .add n_2 (.int .i64 8) fun v18 =>
 J3 [v16, v18] s) (
 J3 [x_0, n_2] s)) fun J2 =>
 kBin .geq x_0 (.int .u64 65536) fun v8 =>
 kCond v8 (
 kSft .shr x_0 (.int .u64 16) fun v10 =>
 kBin .add n_2 (.int .i64 16) fun v12 =>
 J2 [v10, v12] s) (
 J2 [x_0, n_2] s)) fun J1 =>
 kBin .geq x_0 (.int .u64 4294967296) fun v4 =>
 kCond v4 (
 kSft .shr x_0 (.int .u64 32) fun v6 =>
 J1 [v6, (.int .i64 32)] s) (
 J1 [x_0, (.int .i64 0)] s)
theorem F66_ok (x_0 : Value) (s : AS) (k : Value → AS → Prop) : denFn Tryd.prog [] 66 [x_0] s k = F66 x_0 s k := by kernel_rfl
theorem f66 {x_0 : Value} {s : AS} {k : Value → AS → Prop} (h : F66 x_0 s k) : kCall Tryd.prog 66 [x_0] s k := fn_by (F66_ok x_0 s k) h
theorem k66_ok : okFn Tryd.prog 66 = true := by kernel_rfl

/- internal strconv.bool2[int] -/
def F67 (b_0 : Value) (s : AS) (k : Value → AS → Prop) : Prop :=
 kJoin (fun _ s =>
 k (.int .i64 0) s) fun J1 =>
 kCond b_0 (
 k (.int .i64 1) s) (
 J1 [] s)
theorem F67_ok (b_0 : Value) (s : AS) (k : Value → AS → Prop) : denFn Tryd.prog [] 67 [b_0] s k = F67 b_0 s k := by kernel_rfl
theorem f67 {b_0 : Value} {s : AS} {k : Value → AS → Prop} (h : F67 b_0 s k) : kCall Tryd.prog 67 [b_0] s k := fn_by (F67_ok b_0 s k) h
theorem k67_ok : okFn Tryd.prog 67 = true := by kernel_rfl

/- internal strconv.isPowerOfTwo -/
def F68 (x_0 : Value) (s : AS) (k : Value → AS → Prop) : Prop :=
 kBin .sub x_0 (.int .i64 1) fun v5 =>
 kBin .and x_0 v5 fun v6 =>
 kBin .eql v6 (.int .i64 0) fun v7 =>
 k v7 s
theorem F68_ok (x_0 : Value) (s : AS) (k : Value → AS → Prop) : denFn Tryd.prog [] 68 [x_0] s k = F68 x_0 s k := by kernel_rfl
theorem f68 {x_0 : Value} {s : AS} {k : Value → AS → Prop} (h : F68 x_0 s k) : kCall Tryd.prog 68 [x_0] s k := fn_by (F68_ok x_0 s k) h
theorem k68_ok : okFn Tryd.prog 68 = true := by kernel_rfl

/- math bits.TrailingZeros -/
def F69 (x_0 : Value) (s : AS) (k : Value → AS → Prop) : Prop :=
 kJoin (fun _ s =>
 kCall Tryd.prog 79 [x_0] s fun v7 s =>
 k v7 s) fun J1 =>
 kCond (.bool false) (
 kCvi .u32 x_0 fun v4 =>
 kCall Tryd.prog 78 [v4] s fun v5 s =>
 k v5 s) (
 J1 [] s)
theorem F69_ok (x_0 : Value) (s : AS) (k : Value → AS → Prop) : denFn Tryd.prog [] 69 [x_0] s k = F69 x_0 s k := by kernel_rfl
theorem f69 {x_0 : Value} {s : AS} {k : Value → AS → Prop} (h : F69 x_0 s k) : kCall Tryd.prog 69 [x_0] s k := fn_by (F69_ok x_0 s k) h
theorem k69_ok : okFn Tryd.prog 69 = true := by kernel_rfl

/- (*strings.asciiSet).contains -/
def F70 (as_0 c_1 : Value) (s : AS) (k : Value → AS → Prop) : Prop :=
 kNck as_0 fun v7 =>
 kIdxA 256 1 v7 c_1 fun v8 =>
 kLd s v8 fun v9 =>
 k v9 s
theorem F70_ok (as_0 c_1 : Value) (s : AS) (k : Value → AS → Prop) : denFn Tryd.prog [] 70 [as_0, c_1] s k = F70 as_0 c_1 s k := by kernel_rfl
theorem f70 {as_0 c_1 : Value} {s : AS} {k : Value → AS → Prop} (h : F70 as_0 c_1 s k) : kCall Tryd.prog 70 [as_0, c_1] s k := fn_by (F70_ok as_0 c_1 s k) h
theorem k70_ok : okFn Tryd.prog 70 = true := by kernel_rfl

/- unicode utf8.DecodeRuneInString -/
def F71 (s_0 : Value) (s : AS) (k : Value → AS → Prop) : Prop :=
 kBin .neq s_0 (.string (bs [])) fun v5 =>
 kGrd v5 true (fun k =>
 kIxS s_0 (.int .i64 0) fun v8 =>
 kBin .lss v8 (.int .u8 128) fun v9 =>
 k [v9] s) [undef] s fun xs s =>
 un1 xs fun v9 =>
 kPick v5 v9 (.bool false) fun v10 =>
 kCond v10 (
 kIxS s_0 (.int .i64 0) fun v12 =>
 kCvi .i32 v12 fun v13 =>
 k (.tuple #[v13, (.int .i64 1)]) s) (
 kCall Tryd.prog 80 [s_0] s fun v16 s =>
 kExt 0 v16 fun v17 =>
 kExt 1 v16 fun v18 =>
 k (.tuple #[v17, v18]) s)
theorem F71_ok (s_0 : Value) (s : AS) (k : Value → AS → Prop) : denFn Tryd.prog [] 71 [s_0] s k = F71 s_0 s k := by kernel_rfl
theorem f71 {s_0 : Value} {s : AS} {k : Value → AS → Prop} (h : F71 s_0 s k) : kCall Tryd.prog 71 [s_0] s k := fn_by (F71_ok s_0 s k) h
theorem k71_ok : okFn Tryd.prog 71 = true := by kernel_rfl

/- strings.ContainsRune -/
def F72 (s_0 r_1 : Value) (s : AS) (k : Value → AS → Prop) : Prop :=
 kCall Tryd.prog 81 [s_0, r_1] s fun v7 s =>
 kBin .geq v7 (.int .i64 0) fun v8 =>
 k v8 s
theorem F72_ok (s_0 r_1 : Value) (s : AS) (k : Value → AS → Prop) : denFn Tryd.prog [] 72 [s_0, r_1] s k = F72 s_0 r_1 s k := by kernel_rfl
theorem f72 {s_0 r_1 : Value} {s : AS} {k : Value → AS → Prop} (h : F72 s_0 r_1 s k) : kCall Tryd.prog 72 [s_0, r_1] s k := fn_by (F72_ok s_0 r_1 s k) h
theorem k72_ok : okFn Tryd.prog 72 = true := by kernel_rfl

/- strings.trimRightByte -/
def F73 (s_0 c_1 : Value) (s : AS) (k : Value → AS → Prop) : Prop :=
 kJoin (fun xs s =>
 un1 xs fun s_0 =>
 k s_0 s) fun J1 =>
 kLoop (fun again2 xs s =>
 un1 xs fun s_0 =>
 kJoin (fun _ s =>
 kLen true s_0 fun v19 =>
 kBin .sub v19 (.int .i64 1) fun v20 =>
 kSubS s_0 none (some v20) fun v21 =>
 again2 [v21] s) fun J3 =>
 kLen true s_0 fun v6 =>
 kBin .gtr v6 (.int .i64 0) fun v7 =>
 kGrd v7 true (fun k =>
 kLen true s_0 fun v11 =>
 kBin .sub v11 (.int .i64 1) fun v12 =>
 kIxS s_0 v12 fun v13 =>
 kBin .eql v13 c_1 fun v15 =>
 k [v15] s) [undef] s fun xs s =>
 un1 xs fun v15 =>
 kPick v7 v15 (.bool false) fun v16 =>
 kCond v16 (
 J3 [] s) (
 J1 [s_0] s)) [s_0] s
theorem F73_ok (s_0 c_1 : Value) (s : AS) (k : Value → AS → Prop) : denFn Tryd.prog [] 73 [s_0, c_1] s k = F73 s_0 c_1 s k := by kernel_rfl
theorem f73 {s_0 c_1 : Value} {s : AS} {k : Value → AS → Prop} (h : F73 s_0 c_1 s k) : kCall Tryd.prog 73 [s_0, c_1] s k := fn_by (F73_ok s_0 c_1 s k) h
theorem k73_ok : okFn Tryd.prog 73 = true := by kernel_rfl

/- strings.trimRightASCII -/
def F74 (s_0 as_1 : Value) (s : AS) (k : Value → AS → Prop) : Prop :=
 kJoin (fun xs s =>
 un1 xs fun s_0 =>
 k s_0 s) fun J1 =>
 kLoop (fun again2 xs s =>
 un1 xs fun s_0 =>
 kJoin (fun _ s =>
 kJoin (fun _ s =>
 kLen true s_0 fun v18 =>
 kBin .sub v18 (.int .i64 1) fun v19 =>
 kSubS s_0 none (some v19) fun v20 =>
 again2 [v20] s) fun J4 =>
 kLen true s_0 fun v11 =>
 kBin .sub v11 (.int .i64 1) fun v12 =>
 kIxS s_0 v12 fun v13 =>
 kCall Tryd.prog 70 [as_1, v13] s fun v14 s =>
 kUn .not v14 fun v15 =>
 kCond v15 (
 J1 [s_0] s) (
 J4 [] s)) fun J3 =>
 kLen true s_0 fun v6 =>
 kBin .gtr v6 (.int .i64 0) fun v7 =>
 kCond v7 (
 J3 [] s) (
 J1 [s_0] s)) [s_0] s
theorem F74_ok (s_0 as_1 : Value) (s : AS) (k : Value → AS → Prop) : denFn Tryd.prog [] 74 [s_0, as_1] s k = F74 s_0 as_1 s k := by kernel_rfl
theorem f74 {s_0 as_1 : Value} {s : AS} {k : Value → AS → Prop} (h : F74 s_0 as_1 s k) : kCall Tryd.prog 74 [s_0, as_1] s k := fn_by (F74_ok s_0 as_1 s k) h
theorem k74_ok : okFn Tryd.prog 74 = true := by kernel_rfl

/- strings.trimRightUnicode -/
def F75 (s_0 cutset_1 : Value) (s : AS) (k : Value → AS → Prop) : Prop :=
 kJoin (fun xs s =>
 un1 xs fun s_0 =>
 k s_0 s) fun J1 =>
 kLoop (fun again2 xs s =>
 un1 xs fun s_0 =>
 kJoin (fun _ s =>
 kLen true s_0 fun v12 =>
 kBin .sub v12 (.int .i64 1) fun v13 =>
 kIxS s_0 v13 fun v14 =>
 kCvi .i32 v14 fun v15 =>
 kJoin (fun xs s =>
 un2 xs fun r_5 n_6 =>
 kJoin (fun _ s =>
 kLen true s_0 fun v29 =>
 kBin .sub v29 n_6 fun v31 =>
 kSubS s_0 none (some v31) fun v32 =>
 again2 [v32] s) fun J5 =>
 kCall Tryd.prog 72 [cutset_1, r_5] s fun v25 s =>
 kUn .not v25 fun v26 =>
 kCond v26 (
 J1 [s_0] s) (
 J5 [] s)) fun J4 =>
 kBin .geq v15 (.int .i32 128) fun v17 =>
 kCond v17 (
 kCall Tryd.prog 82 [s_0] s fun v20 s =>
 kExt 0 v20 fun v21 =>
 kExt 1 v20 fun v22 =>
 J4 [v21, v22] s) (
 J4 [v15, (.int .i64 1)] s)) fun J3 =>
 kLen true s_0 fun v8 =>
 kBin .gtr v8 (.int .i64 0) fun v9 =>
 kCond v9 (
 J3 [] s) (
 J1 [s_0] s)) [s_0] s
theorem F75_ok (s_0 cutset_1 : Value) (s : AS) (k : Value → AS → Prop) : denFn Tryd.prog [] 75 [s_0, cutset_1] s k = F75 s_0 cutset_1 s k := by kernel_rfl
theorem f75 {s_0 cutset_1 : Value} {s : AS} {k : Value → AS → Prop} (h : F75 s_0 cutset_1 s k) : kCall Tryd.prog 75 [s_0, cutset_1] s k := fn_by (F75_ok s_0 cutset_1 s k) h
theorem k75_ok : okFn Tryd.prog 75 = true := by kernel_rfl

/- strings.ContainsAny -/
def F76 (s_0 chars_1 : Value) (s : AS) (k : Value → AS → Prop) : Prop :=
 kCall Tryd.prog 83 [s_0, chars_1] s fun v7 s =>
 kBin .geq v7 (.int .i64 0) fun v8 =>
 k v8 s
theorem F76_ok (s_0 chars_1 : Value) (s : AS) (k : Value → AS → Prop) : denFn Tryd.prog [] 76 [s_0, chars_1] s k = F76 s_0 chars_1 s k := by kernel_rfl
theorem f76 {s_0 chars_1 : Value} {s : AS} {k : Value → AS → Prop} (h : F76 s_0 chars_1 s k) : kCall Tryd.prog 76 [s_0, chars_1] s k := fn_by (F76_ok s_0 chars_1 s k) h
theorem k76_ok : okFn Tryd.prog 76 = true := by kernel_rfl

/- strconv.ParseUint -/
def F77 (s_0 base_1 bitSize_2 : Value) (s : AS) (k : Value → AS → Prop) : Prop :=
 kCall Tryd.prog 84 [s_0, base_1, bitSize_2] s fun v14 s =>
 kExt 0 v14 fun v15 =>
 kExt 1 v14 fun v16 =>
 kJoin (fun _ s =>
 k (.tuple #[v15, .nilIface]) s) fun J1 =>
 kEqi true v16 .nilIface fun v18 =>
 kCond v18 (
 kCall Tryd.prog 85 [(.string (bs [80, 97, 114, 115, 101, 85, 105, 110, 116])), s_0, base_1, bitSize_2, v16] s fun v24 s =>
 k (.tuple #[v15, v24]) s) (
 J1 [] s)
theorem F77_ok (s_0 base_1 bitSize_2 : Value) (s : AS) (k : Value → AS → Prop) : denFn Tryd.prog [] 77 [s_0, base_1, bitSize_2] s k = F77 s_0 base_1 bitSize_2 s k := by kernel_rfl
theorem f77 {s_0 base_1 bitSize_2 : Value} {s : AS} {k : Value → AS → Prop} (h : F77 s_0 base_1 bitSize_2 s k) : kCall Tryd.prog 77 [s_0, base_1, bitSize_2] s k := fn_by (F77_ok s_0 base_1 bitSize_2 s k) h
theorem k77_ok : okFn Tryd.prog 77 = true := by kernel_rfl

/- math bits.TrailingZeros32 -/
def F78 (x_0 : Value) (s : AS) (k : Value → AS → Prop) : Prop :=
 kJoin (fun _ s =>
 kUn .neg x_0 fun v7 =>
 kBin .and x_0 v7 fun v8 =>
 kBin .mul v8 (.int .u32 125613361) fun v9 =>
 kSft .shr v9 (.int .u64 27) fun v10 =>
 kIdxA 32 1 (.pointer (some ⟨2, 0, none⟩)) v10 fun v11 =>
 kLd s v11 fun v12 =>
 kCvi .i64 v12 fun v13 =>
 k v13 s) fun J1 =>
 kBin .eql x_0 (.int .u32 0) fun v4 =>
 kCond v4 (
 k (.int .i64 32) s) (
 J1 [] s)
theorem F78_ok (x_0 : Value) (s : AS) (k : Value → AS → Prop) : denFn Tryd.prog [] 78 [x_0] s k = F78 x_0 s k := by kernel_rfl
theorem f78 {x_0 : Value} {s : AS} {k : Value → AS → Prop} (h : F78 x_0 s k) : kCall Tryd.prog 78 [x_0] s k := fn_by (F78_ok x_0 s k) h
theorem k78_ok : okFn Tryd.prog 78 = true := by kernel_rfl

/- math bits.TrailingZeros64 -/
def F79 (x_0 : Value) (s : AS) (k : Value → AS → Prop) : Prop :=
 kJoin (fun _ s =>
 kUn .neg x_0 fun v7 =>
 kBin .and x_0 v7 fun v8 =>
 kBin .mul v8 (.int .u64 285870213051353865) fun v9 =>
 kSft .shr v9 (.int .u64 58) fun v10 =>
 kIdxA 64 1 (.pointer (some ⟨3, 0, none⟩)) v10 fun v11 =>
 kLd s v11 fun v12 =>
 kCvi .i64 v12 fun v13 =>
 k v13 s) fun J1 =>
 kBin .eql x_0 (.int .u64 0) fun v4 =>
 kCond v4 (
 k (.int .i64 64) s) (
 J1 [] s)
theorem F79_ok (x_0 : Value) (s : AS) (k : Value → AS → Prop) : denFn Tryd.prog [] 79 [x_0] s k = F79 x_0 s k := by kernel_rfl
theorem f79 {x_0 : Value} {s : AS} {k : Value → AS → Prop} (h : F79 x_0 s k) : kCall Tryd.prog 79 [x_0] s k := fn_by (F79_ok x_0 s k) h
theorem k79_ok : okFn Tryd.prog 79 = true := by kernel_rfl

/- unicode utf8.decodeRuneInStringSlow -/
def F80 (s_0 : Value) (s : AS) (k : Value → AS → Prop) : Prop :=
 kLen true s_0 fun v14 =>
 kJoin (fun _ s =>
 kIxS s_0 (.int .i64 0) fun v18 =>
 kIdxA 256 1 (.pointer (some ⟨4, 0, none⟩)) v18 fun v20 =>
 kLd s v20 fun v21 =>
 kJoin (fun _ s =>
 kBin .and v21 (.int .u8 7) fun v37 =>
 kCvi .i64 v37 fun v38 =>
 kSft .shr v21 (.int .u64 4) fun v40 =>
 kIdxA 16 2 (.pointer (some ⟨5, 0, none⟩)) v40 fun v41 =>
 kLdN s 2 v41 fun v42 =>
 kNew s [(.int .u8 0), (.int .u8 0)] fun accept_9 s =>
 kSt s 2 accept_9 v42 fun s =>
 kJoin (fun _ s =>
 kIxS s_0 (.int .i64 1) fun v47 =>
 kJoin (fun _ s =>
 kJoin (fun _ s =>
 kIxS s_0 (.int .i64 2) fun v69 =>
 kJoin (fun _ s =>
 kJoin (fun _ s =>
 kIxS s_0 (.int .i64 3) fun v92 =>
 kJoin (fun _ s =>
 kBin .and v18 (.int .u8 7) fun v100 =>
 kCvi .i32 v100 fun v101 =>
 kSft .shl v101 (.int .u64 18) fun v102 =>
 kBin .and v47 (.int .u8 63) fun v104 =>
 kCvi .i32 v104 fun v105 =>
 kSft .shl v105 (.int .u64 12) fun v106 =>
 kBin .or v102 v106 fun v107 =>
 kBin .and v69 (.int .u8 63) fun v109 =>
 kCvi .i32 v109 fun v110 =>
 kSft .shl v110 (.int .u64 6) fun v111 =>
 kBin .or v107 v111 fun v112 =>
 kBin .and v92 (.int .u8 63) fun v114 =>
 kCvi .i32 v114 fun v115 =>
 kBin .or v112 v115 fun v116 =>
 k (.tuple #[v116, (.int .i64 4)]) s) fun J8 =>
 kBin .lss v92 (.int .u8 128) fun v94 =>
 kGrd v94 false (fun k =>
 kBin .lss (.int .u8 191) v92 fun v97 =>
 k [v97] s) [undef] s fun xs s =>
 un1 xs fun v97 =>
 kPick v94 (.bool true) v97 fun v98 =>
 kCond v98 (
 k (.tuple #[(.int .i32 65533), (.int .i64 1)]) s) (
 J8 [] s)) fun J7 =>
 kBin .leq v38 (.int .i64 3) fun v77 =>
 kCond v77 (
 kBin .and v18 (.int .u8 15) fun v79 =>
 kCvi .i32 v79 fun v80 =>
 kSft .shl v80 (.int .u64 12) fun v81 =>
 kBin .and v47 (.int .u8 63) fun v83 =>
 kCvi .i32 v83 fun v84 =>
 kSft .shl v84 (.int .u64 6) fun v85 =>
 kBin .or v81 v85 fun v86 =>
 kBin .and v69 (.int .u8 63) fun v88 =>
 kCvi .i32 v88 fun v89 =>
 kBin .or v86 v89 fun v90 =>
 k (.tuple #[v90, (.int .i64 3)]) s) (
 J7 [] s)) fun J6 =>
 kBin .lss v69 (.int .u8 128) fun v71 =>
 kGrd v71 false (fun k =>
 kBin .lss (.int .u8 191) v69 fun v74 =>
 k [v74] s) [undef] s fun xs s =>
 un1 xs fun v74 =>
 kPick v71 (.bool true) v74 fun v75 =>
 kCond v75 (
 k (.tuple #[(.int .i32 65533), (.int .i64 1)]) s) (
 J6 [] s)) fun J5 =>
 kBin .leq v38 (.int .i64 2) fun v59 =>
 kCond v59 (
 kBin .and v18 (.int .u8 31) fun v61 =>
 kCvi .i32 v61 fun v62 =>
 kSft .shl v62 (.int .u64 6) fun v63 =>
 kBin .and v47 (.int .u8 63) fun v65 =>
 kCvi .i32 v65 fun v66 =>
 kBin .or v63 v66 fun v67 =>
 k (.tuple #[v67, (.int .i64 2)]) s) (
 J5 [] s)) fun J4 =>
 kFld 0 accept_9 fun v49 =>
 kLd s v49 fun v50 =>
 kBin .lss v47 v50 fun v51 =>
 kGrd v51 false (fun k =>
 kFld 1 accept_9 fun v53 =>
 kLd s v53 fun v54 =>
 kBin .lss v54 v47 fun v56 =>
 k [v56] s) [undef] s fun xs s =>
 un1 xs fun v56 =>
 kPick v51 (.bool true) v56 fun v57 =>
 kCond v57 (
 k (.tuple #[(.int .i32 65533), (.int .i64 1)]) s) (
 J4 [] s)) fun J3 =>
 kBin .lss v14 v38 fun v45 =>
 kCond v45 (
 k (.tuple #[(.int .i32 65533), (.int .i64 1)]) s) (
 J3 [] s)) fun J2 =>
 kBin .geq v21 (.int .u8 240) fun v23 =>
 kCond v23 (
 kCvi .i32 v21 fun v25 =>
 kSft .shl v25 (.int .u64 31) fun v26 =>
 kSft .shr v26 (.int .u64 31) fun v27 =>
 kIxS s_0 (.int .i64 0) fun v29 =>
 kCvi .i32 v29 fun v30 =>
 kBin .andNot v30 v27 fun v32 =>
 kBin .and (.int .i32 65533) v27 fun v34 =>
 kBin .or v32 v34 fun v35 =>
 k (.tuple #[v35, (.int .i64 1)]) s) (
 J2 [] s)) fun J1 =>
 kBin .lss v14 (.int .i64 1) fun v16 =>
 kCond v16 (
 k (.tuple #[(.int .i32 65533), (.int .i64 0)]) s) (
 J1 [] s)
theorem F80_ok (s_0 : Value) (s : AS) (k : Value → AS → Prop) : denFn Tryd.prog [] 80 [s_0] s k = F80 s_0 s k := by kernel_rfl
theorem f80 {s_0 : Value} {s : AS} {k : Value → AS → Prop} (h : F80 s_0 s k) : kCall Tryd.prog 80 [s_0] s k := fn_by (F80_ok s_0 s k) h
theorem k80_ok : okFn Tryd.prog 80 = true := by kernel_rfl

/- strings.IndexRune -/
def F81 (s_0 r_1 : Value) (s : AS) (k : Value → AS → Prop) : Prop :=
 kBin .leq (.int .i32 0) r_1 fun v162 =>
 kGrd v162 true (fun k =>
 kBin .lss r_1 (.int .i32 128) fun v165 =>
 k [v165] s) [undef] s fun xs s =>
 un1 xs fun v165 =>
 kPick v162 v165 (.bool false) fun v166 =>
 kCond v166 (
 kCvi .u8 r_1 fun v169 =>
 kCall Tryd.prog 33 [s_0, v169] s fun v170 s =>
 k v170 s) (
 kBin .eql r_1 (.int .i32 65533) fun v173 =>
 kCond v173 (
 kJoin (fun _ s =>
 k (.int .i64 (-1)) s) fun J1 =>
 kGen Tryd.prog (.rng 9) [s_0] s fun v175 s =>
 kLoop (fun again2 _ s =>
 kGen Tryd.prog (.nxt true 0) [v175] s fun v176 s =>
 kExt 0 v176 fun v177 =>
 kJoin (fun _ s =>
 kExt 1 v176 fun v178 =>
 kExt 2 v176 fun v179 =>
 kBin .eql v179 (.int .i32 65533) fun v181 =>
 kCond v181 (
 k v178 s) (
 again2 [] s)) fun J3 =>
 kCond v177 (
 J3 [] s) (
 J1 [] s)) [] s) (
 kCall Tryd.prog 86 [r_1] s fun v185 s =>
 kUn .not v185 fun v186 =>
 kCond v186 (
 k (.int .i64 (-1)) s) (
 kGen Tryd.prog (.cv 21 9) [r_1] s fun v18 s =>
 kLen true v18 fun v20 =>
 kBin .sub v20 (.int .i64 1) fun v21 =>
 kJoin (fun xs s =>
 un1 xs fun i_9 =>
 kJoin (fun _ s =>
 kJoin (fun _ s =>
 k (.int .i64 (-1)) s) fun J6 =>
 kCond (.bool true) (
 kBin .sub i_9 v21 fun v102 =>
 kSubS s_0 (some v102) none fun v103 =>
 kGen Tryd.prog (.cv 21 9) [r_1] s fun v105 s =>
 kGen Tryd.prog (.ext 88) [v103, v105] s fun v106 s =>
 kBin .geq v106 (.int .i64 0) fun v108 =>
 kCond v108 (
 kBin .add i_9 v106 fun v111 =>
 kBin .sub v111 v21 fun v113 =>
 k v113 s) (
 J6 [] s)) (
 kIxS v18 v21 fun v116 =>
 kBin .sub v21 (.int .i64 1) fun v119 =>
 kIxS v18 v119 fun v120 =>
 kLoop (fun again7 xs s =>
 un1 xs fun i_9 =>
 kJoin (fun _ s =>
 kJoin (fun _ s =>
 kBin .add i_9 (.int .i64 1) fun v126 =>
 again7 [v126] s) fun J9 =>
 kIxS s_0 i_9 fun v129 =>
 kBin .eql v129 v116 fun v131 =>
 kGrd v131 true (fun k =>
 kBin .sub i_9 (.int .i64 1) fun v135 =>
 kIxS s_0 v135 fun v136 =>
 kBin .eql v136 v120 fun v138 =>
 k [v138] s) [undef] s fun xs s =>
 un1 xs fun v138 =>
 kPick v131 v138 (.bool false) fun v139 =>
 kCond v139 (
 kJoin (fun _ s =>
 kBin .sub i_9 v21 fun v159 =>
 k v159 s) fun J10 =>
 kLoop (fun again11 xs s =>
 un1 xs fun k_16 =>
 kJoin (fun _ s =>
 kJoin (fun _ s =>
 kBin .add k_16 (.int .i64 1) fun v145 =>
 again11 [v145] s) fun J13 =>
 kBin .sub i_9 k_16 fun v149 =>
 kIxS s_0 v149 fun v150 =>
 kBin .sub v21 k_16 fun v154 =>
 kIxS v18 v154 fun v155 =>
 kBin .neq v150 v155 fun v156 =>
 kCond v156 (
 J9 [] s) (
 J13 [] s)) fun J12 =>
 kLen true v18 fun v142 =>
 kBin .lss k_16 v142 fun v143 =>
 kCond v143 (
 J12 [] s) (
 J10 [] s)) [(.int .i64 2)] s) (
 J9 [] s)) fun J8 =>
 kLen true s_0 fun v123 =>
 kBin .lss i_9 v123 fun v124 =>
 kCond v124 (
 J8 [] s) (
 J6 [] s)) [i_9] s)) fun J5 =>
 k (.int .i64 (-1)) s) fun J4 =>
 kLoop (fun again14 xs s =>
 un2 xs fun i_9 fails_10 =>
 kJoin (fun _ s =>
 kJoin (fun xs s =>
 un1 xs fun i_9 =>
 kJoin (fun _ s =>
 kJoin (fun _ s =>
 kBin .add fails_10 (.int .i64 1) fun v69 =>
 kBin .add i_9 (.int .i64 1) fun v71 =>
 kGrd (.bool true) true (fun k =>
 kCall Tryd.prog 87 [v71] s fun v75 s =>
 kBin .gtr v69 v75 fun v76 =>
 k [v76] s) [undef] s fun xs s =>
 un1 xs fun v76 =>
 kPick (.bool true) v76 (.bool false) fun v77 =>
 kGrd v77 true (fun k =>
 kLen true s_0 fun v81 =>
 kBin .lss v71 v81 fun v82 =>
 k [v82] s) [undef] s fun xs s =>
 un1 xs fun v82 =>
 kPick v77 v82 (.bool false) fun v83 =>
 kGrd v83 false (fun k =>
 k [(.bool false)] s) [undef] s fun xs s =>
 un1 xs fun v85 =>
 kGrd v85 true (fun k =>
 kSft .shr v71 (.int .u64 4) fun v88 =>
 kBin .add (.int .i64 4) v88 fun v89 =>
 kBin .geq v69 v89 fun v90 =>
 k [v90] s) [undef] s fun xs s =>
 un1 xs fun v90 =>
 kGrd v83 false (fun k =>
 kPick v85 v90 (.bool false) fun v91 =>
 k [v91] s) [undef] s fun xs s =>
 un1 xs fun v92 =>
 kGrd v92 true (fun k =>
 kLen true s_0 fun v95 =>
 kBin .lss v71 v95 fun v96 =>
 k [v96] s) [undef] s fun xs s =>
 un1 xs fun v96 =>
 kGrd v83 false (fun k =>
 kPick v92 v96 (.bool false) fun v97 =>
 k [v97] s) [undef] s fun xs s =>
 un1 xs fun v97 =>
 kPick v83 (.bool true) v97 fun v98 =>
 kCond v98 (
 False) (
 again14 [v71, v69] s)) fun J18 =>
 kBin .sub i_9 v21 fun v67 =>
 k v67 s) fun J17 =>
 kLoop (fun again19 xs s =>
 un1 xs fun j_12 =>
 kJoin (fun _ s =>
 kJoin (fun _ s =>
 kBin .add j_12 (.int .i64 1) fun v53 =>
 again19 [v53] s) fun J21 =>
 kBin .sub i_9 j_12 fun v57 =>
 kIxS s_0 v57 fun v58 =>
 kBin .sub v21 j_12 fun v62 =>
 kIxS v18 v62 fun v63 =>
 kBin .neq v58 v63 fun v64 =>
 kCond v64 (
 False) (
 J21 [] s)) fun J20 =>
 kLen true v18 fun v50 =>
 kBin .lss j_12 v50 fun v51 =>
 kCond v51 (
 J20 [] s) (
 J17 [] s)) [(.int .i64 1)] s) fun J16 =>
 kIxS s_0 i_9 fun v29 =>
 kIxS v18 v21 fun v32 =>
 kBin .neq v29 v32 fun v33 =>
 kCond v33 (
 kBin .add i_9 (.int .i64 1) fun v36 =>
 kSubS s_0 (some v36) none fun v37 =>
 kIxS v18 v21 fun v40 =>
 kCall Tryd.prog 33 [v37, v40] s fun v41 s =>
 kJoin (fun _ s =>
 kBin .add v41 (.int .i64 1) fun v46 =>
 kBin .add i_9 v46 fun v47 =>
 J16 [v47] s) fun J22 =>
 kBin .lss v41 (.int .i64 0) fun v43 =>
 kCond v43 (
 k (.int .i64 (-1)) s) (
 J22 [] s)) (
 J16 [i_9] s)) fun J15 =>
 kLen true s_0 fun v25 =>
 kBin .lss i_9 v25 fun v26 =>
 kCond v26 (
 J15 [] s) (
 J4 [i_9] s)) [v21, (.int .i64 0)] s)))
theorem F81_ok (s_0 r_1 : Value) (s : AS) (k : Value → AS → Prop) : denFn Tryd.prog [(6, (.go 0 (.go 1 (.go 2 (.go 3 (.go 4 (.go 5 (.go 6 .done)))))))), (7, (.go 0 (.go 1 (.go 2 (.go 3 (.go 4 (.go 5 (.go 6 (.go 7 (.go 8 .done)))))))))), (14, (.go 0 (.go 1 (.go 2 (.go 3 (.go 4 (.go 5 (.go 6 (.go 7 (.go 8 (.go 9 (.go 10 .done)))))))))))), (31, (.go 0 (.go 1 (.go 2 (.go 3 (.go 4 (.go 5 (.go 6 (.go 7 (.go 8 (.go 9 (.go 10 .done))))))))))))] 81 [s_0, r_1] s k = F81 s_0 r_1 s k := by kernel_rfl
theorem f81 {s_0 r_1 : Value} {s : AS} {k : Value → AS → Prop} (h : F81 s_0 r_1 s k) : kCall Tryd.prog 81 [s_0, r_1] s k := fn_by (F81_ok s_0 r_1 s k) h
theorem k81_ok : okFn Tryd.prog 81 = true := by kernel_rfl

/- unicode utf8.DecodeLastRuneInString -/
def F82 (s_0 : Value) (s : AS) (k : Value → AS → Prop) : Prop :=
 kLen true s_0 fun v8 =>
 kJoin (fun _ s =>
 kBin .sub v8 (.int .i64 1) fun v12 =>
 kIxS s_0 v12 fun v15 =>
 kCvi .i32 v15 fun v16 =>
 kJoin (fun _ s =>
 kBin .sub v8 (.int .i64 4) fun v21 =>
 kMax v21 (.int .i64 0) fun v22 =>
 kJoin (fun xs s =>
 un1 xs fun start_5 =>
 kJoin (fun xs s =>
 un1 xs fun start_5 =>
 kSubS s_0 (some start_5) (some v8) fun v40 =>
 kCall Tryd.prog 71 [v40] s fun v41 s =>
 kExt 0 v41 fun v42 =>
 kExt 1 v41 fun v43 =>
 kJoin (fun xs s =>
 un2 xs fun r_2 size_3 =>
 k (.tuple #[r_2, size_3]) s) fun J5 =>
 kBin .add start_5 v43 fun v46 =>
 kBin .neq v46 v8 fun v48 =>
 kCond v48 (
 k (.tuple #[(.int .i32 65533), (.int .i64 1)]) s) (
 J5 [v42, v43] s)) fun J4 =>
 kBin .lss start_5 (.int .i64 0) fun v35 =>
 kCond v35 (
 J4 [(.int .i64 0)] s) (
 J4 [start_5] s)) fun J3 =>
 kBin .sub v12 (.int .i64 1) fun v24 =>
 kLoop (fun again6 xs s =>
 un1 xs fun start_5 =>
 kJoin (fun _ s =>
 kJoin (fun _ s =>
 kBin .sub start_5 (.int .i64 1) fun v29 =>
 again6 [v29] s) fun J8 =>
 kIxS s_0 start_5 fun v32 =>
 kCall Tryd.prog 89 [v32] s fun v33 s =>
 kCond v33 (
 J3 [start_5] s) (
 J8 [] s)) fun J7 =>
 kBin .geq start_5 v22 fun v27 =>
 kCond v27 (
 J7 [] s) (
 J3 [start_5] s)) [v24] s) fun J2 =>
 kBin .lss v16 (.int .i32 128) fun v18 =>
 kCond v18 (
 k (.tuple #[v16, (.int .i64 1)]) s) (
 J2 [] s)) fun J1 =>
 kBin .eql v8 (.int .i64 0) fun v10 =>
 kCond v10 (
 k (.tuple #[(.int .i32 65533), (.int .i64 0)]) s) (
 J1 [] s)
theorem F82_ok (s_0 : Value) (s : AS) (k : Value → AS → Prop) : denFn Tryd.prog [] 82 [s_0] s k = F82 s_0 s k := by kernel_rfl
theorem f82 {s_0 : Value} {s : AS} {k : Value → AS → Prop} (h : F82 s_0 s k) : kCall Tryd.prog 82 [s_0] s k := fn_by (F82_ok s_0 s k) h
theorem k82_ok : okFn Tryd.prog 82 = true := by kernel_rfl

/- strings.IndexAny -/
def F83 (s_0 chars_1 : Value) (s : AS) (k : Value → AS → Prop) : Prop :=
 kJoin (fun _ s =>
 kJoin (fun _ s =>
 kJoin (fun _ s =>
 kJoin (fun _ s =>
 k (.int .i64 (-1)) s) fun J4 =>
 kGen Tryd.prog (.rng 9) [s_0] s fun v45 s =>
 kLoop (fun again5 _ s =>
 kGen Tryd.prog (.nxt true 0) [v45] s fun v46 s =>
 kExt 0 v46 fun v47 =>
 kJoin (fun _ s =>
 kExt 1 v46 fun v48 =>
 kExt 2 v46 fun v49 =>
 kCall Tryd.prog 81 [chars_1, v49] s fun v52 s =>
 kBin .geq v52 (.int .i64 0) fun v53 =>
 kCond v53 (
 k v48 s) (
 again5 [] s)) fun J6 =>
 kCond v47 (
 J6 [] s) (
 J4 [] s)) [] s) fun J3 =>
 kLen true s_0 fun v25 =>
 kCall Tryd.prog 90 [v25] s fun v26 s =>
 kCond v26 (
 kCall Tryd.prog 56 [chars_1] s fun v29 s =>
 kExt 0 v29 fun v30 =>
 kExt 1 v29 fun v31 =>
 kNew s (List.replicate 256 (.bool false)) fun as_6 s =>
 kSt s 256 as_6 v30 fun s =>
 kCond v31 (
 kJoin (fun _ s =>
 k (.int .i64 (-1)) s) fun J7 =>
 kLoop (fun again8 xs s =>
 un1 xs fun i_8 =>
 kJoin (fun _ s =>
 kJoin (fun _ s =>
 kBin .add i_8 (.int .i64 1) fun v38 =>
 again8 [v38] s) fun J10 =>
 kIxS s_0 i_8 fun v41 =>
 kCall Tryd.prog 70 [as_6, v41] s fun v42 s =>
 kCond v42 (
 k i_8 s) (
 J10 [] s)) fun J9 =>
 kLen true s_0 fun v35 =>
 kBin .lss i_8 v35 fun v36 =>
 kCond v36 (
 J9 [] s) (
 J7 [] s)) [(.int .i64 0)] s) (
 J3 [] s)) (
 J3 [] s)) fun J2 =>
 kLen true chars_1 fun v14 =>
 kBin .eql v14 (.int .i64 1) fun v15 =>
 kCond v15 (
 kIxS chars_1 (.int .i64 0) fun v17 =>
 kCvi .i32 v17 fun v18 =>
 kJoin (fun xs s =>
 un1 xs fun r_5 =>
 kCall Tryd.prog 81 [s_0, r_5] s fun v23 s =>
 k v23 s) fun J11 =>
 kBin .geq v18 (.int .i32 128) fun v20 =>
 kCond v20 (
 J11 [(.int .i32 65533)] s) (
 J11 [v18] s)) (
 J2 [] s)) fun J1 =>
 kBin .eql chars_1 (.string (bs [])) fun v12 =>
 kCond v12 (
 k (.int .i64 (-1)) s) (
 J1 [] s)
theorem F83_ok (s_0 chars_1 : Value) (s : AS) (k : Value → AS → Prop) : denFn Tryd.prog [] 83 [s_0, chars_1] s k = F83 s_0 chars_1 s k := by kernel_rfl
theorem f83 {s_0 chars_1 : Value} {s : AS} {k : Value → AS → Prop} (h : F83 s_0 chars_1 s k) : kCall Tryd.prog 83 [s_0, chars_1] s k := fn_by (F83_ok s_0 chars_1 s k) h
theorem k83_ok : okFn Tryd.prog 83 = true := by kernel_rfl

/- internal strconv.ParseUint -/
def F84 (s_0 base_1 bitSize_2 : Value) (s : AS) (k : Value → AS → Prop) : Prop :=
 kJoin (fun _ s =>
 kBin .eql base_1 (.int .i64 0) fun v22 =>
 kJoin (fun xs s =>
 un2 xs fun s_0' base_1' =>
 kJoin (fun xs s =>
 un1 xs fun bitSize_2 =>
 kJoin (fun xs s =>
 un1 xs fun cutoff_10 =>
 kCvi .u64 bitSize_2 fun v95 =>
 kSft .shl (.int .u64 1) v95 fun v96 =>
 kBin .sub v96 (.int .u64 1) fun v97 =>
 kJoin (fun xs s =>
 un2 xs fun underscores_12 n_13 =>
 kJoin (fun _ s =>
 k (.tuple #[n_13, .nilIface]) s) fun J6 =>
 kGrd underscores_12 true (fun k =>
 kCall Tryd.prog 92 [s_0] s fun v167 s =>
 kUn .not v167 fun v168 =>
 k [v168] s) [undef] s fun xs s =>
 un1 xs fun v168 =>
 kPick underscores_12 v168 (.bool false) fun v169 =>
 kCond v169 (
 kGen Tryd.prog (.mki 102) [(.int .i64 2)] s fun v170 s =>
 k (.tuple #[(.int .u64 0), v170]) s) (
 J6 [] s)) fun J5 =>
 kGen Tryd.prog (.cv 9 66) [s_0'] s fun v99 s =>
 kLen false v99 fun v100 =>
 kLoop (fun again7 xs s =>
 un3 xs fun underscores_12 n_13 v101 =>
 kBin .lss v101 v100 fun v102 =>
 kJoin (fun _ s =>
 kJoin (fun xs s =>
 un2 xs fun underscores_12 n_13 =>
 kBin .add v101 (.int .i64 1) fun v163 =>
 again7 [underscores_12, n_13, v163] s) fun J9 =>
 kIdx 1 v99 v101 fun v103 =>
 kLd s v103 fun v104 =>
 kJoin (fun xs s =>
 un2 xs fun underscores_12 d_16 =>
 kJoin (fun _ s =>
 kJoin (fun _ s =>
 kCvi .u64 base_1' fun v146 =>
 kBin .mul n_13 v146 fun v147 =>
 kCvi .u64 d_16 fun v150 =>
 kBin .add v147 v150 fun v151 =>
 kJoin (fun _ s =>
 J9 [underscores_12, v151] s) fun J13 =>
 kBin .lss v151 v147 fun v154 =>
 kGrd v154 false (fun k =>
 kBin .gtr v151 v97 fun v158 =>
 k [v158] s) [undef] s fun xs s =>
 un1 xs fun v158 =>
 kPick v154 (.bool true) v158 fun v159 =>
 kCond v159 (
 kGen Tryd.prog (.mki 102) [(.int .i64 1)] s fun v161 s =>
 k (.tuple #[v97, v161]) s) (
 J13 [] s)) fun J12 =>
 kBin .geq n_13 cutoff_10 fun v141 =>
 kCond v141 (
 kGen Tryd.prog (.mki 102) [(.int .i64 1)] s fun v143 s =>
 k (.tuple #[v97, v143]) s) (
 J12 [] s)) fun J11 =>
 kCvi .u8 base_1' fun v136 =>
 kBin .geq d_16 v136 fun v137 =>
 kCond v137 (
 kGen Tryd.prog (.mki 102) [(.int .i64 2)] s fun v138 s =>
 k (.tuple #[(.int .u64 0), v138]) s) (
 J11 [] s)) fun J10 =>
 kBin .eql v104 (.int .u8 95) fun v108 =>
 kGrd v108 true (fun k =>
 k [v22] s) [undef] s fun xs s =>
 un1 xs fun v110 =>
 kPick v108 v110 (.bool false) fun v111 =>
 kCond v111 (
 J9 [(.bool true), n_13] s) (
 kBin .leq (.int .u8 48) v104 fun v114 =>
 kGrd v114 true (fun k =>
 kBin .leq v104 (.int .u8 57) fun v117 =>
 k [v117] s) [undef] s fun xs s =>
 un1 xs fun v117 =>
 kPick v114 v117 (.bool false) fun v118 =>
 kCond v118 (
 kBin .sub v104 (.int .u8 48) fun v120 =>
 J10 [underscores_12, v120] s) (
 kCall Tryd.prog 91 [v104] s fun v123 s =>
 kBin .leq (.int .u8 97) v123 fun v124 =>
 kGrd v124 true (fun k =>
 kCall Tryd.prog 91 [v104] s fun v127 s =>
 kBin .leq v127 (.int .u8 122) fun v128 =>
 k [v128] s) [undef] s fun xs s =>
 un1 xs fun v128 =>
 kPick v124 v128 (.bool false) fun v129 =>
 kCond v129 (
 kCall Tryd.prog 91 [v104] s fun v131 s =>
 kBin .sub v131 (.int .u8 97) fun v132 =>
 kBin .add v132 (.int .u8 10) fun v133 =>
 J10 [underscores_12, v133] s) (
 kGen Tryd.prog (.mki 102) [(.int .i64 2)] s fun v105 s =>
 k (.tuple #[(.int .u64 0), v105]) s)))) fun J8 =>
 kCond v102 (
 J8 [] s) (
 J5 [underscores_12, n_13] s)) [(.bool false), (.int .u64 0), (.int .i64 0)] s) fun J4 =>
 kBin .eql base_1' (.int .i64 10) fun v91 =>
 kCond v91 (
 J4 [(.int .u64 1844674407370955162)] s) (
 kBin .eql base_1' (.int .i64 16) fun v93 =>
 kCond v93 (
 J4 [(.int .u64 1152921504606846976)] s) (
 kCvi .u64 base_1' fun v87 =>
 kBin .quo (.int .u64 18446744073709551615) v87 fun v88 =>
 kBin .add v88 (.int .u64 1) fun v89 =>
 J4 [v89] s))) fun J3 =>
 kBin .eql bitSize_2 (.int .i64 0) fun v77 =>
 kCond v77 (
 J3 [(.int .i64 64)] s) (
 kBin .lss bitSize_2 (.int .i64 0) fun v79 =>
 kGrd v79 false (fun k =>
 kBin .gtr bitSize_2 (.int .i64 64) fun v82 =>
 k [v82] s) [undef] s fun xs s =>
 un1 xs fun v82 =>
 kPick v79 (.bool true) v82 fun v83 =>
 kCond v83 (
 kGen Tryd.prog (.mki 102) [(.int .i64 4)] s fun v84 s =>
 k (.tuple #[(.int .u64 0), v84]) s) (
 J3 [bitSize_2] s))) fun J2 =>
 kBin .leq (.int .i64 2) base_1 fun v27 =>
 kGrd v27 true (fun k =>
 kBin .leq base_1 (.int .i64 36) fun v30 =>
 k [v30] s) [undef] s fun xs s =>
 un1 xs fun v30 =>
 kPick v27 v30 (.bool false) fun v31 =>
 kCond v31 (
 J2 [s_0, base_1] s) (
 kBin .eql base_1 (.int .i64 0) fun v34 =>
 kCond v34 (
 kIxS s_0 (.int .i64 0) fun v36 =>
 kBin .eql v36 (.int .u8 48) fun v37 =>
 kCond v37 (
 kLen true s_0 fun v42 =>
 kBin .geq v42 (.int .i64 3) fun v43 =>
 kGrd v43 true (fun k =>
 kIxS s_0 (.int .i64 1) fun v46 =>
 kCall Tryd.prog 91 [v46] s fun v47 s =>
 kBin .eql v47 (.int .u8 98) fun v48 =>
 k [v48] s) [undef] s fun xs s =>
 un1 xs fun v48 =>
 kPick v43 v48 (.bool false) fun v49 =>
 kCond v49 (
 kSubS s_0 (some (.int .i64 2)) none fun v51 =>
 J2 [v51, (.int .i64 2)] s) (
 kLen true s_0 fun v54 =>
 kBin .geq v54 (.int .i64 3) fun v55 =>
 kGrd v55 true (fun k =>
 kIxS s_0 (.int .i64 1) fun v58 =>
 kCall Tryd.prog 91 [v58] s fun v59 s =>
 kBin .eql v59 (.int .u8 111) fun v60 =>
 k [v60] s) [undef] s fun xs s =>
 un1 xs fun v60 =>
 kPick v55 v60 (.bool false) fun v61 =>
 kCond v61 (
 kSubS s_0 (some (.int .i64 2)) none fun v63 =>
 J2 [v63, (.int .i64 8)] s) (
 kLen true s_0 fun v66 =>
 kBin .geq v66 (.int .i64 3) fun v67 =>
 kGrd v67 true (fun k =>
 kIxS s_0 (.int .i64 1) fun v70 =>
 kCall Tryd.prog 91 [v70] s fun v71 s =>
 kBin .eql v71 (.int .u8 120) fun v72 =>
 k [v72] s) [undef] s fun xs s =>
 un1 xs fun v72 =>
 kPick v67 v72 (.bool false) fun v73 =>
 kCond v73 (
 kSubS s_0 (some (.int .i64 2)) none fun v75 =>
 J2 [v75, (.int .i64 16)] s) (
 kSubS s_0 (some (.int .i64 1)) none fun v39 =>
 J2 [v39, (.int .i64 8)] s)))) (
 J2 [s_0, (.int .i64 10)] s)) (
 kGen Tryd.prog (.mki 102) [(.int .i64 3)] s fun v24 s =>
 k (.tuple #[(.int .u64 0), v24]) s))) fun J1 =>
 kBin .eql s_0 (.string (bs [])) fun v19 =>
 kCond v19 (
 kGen Tryd.prog (.mki 102) [(.int .i64 2)] s fun v20 s =>
 k (.tuple #[(.int .u64 0), v20]) s) (
 J1 [] s)
theorem F84_ok (s_0 base_1 bitSize_2 : Value) (s : AS) (k : Value → AS → Prop) : denFn Tryd.prog [] 84 [s_0, base_1, bitSize_2] s k = F84 s_0 base_1 bitSize_2 s k := by kernel_rfl
theorem f84 {s_0 base_1 bitSize_2 : Value} {s : AS} {k : Value → AS → Prop} (h : F84 s_0 base_1 bitSize_2 s k) : kCall Tryd.prog 84 [s_0, base_1, bitSize_2] s k := fn_by (F84_ok s_0 base_1 bitSize_2 s k) h
theorem k84_ok : okFn Tryd.prog 84 = true := by kernel_rfl

/- strconv.toError -/
def F85 (fn_0 s_1 base_2 bitSize_3 err_4 : Value) (s : AS) (k : Value → AS → Prop) : Prop :=
 kJoin (fun _ s =>
 k err_4 s) fun J1 =>
 kGen Tryd.prog (.mki 102) [(.int .i64 2)] s fun v13 s =>
 kGen Tryd.prog (.bop .eql 88 (.tmp 11) (.tmp 13)) [err_4, v13] s fun v14 s =>
 kCond v14 (
 kCall Tryd.prog 93 [fn_0, s_1] s fun v17 s =>
 kGen Tryd.prog (.mki 105) [v17] s fun v18 s =>
 k v18 s) (
 kGen Tryd.prog (.mki 102) [(.int .i64 1)] s fun v20 s =>
 kGen Tryd.prog (.bop .eql 88 (.tmp 11) (.tmp 20)) [err_4, v20] s fun v21 s =>
 kCond v21 (
 kCall Tryd.prog 94 [fn_0, s_1] s fun v24 s =>
 kGen Tryd.prog (.mki 105) [v24] s fun v25 s =>
 k v25 s) (
 kGen Tryd.prog (.mki 102) [(.int .i64 3)] s fun v27 s =>
 kGen Tryd.prog (.bop .eql 88 (.tmp 11) (.tmp 27)) [err_4, v27] s fun v28 s =>
 kCond v28 (
 kCall Tryd.prog 95 [fn_0, s_1, base_2] s fun v32 s =>
 kGen Tryd.prog (.mki 105) [v32] s fun v33 s =>
 k v33 s) (
 kGen Tryd.prog (.mki 102) [(.int .i64 4)] s fun v35 s =>
 kGen Tryd.prog (.bop .eql 88 (.tmp 11) (.tmp 35)) [err_4, v35] s fun v36 s =>
 kCond v36 (
 kCall Tryd.prog 96 [fn_0, s_1, bitSize_3] s fun v40 s =>
 kGen Tryd.prog (.mki 105) [v40] s fun v41 s =>
 k v41 s) (
 J1 [] s))))
theorem F85_ok (fn_0 s_1 base_2 bitSize_3 err_4 : Value) (s : AS) (k : Value → AS → Prop) : denFn Tryd.prog [] 85 [fn_0, s_1, base_2, bitSize_3, err_4] s k = F85 fn_0 s_1 base_2 bitSize_3 err_4 s k := by kernel_rfl
theorem f85 {fn_0 s_1 base_2 bitSize_3 err_4 : Value} {s : AS} {k : Value → AS → Prop} (h : F85 fn_0 s_1 base_2 bitSize_3 err_4 s k) : kCall Tryd.prog 85 [fn_0, s_1, base_2, bitSize_3, err_4] s k := fn_by (F85_ok fn_0 s_1 base_2 bitSize_3 err_4 s k) h
theorem k85_ok : okFn Tryd.prog 85 = true := by kernel_rfl

/- unicode utf8.ValidRune -/
def F86 (r_0 : Value) (s : AS) (k : Value → AS → Prop) : Prop :=
 kJoin (fun _ s =>
 k (.bool false) s) fun J1 =>
 kBin .leq (.int .i32 0) r_0 fun v5 =>
 kGrd v5 true (fun k =>
 kBin .lss r_0 (.int .i32 55296) fun v8 =>
 k [v8] s) [undef] s fun xs s =>
 un1 xs fun v8 =>
 kPick v5 v8 (.bool false) fun v9 =>
 kCond v9 (
 k (.bool true) s) (
 kBin .lss (.int .i32 57343) r_0 fun v12 =>
 kGrd v12 true (fun k =>
 kBin .leq r_0 (.int .i32 1114111) fun v15 =>
 k [v15] s) [undef] s fun xs s =>
 un1 xs fun v15 =>
 kPick v12 v15 (.bool false) fun v16 =>
 kCond v16 (
 k (.bool true) s) (
 J1 [] s))
theorem F86_ok (r_0 : Value) (s : AS) (k : Value → AS → Prop) : denFn Tryd.prog [] 86 [r_0] s k = F86 r_0 s k := by kernel_rfl
theorem f86 {r_0 : Value} {s : AS} {k : Value → AS → Prop} (h : F86 r_0 s k) : kCall Tryd.prog 86 [r_0] s k := fn_by (F86_ok r_0 s k) h
theorem k86_ok : okFn Tryd.prog 86 = true := by kernel_rfl

/- internal bytealg.Cutover -/
def F87 (n_0 : Value) (s : AS) (k : Value → AS → Prop) : Prop :=
 kBin .add n_0 (.int .i64 16) fun v4 =>
 kBin .quo v4 (.int .i64 8) fun v5 =>
 k v5 s
theorem F87_ok (n_0 : Value) (s : AS) (k : Value → AS → Prop) : denFn Tryd.prog [] 87 [n_0] s k = F87 n_0 s k := by kernel_rfl
theorem f87 {n_0 : Value} {s : AS} {k : Value → AS → Prop} (h : F87 n_0 s k) : kCall Tryd.prog 87 [n_0] s k := fn_by (F87_ok n_0 s k) h
theorem k87_ok : okFn Tryd.prog 87 = true := by kernel_rfl

/- unicode utf8.RuneStart -/
def F89 (b_0 : Value) (s : AS) (k : Value → AS → Prop) : Prop :=
 kBin .and b_0 (.int .u8 192) fun v4 =>
 kBin .neq v4 (.int .u8 128) fun v5 =>
 k v5 s
theorem F89_ok (b_0 : Value) (s : AS) (k : Value → AS → Prop) : denFn Tryd.prog [] 89 [b_0] s k = F89 b_0 s k := by kernel_rfl
theorem f89 {b_0 : Value} {s : AS} {k : Value → AS → Prop} (h : F89 b_0 s k) : kCall Tryd.prog 89 [b_0] s k := fn_by (F89_ok b_0 s k) h
theorem k89_ok : okFn Tryd.prog 89 = true := by kernel_rfl

/- strings.shouldUseASCIISet -/
def F90 (bufLen_0 : Value) (s : AS) (k : Value → AS → Prop) : Prop :=
 kBin .gtr bufLen_0 (.int .i64 8) fun v4 =>
 k v4 s
theorem F90_ok (bufLen_0 : Value) (s : AS) (k : Value → AS → Prop) : denFn Tryd.prog [] 90 [bufLen_0] s k = F90 bufLen_0 s k := by kernel_rfl
theorem f90 {bufLen_0 : Value} {s : AS} {k : Value → AS → Prop} (h : F90 bufLen_0 s k) : kCall Tryd.prog 90 [bufLen_0] s k := fn_by (F90_ok bufLen_0 s k) h
theorem k90_ok : okFn Tryd.prog 90 = true := by kernel_rfl

/- internal strconv.lower -/
def F91 (c_0 : Value) (s : AS) (k : Value → AS → Prop) : Prop :=
 kBin .or c_0 (.int .u8 32) fun v4 =>
 k v4 s
theorem F91_ok (c_0 : Value) (s : AS) (k : Value → AS → Prop) : denFn Tryd.prog [] 91 [c_0] s k = F91 c_0 s k := by kernel_rfl
theorem f91 {c_0 : Value} {s : AS} {k : Value → AS → Prop} (h : F91 c_0 s k) : kCall Tryd.prog 91 [c_0] s k := fn_by (F91_ok c_0 s k) h
theorem k91_ok : okFn Tryd.prog 91 = true := by kernel_rfl

/- internal strconv.underscoreOK -/
def F92 (s_0 : Value) (s : AS) (k : Value → AS → Prop) : Prop :=
 kJoin (fun xs s =>
 un1 xs fun s_0 =>
 kJoin (fun xs s =>
 un3 xs fun saw_3 i_4 hex_5 =>
 kJoin (fun xs s =>
 un1 xs fun saw_3 =>
 kBin .neq saw_3 (.int .i32 95) fun v93 =>
 k v93 s) fun J3 =>
 kLoop (fun again4 xs s =>
 un2 xs fun saw_3 i_4 =>
 kJoin (fun _ s =>
 kJoin (fun xs s =>
 un1 xs fun saw_3 =>
 kBin .add i_4 (.int .i64 1) fun v56 =>
 again4 [saw_3, v56] s) fun J6 =>
 kJoin (fun xs s =>
 un1 xs fun saw_3 =>
 kJoin (fun xs s =>
 un1 xs fun saw_3 =>
 kJoin (fun _ s =>
 J6 [(.int .i32 33)] s) fun J9 =>
 kBin .eql saw_3 (.int .i32 95) fun v91 =>
 kCond v91 (
 k (.bool false) s) (
 J9 [] s)) fun J8 =>
 kIxS s_0 i_4 fun v86 =>
 kBin .eql v86 (.int .u8 95) fun v87 =>
 kCond v87 (
 kJoin (fun _ s =>
 J6 [(.int .i32 95)] s) fun J10 =>
 kBin .neq saw_3 (.int .i32 48) fun v89 =>
 kCond v89 (
 k (.bool false) s) (
 J10 [] s)) (
 J8 [saw_3] s)) fun J7 =>
 kIxS s_0 i_4 fun v59 =>
 kBin .leq (.int .u8 48) v59 fun v60 =>
 kGrd v60 true (fun k =>
 kIxS s_0 i_4 fun v64 =>
 kBin .leq v64 (.int .u8 57) fun v65 =>
 k [v65] s) [undef] s fun xs s =>
 un1 xs fun v65 =>
 kPick v60 v65 (.bool false) fun v66 =>
 kGrd v66 false (fun k =>
 k [hex_5] s) [undef] s fun xs s =>
 un1 xs fun v69 =>
 kGrd v69 true (fun k =>
 kIxS s_0 i_4 fun v72 =>
 kCall Tryd.prog 91 [v72] s fun v73 s =>
 kBin .leq (.int .u8 97) v73 fun v74 =>
 k [v74] s) [undef] s fun xs s =>
 un1 xs fun v74 =>
 kGrd v66 false (fun k =>
 kPick v69 v74 (.bool false) fun v75 =>
 k [v75] s) [undef] s fun xs s =>
 un1 xs fun v76 =>
 kGrd v76 true (fun k =>
 kIxS s_0 i_4 fun v79 =>
 kCall Tryd.prog 91 [v79] s fun v80 s =>
 kBin .leq v80 (.int .u8 102) fun v81 =>
 k [v81] s) [undef] s fun xs s =>
 un1 xs fun v81 =>
 kGrd v66 false (fun k =>
 kPick v76 v81 (.bool false) fun v82 =>
 k [v82] s) [undef] s fun xs s =>
 un1 xs fun v82 =>
 kPick v66 (.bool true) v82 fun v83 =>
 kCond v83 (
 J6 [(.int .i32 48)] s) (
 J7 [saw_3] s)) fun J5 =>
 kLen true s_0 fun v53 =>
 kBin .lss i_4 v53 fun v54 =>
 kCond v54 (
 J5 [] s) (
 J3 [saw_3] s)) [saw_3, i_4] s) fun J2 =>
 kLen true s_0 fun v22 =>
 kBin .geq v22 (.int .i64 2) fun v23 =>
 kGrd v23 true (fun k =>
 kIxS s_0 (.int .i64 0) fun v26 =>
 kBin .eql v26 (.int .u8 48) fun v27 =>
 k [v27] s) [undef] s fun xs s =>
 un1 xs fun v27 =>
 kPick v23 v27 (.bool false) fun v28 =>
 kGrd v28 true (fun k =>
 kIxS s_0 (.int .i64 1) fun v31 =>
 kCall Tryd.prog 91 [v31] s fun v32 s =>
 kBin .eql v32 (.int .u8 98) fun v33 =>
 k [v33] s) [undef] s fun xs s =>
 un1 xs fun v34 =>
 kGrd v34 false (fun k =>
 kIxS s_0 (.int .i64 1) fun v36 =>
 kCall Tryd.prog 91 [v36] s fun v37 s =>
 kBin .eql v37 (.int .u8 111) fun v38 =>
 k [v38] s) [undef] s fun xs s =>
 un1 xs fun v38 =>
 kGrd v28 true (fun k =>
 kPick v34 (.bool true) v38 fun v39 =>
 k [v39] s) [undef] s fun xs s =>
 un1 xs fun v40 =>
 kGrd v40 false (fun k =>
 kIxS s_0 (.int .i64 1) fun v42 =>
 kCall Tryd.prog 91 [v42] s fun v43 s =>
 kBin .eql v43 (.int .u8 120) fun v44 =>
 k [v44] s) [undef] s fun xs s =>
 un1 xs fun v44 =>
 kGrd v28 true (fun k =>
 kPick v40 (.bool true) v44 fun v45 =>
 k [v45] s) [undef] s fun xs s =>
 un1 xs fun v45 =>
 kPick v28 v45 (.bool false) fun v46 =>
 kCond v46 (
 kIxS s_0 (.int .i64 1) fun v48 =>
 kCall Tryd.prog 91 [v48] s fun v49 s =>
 kBin .eql v49 (.int .u8 120) fun v50 =>
 J2 [(.int .i32 48), (.int .i64 2), v50] s) (
 J2 [(.int .i32 94), (.int .i64 0), (.bool false)] s)) fun J1 =>
 kLen true s_0 fun v7 =>
 kBin .geq v7 (.int .i64 1) fun v8 =>
 kGrd v8 true (fun k =>
 kIxS s_0 (.int .i64 0) fun v11 =>
 kBin .eql v11 (.int .u8 45) fun v12 =>
 k [v12] s) [undef] s fun xs s =>
 un1 xs fun v13 =>
 kGrd v13 false (fun k =>
 kIxS s_0 (.int .i64 0) fun v15 =>
 kBin .eql v15 (.int .u8 43) fun v16 =>
 k [v16] s) [undef] s fun xs s =>
 un1 xs fun v16 =>
 kGrd v8 true (fun k =>
 kPick v13 (.bool true) v16 fun v17 =>
 k [v17] s) [undef] s fun xs s =>
 un1 xs fun v17 =>
 kPick v8 v17 (.bool false) fun v18 =>
 kCond v18 (
 kSubS s_0 (some (.int .i64 1)) none fun v20 =>
 J1 [v20] s) (
 J1 [s_0] s)
theorem F92_ok (s_0 : Value) (s : AS) (k : Value → AS → Prop) : denFn Tryd.prog [] 92 [s_0] s k = F92 s_0 s k := by kernel_rfl
theorem f92 {s_0 : Value} {s : AS} {k : Value → AS → Prop} (h : F92 s_0 s k) : kCall Tryd.prog 92 [s_0] s k := fn_by (F92_ok s_0 s k) h
theorem k92_ok : okFn Tryd.prog 92 = true := by kernel_rfl

/- strconv.syntaxError -/
def F93 (fn_0 str_1 : Value) (s : AS) (k : Value → AS → Prop) : Prop :=
 kLd s (.pointer (some ⟨6, 0, none⟩)) fun v8 =>
 kCall Tryd.prog 97 [str_1] s fun v7 s =>
 kChk s (.pointer (some ⟨6, 0, none⟩)) v8 (
 kBuild [(.string (bs [])), (.string (bs [])), .nilIface] [(0, 1, fn_0), (1, 1, v7), (2, 1, v8)] fun v9 =>
 kNew s (cellsV v9) fun v10 s =>
 k v10 s)
theorem F93_ok (fn_0 str_1 : Value) (s : AS) (k : Value → AS → Prop) : denFn Tryd.prog [(1, (.go 0 (.go 1 (.go 3 (.go 2 (.go 4 (.go 5 (.go 6 .done))))))))] 93 [fn_0, str_1] s k = F93 fn_0 str_1 s k := by kernel_rfl
theorem f93 {fn_0 str_1 : Value} {s : AS} {k : Value → AS → Prop} (h : F93 fn_0 str_1 s k) : kCall Tryd.prog 93 [fn_0, str_1] s k := fn_by (F93_ok fn_0 str_1 s k) h
theorem k93_ok : okFn Tryd.prog 93 = true := by kernel_rfl

/- strconv.rangeError -/
def F94 (fn_0 str_1 : Value) (s : AS) (k : Value → AS → Prop) : Prop :=
 kLd s (.pointer (some ⟨7, 0, none⟩)) fun v8 =>
 kCall Tryd.prog 97 [str_1] s fun v7 s =>
 kChk s (.pointer (some ⟨7, 0, none⟩)) v8 (
 kBuild [(.string (bs [])), (.string (bs [])), .nilIface] [(0, 1, fn_0), (1, 1, v7), (2, 1, v8)] fun v9 =>
 kNew s (cellsV v9) fun v10 s =>
 k v10 s)
theorem F94_ok (fn_0 str_1 : Value) (s : AS) (k : Value → AS → Prop) : denFn Tryd.prog [(1, (.go 0 (.go 1 (.go 3 (.go 2 (.go 4 (.go 5 (.go 6 .done))))))))] 94 [fn_0, str_1] s k = F94 fn_0 str_1 s k := by kernel_rfl
theorem f94 {fn_0 str_1 : Value} {s : AS} {k : Value → AS → Prop} (h : F94 fn_0 str_1 s k) : kCall Tryd.prog 94 [fn_0, str_1] s k := fn_by (F94_ok fn_0 str_1 s k) h
theorem k94_ok : okFn Tryd.prog 94 = true := by kernel_rfl

/- strconv.baseError -/
def F95 (fn_0 str_1 base_2 : Value) (s : AS) (k : Value → AS → Prop) : Prop :=
 kCall Tryd.prog 97 [str_1] s fun v9 s =>
 kCall Tryd.prog 8 [base_2] s fun v11 s =>
 kBin .add (.string (bs [105, 110, 118, 97, 108, 105, 100, 32, 98, 97, 115, 101, 32])) v11 fun v12 =>
 kCall Tryd.prog 98 [v12] s fun v13 s =>
 kBuild [(.string (bs [])), (.string (bs [])), .nilIface] [(0, 1, fn_0), (1, 1, v9), (2, 1, v13)] fun v14 =>
 kNew s (cellsV v14) fun v15 s =>
 k v15 s
theorem F95_ok (fn_0 str_1 base_2 : Value) (s : AS) (k : Value → AS → Prop) : denFn Tryd.prog [] 95 [fn_0, str_1, base_2] s k = F95 fn_0 str_1 base_2 s k := by kernel_rfl
theorem f95 {fn_0 str_1 base_2 : Value} {s : AS} {k : Value → AS → Prop} (h : F95 fn_0 str_1 base_2 s k) : kCall Tryd.prog 95 [fn_0, str_1, base_2] s k := fn_by (F95_ok fn_0 str_1 base_2 s k) h
theorem k95_ok : okFn Tryd.prog 95 = true := by kernel_rfl

/- strconv.bitSizeError -/
def F96 (fn_0 str_1 bitSize_2 : Value) (s : AS) (k : Value → AS → Prop) : Prop :=
 kCall Tryd.prog 97 [str_1] s fun v9 s =>
 kCall Tryd.prog 8 [bitSize_2] s fun v11 s =>
 kBin .add (.string (bs [105, 110, 118, 97, 108, 105, 100, 32, 98, 105, 116, 32, 115, 105, 122, 101, 32])) v11 fun v12 =>
 kCall Tryd.prog 98 [v12] s fun v13 s =>
 kBuild [(.string (bs [])), (.string (bs [])), .nilIface] [(0, 1, fn_0), (1, 1, v9), (2, 1, v13)] fun v14 =>
 kNew s (cellsV v14) fun v15 s =>
 k v15 s
theorem F96_ok (fn_0 str_1 bitSize_2 : Value) (s : AS) (k : Value → AS → Prop) : denFn Tryd.prog [] 96 [fn_0, str_1, bitSize_2] s k = F96 fn_0 str_1 bitSize_2 s k := by kernel_rfl
theorem f96 {fn_0 str_1 bitSize_2 : Value} {s : AS} {k : Value → AS → Prop} (h : F96 fn_0 str_1 bitSize_2 s k) : kCall Tryd.prog 96 [fn_0, str_1, bitSize_2] s k := fn_by (F96_ok fn_0 str_1 bitSize_2 s k) h
theorem k96_ok : okFn Tryd.prog 96 = true := by kernel_rfl

end Go.Proofs.YtkbpbagjbjkpmaaDoor
