/- The walks of the functions, printed by a program of this proof, each held against the loaded program by the kernel. Conditions: none. -/
import Derived.Test.YtfiknjogkpbgdaaProg
import Derived.Test.YtfiknjogkpbgdaaF6
namespace Go.Proofs.Ytfiknjogkpbgdaa
open E
set_option maxRecDepth 100000
set_option linter.unusedVariables false

/- conch conchlaw11.BlocksOnce -/
def F3 (n_0 gives_1 : Value) (s : AS) (k : Value → AS → Prop) : Prop :=
 kJoin (fun _ s =>
 kCall Try.prog 9 [n_0] s fun v28 s =>
 kExt 0 v28 fun v29 =>
 kExt 1 v28 fun v30 =>
 kJoin (fun _ s =>
 kBin .add n_0 (.int .i64 1) fun v38 =>
 kMks s 1 1 [(.bool false)] v38 v38 fun v39 s =>
 kJoin (fun _ s =>
 kCall Try.prog 8 [] s fun v129 s =>
 k v129 s) fun J3 =>
 kLoop (fun again4 xs s =>
 un2 xs fun many_8 i_9 =>
 kJoin (fun _ s =>
 kJoin (fun xs s =>
 un1 xs fun many_8 =>
 kBin .add i_9 (.int .i64 1) fun v45 =>
 again4 [many_8, v45] s) fun J6 =>
 kJoin (fun xs s =>
 un1 xs fun many_8 =>
 kCall Try.prog 12 [v29] s fun v124 s =>
 kBin .sub n_0 many_8 fun v127 =>
 kBin .neq v124 v127 fun v128 =>
 kCond v128 (
 k (.bool false) s) (
 J6 [many_8] s)) fun J7 =>
 kIdx 1 gives_1 i_9 fun v48 =>
 kLd s v48 fun v49 =>
 kBin .leq v49 (.int .i64 0) fun v50 =>
 kCond v50 (
 kCall Try.prog 10 [v29] s fun v53 s =>
 kExt 0 v53 fun v54 =>
 kExt 1 v53 fun v55 =>
 kJoin (fun _ s =>
 kJoin (fun _ s =>
 kIdx 1 v39 v54 fun v84 =>
 kSt s 1 v84 (.bool true) fun s =>
 kBin .add many_8 (.int .i64 1) fun v86 =>
 J7 [v86] s) fun J9 =>
 kBin .lss v54 (.int .i64 1) fun v70 =>
 kGrd v70 false (fun k =>
 kBin .gtr v54 n_0 fun v74 =>
 k [v74] s) [undef] s fun xs s =>
 un1 xs fun v74 =>
 kPick v70 (.bool true) v74 fun v75 =>
 kGrd v75 false (fun k =>
 kIdx 1 v39 v54 fun v79 =>
 kLd s v79 fun v80 =>
 k [v80] s) [undef] s fun xs s =>
 un1 xs fun v80 =>
 kPick v75 (.bool true) v80 fun v81 =>
 kCond v81 (
 k (.bool false) s) (
 J9 [] s)) fun J8 =>
 kBin .neq v55 (.int .i64 0) fun v57 =>
 kCond v57 (
 kBin .neq v55 (.int .i64 20) fun v59 =>
 kGrd v59 false (fun k =>
 kBin .neq many_8 n_0 fun v63 =>
 k [v63] s) [undef] s fun xs s =>
 un1 xs fun v63 =>
 kPick v59 (.bool true) v63 fun v64 =>
 kGrd v64 false (fun k =>
 kBin .neq v54 (.int .i64 0) fun v67 =>
 k [v67] s) [undef] s fun xs s =>
 un1 xs fun v67 =>
 kPick v64 (.bool true) v67 fun v68 =>
 kCond v68 (
 k (.bool false) s) (
 J6 [many_8] s)) (
 J8 [] s)) (
 kIdx 1 gives_1 i_9 fun v90 =>
 kLd s v90 fun v91 =>
 kCall Try.prog 11 [v29, v91] s fun v92 s =>
 kIdx 1 gives_1 i_9 fun v95 =>
 kLd s v95 fun v96 =>
 kBin .leq v96 n_0 fun v98 =>
 kGrd v98 true (fun k =>
 kIdx 1 gives_1 i_9 fun v103 =>
 kLd s v103 fun v104 =>
 kMin v104 n_0 fun v106 =>
 kIdx 1 v39 v106 fun v107 =>
 kLd s v107 fun v108 =>
 k [v108] s) [undef] s fun xs s =>
 un1 xs fun v108 =>
 kPick v98 v108 (.bool false) fun v109 =>
 kJoin (fun _ s =>
 kCond v109 (
 kIdx 1 gives_1 i_9 fun v118 =>
 kLd s v118 fun v119 =>
 kIdx 1 v39 v119 fun v120 =>
 kSt s 1 v120 (.bool false) fun s =>
 kBin .sub many_8 (.int .i64 1) fun v122 =>
 J7 [v122] s) (
 J7 [many_8] s)) fun J10 =>
 kBin .eql v92 (.int .i64 0) fun v111 =>
 kEq 4 true v111 v109 fun v113 =>
 kCond v113 (
 k (.bool false) s) (
 J10 [] s))) fun J5 =>
 kLen false gives_1 fun v42 =>
 kBin .lss i_9 v42 fun v43 =>
 kCond v43 (
 J5 [] s) (
 J3 [] s)) [(.int .i64 0), (.int .i64 0)] s) fun J2 =>
 kBin .neq v30 (.int .i64 0) fun v32 =>
 kGrd v32 false (fun k =>
 kEq 0 false v29 (.pointer none) fun v35 =>
 k [v35] s) [undef] s fun xs s =>
 un1 xs fun v35 =>
 kPick v32 (.bool true) v35 fun v36 =>
 kCond v36 (
 k (.bool false) s) (
 J2 [] s)) fun J1 =>
 kBin .lss n_0 (.int .i64 1) fun v15 =>
 kGrd v15 false (fun k =>
 kBin .gtr n_0 (.int .i64 100) fun v18 =>
 k [v18] s) [undef] s fun xs s =>
 un1 xs fun v18 =>
 kPick v15 (.bool true) v18 fun v19 =>
 kGrd v19 false (fun k =>
 kLen false gives_1 fun v22 =>
 kBin .gtr v22 (.int .i64 100) fun v23 =>
 k [v23] s) [undef] s fun xs s =>
 un1 xs fun v23 =>
 kPick v19 (.bool true) v23 fun v24 =>
 kCond v24 (
 kCall Try.prog 8 [] s fun v25 s =>
 k v25 s) (
 J1 [] s)
theorem F3_ok (n_0 gives_1 : Value) (s : AS) (k : Value → AS → Prop) : denFn Try.prog [] 3 [n_0, gives_1] s k = F3 n_0 gives_1 s k := by kernel_rfl
theorem f3 {n_0 gives_1 : Value} {s : AS} {k : Value → AS → Prop} (h : F3 n_0 gives_1 s k) : kCall Try.prog 3 [n_0, gives_1] s k := denFn_ok [] (cast (F3_ok n_0 gives_1 s k).symm h)
theorem k3_ok : okFn Try.prog 3 = true := by kernel_rfl

/- conch conchlaw11.BlocksFresh -/
def F4 (data_0 : Value) (s : AS) (k : Value → AS → Prop) : Prop :=
 kJoin (fun _ s =>
 kCall Try.prog 9 [(.int .i64 3)] s fun v18 s =>
 kExt 0 v18 fun v19 =>
 kExt 1 v18 fun v20 =>
 kJoin (fun _ s =>
 kCall Try.prog 10 [v19] s fun v29 s =>
 kExt 0 v29 fun v30 =>
 kExt 1 v29 fun v31 =>
 kJoin (fun _ s =>
 kCall Try.prog 14 [v19, v30, (.int .i64 0), (.int .i64 0)] s fun v46 s =>
 kExt 0 v46 fun v47 =>
 kExt 1 v46 fun v48 =>
 kCall Try.prog 10 [v19] s fun v51 s =>
 kExt 0 v51 fun v52 =>
 kExt 1 v51 fun v53 =>
 kCall Try.prog 14 [v19, v52, (.int .i64 0), (.int .i64 64)] s fun v57 s =>
 kExt 0 v57 fun v58 =>
 kExt 1 v57 fun v59 =>
 kBin .eql v48 (.int .i64 23) fun v61 =>
 kGrd v61 true (fun k =>
 kBin .eql v53 (.int .i64 0) fun v64 =>
 k [v64] s) [undef] s fun xs s =>
 un1 xs fun v64 =>
 kPick v61 v64 (.bool false) fun v65 =>
 kGrd v65 true (fun k =>
 kBin .eql v52 v30 fun v69 =>
 k [v69] s) [undef] s fun xs s =>
 un1 xs fun v69 =>
 kPick v65 v69 (.bool false) fun v70 =>
 kGrd v70 true (fun k =>
 kBin .eql v59 (.int .i64 0) fun v73 =>
 k [v73] s) [undef] s fun xs s =>
 un1 xs fun v73 =>
 kPick v70 v73 (.bool false) fun v74 =>
 kGrd v74 true (fun k =>
 kMks s 1 1 [(.int .u8 0)] (.int .i64 64) (.int .i64 64) fun v77 s =>
 kCvBS s v77 fun v78 =>
 kBin .eql v58 v78 fun v79 =>
 k [v79] s) [undef] s fun xs s =>
 un1 xs fun v79 =>
 kPick v74 v79 (.bool false) fun v80 =>
 kGrd v80 true (fun k =>
 kCall Try.prog 8 [] s fun v82 s =>
 k [v82] s) [undef] s fun xs s =>
 un1 xs fun v82 =>
 kPick v80 v82 (.bool false) fun v83 =>
 k v83 s) fun J3 =>
 kCall Try.prog 13 [v19, v30, (.int .i64 0), data_0] s fun v35 s =>
 kBin .neq v35 (.int .i64 0) fun v36 =>
 kGrd v36 false (fun k =>
 kCall Try.prog 11 [v19, v30] s fun v40 s =>
 kBin .neq v40 (.int .i64 0) fun v41 =>
 k [v41] s) [undef] s fun xs s =>
 un1 xs fun v41 =>
 kPick v36 (.bool true) v41 fun v42 =>
 kCond v42 (
 k (.bool false) s) (
 J3 [] s)) fun J2 =>
 kBin .neq v20 (.int .i64 0) fun v22 =>
 kGrd v22 false (fun k =>
 kEq 0 false v19 (.pointer none) fun v25 =>
 k [v25] s) [undef] s fun xs s =>
 un1 xs fun v25 =>
 kPick v22 (.bool true) v25 fun v26 =>
 kCond v26 (
 k (.bool false) s) (
 J2 [] s)) fun J1 =>
 kLen true data_0 fun v14 =>
 kBin .gtr v14 (.int .i64 64) fun v15 =>
 kCond v15 (
 kCall Try.prog 8 [] s fun v16 s =>
 k v16 s) (
 J1 [] s)
theorem F4_ok (data_0 : Value) (s : AS) (k : Value → AS → Prop) : denFn Try.prog [] 4 [data_0] s k = F4 data_0 s k := by kernel_rfl
theorem f4 {data_0 : Value} {s : AS} {k : Value → AS → Prop} (h : F4 data_0 s k) : kCall Try.prog 4 [data_0] s k := denFn_ok [] (cast (F4_ok data_0 s k).symm h)
theorem k4_ok : okFn Try.prog 4 = true := by kernel_rfl

/- conch conchlaw11.BlocksKeeps -/
def F5 (n_0 many_1 w_2 : Value) (s : AS) (k : Value → AS → Prop) : Prop :=
 kNew s (cellsV w_2) fun w_5 s =>
 kJoin (fun _ s =>
 kCall Try.prog 9 [n_0] s fun v66 s =>
 kExt 0 v66 fun v67 =>
 kExt 1 v66 fun v68 =>
 kJoin (fun _ s =>
 kJoin (fun _ s =>
 kFld 1 w_5 fun v104 =>
 kLd s v104 fun v105 =>
 kCall Try.prog 14 [v67, v105, (.int .i64 0), (.int .i64 64)] s fun v106 s =>
 kExt 0 v106 fun v107 =>
 kExt 1 v106 fun v108 =>
 kJoin (fun _ s =>
 kJoin (fun _ s =>
 kCall Try.prog 12 [v67] s fun v169 s =>
 kBin .sub n_0 many_1 fun v172 =>
 kBin .eql v169 v172 fun v173 =>
 kGrd v173 true (fun k =>
 kCall Try.prog 8 [] s fun v175 s =>
 k [v175] s) [undef] s fun xs s =>
 un1 xs fun v175 =>
 kPick v173 v175 (.bool false) fun v176 =>
 k v176 s) fun J5 =>
 kLoop (fun again6 xs s =>
 un1 xs fun i_14 =>
 kJoin (fun _ s =>
 kJoin (fun _ s =>
 kBin .add i_14 (.int .i64 1) fun v127 =>
 again6 [v127] s) fun J8 =>
 kCall Try.prog 14 [v67, i_14, (.int .i64 0), (.int .i64 64)] s fun v131 s =>
 kExt 0 v131 fun v132 =>
 kExt 1 v131 fun v133 =>
 kJoin (fun xs s =>
 un1 xs fun want_17 =>
 kJoin (fun xs s =>
 un1 xs fun want_17 =>
 kBin .neq v133 (.int .i64 0) fun v162 =>
 kGrd v162 false (fun k =>
 kBin .neq v132 want_17 fun v166 =>
 k [v166] s) [undef] s fun xs s =>
 un1 xs fun v166 =>
 kPick v162 (.bool true) v166 fun v167 =>
 kCond v167 (
 k (.bool false) s) (
 J8 [] s)) fun J10 =>
 kFld 1 w_5 fun v142 =>
 kLd s v142 fun v143 =>
 kBin .eql i_14 v143 fun v144 =>
 kCond v144 (
 kFld 2 w_5 fun v146 =>
 kFld 4 w_5 fun v149 =>
 kFld 2 w_5 fun v153 =>
 kFld 4 w_5 fun v155 =>
 kLd s v146 fun v147 =>
 kSubS v107 none (some v147) fun v148 =>
 kLd s v149 fun v150 =>
 kBin .add v148 v150 fun v151 =>
 kLd s v153 fun v154 =>
 kLd s v155 fun v156 =>
 kLen true v156 fun v157 =>
 kBin .add v154 v157 fun v158 =>
 kSubS v107 (some v158) none fun v159 =>
 kBin .add v151 v159 fun v160 =>
 J10 [v160] s) (
 J10 [want_17] s)) fun J9 =>
 kCvi .u8 i_14 fun v135 =>
 kAlt (
 kBsl s 3 [(.int .u8 0), (.int .u8 0), (.int .u8 0)] [(0, 1, v135), (1, 1, (.int .u8 1)), (2, 1, (.int .u8 2))] fun v136 s =>
 kAlt (
 kCvBS s v136 fun v137 =>
 kMks s 1 1 [(.int .u8 0)] (.int .i64 61) (.int .i64 61) fun v138 s =>
 kCvBS s v138 fun v139 =>
 kBin .add v137 v139 fun v140 =>
 J9 [v140] s) (
 kMks s 1 1 [(.int .u8 0)] (.int .i64 61) (.int .i64 61) fun v138 s =>
 kAlt (
 kCvBS s v136 fun v137 =>
 kCvBS s v138 fun v139 =>
 kBin .add v137 v139 fun v140 =>
 J9 [v140] s) (
 kCvBS s v138 fun v139 =>
 kCvBS s v136 fun v137 =>
 kBin .add v137 v139 fun v140 =>
 J9 [v140] s))) (
 kMks s 1 1 [(.int .u8 0)] (.int .i64 61) (.int .i64 61) fun v138 s =>
 kAlt (
 kBsl s 3 [(.int .u8 0), (.int .u8 0), (.int .u8 0)] [(0, 1, v135), (1, 1, (.int .u8 1)), (2, 1, (.int .u8 2))] fun v136 s =>
 kAlt (
 kCvBS s v136 fun v137 =>
 kCvBS s v138 fun v139 =>
 kBin .add v137 v139 fun v140 =>
 J9 [v140] s) (
 kCvBS s v138 fun v139 =>
 kCvBS s v136 fun v137 =>
 kBin .add v137 v139 fun v140 =>
 J9 [v140] s)) (
 kCvBS s v138 fun v139 =>
 kBsl s 3 [(.int .u8 0), (.int .u8 0), (.int .u8 0)] [(0, 1, v135), (1, 1, (.int .u8 1)), (2, 1, (.int .u8 2))] fun v136 s =>
 kCvBS s v136 fun v137 =>
 kBin .add v137 v139 fun v140 =>
 J9 [v140] s))) fun J7 =>
 kBin .leq i_14 many_1 fun v125 =>
 kCond v125 (
 J7 [] s) (
 J5 [] s)) [(.int .i64 1)] s) fun J4 =>
 kLen true v107 fun v110 =>
 kBin .neq v110 (.int .i64 64) fun v111 =>
 kGrd v111 false (fun k =>
 kFld 1 w_5 fun v114 =>
 kLd s v114 fun v115 =>
 kFld 2 w_5 fun v116 =>
 kLd s v116 fun v117 =>
 kFld 4 w_5 fun v118 =>
 kLd s v118 fun v119 =>
 kCall Try.prog 13 [v67, v115, v117, v119] s fun v120 s =>
 kBin .neq v120 (.int .i64 0) fun v121 =>
 k [v121] s) [undef] s fun xs s =>
 un1 xs fun v121 =>
 kPick v111 (.bool true) v121 fun v122 =>
 kCond v122 (
 k (.bool false) s) (
 J4 [] s)) fun J3 =>
 kLoop (fun again11 xs s =>
 un1 xs fun i_9 =>
 kJoin (fun _ s =>
 kJoin (fun _ s =>
 kBin .add i_9 (.int .i64 1) fun v79 =>
 again11 [v79] s) fun J13 =>
 kCall Try.prog 10 [v67] s fun v82 s =>
 kExt 0 v82 fun v83 =>
 kExt 1 v82 fun v84 =>
 kBin .neq v84 (.int .i64 0) fun v86 =>
 kGrd v86 false (fun k =>
 kBin .neq v83 i_9 fun v90 =>
 k [v90] s) [undef] s fun xs s =>
 un1 xs fun v90 =>
 kPick v86 (.bool true) v90 fun v91 =>
 kGrd v91 false (fun k =>
 kCvi .u8 i_9 fun v96 =>
 kBsl s 3 [(.int .u8 0), (.int .u8 0), (.int .u8 0)] [(0, 1, v96), (1, 1, (.int .u8 1)), (2, 1, (.int .u8 2))] fun v97 s =>
 kCvBS s v97 fun v98 =>
 kCall Try.prog 13 [v67, v83, (.int .i64 0), v98] s fun v99 s =>
 kBin .neq v99 (.int .i64 0) fun v100 =>
 k [v100] s) [undef] s fun xs s =>
 un1 xs fun v100 =>
 kPick v91 (.bool true) v100 fun v101 =>
 kCond v101 (
 k (.bool false) s) (
 J13 [] s)) fun J12 =>
 kBin .leq i_9 many_1 fun v77 =>
 kCond v77 (
 J12 [] s) (
 J3 [] s)) [(.int .i64 1)] s) fun J2 =>
 kBin .neq v68 (.int .i64 0) fun v70 =>
 kGrd v70 false (fun k =>
 kEq 0 false v67 (.pointer none) fun v73 =>
 k [v73] s) [undef] s fun xs s =>
 un1 xs fun v73 =>
 kPick v70 (.bool true) v73 fun v74 =>
 kCond v74 (
 k (.bool false) s) (
 J2 [] s)) fun J1 =>
 kBin .lss n_0 (.int .i64 1) fun v19 =>
 kGrd v19 false (fun k =>
 kBin .gtr n_0 (.int .i64 100) fun v22 =>
 k [v22] s) [undef] s fun xs s =>
 un1 xs fun v22 =>
 kPick v19 (.bool true) v22 fun v23 =>
 kGrd v23 false (fun k =>
 kBin .lss many_1 (.int .i64 1) fun v26 =>
 k [v26] s) [undef] s fun xs s =>
 un1 xs fun v26 =>
 kPick v23 (.bool true) v26 fun v27 =>
 kGrd v27 false (fun k =>
 kBin .gtr many_1 n_0 fun v31 =>
 k [v31] s) [undef] s fun xs s =>
 un1 xs fun v31 =>
 kPick v27 (.bool true) v31 fun v32 =>
 kGrd v32 false (fun k =>
 kFld 1 w_5 fun v34 =>
 kLd s v34 fun v35 =>
 kBin .lss v35 (.int .i64 1) fun v36 =>
 k [v36] s) [undef] s fun xs s =>
 un1 xs fun v36 =>
 kPick v32 (.bool true) v36 fun v37 =>
 kGrd v37 false (fun k =>
 kFld 1 w_5 fun v39 =>
 kLd s v39 fun v40 =>
 kBin .gtr v40 many_1 fun v42 =>
 k [v42] s) [undef] s fun xs s =>
 un1 xs fun v42 =>
 kPick v37 (.bool true) v42 fun v43 =>
 kGrd v43 false (fun k =>
 kFld 2 w_5 fun v45 =>
 kLd s v45 fun v46 =>
 kBin .lss v46 (.int .i64 0) fun v47 =>
 k [v47] s) [undef] s fun xs s =>
 un1 xs fun v47 =>
 kPick v43 (.bool true) v47 fun v48 =>
 kGrd v48 false (fun k =>
 kFld 2 w_5 fun v50 =>
 kLd s v50 fun v51 =>
 kBin .gtr v51 (.int .i64 64) fun v52 =>
 k [v52] s) [undef] s fun xs s =>
 un1 xs fun v52 =>
 kPick v48 (.bool true) v52 fun v53 =>
 kGrd v53 false (fun k =>
 kFld 4 w_5 fun v55 =>
 kLd s v55 fun v56 =>
 kLen true v56 fun v57 =>
 kFld 2 w_5 fun v58 =>
 kLd s v58 fun v59 =>
 kBin .sub (.int .i64 64) v59 fun v60 =>
 kBin .gtr v57 v60 fun v61 =>
 k [v61] s) [undef] s fun xs s =>
 un1 xs fun v61 =>
 kPick v53 (.bool true) v61 fun v62 =>
 kCond v62 (
 kCall Try.prog 8 [] s fun v63 s =>
 k v63 s) (
 J1 [] s)
theorem F5_ok (n_0 many_1 w_2 : Value) (s : AS) (k : Value → AS → Prop) : denFn Try.prog [(19, (.go 0 (.go 1 (.both 2 (.both 3 (.go 4 (.go 5 (.go 6 (.go 7 .done)))) (.go 4 (.both 3 (.go 5 (.go 6 (.go 7 .done))) (.go 5 (.go 3 (.go 6 (.go 7 .done))))))) (.go 4 (.both 2 (.both 3 (.go 5 (.go 6 (.go 7 .done))) (.go 5 (.go 3 (.go 6 (.go 7 .done))))) (.go 5 (.go 2 (.go 3 (.go 6 (.go 7 .done))))))))))), (21, (.go 0 (.go 1 (.go 4 (.go 7 (.go 8 (.go 10 (.go 2 (.go 3 (.go 5 (.go 6 (.go 9 (.go 11 (.go 12 (.go 13 (.go 14 (.go 15 (.go 16 .done))))))))))))))))))] 5 [n_0, many_1, w_2] s k = F5 n_0 many_1 w_2 s k := by kernel_rfl
theorem f5 {n_0 many_1 w_2 : Value} {s : AS} {k : Value → AS → Prop} (h : F5 n_0 many_1 w_2 s k) : kCall Try.prog 5 [n_0, many_1, w_2] s k := denFn_ok [(19, (.go 0 (.go 1 (.both 2 (.both 3 (.go 4 (.go 5 (.go 6 (.go 7 .done)))) (.go 4 (.both 3 (.go 5 (.go 6 (.go 7 .done))) (.go 5 (.go 3 (.go 6 (.go 7 .done))))))) (.go 4 (.both 2 (.both 3 (.go 5 (.go 6 (.go 7 .done))) (.go 5 (.go 3 (.go 6 (.go 7 .done))))) (.go 5 (.go 2 (.go 3 (.go 6 (.go 7 .done))))))))))), (21, (.go 0 (.go 1 (.go 4 (.go 7 (.go 8 (.go 10 (.go 2 (.go 3 (.go 5 (.go 6 (.go 9 (.go 11 (.go 12 (.go 13 (.go 14 (.go 15 (.go 16 .done))))))))))))))))))] (cast (F5_ok n_0 many_1 w_2 s k).symm h)
theorem k5_ok : okFn Try.prog 5 = true := by kernel_rfl

/- conch conchlaw11.BlocksPlays -/
def F6 (n_0 ops_1 : Value) (s : AS) (k : Value → AS → Prop) : Prop :=
 kCall Try.prog 9 [n_0] s fun v27 s =>
 kExt 0 v27 fun v28 =>
 kExt 1 v27 fun v29 =>
 kCall Try.prog 15 [n_0] s fun v32 s =>
 kExt 0 v32 fun v33 =>
 kExt 1 v32 fun v34 =>
 kJoin (fun _ s =>
 kJoin (fun _ s =>
 kJoin (fun _ s =>
 kCall Try.prog 8 [] s fun v192 s =>
 k v192 s) fun J3 =>
 kLoop (fun again4 xs s =>
 un3 xs fun s_5 r_7 i_9 =>
 kJoin (fun _ s =>
 kJoin (fun xs s =>
 un2 xs fun s_5 r_7 =>
 kBin .add i_9 (.int .i64 1) fun v57 =>
 again4 [s_5, r_7, v57] s) fun J6 =>
 kIdx 5 ops_1 i_9 fun v60 =>
 kLdN s 5 v60 fun v61 =>
 kNew s [(.int .i64 0), (.int .i64 0), (.int .i64 0), (.int .i64 0), (.string (bs []))] fun o_10 s =>
 kSt s 5 o_10 v61 fun s =>
 kJoin (fun _ s =>
 kJoin (fun xs s =>
 un2 xs fun s_5 r_7 =>
 kFld 1 o_10 fun v165 =>
 kLd s v165 fun v166 =>
 kCall Try.prog 14 [s_5, v166, (.int .i64 0), (.int .i64 64)] s fun v167 s =>
 kExt 0 v167 fun v168 =>
 kExt 1 v167 fun v169 =>
 kFld 1 o_10 fun v172 =>
 kLd s v172 fun v173 =>
 kCall Try.prog 18 [r_7, v173, (.int .i64 0), (.int .i64 64)] s fun v174 s =>
 kExt 0 v174 fun v175 =>
 kExt 1 v174 fun v176 =>
 kBin .neq v168 v175 fun v179 =>
 kGrd v179 false (fun k =>
 kBin .neq v169 v176 fun v183 =>
 k [v183] s) [undef] s fun xs s =>
 un1 xs fun v183 =>
 kPick v179 (.bool true) v183 fun v184 =>
 kGrd v184 false (fun k =>
 kCall Try.prog 12 [s_5] s fun v187 s =>
 kCall Try.prog 22 [r_7] s fun v189 s =>
 kBin .neq v187 v189 fun v190 =>
 k [v190] s) [undef] s fun xs s =>
 un1 xs fun v190 =>
 kPick v184 (.bool true) v190 fun v191 =>
 kCond v191 (
 k (.bool false) s) (
 J6 [s_5, r_7] s)) fun J8 =>
 kFld 0 o_10 fun v67 =>
 kLd s v67 fun v68 =>
 kBin .eql v68 (.int .i64 0) fun v82 =>
 kCond v82 (
 kCall Try.prog 10 [s_5] s fun v85 s =>
 kExt 0 v85 fun v86 =>
 kExt 1 v85 fun v87 =>
 kCall Try.prog 16 [r_7] s fun v90 s =>
 kExt 0 v90 fun v91 =>
 kExt 1 v90 fun v92 =>
 kBin .neq v86 v91 fun v95 =>
 kGrd v95 false (fun k =>
 kBin .neq v87 v92 fun v99 =>
 k [v99] s) [undef] s fun xs s =>
 un1 xs fun v99 =>
 kPick v95 (.bool true) v99 fun v100 =>
 kCond v100 (
 k (.bool false) s) (
 J8 [s_5, r_7] s)) (
 kBin .eql v68 (.int .i64 1) fun v102 =>
 kCond v102 (
 kFld 1 o_10 fun v104 =>
 kFld 1 o_10 fun v108 =>
 kLd s v104 fun v105 =>
 kLd s v108 fun v109 =>
 kCall Try.prog 11 [s_5, v105] s fun v106 s =>
 kChk s v108 v109 (
 kCall Try.prog 17 [r_7, v109] s fun v110 s =>
 kBin .neq v106 v110 fun v111 =>
 kCond v111 (
 k (.bool false) s) (
 J8 [s_5, r_7] s))) (
 kBin .eql v68 (.int .i64 2) fun v113 =>
 kCond v113 (
 kFld 1 o_10 fun v116 =>
 kLd s v116 fun v117 =>
 kFld 2 o_10 fun v118 =>
 kLd s v118 fun v119 =>
 kFld 3 o_10 fun v120 =>
 kLd s v120 fun v121 =>
 kCall Try.prog 14 [s_5, v117, v119, v121] s fun v122 s =>
 kExt 0 v122 fun v123 =>
 kExt 1 v122 fun v124 =>
 kFld 1 o_10 fun v127 =>
 kLd s v127 fun v128 =>
 kFld 2 o_10 fun v129 =>
 kLd s v129 fun v130 =>
 kFld 3 o_10 fun v131 =>
 kLd s v131 fun v132 =>
 kCall Try.prog 18 [r_7, v128, v130, v132] s fun v133 s =>
 kExt 0 v133 fun v134 =>
 kExt 1 v133 fun v135 =>
 kBin .neq v123 v134 fun v138 =>
 kGrd v138 false (fun k =>
 kBin .neq v124 v135 fun v142 =>
 k [v142] s) [undef] s fun xs s =>
 un1 xs fun v142 =>
 kPick v138 (.bool true) v142 fun v143 =>
 kCond v143 (
 k (.bool false) s) (
 J8 [s_5, r_7] s)) (
 kBin .eql v68 (.int .i64 3) fun v145 =>
 kCond v145 (
 kFld 1 o_10 fun v147 =>
 kFld 2 o_10 fun v149 =>
 kFld 4 o_10 fun v151 =>
 kFld 1 o_10 fun v155 =>
 kFld 2 o_10 fun v157 =>
 kFld 4 o_10 fun v159 =>
 kLd s v147 fun v148 =>
 kLd s v149 fun v150 =>
 kLd s v151 fun v152 =>
 kLd s v155 fun v156 =>
 kLd s v157 fun v158 =>
 kLd s v159 fun v160 =>
 kCall Try.prog 13 [s_5, v148, v150, v152] s fun v153 s =>
 kChk s v159 v160 (
 kChk s v157 v158 (
 kChk s v155 v156 (
 kCall Try.prog 19 [r_7, v156, v158, v160] s fun v161 s =>
 kBin .neq v153 v161 fun v162 =>
 kCond v162 (
 k (.bool false) s) (
 J8 [s_5, r_7] s))))) (
 kCall Try.prog 20 [s_5] s fun v70 s =>
 kCall Try.prog 21 [r_7] s fun v72 s =>
 kCall Try.prog 10 [s_5] s fun v74 s =>
 kCall Try.prog 13 [s_5, (.int .i64 1), (.int .i64 0), (.string (bs [120]))] s fun v76 s =>
 kEq 0 false v70 (.pointer none) fun v80 =>
 kCond v80 (
 k (.bool false) s) (
 J8 [v70, v72] s)))))) fun J7 =>
 kFld 4 o_10 fun v62 =>
 kLd s v62 fun v63 =>
 kLen true v63 fun v64 =>
 kBin .gtr v64 (.int .i64 200) fun v65 =>
 kCond v65 (
 kCall Try.prog 8 [] s fun v66 s =>
 k v66 s) (
 J7 [] s)) fun J5 =>
 kLen false ops_1 fun v50 =>
 kBin .lss i_9 v50 fun v51 =>
 kGrd v51 true (fun k =>
 kBin .lss i_9 (.int .i64 100) fun v54 =>
 k [v54] s) [undef] s fun xs s =>
 un1 xs fun v54 =>
 kPick v51 v54 (.bool false) fun v55 =>
 kCond v55 (
 J5 [] s) (
 J3 [] s)) [v28, v33, (.int .i64 0)] s) fun J2 =>
 kEq 0 false v33 (.pointer none) fun v46 =>
 kCond v46 (
 kCall Try.prog 8 [] s fun v47 s =>
 k v47 s) (
 J2 [] s)) fun J1 =>
 kBin .neq v29 v34 fun v37 =>
 kGrd v37 false (fun k =>
 kEq 0 false v28 (.pointer none) fun v40 =>
 kEq 0 false v33 (.pointer none) fun v42 =>
 kEq 4 true v40 v42 fun v43 =>
 k [v43] s) [undef] s fun xs s =>
 un1 xs fun v43 =>
 kPick v37 (.bool true) v43 fun v44 =>
 kCond v44 (
 k (.bool false) s) (
 J1 [] s)
theorem F6_ok (n_0 ops_1 : Value) (s : AS) (k : Value → AS → Prop) : denFn Try.prog [(28, (.go 0 (.go 1 (.go 4 (.go 5 (.go 2 (.go 6 (.go 3 (.go 7 (.go 8 .done)))))))))), (36, (.go 0 (.go 1 (.go 3 (.go 5 (.go 8 (.go 9 (.go 11 (.go 13 (.go 2 (.go 4 (.go 6 (.go 10 (.go 12 (.go 14 (.go 7 (.go 15 (.go 16 .done))))))))))))))))))] 6 [n_0, ops_1] s k = F6 n_0 ops_1 s k := by kernel_rfl
theorem f6 {n_0 ops_1 : Value} {s : AS} {k : Value → AS → Prop} (h : F6 n_0 ops_1 s k) : kCall Try.prog 6 [n_0, ops_1] s k := denFn_ok [(28, (.go 0 (.go 1 (.go 4 (.go 5 (.go 2 (.go 6 (.go 3 (.go 7 (.go 8 .done)))))))))), (36, (.go 0 (.go 1 (.go 3 (.go 5 (.go 8 (.go 9 (.go 11 (.go 13 (.go 2 (.go 4 (.go 6 (.go 10 (.go 12 (.go 14 (.go 7 (.go 15 (.go 16 .done))))))))))))))))))] (cast (F6_ok n_0 ops_1 s k).symm h)
theorem k6_ok : okFn Try.prog 6 = true := by kernel_rfl

/- conch conchlaw11.BlocksNil -/
def F7 (b_0 data_1 : Value) (s : AS) (k : Value → AS → Prop) : Prop :=
 kCall Try.prog 10 [(.pointer none)] s fun v12 s =>
 kExt 0 v12 fun v13 =>
 kExt 1 v12 fun v14 =>
 kCall Try.prog 14 [(.pointer none), b_0, b_0, b_0] s fun v20 s =>
 kExt 0 v20 fun v21 =>
 kExt 1 v20 fun v22 =>
 kBin .eql v14 (.int .i64 2) fun v24 =>
 kGrd v24 true (fun k =>
 kCall Try.prog 11 [(.pointer none), b_0] s fun v28 s =>
 kBin .eql v28 (.int .i64 2) fun v29 =>
 k [v29] s) [undef] s fun xs s =>
 un1 xs fun v29 =>
 kPick v24 v29 (.bool false) fun v30 =>
 kGrd v30 true (fun k =>
 kBin .eql v22 (.int .i64 2) fun v33 =>
 k [v33] s) [undef] s fun xs s =>
 un1 xs fun v33 =>
 kPick v30 v33 (.bool false) fun v34 =>
 kGrd v34 true (fun k =>
 kCall Try.prog 13 [(.pointer none), b_0, b_0, data_1] s fun v40 s =>
 kBin .eql v40 (.int .i64 2) fun v41 =>
 k [v41] s) [undef] s fun xs s =>
 un1 xs fun v41 =>
 kPick v34 v41 (.bool false) fun v42 =>
 kGrd v42 true (fun k =>
 kCall Try.prog 12 [(.pointer none)] s fun v45 s =>
 kBin .eql v45 (.int .i64 0) fun v46 =>
 k [v46] s) [undef] s fun xs s =>
 un1 xs fun v46 =>
 kPick v42 v46 (.bool false) fun v47 =>
 kGrd v47 true (fun k =>
 kCall Try.prog 20 [(.pointer none)] s fun v50 s =>
 kEq 0 false v50 (.pointer none) fun v51 =>
 k [v51] s) [undef] s fun xs s =>
 un1 xs fun v51 =>
 kPick v47 v51 (.bool false) fun v52 =>
 kGrd v52 true (fun k =>
 kCall Try.prog 8 [] s fun v54 s =>
 k [v54] s) [undef] s fun xs s =>
 un1 xs fun v54 =>
 kPick v52 v54 (.bool false) fun v55 =>
 k v55 s
theorem F7_ok (b_0 data_1 : Value) (s : AS) (k : Value → AS → Prop) : denFn Try.prog [] 7 [b_0, data_1] s k = F7 b_0 data_1 s k := by kernel_rfl
theorem f7 {b_0 data_1 : Value} {s : AS} {k : Value → AS → Prop} (h : F7 b_0 data_1 s k) : kCall Try.prog 7 [b_0, data_1] s k := denFn_ok [] (cast (F7_ok b_0 data_1 s k).symm h)
theorem k7_ok : okFn Try.prog 7 = true := by kernel_rfl

/- conch conchlaw11.awake -/
def F8 (s : AS) (k : Value → AS → Prop) : Prop :=
 kCall Try.prog 9 [(.int .i64 2)] s fun v16 s =>
 kExt 0 v16 fun v17 =>
 kExt 1 v16 fun v18 =>
 kJoin (fun _ s =>
 kCall Try.prog 10 [v17] s fun v27 s =>
 kExt 0 v27 fun v28 =>
 kExt 1 v27 fun v29 =>
 kCall Try.prog 10 [v17] s fun v32 s =>
 kExt 0 v32 fun v33 =>
 kExt 1 v32 fun v34 =>
 kCall Try.prog 10 [v17] s fun v37 s =>
 kExt 0 v37 fun v38 =>
 kExt 1 v37 fun v39 =>
 kCall Try.prog 11 [v17, (.int .i64 1)] s fun v41 s =>
 kCall Try.prog 10 [v17] s fun v44 s =>
 kExt 0 v44 fun v45 =>
 kExt 1 v44 fun v46 =>
 kCall Try.prog 14 [v17, (.int .i64 1), (.int .i64 64), (.int .i64 1)] s fun v49 s =>
 kExt 0 v49 fun v50 =>
 kExt 1 v49 fun v51 =>
 kCall Try.prog 14 [v17, (.int .i64 1), (.int .i64 63), (.int .i64 1)] s fun v54 s =>
 kExt 0 v54 fun v55 =>
 kExt 1 v54 fun v56 =>
 kBin .eql v28 (.int .i64 1) fun v58 =>
 kGrd v58 true (fun k =>
 kBin .eql v33 (.int .i64 2) fun v61 =>
 k [v61] s) [undef] s fun xs s =>
 un1 xs fun v61 =>
 kPick v58 v61 (.bool false) fun v62 =>
 kGrd v62 true (fun k =>
 kBin .eql v39 (.int .i64 20) fun v65 =>
 k [v65] s) [undef] s fun xs s =>
 un1 xs fun v65 =>
 kPick v62 v65 (.bool false) fun v66 =>
 kGrd v66 true (fun k =>
 kBin .eql v45 (.int .i64 1) fun v69 =>
 k [v69] s) [undef] s fun xs s =>
 un1 xs fun v69 =>
 kPick v66 v69 (.bool false) fun v70 =>
 kGrd v70 true (fun k =>
 kBin .eql v51 (.int .i64 1) fun v73 =>
 k [v73] s) [undef] s fun xs s =>
 un1 xs fun v73 =>
 kPick v70 v73 (.bool false) fun v74 =>
 kGrd v74 true (fun k =>
 kBin .eql v55 (.string (bs [0])) fun v77 =>
 k [v77] s) [undef] s fun xs s =>
 un1 xs fun v77 =>
 kPick v74 v77 (.bool false) fun v78 =>
 kGrd v78 true (fun k =>
 kBin .eql v56 (.int .i64 0) fun v81 =>
 k [v81] s) [undef] s fun xs s =>
 un1 xs fun v81 =>
 kPick v78 v81 (.bool false) fun v82 =>
 k v82 s) fun J1 =>
 kBin .neq v18 (.int .i64 0) fun v20 =>
 kGrd v20 false (fun k =>
 kEq 0 false v17 (.pointer none) fun v23 =>
 k [v23] s) [undef] s fun xs s =>
 un1 xs fun v23 =>
 kPick v20 (.bool true) v23 fun v24 =>
 kCond v24 (
 k (.bool false) s) (
 J1 [] s)
theorem F8_ok (s : AS) (k : Value → AS → Prop) : denFn Try.prog [] 8 [] s k = F8 s k := by kernel_rfl
theorem f8 {s : AS} {k : Value → AS → Prop} (h : F8 s k) : kCall Try.prog 8 [] s k := denFn_ok [] (cast (F8_ok s k).symm h)
theorem k8_ok : okFn Try.prog 8 = true := by kernel_rfl

/- conch blocks.New -/
def F9 (blocks_0 : Value) (s : AS) (k : Value → AS → Prop) : Prop :=
 kJoin (fun _ s =>
 kMks s 65 65 ((.bool false) :: List.replicate 64 (.int .u8 0)) blocks_0 blocks_0 fun v11 s =>
 kBuild [(.slice none 0 0), (.int .i64 0)] [(0, 1, v11), (1, 1, blocks_0)] fun v13 =>
 kNew s (cellsV v13) fun v14 s =>
 k (.tuple #[v14, (.int .i64 0)]) s) fun J1 =>
 kBin .lss blocks_0 (.int .i64 1) fun v5 =>
 kGrd v5 false (fun k =>
 kBin .gtr blocks_0 (.int .i64 4096) fun v8 =>
 k [v8] s) [undef] s fun xs s =>
 un1 xs fun v8 =>
 kPick v5 (.bool true) v8 fun v9 =>
 kCond v9 (
 k (.tuple #[(.pointer none), (.int .i64 1)]) s) (
 J1 [] s)
theorem F9_ok (blocks_0 : Value) (s : AS) (k : Value → AS → Prop) : denFn Try.prog [] 9 [blocks_0] s k = F9 blocks_0 s k := by kernel_rfl
theorem f9 {blocks_0 : Value} {s : AS} {k : Value → AS → Prop} (h : F9 blocks_0 s k) : kCall Try.prog 9 [blocks_0] s k := denFn_ok [] (cast (F9_ok blocks_0 s k).symm h)
theorem k9_ok : okFn Try.prog 9 = true := by kernel_rfl

/- (*conch blocks.Store).Take -/
def F10 (s_0 : Value) (s : AS) (k : Value → AS → Prop) : Prop :=
 kJoin (fun _ s =>
 kNck s_0 fun v8 =>
 kFld 0 v8 fun v9 =>
 kLd s v9 fun v10 =>
 kCall Try.prog 23 [v10, (.func (.func 24) #[] #[])] s fun v11 s =>
 kJoin (fun _ s =>
 kNck s_0 fun v15 =>
 kFld 0 v15 fun v16 =>
 kLd s v16 fun v17 =>
 kBuild ((.bool false) :: List.replicate 64 (.int .u8 0)) [(0, 1, (.bool true))] fun v19 =>
 kIdx 65 v17 v11 fun v20 =>
 kSt s 65 v20 v19 fun s =>
 kNck s_0 fun v22 =>
 kFld 1 v22 fun v23 =>
 kLd s v23 fun v24 =>
 kBin .sub v24 (.int .i64 1) fun v25 =>
 kNck s_0 fun v26 =>
 kFld 1 v26 fun v27 =>
 kSt s 1 v27 v25 fun s =>
 kBin .add v11 (.int .i64 1) fun v29 =>
 k (.tuple #[v29, (.int .i64 0)]) s) fun J2 =>
 kBin .lss v11 (.int .i64 0) fun v13 =>
 kCond v13 (
 k (.tuple #[(.int .i64 0), (.int .i64 20)]) s) (
 J2 [] s)) fun J1 =>
 kEq 0 false s_0 (.pointer none) fun v6 =>
 kCond v6 (
 k (.tuple #[(.int .i64 0), (.int .i64 2)]) s) (
 J1 [] s)
theorem F10_ok (s_0 : Value) (s : AS) (k : Value → AS → Prop) : denFn Try.prog [] 10 [s_0] s k = F10 s_0 s k := by kernel_rfl
theorem f10 {s_0 : Value} {s : AS} {k : Value → AS → Prop} (h : F10 s_0 s k) : kCall Try.prog 10 [s_0] s k := denFn_ok [] (cast (F10_ok s_0 s k).symm h)
theorem k10_ok : okFn Try.prog 10 = true := by kernel_rfl

/- (*conch blocks.Store).Give -/
def F11 (s_0 b_1 : Value) (s : AS) (k : Value → AS → Prop) : Prop :=
 kJoin (fun _ s =>
 kCall Try.prog 25 [s_0, b_1] s fun v10 s =>
 kJoin (fun _ s =>
 kNck v10 fun v14 =>
 kFld 0 v14 fun v15 =>
 kSt s 1 v15 (.bool false) fun s =>
 kNck s_0 fun v17 =>
 kFld 1 v17 fun v18 =>
 kLd s v18 fun v19 =>
 kBin .add v19 (.int .i64 1) fun v20 =>
 kNck s_0 fun v21 =>
 kFld 1 v21 fun v22 =>
 kSt s 1 v22 v20 fun s =>
 k (.int .i64 0) s) fun J2 =>
 kEq 0 false v10 (.pointer none) fun v12 =>
 kCond v12 (
 k (.int .i64 23) s) (
 J2 [] s)) fun J1 =>
 kEq 0 false s_0 (.pointer none) fun v7 =>
 kCond v7 (
 k (.int .i64 2) s) (
 J1 [] s)
theorem F11_ok (s_0 b_1 : Value) (s : AS) (k : Value → AS → Prop) : denFn Try.prog [] 11 [s_0, b_1] s k = F11 s_0 b_1 s k := by kernel_rfl
theorem f11 {s_0 b_1 : Value} {s : AS} {k : Value → AS → Prop} (h : F11 s_0 b_1 s k) : kCall Try.prog 11 [s_0, b_1] s k := denFn_ok [] (cast (F11_ok s_0 b_1 s k).symm h)
theorem k11_ok : okFn Try.prog 11 = true := by kernel_rfl

/- (*conch blocks.Store).Free -/
def F12 (s_0 : Value) (s : AS) (k : Value → AS → Prop) : Prop :=
 kJoin (fun _ s =>
 kNck s_0 fun v6 =>
 kFld 1 v6 fun v7 =>
 kLd s v7 fun v8 =>
 k v8 s) fun J1 =>
 kEq 0 false s_0 (.pointer none) fun v4 =>
 kCond v4 (
 k (.int .i64 0) s) (
 J1 [] s)
theorem F12_ok (s_0 : Value) (s : AS) (k : Value → AS → Prop) : denFn Try.prog [] 12 [s_0] s k = F12 s_0 s k := by kernel_rfl
theorem f12 {s_0 : Value} {s : AS} {k : Value → AS → Prop} (h : F12 s_0 s k) : kCall Try.prog 12 [s_0] s k := denFn_ok [] (cast (F12_ok s_0 s k).symm h)
theorem k12_ok : okFn Try.prog 12 = true := by kernel_rfl

/- (*conch blocks.Store).Write -/
def F13 (s_0 b_1 at_2 data_3 : Value) (s : AS) (k : Value → AS → Prop) : Prop :=
 kJoin (fun _ s =>
 kCall Try.prog 25 [s_0, b_1] s fun v14 s =>
 kJoin (fun _ s =>
 kNck v14 fun v33 =>
 kFld 1 v33 fun v34 =>
 kSubA 64 1 v34 (some at_2) none fun v36 =>
 kCpy Try.prog 37 9 v36 data_3 s fun v38 s =>
 k (.int .i64 0) s) fun J2 =>
 kEq 0 false v14 (.pointer none) fun v17 =>
 kCond v17 (
 k (.int .i64 23) s) (
 kBin .lss at_2 (.int .i64 0) fun v20 =>
 kGrd v20 false (fun k =>
 kBin .gtr at_2 (.int .i64 64) fun v23 =>
 k [v23] s) [undef] s fun xs s =>
 un1 xs fun v23 =>
 kPick v20 (.bool true) v23 fun v24 =>
 kGrd v24 false (fun k =>
 kLen true data_3 fun v27 =>
 kBin .sub (.int .i64 64) at_2 fun v29 =>
 kBin .gtr v27 v29 fun v30 =>
 k [v30] s) [undef] s fun xs s =>
 un1 xs fun v30 =>
 kPick v24 (.bool true) v30 fun v31 =>
 kCond v31 (
 k (.int .i64 1) s) (
 J2 [] s))) fun J1 =>
 kEq 0 false s_0 (.pointer none) fun v11 =>
 kCond v11 (
 k (.int .i64 2) s) (
 J1 [] s)
theorem F13_ok (s_0 b_1 at_2 data_3 : Value) (s : AS) (k : Value → AS → Prop) : denFn Try.prog [] 13 [s_0, b_1, at_2, data_3] s k = F13 s_0 b_1 at_2 data_3 s k := by kernel_rfl
theorem f13 {s_0 b_1 at_2 data_3 : Value} {s : AS} {k : Value → AS → Prop} (h : F13 s_0 b_1 at_2 data_3 s k) : kCall Try.prog 13 [s_0, b_1, at_2, data_3] s k := denFn_ok [] (cast (F13_ok s_0 b_1 at_2 data_3 s k).symm h)
theorem k13_ok : okFn Try.prog 13 = true := by kernel_rfl

/- (*conch blocks.Store).Read -/
def F14 (s_0 b_1 at_2 n_3 : Value) (s : AS) (k : Value → AS → Prop) : Prop :=
 kJoin (fun _ s =>
 kCall Try.prog 25 [s_0, b_1] s fun v15 s =>
 kJoin (fun _ s =>
 kNck v15 fun v37 =>
 kFld 1 v37 fun v38 =>
 kBin .add at_2 n_3 fun v42 =>
 kSubA 64 1 v38 (some at_2) (some v42) fun v43 =>
 kCvBS s v43 fun v44 =>
 k (.tuple #[v44, (.int .i64 0)]) s) fun J2 =>
 kEq 0 false v15 (.pointer none) fun v18 =>
 kCond v18 (
 k (.tuple #[(.string (bs [])), (.int .i64 23)]) s) (
 kBin .lss at_2 (.int .i64 0) fun v21 =>
 kGrd v21 false (fun k =>
 kBin .gtr at_2 (.int .i64 64) fun v24 =>
 k [v24] s) [undef] s fun xs s =>
 un1 xs fun v24 =>
 kPick v21 (.bool true) v24 fun v25 =>
 kGrd v25 false (fun k =>
 kBin .lss n_3 (.int .i64 0) fun v28 =>
 k [v28] s) [undef] s fun xs s =>
 un1 xs fun v28 =>
 kPick v25 (.bool true) v28 fun v29 =>
 kGrd v29 false (fun k =>
 kBin .sub (.int .i64 64) at_2 fun v33 =>
 kBin .gtr n_3 v33 fun v34 =>
 k [v34] s) [undef] s fun xs s =>
 un1 xs fun v34 =>
 kPick v29 (.bool true) v34 fun v35 =>
 kCond v35 (
 k (.tuple #[(.string (bs [])), (.int .i64 1)]) s) (
 J2 [] s))) fun J1 =>
 kEq 0 false s_0 (.pointer none) fun v12 =>
 kCond v12 (
 k (.tuple #[(.string (bs [])), (.int .i64 2)]) s) (
 J1 [] s)
theorem F14_ok (s_0 b_1 at_2 n_3 : Value) (s : AS) (k : Value → AS → Prop) : denFn Try.prog [] 14 [s_0, b_1, at_2, n_3] s k = F14 s_0 b_1 at_2 n_3 s k := by kernel_rfl
theorem f14 {s_0 b_1 at_2 n_3 : Value} {s : AS} {k : Value → AS → Prop} (h : F14 s_0 b_1 at_2 n_3 s k) : kCall Try.prog 14 [s_0, b_1, at_2, n_3] s k := denFn_ok [] (cast (F14_ok s_0 b_1 at_2 n_3 s k).symm h)
theorem k14_ok : okFn Try.prog 14 = true := by kernel_rfl

/- conch conchref11.New -/
def F15 (blocks_0 : Value) (s : AS) (k : Value → AS → Prop) : Prop :=
 kJoin (fun _ s =>
 kBin .add blocks_0 (.int .i64 1) fun v11 =>
 kMks s 1 16 [(.string (bs []))] v11 v11 fun v12 s =>
 kBuild [(.slice none 0 0)] [(0, 1, v12)] fun v13 =>
 kNew s (cellsV v13) fun v14 s =>
 k (.tuple #[v14, (.int .i64 0)]) s) fun J1 =>
 kBin .lss blocks_0 (.int .i64 1) fun v5 =>
 kGrd v5 false (fun k =>
 kBin .gtr blocks_0 (.int .i64 4096) fun v8 =>
 k [v8] s) [undef] s fun xs s =>
 un1 xs fun v8 =>
 kPick v5 (.bool true) v8 fun v9 =>
 kCond v9 (
 k (.tuple #[(.pointer none), (.int .i64 1)]) s) (
 J1 [] s)
theorem F15_ok (blocks_0 : Value) (s : AS) (k : Value → AS → Prop) : denFn Try.prog [] 15 [blocks_0] s k = F15 blocks_0 s k := by kernel_rfl
theorem f15 {blocks_0 : Value} {s : AS} {k : Value → AS → Prop} (h : F15 blocks_0 s k) : kCall Try.prog 15 [blocks_0] s k := denFn_ok [] (cast (F15_ok blocks_0 s k).symm h)
theorem k15_ok : okFn Try.prog 15 = true := by kernel_rfl

/- (*conch conchref11.Store).Take -/
def F16 (s_0 : Value) (s : AS) (k : Value → AS → Prop) : Prop :=
 kJoin (fun _ s =>
 k (.tuple #[(.int .i64 0), (.int .i64 20)]) s) fun J1 =>
 kLoop (fun again2 xs s =>
 un1 xs fun i_4 =>
 kJoin (fun _ s =>
 kJoin (fun _ s =>
 kBin .add i_4 (.int .i64 1) fun v13 =>
 again2 [v13] s) fun J4 =>
 kNck s_0 fun v15 =>
 kFld 0 v15 fun v16 =>
 kLd s v16 fun v17 =>
 kIdx 1 v17 i_4 fun v19 =>
 kLd s v19 fun v20 =>
 kBin .eql v20 (.string (bs [])) fun v21 =>
 kCond v21 (
 kNck s_0 fun v23 =>
 kFld 0 v23 fun v24 =>
 kLd s v24 fun v25 =>
 kCall Try.prog 26 [(.int .i64 64)] s fun v27 s =>
 kChk s v24 v25 (
 kIdx 1 v25 i_4 fun v28 =>
 kSt s 1 v28 v27 fun s =>
 k (.tuple #[i_4, (.int .i64 0)]) s)) (
 J4 [] s)) fun J3 =>
 kNck s_0 fun v7 =>
 kFld 0 v7 fun v8 =>
 kLd s v8 fun v9 =>
 kLen false v9 fun v10 =>
 kBin .lss i_4 v10 fun v11 =>
 kCond v11 (
 J3 [] s) (
 J1 [] s)) [(.int .i64 1)] s
theorem F16_ok (s_0 : Value) (s : AS) (k : Value → AS → Prop) : denFn Try.prog [(5, (.go 0 (.go 1 (.go 2 (.go 4 (.go 3 (.go 5 (.go 6 (.go 7 .done)))))))))] 16 [s_0] s k = F16 s_0 s k := by kernel_rfl
theorem f16 {s_0 : Value} {s : AS} {k : Value → AS → Prop} (h : F16 s_0 s k) : kCall Try.prog 16 [s_0] s k := denFn_ok [(5, (.go 0 (.go 1 (.go 2 (.go 4 (.go 3 (.go 5 (.go 6 (.go 7 .done)))))))))] (cast (F16_ok s_0 s k).symm h)
theorem k16_ok : okFn Try.prog 16 = true := by kernel_rfl

/- (*conch conchref11.Store).Give -/
def F17 (s_0 b_1 : Value) (s : AS) (k : Value → AS → Prop) : Prop :=
 kJoin (fun _ s =>
 kNck s_0 fun v10 =>
 kFld 0 v10 fun v11 =>
 kLd s v11 fun v12 =>
 kIdx 1 v12 b_1 fun v14 =>
 kSt s 1 v14 (.string (bs [])) fun s =>
 k (.int .i64 0) s) fun J1 =>
 kCall Try.prog 27 [s_0, b_1] s fun v7 s =>
 kUn .not v7 fun v8 =>
 kCond v8 (
 k (.int .i64 23) s) (
 J1 [] s)
theorem F17_ok (s_0 b_1 : Value) (s : AS) (k : Value → AS → Prop) : denFn Try.prog [] 17 [s_0, b_1] s k = F17 s_0 b_1 s k := by kernel_rfl
theorem f17 {s_0 b_1 : Value} {s : AS} {k : Value → AS → Prop} (h : F17 s_0 b_1 s k) : kCall Try.prog 17 [s_0, b_1] s k := denFn_ok [] (cast (F17_ok s_0 b_1 s k).symm h)
theorem k17_ok : okFn Try.prog 17 = true := by kernel_rfl

/- (*conch conchref11.Store).Read -/
def F18 (s_0 b_1 at_2 n_3 : Value) (s : AS) (k : Value → AS → Prop) : Prop :=
 kJoin (fun _ s =>
 kJoin (fun _ s =>
 kNck s_0 fun v31 =>
 kFld 0 v31 fun v32 =>
 kLd s v32 fun v33 =>
 kIdx 1 v33 b_1 fun v35 =>
 kLd s v35 fun v36 =>
 kBin .add at_2 n_3 fun v40 =>
 kSubS v36 (some at_2) (some v40) fun v41 =>
 k (.tuple #[v41, (.int .i64 0)]) s) fun J2 =>
 kBin .lss at_2 (.int .i64 0) fun v15 =>
 kGrd v15 false (fun k =>
 kBin .lss n_3 (.int .i64 0) fun v18 =>
 k [v18] s) [undef] s fun xs s =>
 un1 xs fun v18 =>
 kPick v15 (.bool true) v18 fun v19 =>
 kGrd v19 false (fun k =>
 kBin .gtr at_2 (.int .i64 64) fun v22 =>
 k [v22] s) [undef] s fun xs s =>
 un1 xs fun v22 =>
 kPick v19 (.bool true) v22 fun v23 =>
 kGrd v23 false (fun k =>
 kBin .sub (.int .i64 64) at_2 fun v27 =>
 kBin .gtr n_3 v27 fun v28 =>
 k [v28] s) [undef] s fun xs s =>
 un1 xs fun v28 =>
 kPick v23 (.bool true) v28 fun v29 =>
 kCond v29 (
 k (.tuple #[(.string (bs [])), (.int .i64 1)]) s) (
 J2 [] s)) fun J1 =>
 kCall Try.prog 27 [s_0, b_1] s fun v12 s =>
 kUn .not v12 fun v13 =>
 kCond v13 (
 k (.tuple #[(.string (bs [])), (.int .i64 23)]) s) (
 J1 [] s)
theorem F18_ok (s_0 b_1 at_2 n_3 : Value) (s : AS) (k : Value → AS → Prop) : denFn Try.prog [] 18 [s_0, b_1, at_2, n_3] s k = F18 s_0 b_1 at_2 n_3 s k := by kernel_rfl
theorem f18 {s_0 b_1 at_2 n_3 : Value} {s : AS} {k : Value → AS → Prop} (h : F18 s_0 b_1 at_2 n_3 s k) : kCall Try.prog 18 [s_0, b_1, at_2, n_3] s k := denFn_ok [] (cast (F18_ok s_0 b_1 at_2 n_3 s k).symm h)
theorem k18_ok : okFn Try.prog 18 = true := by kernel_rfl

/- (*conch conchref11.Store).Write -/
def F19 (s_0 b_1 at_2 data_3 : Value) (s : AS) (k : Value → AS → Prop) : Prop :=
 kJoin (fun _ s =>
 kJoin (fun _ s =>
 kNck s_0 fun v27 =>
 kFld 0 v27 fun v28 =>
 kNck s_0 fun v32 =>
 kFld 0 v32 fun v33 =>
 kNck s_0 fun v43 =>
 kFld 0 v43 fun v44 =>
 kLen true data_3 fun v51 =>
 kBin .add at_2 v51 fun v52 =>
 kLd s v28 fun v29 =>
 kLd s v33 fun v34 =>
 kIdx 1 v34 b_1 fun v36 =>
 kLd s v36 fun v37 =>
 kSubS v37 none (some at_2) fun v39 =>
 kBin .add v39 data_3 fun v41 =>
 kLd s v44 fun v45 =>
 kIdx 1 v45 b_1 fun v47 =>
 kLd s v47 fun v48 =>
 kSubS v48 (some v52) none fun v53 =>
 kBin .add v41 v53 fun v54 =>
 kIdx 1 v29 b_1 fun v55 =>
 kSt s 1 v55 v54 fun s =>
 k (.int .i64 0) s) fun J2 =>
 kBin .lss at_2 (.int .i64 0) fun v14 =>
 kGrd v14 false (fun k =>
 kBin .gtr at_2 (.int .i64 64) fun v17 =>
 k [v17] s) [undef] s fun xs s =>
 un1 xs fun v17 =>
 kPick v14 (.bool true) v17 fun v18 =>
 kGrd v18 false (fun k =>
 kLen true data_3 fun v21 =>
 kBin .sub (.int .i64 64) at_2 fun v23 =>
 kBin .gtr v21 v23 fun v24 =>
 k [v24] s) [undef] s fun xs s =>
 un1 xs fun v24 =>
 kPick v18 (.bool true) v24 fun v25 =>
 kCond v25 (
 k (.int .i64 1) s) (
 J2 [] s)) fun J1 =>
 kCall Try.prog 27 [s_0, b_1] s fun v11 s =>
 kUn .not v11 fun v12 =>
 kCond v12 (
 k (.int .i64 23) s) (
 J1 [] s)
theorem F19_ok (s_0 b_1 at_2 data_3 : Value) (s : AS) (k : Value → AS → Prop) : denFn Try.prog [(5, (.go 0 (.go 1 (.go 2 (.go 4 (.go 5 (.go 6 (.go 7 (.go 9 (.go 12 (.go 14 (.go 16 (.go 17 (.go 18 (.go 20 (.go 23 (.go 24 (.go 25 (.go 26 (.go 3 (.go 8 (.go 10 (.go 11 (.go 13 (.go 15 (.go 19 (.go 21 (.go 22 (.go 27 (.go 28 (.go 29 (.go 30 .done))))))))))))))))))))))))))))))))] 19 [s_0, b_1, at_2, data_3] s k = F19 s_0 b_1 at_2 data_3 s k := by kernel_rfl
theorem f19 {s_0 b_1 at_2 data_3 : Value} {s : AS} {k : Value → AS → Prop} (h : F19 s_0 b_1 at_2 data_3 s k) : kCall Try.prog 19 [s_0, b_1, at_2, data_3] s k := denFn_ok [(5, (.go 0 (.go 1 (.go 2 (.go 4 (.go 5 (.go 6 (.go 7 (.go 9 (.go 12 (.go 14 (.go 16 (.go 17 (.go 18 (.go 20 (.go 23 (.go 24 (.go 25 (.go 26 (.go 3 (.go 8 (.go 10 (.go 11 (.go 13 (.go 15 (.go 19 (.go 21 (.go 22 (.go 27 (.go 28 (.go 29 (.go 30 .done))))))))))))))))))))))))))))))))] (cast (F19_ok s_0 b_1 at_2 data_3 s k).symm h)
theorem k19_ok : okFn Try.prog 19 = true := by kernel_rfl

/- (*conch blocks.Store).Copy -/
def F20 (s_0 : Value) (s : AS) (k : Value → AS → Prop) : Prop :=
 kJoin (fun _ s =>
 kNck s_0 fun v6 =>
 kFld 0 v6 fun v7 =>
 kNck s_0 fun v11 =>
 kFld 1 v11 fun v12 =>
 kLd s v7 fun v8 =>
 kLd s v12 fun v13 =>
 kCall Try.prog 28 [v8] s fun v9 s =>
 kChk s v12 v13 (
 kBuild [(.slice none 0 0), (.int .i64 0)] [(0, 1, v9), (1, 1, v13)] fun v14 =>
 kNew s (cellsV v14) fun v15 s =>
 k v15 s)) fun J1 =>
 kEq 0 false s_0 (.pointer none) fun v4 =>
 kCond v4 (
 k (.pointer none) s) (
 J1 [] s)
theorem F20_ok (s_0 : Value) (s : AS) (k : Value → AS → Prop) : denFn Try.prog [(3, (.go 0 (.go 1 (.go 2 (.go 5 (.go 6 (.go 7 (.go 3 (.go 8 (.go 4 (.go 9 (.go 10 (.go 11 .done)))))))))))))] 20 [s_0] s k = F20 s_0 s k := by kernel_rfl
theorem f20 {s_0 : Value} {s : AS} {k : Value → AS → Prop} (h : F20 s_0 s k) : kCall Try.prog 20 [s_0] s k := denFn_ok [(3, (.go 0 (.go 1 (.go 2 (.go 5 (.go 6 (.go 7 (.go 3 (.go 8 (.go 4 (.go 9 (.go 10 (.go 11 .done)))))))))))))] (cast (F20_ok s_0 s k).symm h)
theorem k20_ok : okFn Try.prog 20 = true := by kernel_rfl

/- (*conch conchref11.Store).Copy -/
def F21 (s_0 : Value) (s : AS) (k : Value → AS → Prop) : Prop :=
 kNck s_0 fun v6 =>
 kFld 0 v6 fun v7 =>
 kLd s v7 fun v8 =>
 kApp Try.prog 60 60 (.slice none 0 0) v8 s fun v9 s =>
 kBuild [(.slice none 0 0)] [(0, 1, v9)] fun v10 =>
 kNew s (cellsV v10) fun v11 s =>
 k v11 s
theorem F21_ok (s_0 : Value) (s : AS) (k : Value → AS → Prop) : denFn Try.prog [] 21 [s_0] s k = F21 s_0 s k := by kernel_rfl
theorem f21 {s_0 : Value} {s : AS} {k : Value → AS → Prop} (h : F21 s_0 s k) : kCall Try.prog 21 [s_0] s k := denFn_ok [] (cast (F21_ok s_0 s k).symm h)
theorem k21_ok : okFn Try.prog 21 = true := by kernel_rfl

/- (*conch conchref11.Store).Free -/
def F22 (s_0 : Value) (s : AS) (k : Value → AS → Prop) : Prop :=
 kJoin (fun xs s =>
 un1 xs fun n_3 =>
 k n_3 s) fun J1 =>
 kLoop (fun again2 xs s =>
 un2 xs fun n_3 i_4 =>
 kJoin (fun _ s =>
 kJoin (fun xs s =>
 un1 xs fun n_3 =>
 kBin .add i_4 (.int .i64 1) fun v13 =>
 again2 [n_3, v13] s) fun J4 =>
 kNck s_0 fun v15 =>
 kFld 0 v15 fun v16 =>
 kLd s v16 fun v17 =>
 kIdx 1 v17 i_4 fun v19 =>
 kLd s v19 fun v20 =>
 kBin .eql v20 (.string (bs [])) fun v21 =>
 kCond v21 (
 kBin .add n_3 (.int .i64 1) fun v23 =>
 J4 [v23] s) (
 J4 [n_3] s)) fun J3 =>
 kNck s_0 fun v7 =>
 kFld 0 v7 fun v8 =>
 kLd s v8 fun v9 =>
 kLen false v9 fun v10 =>
 kBin .lss i_4 v10 fun v11 =>
 kCond v11 (
 J3 [] s) (
 J1 [n_3] s)) [(.int .i64 0), (.int .i64 1)] s
theorem F22_ok (s_0 : Value) (s : AS) (k : Value → AS → Prop) : denFn Try.prog [] 22 [s_0] s k = F22 s_0 s k := by kernel_rfl
theorem f22 {s_0 : Value} {s : AS} {k : Value → AS → Prop} (h : F22 s_0 s k) : kCall Try.prog 22 [s_0] s k := denFn_ok [] (cast (F22_ok s_0 s k).symm h)
theorem k22_ok : okFn Try.prog 22 = true := by kernel_rfl

/- slices.IndexFunc[[]conch blocks.block,conch blocks.block] -/
def F23 (s_0 f_1 : Value) (s : AS) (k : Value → AS → Prop) : Prop :=
 kJoin (fun _ s =>
 k (.int .i64 (-1)) s) fun J1 =>
 kLen false s_0 fun v7 =>
 kLoop (fun again2 xs s =>
 un1 xs fun v8 =>
 kBin .lss v8 v7 fun v9 =>
 kJoin (fun _ s =>
 kJoin (fun _ s =>
 kBin .add v8 (.int .i64 1) fun v18 =>
 again2 [v18] s) fun J4 =>
 kIdx 65 s_0 v8 fun v14 =>
 kLdN s 65 v14 fun v15 =>
 kCallv Try.prog f_1 [v15] s fun v16 s =>
 kCond v16 (
 k v8 s) (
 J4 [] s)) fun J3 =>
 kCond v9 (
 J3 [] s) (
 J1 [] s)) [(.int .i64 0)] s
theorem F23_ok (s_0 f_1 : Value) (s : AS) (k : Value → AS → Prop) : denFn Try.prog [] 23 [s_0, f_1] s k = F23 s_0 f_1 s k := by kernel_rfl
theorem f23 {s_0 f_1 : Value} {s : AS} {k : Value → AS → Prop} (h : F23 s_0 f_1 s k) : kCall Try.prog 23 [s_0, f_1] s k := denFn_ok [] (cast (F23_ok s_0 f_1 s k).symm h)
theorem k23_ok : okFn Try.prog 23 = true := by kernel_rfl

/- (*conch blocks.Store).Take$1 -/
def F24 (b_0 : Value) (s : AS) (k : Value → AS → Prop) : Prop :=
 kNew s (cellsV b_0) fun b_1 s =>
 kFld 0 b_1 fun v3 =>
 kLd s v3 fun v4 =>
 kUn .not v4 fun v5 =>
 k v5 s
theorem F24_ok (b_0 : Value) (s : AS) (k : Value → AS → Prop) : denFn Try.prog [] 24 [b_0] s k = F24 b_0 s k := by kernel_rfl
theorem f24 {b_0 : Value} {s : AS} {k : Value → AS → Prop} (h : F24 b_0 s k) : kCall Try.prog 24 [b_0] s k := denFn_ok [] (cast (F24_ok b_0 s k).symm h)
theorem k24_ok : okFn Try.prog 24 = true := by kernel_rfl

/- (*conch blocks.Store).at -/
def F25 (s_0 b_1 : Value) (s : AS) (k : Value → AS → Prop) : Prop :=
 kJoin (fun _ s =>
 kNck s_0 fun v29 =>
 kFld 0 v29 fun v30 =>
 kLd s v30 fun v31 =>
 kBin .sub b_1 (.int .i64 1) fun v33 =>
 kIdx 65 v31 v33 fun v34 =>
 k v34 s) fun J1 =>
 kBin .lss b_1 (.int .i64 1) fun v6 =>
 kGrd v6 false (fun k =>
 kNck s_0 fun v10 =>
 kFld 0 v10 fun v11 =>
 kLd s v11 fun v12 =>
 kLen false v12 fun v13 =>
 kBin .gtr b_1 v13 fun v14 =>
 k [v14] s) [undef] s fun xs s =>
 un1 xs fun v14 =>
 kPick v6 (.bool true) v14 fun v15 =>
 kGrd v15 false (fun k =>
 kNck s_0 fun v18 =>
 kFld 0 v18 fun v19 =>
 kLd s v19 fun v20 =>
 kBin .sub b_1 (.int .i64 1) fun v22 =>
 kIdx 65 v20 v22 fun v23 =>
 kFld 0 v23 fun v24 =>
 kLd s v24 fun v25 =>
 kUn .not v25 fun v26 =>
 k [v26] s) [undef] s fun xs s =>
 un1 xs fun v26 =>
 kPick v15 (.bool true) v26 fun v27 =>
 kCond v27 (
 k (.pointer none) s) (
 J1 [] s)
theorem F25_ok (s_0 b_1 : Value) (s : AS) (k : Value → AS → Prop) : denFn Try.prog [] 25 [s_0, b_1] s k = F25 s_0 b_1 s k := by kernel_rfl
theorem f25 {s_0 b_1 : Value} {s : AS} {k : Value → AS → Prop} (h : F25 s_0 b_1 s k) : kCall Try.prog 25 [s_0, b_1] s k := denFn_ok [] (cast (F25_ok s_0 b_1 s k).symm h)
theorem k25_ok : okFn Try.prog 25 = true := by kernel_rfl

/- conch conchref11.zeros -/
def F26 (n_0 : Value) (s : AS) (k : Value → AS → Prop) : Prop :=
 kMks s 1 1 [(.int .u8 0)] n_0 n_0 fun v4 s =>
 kCvBS s v4 fun v5 =>
 k v5 s
theorem F26_ok (n_0 : Value) (s : AS) (k : Value → AS → Prop) : denFn Try.prog [] 26 [n_0] s k = F26 n_0 s k := by kernel_rfl
theorem f26 {n_0 : Value} {s : AS} {k : Value → AS → Prop} (h : F26 n_0 s k) : kCall Try.prog 26 [n_0] s k := denFn_ok [] (cast (F26_ok n_0 s k).symm h)
theorem k26_ok : okFn Try.prog 26 = true := by kernel_rfl

/- (*conch conchref11.Store).is -/
def F27 (s_0 b_1 : Value) (s : AS) (k : Value → AS → Prop) : Prop :=
 kBin .geq b_1 (.int .i64 1) fun v6 =>
 kGrd v6 true (fun k =>
 kNck s_0 fun v10 =>
 kFld 0 v10 fun v11 =>
 kLd s v11 fun v12 =>
 kLen false v12 fun v13 =>
 kBin .lss b_1 v13 fun v14 =>
 k [v14] s) [undef] s fun xs s =>
 un1 xs fun v14 =>
 kPick v6 v14 (.bool false) fun v15 =>
 kGrd v15 true (fun k =>
 kNck s_0 fun v18 =>
 kFld 0 v18 fun v19 =>
 kLd s v19 fun v20 =>
 kIdx 1 v20 b_1 fun v22 =>
 kLd s v22 fun v23 =>
 kBin .neq v23 (.string (bs [])) fun v24 =>
 k [v24] s) [undef] s fun xs s =>
 un1 xs fun v24 =>
 kPick v15 v24 (.bool false) fun v25 =>
 k v25 s
theorem F27_ok (s_0 b_1 : Value) (s : AS) (k : Value → AS → Prop) : denFn Try.prog [] 27 [s_0, b_1] s k = F27 s_0 b_1 s k := by kernel_rfl
theorem f27 {s_0 b_1 : Value} {s : AS} {k : Value → AS → Prop} (h : F27 s_0 b_1 s k) : kCall Try.prog 27 [s_0, b_1] s k := denFn_ok [] (cast (F27_ok s_0 b_1 s k).symm h)
theorem k27_ok : okFn Try.prog 27 = true := by kernel_rfl

/- slices.Clone[[]conch blocks.block,conch blocks.block] -/
def F28 (s_0 : Value) (s : AS) (k : Value → AS → Prop) : Prop :=
 kJoin (fun _ s =>
 kBsl s 0 [] [] fun v5 s =>
 kApp Try.prog 50 50 v5 s_0 s fun v7 s =>
 k v7 s) fun J1 =>
 kEq 1 false s_0 (.slice none 0 0) fun v4 =>
 kCond v4 (
 k (.slice none 0 0) s) (
 J1 [] s)
theorem F28_ok (s_0 : Value) (s : AS) (k : Value → AS → Prop) : denFn Try.prog [] 28 [s_0] s k = F28 s_0 s k := by kernel_rfl
theorem f28 {s_0 : Value} {s : AS} {k : Value → AS → Prop} (h : F28 s_0 s k) : kCall Try.prog 28 [s_0] s k := denFn_ok [] (cast (F28_ok s_0 s k).symm h)
theorem k28_ok : okFn Try.prog 28 = true := by kernel_rfl

end Go.Proofs.Ytfiknjogkpbgdaa
