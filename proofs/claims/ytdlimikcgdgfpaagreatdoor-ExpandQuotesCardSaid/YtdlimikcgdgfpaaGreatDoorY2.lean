/- The walks of the functions, printed by a program of this proof, each held against the loaded program by the kernel. Conditions: none. -/
import Derived.Test.YtdlimikcgdgfpaaGreatDoorProg
import Derived.Test.YtdlimikcgdgfpaaGreatDoorY1
set_option linter.unusedVariables false
set_option linter.unusedSimpArgs false
set_option maxHeartbeats 4000000
set_option maxRecDepth 100000
open Nat renaming reduceEqDiff → Q1, reduceAdd → Q2, reduceSub → Q3, reduceMul → Q4, reduceLT → Q5, reduceLeDiff → Q6, sub_zero → Q7
open Int renaming reduceNeg → Q8, reduceToNat → Q9
namespace Go.Proofs.YtdlimikcgdgfpaaGreatDoor
open Tryz renaming prog → PG
open E
def F3 (texts_0 answers_1 : Value) (s : AS) (k : Value → AS → Prop) : Prop :=
 kJoin (fun _ s =>
 kJoin (fun xs s =>
 un1 xs fun words_5 =>
 kCall PG 13 [(.string (bs [115, 104])), (.slice none 0 0)] s fun v36 s =>
 kCall PG 12 [v36, words_5, answers_1] s fun v39 s =>
 kExt 0 v39 fun v40 =>
 kExt 1 v39 fun v41 =>
 kNew s [(.slice none 0 0), (.pointer none), (.bool false), (.string (bs [])), (.int .i64 0), (.string (bs []))] fun a_7 s =>
 kSt s 6 a_7 v40 fun s =>
 kJoin (fun _ s =>
 kJoin (fun _ s =>
 kJoin (fun _ s =>
 kJoin (fun _ s =>
 kCall PG 11 [] s fun v138 s =>
 k v138 s) fun J6 =>
 kLoop (fun again7 xs s =>
 un1 xs fun i_9 =>
 kJoin (fun _ s =>
 kJoin (fun _ s =>
 kBin .add i_9 (.int .i64 1) fun v109 =>
 again7 [v109] s) fun J9 =>
 kIdx 1 answers_1 i_9 fun v112 =>
 kLd s v112 fun v113 =>
 kJoin (fun xs s =>
 un1 xs fun s_10 =>
 kFld 0 a_7 fun v130 =>
 kLd s v130 fun v131 =>
 kIdx 2 v131 i_9 fun v133 =>
 kFld 0 v133 fun v134 =>
 kLd s v134 fun v135 =>
 kBin .neq v135 s_10 fun v137 =>
 kCond v137 (
 k (.bool false) s) (
 J9 [] s)) fun J10 =>
 kLoop (fun again11 xs s =>
 un1 xs fun s_10 =>
 kJoin (fun _ s =>
 kLen true s_10 fun v127 =>
 kBin .sub v127 (.int .i64 1) fun v128 =>
 kSubS s_10 none (some v128) fun v129 =>
 again11 [v129] s) fun J12 =>
 kLen true s_10 fun v115 =>
 kBin .gtr v115 (.int .i64 0) fun v116 =>
 kGrd v116 true (fun k =>
 kLen true s_10 fun v120 =>
 kBin .sub v120 (.int .i64 1) fun v121 =>
 kIxS s_10 v121 fun v122 =>
 kBin .eql v122 (.int .u8 10) fun v123 =>
 k [v123] s) [undef] s fun xs s =>
 un1 xs fun v123 =>
 kPick v116 v123 (.bool false) fun v124 =>
 kCond v124 (
 J12 [] s) (
 J10 [s_10] s)) [v113] s) fun J8 =>
 kLen false texts_0 fun v106 =>
 kBin .lss i_9 v106 fun v107 =>
 kCond v107 (
 J8 [] s) (
 J6 [] s)) [(.int .i64 0)] s) fun J5 =>
 kFld 2 a_7 fun v82 =>
 kLd s v82 fun v83 =>
 kGrd v83 false (fun k =>
 kFld 4 a_7 fun v85 =>
 kLd s v85 fun v86 =>
 kLen false texts_0 fun v88 =>
 kBin .neq v86 v88 fun v89 =>
 k [v89] s) [undef] s fun xs s =>
 un1 xs fun v89 =>
 kPick v83 (.bool true) v89 fun v90 =>
 kGrd v90 false (fun k =>
 kFld 0 a_7 fun v92 =>
 kLd s v92 fun v93 =>
 kLen false v93 fun v94 =>
 kLen false texts_0 fun v96 =>
 kBin .neq v94 v96 fun v97 =>
 k [v97] s) [undef] s fun xs s =>
 un1 xs fun v97 =>
 kPick v90 (.bool true) v97 fun v98 =>
 kGrd v98 false (fun k =>
 kFld 1 a_7 fun v100 =>
 kLd s v100 fun v101 =>
 kEq 0 false v101 (.pointer none) fun v102 =>
 k [v102] s) [undef] s fun xs s =>
 un1 xs fun v102 =>
 kPick v98 (.bool true) v102 fun v103 =>
 kCond v103 (
 k (.bool false) s) (
 J5 [] s)) fun J4 =>
 kLen false answers_1 fun v45 =>
 kLen false texts_0 fun v47 =>
 kBin .lss v45 v47 fun v48 =>
 kCond v48 (
 kFld 2 a_7 fun v49 =>
 kLd s v49 fun v50 =>
 kGrd v50 true (fun k =>
 kFld 3 a_7 fun v52 =>
 kLen false answers_1 fun v56 =>
 kIdx 1 texts_0 v56 fun v57 =>
 kLd s v52 fun v53 =>
 kLd s v57 fun v58 =>
 kBin .eql v53 v58 fun v59 =>
 k [v59] s) [undef] s fun xs s =>
 un1 xs fun v59 =>
 kPick v50 v59 (.bool false) fun v60 =>
 kGrd v60 true (fun k =>
 kFld 4 a_7 fun v62 =>
 kLen false answers_1 fun v65 =>
 kLd s v62 fun v63 =>
 kBin .eql v63 v65 fun v66 =>
 k [v66] s) [undef] s fun xs s =>
 un1 xs fun v66 =>
 kPick v60 v66 (.bool false) fun v67 =>
 kGrd v67 true (fun k =>
 kFld 0 a_7 fun v69 =>
 kLd s v69 fun v70 =>
 kLen false v70 fun v71 =>
 kBin .eql v71 (.int .i64 0) fun v72 =>
 k [v72] s) [undef] s fun xs s =>
 un1 xs fun v72 =>
 kPick v67 v72 (.bool false) fun v73 =>
 kGrd v73 true (fun k =>
 kFld 1 a_7 fun v75 =>
 kLd s v75 fun v76 =>
 kEq 0 false v76 (.pointer none) fun v77 =>
 k [v77] s) [undef] s fun xs s =>
 un1 xs fun v77 =>
 kPick v73 v77 (.bool false) fun v78 =>
 kGrd v78 true (fun k =>
 kCall PG 11 [] s fun v80 s =>
 k [v80] s) [undef] s fun xs s =>
 un1 xs fun v80 =>
 kPick v78 v80 (.bool false) fun v81 =>
 k v81 s) (
 J4 [] s)) fun J3 =>
 kBin .neq v41 (.int .i64 0) fun v43 =>
 kCond v43 (
 k (.bool false) s) (
 J3 [] s)) fun J2 =>
 kLoop (fun again13 xs s =>
 un2 xs fun words_5 i_6 =>
 kJoin (fun _ s =>
 kJoin (fun xs s =>
 un1 xs fun words_5 =>
 kBin .add i_6 (.int .i64 1) fun v25 =>
 again13 [words_5, v25] s) fun J15 =>
 kIdx 1 texts_0 i_6 fun v29 =>
 kLd s v29 fun v30 =>
 kBuild [(.int .i64 0), (.string (bs [])), (.bool false), (.int .i64 0), (.bool false), (.slice none 0 0)] [(0, 1, (.int .i64 3)), (1, 1, v30), (2, 1, (.bool true))] fun v31 =>
 kBsl s 1 [(.int .i64 0), (.string (bs [])), (.bool false), (.int .i64 0), (.bool false), (.slice none 0 0)] [(0, 6, v31)] fun v32 s =>
 kBsl s 1 [(.slice none 0 0)] [(0, 1, v32)] fun v33 s =>
 kApp PG 25 25 words_5 v33 s fun v34 s =>
 J15 [v34] s) fun J14 =>
 kLen false texts_0 fun v22 =>
 kBin .lss i_6 v22 fun v23 =>
 kCond v23 (
 J14 [] s) (
 J2 [words_5] s)) [(.slice none 0 0), (.int .i64 0)] s) fun J1 =>
 kCall PG 10 [texts_0] s fun v12 s =>
 kUn .not v12 fun v13 =>
 kGrd v13 false (fun k =>
 kCall PG 10 [answers_1] s fun v16 s =>
 kUn .not v16 fun v17 =>
 k [v17] s) [undef] s fun xs s =>
 un1 xs fun v17 =>
 kPick v13 (.bool true) v17 fun v18 =>
 kCond v18 (
 kCall PG 11 [] s fun v19 s =>
 k v19 s) (
 J1 [] s)
theorem F3_ok (texts_0 answers_1 : Value) (s : AS) (k : Value → AS → Prop) : denFn PG [(12, (.go 0 (.go 1 (.go 2 (.go 3 (.go 5 (.go 6 (.go 7 (.go 8 (.go 4 (.go 9 (.go 10 (.go 11 (.go 12 (.go 13 (.go 15 (.go 16 (.go 14 (.go 17 (.go 18 (.go 19 (.go 20 (.go 21 (.go 22 (.go 23 (.go 24 (.go 25 (.go 26 (.go 27 (.go 28 (.go 29 (.go 30 (.go 31 (.go 32 (.go 33 .done)))))))))))))))))))))))))))))))))))] 3 [texts_0, answers_1] s k = F3 texts_0 answers_1 s k := by kernel_rfl
theorem f3 {texts_0 answers_1 : Value} {s : AS} {k : Value → AS → Prop} (h : F3 texts_0 answers_1 s k) : kCall PG 3 [texts_0, answers_1] s k := fn_by (F3_ok texts_0 answers_1 s k) h
def F4 (value_0 pattern_1 back_2 : Value) (s : AS) (k : Value → AS → Prop) : Prop :=
 kJoin (fun _ s =>
 kCall PG 13 [(.string (bs [115, 104])), (.slice none 0 0)] s fun v30 s =>
 kCall PG 14 [v30, (.string (bs [120])), value_0] s fun v33 s =>
 kJoin (fun xs s =>
 un1 xs fun op_8 =>
 kBuild [(.int .i64 0), (.string (bs [])), (.bool false), (.int .i64 0), (.bool false), (.slice none 0 0)] [(0, 1, (.int .i64 1)), (1, 1, pattern_1)] fun v36 =>
 kBsl s 1 [(.int .i64 0), (.string (bs [])), (.bool false), (.int .i64 0), (.bool false), (.slice none 0 0)] [(0, 6, v36)] fun v37 s =>
 kBuild [(.int .i64 0), (.string (bs [])), (.bool false), (.int .i64 0), (.bool false), (.slice none 0 0)] [(0, 1, (.int .i64 2)), (1, 1, (.string (bs [120]))), (3, 1, op_8), (5, 1, v37)] fun v42 =>
 kBsl s 1 [(.int .i64 0), (.string (bs [])), (.bool false), (.int .i64 0), (.bool false), (.slice none 0 0)] [(0, 6, v42)] fun v43 s =>
 kCall PG 15 [v30, v43, (.slice none 0 0)] s fun v44 s =>
 kExt 0 v44 fun v45 =>
 kExt 1 v44 fun v46 =>
 kNew s [(.slice none 0 0), (.pointer none), (.bool false), (.string (bs [])), (.int .i64 0), (.string (bs []))] fun a_10 s =>
 kSt s 6 a_10 v45 fun s =>
 kBin .add op_8 (.int .i64 1) fun v50 =>
 kBuild [(.int .i64 0), (.string (bs [])), (.bool false), (.int .i64 0), (.bool false), (.slice none 0 0)] [(0, 1, (.int .i64 2)), (1, 1, (.string (bs [120]))), (3, 1, v50), (5, 1, v37)] fun v52 =>
 kBsl s 1 [(.int .i64 0), (.string (bs [])), (.bool false), (.int .i64 0), (.bool false), (.slice none 0 0)] [(0, 6, v52)] fun v53 s =>
 kCall PG 15 [v30, v53, (.slice none 0 0)] s fun v54 s =>
 kExt 0 v54 fun v55 =>
 kExt 1 v54 fun v56 =>
 kNew s [(.slice none 0 0), (.pointer none), (.bool false), (.string (bs [])), (.int .i64 0), (.string (bs []))] fun b_12 s =>
 kSt s 6 b_12 v55 fun s =>
 kJoin (fun _ s =>
 kFld 0 a_10 fun v75 =>
 kLd s v75 fun v76 =>
 kIdx 2 v76 (.int .i64 0) fun v77 =>
 kFld 0 v77 fun v78 =>
 kLd s v78 fun v79 =>
 kFld 0 b_12 fun v80 =>
 kLd s v80 fun v81 =>
 kIdx 2 v81 (.int .i64 0) fun v82 =>
 kFld 0 v82 fun v83 =>
 kLd s v83 fun v84 =>
 kJoin (fun _ s =>
 kCall PG 16 [pattern_1, (.slice none 0 0)] s fun v98 s =>
 kJoin (fun xs s =>
 un1 xs fun any_17 =>
 kGrd any_17 false (fun k =>
 kBin .eql v79 value_0 fun v180 =>
 k [v180] s) [undef] s fun xs s =>
 un1 xs fun v181 =>
 kGrd v181 true (fun k =>
 kBin .eql v84 value_0 fun v184 =>
 k [v184] s) [undef] s fun xs s =>
 un1 xs fun v184 =>
 kGrd any_17 false (fun k =>
 kPick v181 v184 (.bool false) fun v185 =>
 k [v185] s) [undef] s fun xs s =>
 un1 xs fun v185 =>
 kPick any_17 (.bool true) v185 fun v186 =>
 kGrd v186 true (fun k =>
 kCall PG 11 [] s fun v188 s =>
 k [v188] s) [undef] s fun xs s =>
 un1 xs fun v188 =>
 kPick v186 v188 (.bool false) fun v189 =>
 k v189 s) fun J5 =>
 kLoop (fun again6 xs s =>
 un2 xs fun any_17 n_18 =>
 kJoin (fun _ s =>
 kJoin (fun xs s =>
 un1 xs fun any_17 =>
 kBin .add n_18 (.int .i64 1) fun v104 =>
 again6 [any_17, v104] s) fun J8 =>
 kSubS value_0 (some n_18) none fun v107 =>
 kSubS value_0 none (some n_18) fun v110 =>
 kJoin (fun xs s =>
 un2 xs fun rest_19 gone_20 =>
 kJoin (fun _ s =>
 kJoin (fun _ s =>
 J8 [(.bool true)] s) fun J11 =>
 kUn .not any_17 fun v161 =>
 kGrd v161 true (fun k =>
 kBin .neq rest_19 v79 fun v165 =>
 k [v165] s) [undef] s fun xs s =>
 un1 xs fun v165 =>
 kPick v161 v165 (.bool false) fun v166 =>
 kGrd v166 false (fun k =>
 kLen true value_0 fun v170 =>
 kLen true v84 fun v172 =>
 kBin .sub v170 v172 fun v173 =>
 kBin .gtr n_18 v173 fun v174 =>
 k [v174] s) [undef] s fun xs s =>
 un1 xs fun v174 =>
 kPick v166 (.bool true) v174 fun v175 =>
 kCond v175 (
 k (.bool false) s) (
 J11 [] s)) fun J10 =>
 kCall PG 17 [v98, gone_20] s fun v126 s =>
 kUn .not v126 fun v127 =>
 kCond v127 (
 kBin .gtr n_18 (.int .i64 0) fun v129 =>
 kGrd v129 true (fun k =>
 kBin .eql rest_19 v79 fun v133 =>
 k [v133] s) [undef] s fun xs s =>
 un1 xs fun v134 =>
 kGrd v134 true (fun k =>
 kLen true rest_19 fun v136 =>
 kLen true v79 fun v138 =>
 kBin .eql v136 v138 fun v139 =>
 k [v139] s) [undef] s fun xs s =>
 un1 xs fun v139 =>
 kGrd v129 true (fun k =>
 kPick v134 v139 (.bool false) fun v140 =>
 k [v140] s) [undef] s fun xs s =>
 un1 xs fun v141 =>
 kGrd v141 true (fun k =>
 kLen true value_0 fun v144 =>
 kLen true v79 fun v146 =>
 kBin .sub v144 v146 fun v147 =>
 kBin .eql n_18 v147 fun v148 =>
 k [v148] s) [undef] s fun xs s =>
 un1 xs fun v148 =>
 kGrd v129 true (fun k =>
 kPick v141 v148 (.bool false) fun v149 =>
 k [v149] s) [undef] s fun xs s =>
 un1 xs fun v150 =>
 kGrd v150 false (fun k =>
 kLen true value_0 fun v153 =>
 kLen true v84 fun v155 =>
 kBin .sub v153 v155 fun v156 =>
 kBin .eql n_18 v156 fun v157 =>
 k [v157] s) [undef] s fun xs s =>
 un1 xs fun v157 =>
 kGrd v129 true (fun k =>
 kPick v150 (.bool true) v157 fun v158 =>
 k [v158] s) [undef] s fun xs s =>
 un1 xs fun v158 =>
 kPick v129 v158 (.bool false) fun v159 =>
 kCond v159 (
 k (.bool false) s) (
 J8 [any_17] s)) (
 J10 [] s)) fun J9 =>
 kCond back_2 (
 kLen true value_0 fun v114 =>
 kBin .sub v114 n_18 fun v116 =>
 kSubS value_0 none (some v116) fun v117 =>
 kLen true value_0 fun v120 =>
 kBin .sub v120 n_18 fun v122 =>
 kSubS value_0 (some v122) none fun v123 =>
 J9 [v117, v123] s) (
 J9 [v107, v110] s)) fun J7 =>
 kLen true value_0 fun v101 =>
 kBin .leq n_18 v101 fun v102 =>
 kCond v102 (
 J7 [] s) (
 J5 [any_17] s)) [(.bool false), (.int .i64 0)] s) fun J4 =>
 kLen true v84 fun v86 =>
 kLen true v79 fun v88 =>
 kBin .gtr v86 v88 fun v89 =>
 kGrd v89 false (fun k =>
 kLen true v79 fun v92 =>
 kLen true value_0 fun v94 =>
 kBin .gtr v92 v94 fun v95 =>
 k [v95] s) [undef] s fun xs s =>
 un1 xs fun v95 =>
 kPick v89 (.bool true) v95 fun v96 =>
 kCond v96 (
 k (.bool false) s) (
 J4 [] s)) fun J3 =>
 kBin .neq v46 (.int .i64 0) fun v58 =>
 kGrd v58 false (fun k =>
 kBin .neq v56 (.int .i64 0) fun v61 =>
 k [v61] s) [undef] s fun xs s =>
 un1 xs fun v61 =>
 kPick v58 (.bool true) v61 fun v62 =>
 kGrd v62 false (fun k =>
 kFld 0 a_10 fun v64 =>
 kLd s v64 fun v65 =>
 kLen false v65 fun v66 =>
 kBin .neq v66 (.int .i64 1) fun v67 =>
 k [v67] s) [undef] s fun xs s =>
 un1 xs fun v67 =>
 kPick v62 (.bool true) v67 fun v68 =>
 kGrd v68 false (fun k =>
 kFld 0 b_12 fun v70 =>
 kLd s v70 fun v71 =>
 kLen false v71 fun v72 =>
 kBin .neq v72 (.int .i64 1) fun v73 =>
 k [v73] s) [undef] s fun xs s =>
 un1 xs fun v73 =>
 kPick v68 (.bool true) v73 fun v74 =>
 kCond v74 (
 k (.bool false) s) (
 J3 [] s)) fun J2 =>
 kCond back_2 (
 J2 [(.int .i64 8)] s) (
 J2 [(.int .i64 6)] s)) fun J1 =>
 kLen true value_0 fun v22 =>
 kBin .gtr v22 (.int .i64 60) fun v23 =>
 kGrd v23 false (fun k =>
 kLen true pattern_1 fun v26 =>
 kBin .gtr v26 (.int .i64 60) fun v27 =>
 k [v27] s) [undef] s fun xs s =>
 un1 xs fun v27 =>
 kPick v23 (.bool true) v27 fun v28 =>
 kCond v28 (
 kCall PG 11 [] s fun v29 s =>
 k v29 s) (
 J1 [] s)
theorem F4_ok (value_0 pattern_1 back_2 : Value) (s : AS) (k : Value → AS → Prop) : denFn PG [] 4 [value_0, pattern_1, back_2] s k = F4 value_0 pattern_1 back_2 s k := by kernel_rfl
theorem f4 {value_0 pattern_1 back_2 : Value} {s : AS} {k : Value → AS → Prop} (h : F4 value_0 pattern_1 back_2 s k) : kCall PG 4 [value_0, pattern_1, back_2] s k := fn_by (F4_ok value_0 pattern_1 back_2 s k) h
def F5 (w_0 : Value) (s : AS) (k : Value → AS → Prop) : Prop :=
 kJoin (fun _ s =>
 kBsl s 1 [(.slice none 0 0)] [(0, 1, w_0)] fun v14 s =>
 kCall PG 12 [(.pointer none), v14, (.slice none 0 0)] s fun v15 s =>
 kExt 0 v15 fun v16 =>
 kExt 1 v15 fun v17 =>
 kNew s [(.slice none 0 0), (.pointer none), (.bool false), (.string (bs [])), (.int .i64 0), (.string (bs []))] fun a_3 s =>
 kSt s 6 a_3 v16 fun s =>
 kCall PG 15 [(.pointer none), w_0, (.slice none 0 0)] s fun v20 s =>
 kExt 0 v20 fun v21 =>
 kExt 1 v20 fun v22 =>
 kNew s [(.slice none 0 0), (.pointer none), (.bool false), (.string (bs [])), (.int .i64 0), (.string (bs []))] fun b_5 s =>
 kSt s 6 b_5 v21 fun s =>
 kBin .eql v17 (.int .i64 2) fun v24 =>
 kGrd v24 true (fun k =>
 kBin .eql v22 (.int .i64 2) fun v27 =>
 k [v27] s) [undef] s fun xs s =>
 un1 xs fun v27 =>
 kPick v24 v27 (.bool false) fun v28 =>
 kGrd v28 true (fun k =>
 kFld 0 a_3 fun v30 =>
 kLd s v30 fun v31 =>
 kLen false v31 fun v32 =>
 kBin .eql v32 (.int .i64 0) fun v33 =>
 k [v33] s) [undef] s fun xs s =>
 un1 xs fun v33 =>
 kPick v28 v33 (.bool false) fun v34 =>
 kGrd v34 true (fun k =>
 kFld 0 b_5 fun v36 =>
 kLd s v36 fun v37 =>
 kLen false v37 fun v38 =>
 kBin .eql v38 (.int .i64 0) fun v39 =>
 k [v39] s) [undef] s fun xs s =>
 un1 xs fun v39 =>
 kPick v34 v39 (.bool false) fun v40 =>
 kGrd v40 true (fun k =>
 kFld 1 a_3 fun v42 =>
 kLd s v42 fun v43 =>
 kEq 0 false v43 (.pointer none) fun v44 =>
 k [v44] s) [undef] s fun xs s =>
 un1 xs fun v44 =>
 kPick v40 v44 (.bool false) fun v45 =>
 kGrd v45 true (fun k =>
 kFld 1 b_5 fun v47 =>
 kLd s v47 fun v48 =>
 kEq 0 false v48 (.pointer none) fun v49 =>
 k [v49] s) [undef] s fun xs s =>
 un1 xs fun v49 =>
 kPick v45 v49 (.bool false) fun v50 =>
 kGrd v50 true (fun k =>
 kFld 2 a_3 fun v52 =>
 kLd s v52 fun v53 =>
 kUn .not v53 fun v54 =>
 k [v54] s) [undef] s fun xs s =>
 un1 xs fun v54 =>
 kPick v50 v54 (.bool false) fun v55 =>
 kGrd v55 true (fun k =>
 kFld 2 b_5 fun v57 =>
 kLd s v57 fun v58 =>
 kUn .not v58 fun v59 =>
 k [v59] s) [undef] s fun xs s =>
 un1 xs fun v59 =>
 kPick v55 v59 (.bool false) fun v60 =>
 kGrd v60 true (fun k =>
 kCall PG 11 [] s fun v62 s =>
 k [v62] s) [undef] s fun xs s =>
 un1 xs fun v62 =>
 kPick v60 v62 (.bool false) fun v63 =>
 k v63 s) fun J1 =>
 kBsl s 1 [(.slice none 0 0)] [(0, 1, w_0)] fun v8 s =>
 kCall PG 18 [v8] s fun v9 s =>
 kUn .not v9 fun v10 =>
 kCond v10 (
 kCall PG 11 [] s fun v11 s =>
 k v11 s) (
 J1 [] s)
theorem F5_ok (w_0 : Value) (s : AS) (k : Value → AS → Prop) : denFn PG [] 5 [w_0] s k = F5 w_0 s k := by kernel_rfl
theorem f5 {w_0 : Value} {s : AS} {k : Value → AS → Prop} (h : F5 w_0 s k) : kCall PG 5 [w_0] s k := fn_by (F5_ok w_0 s k) h
def F6 (s_0 name_1 : Value) (s : AS) (k : Value → AS → Prop) : Prop :=
 kNew s (cellsV s_0) fun s_2 s =>
 kJoin (fun _ s =>
 kLdN s 4 s_2 fun v24 =>
 kCall PG 20 [v24] s fun v25 s =>
 kExt 0 v25 fun v26 =>
 kExt 1 v25 fun v27 =>
 kCall PG 21 [v26, name_1] s fun v31 s =>
 kExt 0 v31 fun v32 =>
 kExt 1 v31 fun v33 =>
 kCall PG 22 [name_1, (.bool true)] s fun v37 s =>
 kBsl s 1 [(.int .i64 0), (.string (bs [])), (.bool false), (.int .i64 0), (.bool false), (.slice none 0 0)] [(0, 6, v37)] fun v38 s =>
 kBsl s 1 [(.slice none 0 0)] [(0, 1, v38)] fun v39 s =>
 kCall PG 12 [v26, v39, (.slice none 0 0)] s fun v40 s =>
 kExt 0 v40 fun v41 =>
 kExt 1 v40 fun v42 =>
 kNew s [(.slice none 0 0), (.pointer none), (.bool false), (.string (bs [])), (.int .i64 0), (.string (bs []))] fun a_9 s =>
 kSt s 6 a_9 v41 fun s =>
 kJoin (fun _ s =>
 kCall PG 22 [(.string (bs [64])), (.bool true)] s fun v73 s =>
 kBsl s 1 [(.int .i64 0), (.string (bs [])), (.bool false), (.int .i64 0), (.bool false), (.slice none 0 0)] [(0, 6, v73)] fun v74 s =>
 kBsl s 1 [(.slice none 0 0)] [(0, 1, v74)] fun v75 s =>
 kCall PG 12 [v26, v75, (.slice none 0 0)] s fun v76 s =>
 kExt 0 v76 fun v77 =>
 kExt 1 v76 fun v78 =>
 kNew s [(.slice none 0 0), (.pointer none), (.bool false), (.string (bs [])), (.int .i64 0), (.string (bs []))] fun b_11 s =>
 kSt s 6 b_11 v77 fun s =>
 kJoin (fun _ s =>
 kJoin (fun _ s =>
 kCall PG 11 [] s fun v118 s =>
 k v118 s) fun J4 =>
 kLoop (fun again5 xs s =>
 un1 xs fun i_13 =>
 kJoin (fun _ s =>
 kJoin (fun _ s =>
 kBin .add i_13 (.int .i64 1) fun v96 =>
 again5 [v96] s) fun J7 =>
 kFld 0 b_11 fun v97 =>
 kFld 2 s_2 fun v103 =>
 kLd s v97 fun v98 =>
 kIdx 2 v98 i_13 fun v100 =>
 kFld 0 v100 fun v101 =>
 kLd s v101 fun v102 =>
 kLd s v103 fun v104 =>
 kIdx 1 v104 i_13 fun v106 =>
 kLd s v106 fun v107 =>
 kBin .neq v102 v107 fun v108 =>
 kGrd v108 false (fun k =>
 kFld 0 b_11 fun v110 =>
 kLd s v110 fun v111 =>
 kIdx 2 v111 i_13 fun v113 =>
 kLdN s 2 v113 fun v114 =>
 kCall PG 23 [v114] s fun v115 s =>
 kUn .not v115 fun v116 =>
 k [v116] s) [undef] s fun xs s =>
 un1 xs fun v116 =>
 kPick v108 (.bool true) v116 fun v117 =>
 kCond v117 (
 k (.bool false) s) (
 J7 [] s)) fun J6 =>
 kFld 2 s_2 fun v91 =>
 kLd s v91 fun v92 =>
 kLen false v92 fun v93 =>
 kBin .lss i_13 v93 fun v94 =>
 kCond v94 (
 J6 [] s) (
 J4 [] s)) [(.int .i64 0)] s) fun J3 =>
 kBin .neq v78 (.int .i64 0) fun v80 =>
 kGrd v80 false (fun k =>
 kFld 0 b_11 fun v82 =>
 kLd s v82 fun v83 =>
 kLen false v83 fun v84 =>
 kFld 2 s_2 fun v85 =>
 kLd s v85 fun v86 =>
 kLen false v86 fun v87 =>
 kBin .neq v84 v87 fun v88 =>
 k [v88] s) [undef] s fun xs s =>
 un1 xs fun v88 =>
 kPick v80 (.bool true) v88 fun v89 =>
 kCond v89 (
 k (.bool false) s) (
 J3 [] s)) fun J2 =>
 kGrd v33 true (fun k =>
 kBin .neq v42 (.int .i64 0) fun v46 =>
 k [v46] s) [undef] s fun xs s =>
 un1 xs fun v47 =>
 kGrd v47 false (fun k =>
 kFld 0 a_9 fun v48 =>
 kLd s v48 fun v49 =>
 kLen false v49 fun v50 =>
 kBin .neq v50 (.int .i64 1) fun v51 =>
 k [v51] s) [undef] s fun xs s =>
 un1 xs fun v51 =>
 kGrd v33 true (fun k =>
 kPick v47 (.bool true) v51 fun v52 =>
 k [v52] s) [undef] s fun xs s =>
 un1 xs fun v53 =>
 kGrd v53 false (fun k =>
 kFld 0 a_9 fun v54 =>
 kLd s v54 fun v55 =>
 kIdx 2 v55 (.int .i64 0) fun v56 =>
 kFld 0 v56 fun v57 =>
 kLd s v57 fun v58 =>
 kBin .neq v58 v32 fun v60 =>
 k [v60] s) [undef] s fun xs s =>
 un1 xs fun v60 =>
 kGrd v33 true (fun k =>
 kPick v53 (.bool true) v60 fun v61 =>
 k [v61] s) [undef] s fun xs s =>
 un1 xs fun v62 =>
 kGrd v62 false (fun k =>
 kFld 0 a_9 fun v63 =>
 kLd s v63 fun v64 =>
 kIdx 2 v64 (.int .i64 0) fun v65 =>
 kLdN s 2 v65 fun v66 =>
 kCall PG 23 [v66] s fun v67 s =>
 kUn .not v67 fun v68 =>
 k [v68] s) [undef] s fun xs s =>
 un1 xs fun v68 =>
 kGrd v33 true (fun k =>
 kPick v62 (.bool true) v68 fun v69 =>
 k [v69] s) [undef] s fun xs s =>
 un1 xs fun v69 =>
 kPick v33 v69 (.bool false) fun v70 =>
 kCond v70 (
 k (.bool false) s) (
 J2 [] s)) fun J1 =>
 kLdN s 4 s_2 fun v14 =>
 kCall PG 19 [v14] s fun v15 s =>
 kUn .not v15 fun v16 =>
 kGrd v16 false (fun k =>
 kLen true name_1 fun v19 =>
 kBin .gtr v19 (.int .i64 200) fun v20 =>
 k [v20] s) [undef] s fun xs s =>
 un1 xs fun v20 =>
 kPick v16 (.bool true) v20 fun v21 =>
 kCond v21 (
 kCall PG 11 [] s fun v22 s =>
 k v22 s) (
 J1 [] s)
theorem F6_ok (s_0 name_1 : Value) (s : AS) (k : Value → AS → Prop) : denFn PG [(14, (.go 0 (.go 2 (.go 6 (.go 8 (.go 1 (.go 3 (.go 4 (.go 5 (.go 7 (.go 9 (.go 10 (.go 11 (.go 12 (.go 13 (.go 15 (.go 14 (.go 16 (.go 17 (.go 18 (.go 19 (.go 20 .done))))))))))))))))))))))] 6 [s_0, name_1] s k = F6 s_0 name_1 s k := by kernel_rfl
theorem f6 {s_0 name_1 : Value} {s : AS} {k : Value → AS → Prop} (h : F6 s_0 name_1 s k) : kCall PG 6 [s_0, name_1] s k := fn_by (F6_ok s_0 name_1 s k) h
def F7 (s_0 words_1 answers_2 : Value) (s : AS) (k : Value → AS → Prop) : Prop :=
 kNew s (cellsV s_0) fun s_3 s =>
 kJoin (fun _ s =>
 kLdN s 4 s_3 fun v29 =>
 kCall PG 20 [v29] s fun v30 s =>
 kExt 0 v30 fun v31 =>
 kExt 1 v30 fun v32 =>
 kCall PG 25 [v31] s fun v34 s =>
 kCall PG 24 [v34] s fun v35 s =>
 kCall PG 12 [v31, words_1, answers_2] s fun v40 s =>
 kExt 0 v40 fun v41 =>
 kExt 1 v40 fun v42 =>
 kNew s [(.slice none 0 0), (.pointer none), (.bool false), (.string (bs [])), (.int .i64 0), (.string (bs []))] fun a_10 s =>
 kSt s 6 a_10 v41 fun s =>
 kCall PG 12 [v31, words_1, answers_2] s fun v47 s =>
 kExt 0 v47 fun v48 =>
 kExt 1 v47 fun v49 =>
 kNew s [(.slice none 0 0), (.pointer none), (.bool false), (.string (bs [])), (.int .i64 0), (.string (bs []))] fun b_12 s =>
 kSt s 6 b_12 v48 fun s =>
 kJoin (fun _ s =>
 kCall PG 25 [v31] s fun v86 s =>
 kCall PG 24 [v86] s fun v87 s =>
 kCall PG 28 [v35, v87] s fun v88 s =>
 kGrd v88 true (fun k =>
 kFld 2 s_3 fun v92 =>
 kLd s v92 fun v93 =>
 kCall PG 30 [v31] s fun v91 s =>
 kChk s v92 v93 (
 kCall PG 29 [v91, v93] s fun v94 s =>
 k [v94] s)) [undef] s fun xs s =>
 un1 xs fun v94 =>
 kPick v88 v94 (.bool false) fun v95 =>
 kGrd v95 true (fun k =>
 kCall PG 11 [] s fun v97 s =>
 k [v97] s) [undef] s fun xs s =>
 un1 xs fun v97 =>
 kPick v95 v97 (.bool false) fun v98 =>
 k v98 s) fun J2 =>
 kBin .neq v42 v49 fun v52 =>
 kGrd v52 false (fun k =>
 kFld 2 a_10 fun v54 =>
 kFld 2 b_12 fun v56 =>
 kLd s v54 fun v55 =>
 kLd s v56 fun v57 =>
 kEq 4 true v55 v57 fun v58 =>
 k [v58] s) [undef] s fun xs s =>
 un1 xs fun v58 =>
 kPick v52 (.bool true) v58 fun v59 =>
 kGrd v59 false (fun k =>
 kFld 4 a_10 fun v61 =>
 kFld 4 b_12 fun v63 =>
 kLd s v61 fun v62 =>
 kLd s v63 fun v64 =>
 kBin .neq v62 v64 fun v65 =>
 k [v65] s) [undef] s fun xs s =>
 un1 xs fun v65 =>
 kPick v59 (.bool true) v65 fun v66 =>
 kGrd v66 false (fun k =>
 kFld 3 a_10 fun v68 =>
 kFld 3 b_12 fun v70 =>
 kLd s v68 fun v69 =>
 kLd s v70 fun v71 =>
 kBin .neq v69 v71 fun v72 =>
 k [v72] s) [undef] s fun xs s =>
 un1 xs fun v72 =>
 kPick v66 (.bool true) v72 fun v73 =>
 kGrd v73 false (fun k =>
 kFld 0 a_10 fun v75 =>
 kFld 0 b_12 fun v78 =>
 kLd s v75 fun v76 =>
 kLd s v78 fun v79 =>
 kCall PG 27 [v76] s fun v77 s =>
 kChk s v78 v79 (
 kCall PG 27 [v79] s fun v80 s =>
 kCall PG 26 [v77, v80] s fun v81 s =>
 kUn .not v81 fun v82 =>
 k [v82] s)) [undef] s fun xs s =>
 un1 xs fun v82 =>
 kPick v73 (.bool true) v82 fun v83 =>
 kCond v83 (
 k (.bool false) s) (
 J2 [] s)) fun J1 =>
 kLdN s 4 s_3 fun v14 =>
 kCall PG 19 [v14] s fun v15 s =>
 kUn .not v15 fun v16 =>
 kGrd v16 false (fun k =>
 kCall PG 18 [words_1] s fun v19 s =>
 kUn .not v19 fun v20 =>
 k [v20] s) [undef] s fun xs s =>
 un1 xs fun v20 =>
 kPick v16 (.bool true) v20 fun v21 =>
 kGrd v21 false (fun k =>
 kCall PG 10 [answers_2] s fun v24 s =>
 kUn .not v24 fun v25 =>
 k [v25] s) [undef] s fun xs s =>
 un1 xs fun v25 =>
 kPick v21 (.bool true) v25 fun v26 =>
 kCond v26 (
 kCall PG 11 [] s fun v27 s =>
 k v27 s) (
 J1 [] s)
theorem F7_ok (s_0 words_1 answers_2 : Value) (s : AS) (k : Value → AS → Prop) : denFn PG [(7, (.go 0 (.go 1 (.go 2 (.go 3 (.go 4 (.go 6 (.go 5 (.go 7 (.go 8 (.go 9 (.go 10 (.go 11 (.go 13 (.go 12 (.go 14 (.go 15 (.go 16 (.go 17 (.go 18 (.go 20 (.go 19 (.go 21 (.go 22 (.go 23 (.go 24 (.go 25 (.go 28 (.go 26 (.go 29 (.go 27 (.go 30 (.go 31 (.go 32 (.go 33 .done))))))))))))))))))))))))))))))))))), (9, (.go 0 (.go 1 (.go 2 (.go 3 (.go 4 (.go 5 (.go 6 (.go 8 (.go 9 (.go 7 (.go 10 (.go 11 (.go 12 (.go 13 (.go 14 (.go 15 .done)))))))))))))))))] 7 [s_0, words_1, answers_2] s k = F7 s_0 words_1 answers_2 s k := by kernel_rfl
theorem f7 {s_0 words_1 answers_2 : Value} {s : AS} {k : Value → AS → Prop} (h : F7 s_0 words_1 answers_2 s k) : kCall PG 7 [s_0, words_1, answers_2] s k := fn_by (F7_ok s_0 words_1 answers_2 s k) h
def F8 (s_0 words_1 answers_2 : Value) (s : AS) (k : Value → AS → Prop) : Prop :=
 kNew s (cellsV s_0) fun s_3 s =>
 kJoin (fun _ s =>
 kLdN s 4 s_3 fun v28 =>
 kCall PG 20 [v28] s fun v29 s =>
 kExt 0 v29 fun v30 =>
 kExt 1 v29 fun v31 =>
 kCall PG 12 [v30, words_1, answers_2] s fun v36 s =>
 kExt 0 v36 fun v37 =>
 kExt 1 v36 fun v38 =>
 kNew s [(.slice none 0 0), (.pointer none), (.bool false), (.string (bs [])), (.int .i64 0), (.string (bs []))] fun a_9 s =>
 kSt s 6 a_9 v37 fun s =>
 kCall PG 31 [v31, words_1, answers_2] s fun v43 s =>
 kExt 0 v43 fun v44 =>
 kExt 1 v43 fun v45 =>
 kNew s [(.slice none 0 0), (.pointer none), (.bool false), (.string (bs [])), (.int .i64 0), (.string (bs []))] fun b_11 s =>
 kSt s 6 b_11 v44 fun s =>
 kLdN s 6 a_9 fun v46 =>
 kLdN s 6 b_11 fun v47 =>
 kCall PG 32 [v46, v47] s fun v48 s =>
 kGrd v48 true (fun k =>
 kBin .eql v38 v45 fun v52 =>
 k [v52] s) [undef] s fun xs s =>
 un1 xs fun v52 =>
 kPick v48 v52 (.bool false) fun v53 =>
 kGrd v53 true (fun k =>
 kCall PG 11 [] s fun v55 s =>
 k [v55] s) [undef] s fun xs s =>
 un1 xs fun v55 =>
 kPick v53 v55 (.bool false) fun v56 =>
 k v56 s) fun J1 =>
 kLdN s 4 s_3 fun v13 =>
 kCall PG 19 [v13] s fun v14 s =>
 kUn .not v14 fun v15 =>
 kGrd v15 false (fun k =>
 kCall PG 18 [words_1] s fun v18 s =>
 kUn .not v18 fun v19 =>
 k [v19] s) [undef] s fun xs s =>
 un1 xs fun v19 =>
 kPick v15 (.bool true) v19 fun v20 =>
 kGrd v20 false (fun k =>
 kCall PG 10 [answers_2] s fun v23 s =>
 kUn .not v23 fun v24 =>
 k [v24] s) [undef] s fun xs s =>
 un1 xs fun v24 =>
 kPick v20 (.bool true) v24 fun v25 =>
 kCond v25 (
 kCall PG 11 [] s fun v26 s =>
 k v26 s) (
 J1 [] s)
theorem F8_ok (s_0 words_1 answers_2 : Value) (s : AS) (k : Value → AS → Prop) : denFn PG [] 8 [s_0, words_1, answers_2] s k = F8 s_0 words_1 answers_2 s k := by kernel_rfl
theorem f8 {s_0 words_1 answers_2 : Value} {s : AS} {k : Value → AS → Prop} (h : F8 s_0 words_1 answers_2 s k) : kCall PG 8 [s_0, words_1, answers_2] s k := fn_by (F8_ok s_0 words_1 answers_2 s k) h
def F9 (s_0 w_1 answers_2 : Value) (s : AS) (k : Value → AS → Prop) : Prop :=
 kNew s (cellsV s_0) fun s_3 s =>
 kJoin (fun _ s =>
 kLdN s 4 s_3 fun v29 =>
 kCall PG 20 [v29] s fun v30 s =>
 kExt 0 v30 fun v31 =>
 kExt 1 v30 fun v32 =>
 kCall PG 15 [v31, w_1, answers_2] s fun v37 s =>
 kExt 0 v37 fun v38 =>
 kExt 1 v37 fun v39 =>
 kNew s [(.slice none 0 0), (.pointer none), (.bool false), (.string (bs [])), (.int .i64 0), (.string (bs []))] fun a_9 s =>
 kSt s 6 a_9 v38 fun s =>
 kCall PG 33 [v32, w_1, answers_2] s fun v44 s =>
 kExt 0 v44 fun v45 =>
 kExt 1 v44 fun v46 =>
 kNew s [(.slice none 0 0), (.pointer none), (.bool false), (.string (bs [])), (.int .i64 0), (.string (bs []))] fun b_11 s =>
 kSt s 6 b_11 v45 fun s =>
 kLdN s 6 a_9 fun v47 =>
 kLdN s 6 b_11 fun v48 =>
 kCall PG 32 [v47, v48] s fun v49 s =>
 kGrd v49 true (fun k =>
 kBin .eql v39 v46 fun v53 =>
 k [v53] s) [undef] s fun xs s =>
 un1 xs fun v53 =>
 kPick v49 v53 (.bool false) fun v54 =>
 kGrd v54 true (fun k =>
 kCall PG 11 [] s fun v56 s =>
 k [v56] s) [undef] s fun xs s =>
 un1 xs fun v56 =>
 kPick v54 v56 (.bool false) fun v57 =>
 k v57 s) fun J1 =>
 kLdN s 4 s_3 fun v13 =>
 kCall PG 19 [v13] s fun v14 s =>
 kUn .not v14 fun v15 =>
 kGrd v15 false (fun k =>
 kBsl s 1 [(.slice none 0 0)] [(0, 1, w_1)] fun v18 s =>
 kCall PG 18 [v18] s fun v19 s =>
 kUn .not v19 fun v20 =>
 k [v20] s) [undef] s fun xs s =>
 un1 xs fun v20 =>
 kPick v15 (.bool true) v20 fun v21 =>
 kGrd v21 false (fun k =>
 kCall PG 10 [answers_2] s fun v24 s =>
 kUn .not v24 fun v25 =>
 k [v25] s) [undef] s fun xs s =>
 un1 xs fun v25 =>
 kPick v21 (.bool true) v25 fun v26 =>
 kCond v26 (
 kCall PG 11 [] s fun v27 s =>
 k v27 s) (
 J1 [] s)
theorem F9_ok (s_0 w_1 answers_2 : Value) (s : AS) (k : Value → AS → Prop) : denFn PG [] 9 [s_0, w_1, answers_2] s k = F9 s_0 w_1 answers_2 s k := by kernel_rfl
theorem f9 {s_0 w_1 answers_2 : Value} {s : AS} {k : Value → AS → Prop} (h : F9 s_0 w_1 answers_2 s k) : kCall PG 9 [s_0, w_1, answers_2] s k := fn_by (F9_ok s_0 w_1 answers_2 s k) h
def F10 (l_0 : Value) (s : AS) (k : Value → AS → Prop) : Prop :=
 kJoin (fun _ s =>
 kJoin (fun _ s =>
 k (.bool true) s) fun J2 =>
 kLoop (fun again3 xs s =>
 un1 xs fun i_3 =>
 kJoin (fun _ s =>
 kJoin (fun _ s =>
 kBin .add i_3 (.int .i64 1) fun v12 =>
 again3 [v12] s) fun J5 =>
 kIdx 1 l_0 i_3 fun v15 =>
 kLd s v15 fun v16 =>
 kLen true v16 fun v17 =>
 kBin .gtr v17 (.int .i64 200) fun v18 =>
 kCond v18 (
 k (.bool false) s) (
 J5 [] s)) fun J4 =>
 kLen false l_0 fun v9 =>
 kBin .lss i_3 v9 fun v10 =>
 kCond v10 (
 J4 [] s) (
 J2 [] s)) [(.int .i64 0)] s) fun J1 =>
 kLen false l_0 fun v5 =>
 kBin .gtr v5 (.int .i64 20) fun v6 =>
 kCond v6 (
 k (.bool false) s) (
 J1 [] s)
theorem F10_ok (l_0 : Value) (s : AS) (k : Value → AS → Prop) : denFn PG [] 10 [l_0] s k = F10 l_0 s k := by kernel_rfl
theorem f10 {l_0 : Value} {s : AS} {k : Value → AS → Prop} (h : F10 l_0 s k) : kCall PG 10 [l_0] s k := fn_by (F10_ok l_0 s k) h
def F11 (s : AS) (k : Value → AS → Prop) : Prop :=
 (fun v12 s =>
 kCall PG 13 [(.string (bs [115, 104])), v12] s fun v13 s =>
 kCall PG 14 [v13, (.string (bs [120])), (.string (bs [97, 32, 98]))] s fun v15 s =>
 kCall PG 22 [(.string (bs [120])), (.bool false)] s fun v18 s =>
 kBsl s 1 [(.int .i64 0), (.string (bs [])), (.bool false), (.int .i64 0), (.bool false), (.slice none 0 0)] [(0, 6, v18)] fun v19 s =>
 kCall PG 22 [(.string (bs [120])), (.bool true)] s fun v20 s =>
 kBsl s 1 [(.int .i64 0), (.string (bs [])), (.bool false), (.int .i64 0), (.bool false), (.slice none 0 0)] [(0, 6, v20)] fun v21 s =>
 kCall PG 22 [(.string (bs [64])), (.bool true)] s fun v22 s =>
 kBsl s 1 [(.int .i64 0), (.string (bs [])), (.bool false), (.int .i64 0), (.bool false), (.slice none 0 0)] [(0, 6, v22)] fun v23 s =>
 kBsl s 3 [(.slice none 0 0), (.slice none 0 0), (.slice none 0 0)] [(0, 1, v19), (1, 1, v21), (2, 1, v23)] fun v24 s =>
 kCall PG 12 [v13, v24, (.slice none 0 0)] s fun v25 s =>
 kExt 0 v25 fun v26 =>
 kExt 1 v25 fun v27 =>
 kNew s [(.slice none 0 0), (.pointer none), (.bool false), (.string (bs [])), (.int .i64 0), (.string (bs []))] fun a_2 s =>
 kSt s 6 a_2 v26 fun s =>
 kBuild [(.int .i64 0), (.string (bs [])), (.bool false), (.int .i64 0), (.bool false), (.slice none 0 0)] [(0, 1, (.int .i64 3)), (1, 1, (.string (bs [102]))), (2, 1, (.bool true))] fun v30 =>
 kBsl s 1 [(.int .i64 0), (.string (bs [])), (.bool false), (.int .i64 0), (.bool false), (.slice none 0 0)] [(0, 6, v30)] fun v31 s =>
 kBsl s 1 [(.slice none 0 0)] [(0, 1, v31)] fun v32 s =>
 kBsl s 1 [(.string (bs []))] [(0, 1, (.string (bs [113, 10])))] fun v33 s =>
 kCall PG 12 [v13, v32, v33] s fun v34 s =>
 kExt 0 v34 fun v35 =>
 kExt 1 v34 fun v36 =>
 kNew s [(.slice none 0 0), (.pointer none), (.bool false), (.string (bs [])), (.int .i64 0), (.string (bs []))] fun b_4 s =>
 kSt s 6 b_4 v35 fun s =>
 kBuild [(.int .i64 0), (.string (bs [])), (.bool false), (.int .i64 0), (.bool false), (.slice none 0 0)] [(0, 1, (.int .i64 3)), (1, 1, (.string (bs [102]))), (2, 1, (.bool true))] fun v39 =>
 kBsl s 1 [(.int .i64 0), (.string (bs [])), (.bool false), (.int .i64 0), (.bool false), (.slice none 0 0)] [(0, 6, v39)] fun v40 s =>
 kBsl s 1 [(.slice none 0 0)] [(0, 1, v40)] fun v41 s =>
 kCall PG 12 [v13, v41, (.slice none 0 0)] s fun v42 s =>
 kExt 0 v42 fun v43 =>
 kExt 1 v42 fun v44 =>
 kNew s [(.slice none 0 0), (.pointer none), (.bool false), (.string (bs [])), (.int .i64 0), (.string (bs []))] fun c_6 s =>
 kSt s 6 c_6 v43 fun s =>
 kBuild [(.int .i64 0), (.string (bs [])), (.bool false), (.int .i64 0), (.bool false), (.slice none 0 0)] [(0, 1, (.int .i64 1)), (1, 1, (.string (bs [110, 111])))] fun v47 =>
 kBsl s 1 [(.int .i64 0), (.string (bs [])), (.bool false), (.int .i64 0), (.bool false), (.slice none 0 0)] [(0, 6, v47)] fun v48 s =>
 kBuild [(.int .i64 0), (.string (bs [])), (.bool false), (.int .i64 0), (.bool false), (.slice none 0 0)] [(0, 1, (.int .i64 2)), (1, 1, (.string (bs [121]))), (3, 1, (.int .i64 4)), (5, 1, v48)] fun v49 =>
 kBsl s 1 [(.int .i64 0), (.string (bs [])), (.bool false), (.int .i64 0), (.bool false), (.slice none 0 0)] [(0, 6, v49)] fun v50 s =>
 kCall PG 15 [v13, v50, (.slice none 0 0)] s fun v51 s =>
 kExt 0 v51 fun v52 =>
 kExt 1 v51 fun v53 =>
 kNew s [(.slice none 0 0), (.pointer none), (.bool false), (.string (bs [])), (.int .i64 0), (.string (bs []))] fun d_8 s =>
 kSt s 6 d_8 v52 fun s =>
 kBuild [(.int .i64 0), (.string (bs [])), (.bool false), (.int .i64 0), (.bool false), (.slice none 0 0)] [(0, 1, (.int .i64 4)), (1, 1, (.string (bs [49, 43, 50])))] fun v56 =>
 kBsl s 1 [(.int .i64 0), (.string (bs [])), (.bool false), (.int .i64 0), (.bool false), (.slice none 0 0)] [(0, 6, v56)] fun v57 s =>
 kCall PG 15 [v13, v57, (.slice none 0 0)] s fun v58 s =>
 kExt 0 v58 fun v59 =>
 kExt 1 v58 fun v60 =>
 kNew s [(.slice none 0 0), (.pointer none), (.bool false), (.string (bs [])), (.int .i64 0), (.string (bs []))] fun i_10 s =>
 kSt s 6 i_10 v59 fun s =>
 kBin .eql v27 (.int .i64 0) fun v62 =>
 kGrd v62 true (fun k =>
 kFld 0 a_2 fun v64 =>
 kLd s v64 fun v65 =>
 kLen false v65 fun v66 =>
 kBin .eql v66 (.int .i64 5) fun v67 =>
 k [v67] s) [undef] s fun xs s =>
 un1 xs fun v67 =>
 kPick v62 v67 (.bool false) fun v68 =>
 kGrd v68 true (fun k =>
 kFld 0 a_2 fun v70 =>
 kLd s v70 fun v71 =>
 kIdx 2 v71 (.int .i64 2) fun v72 =>
 kFld 0 v72 fun v73 =>
 kLd s v73 fun v74 =>
 kBin .eql v74 (.string (bs [97, 32, 98])) fun v75 =>
 k [v75] s) [undef] s fun xs s =>
 un1 xs fun v75 =>
 kPick v68 v75 (.bool false) fun v76 =>
 kGrd v76 true (fun k =>
 kBin .eql v36 (.int .i64 0) fun v79 =>
 k [v79] s) [undef] s fun xs s =>
 un1 xs fun v79 =>
 kPick v76 v79 (.bool false) fun v80 =>
 kGrd v80 true (fun k =>
 kFld 0 b_4 fun v82 =>
 kLd s v82 fun v83 =>
 kLen false v83 fun v84 =>
 kBin .eql v84 (.int .i64 1) fun v85 =>
 k [v85] s) [undef] s fun xs s =>
 un1 xs fun v85 =>
 kPick v80 v85 (.bool false) fun v86 =>
 kGrd v86 true (fun k =>
 kFld 0 b_4 fun v88 =>
 kLd s v88 fun v89 =>
 kIdx 2 v89 (.int .i64 0) fun v90 =>
 kFld 0 v90 fun v91 =>
 kLd s v91 fun v92 =>
 kBin .eql v92 (.string (bs [113])) fun v93 =>
 k [v93] s) [undef] s fun xs s =>
 un1 xs fun v93 =>
 kPick v86 v93 (.bool false) fun v94 =>
 kGrd v94 true (fun k =>
 kFld 4 b_4 fun v96 =>
 kLd s v96 fun v97 =>
 kBin .eql v97 (.int .i64 1) fun v98 =>
 k [v98] s) [undef] s fun xs s =>
 un1 xs fun v98 =>
 kPick v94 v98 (.bool false) fun v99 =>
 kGrd v99 true (fun k =>
 kBin .eql v44 (.int .i64 0) fun v102 =>
 k [v102] s) [undef] s fun xs s =>
 un1 xs fun v102 =>
 kPick v99 v102 (.bool false) fun v103 =>
 kGrd v103 true (fun k =>
 kFld 2 c_6 fun v105 =>
 kLd s v105 fun v106 =>
 k [v106] s) [undef] s fun xs s =>
 un1 xs fun v106 =>
 kPick v103 v106 (.bool false) fun v107 =>
 kGrd v107 true (fun k =>
 kFld 3 c_6 fun v109 =>
 kLd s v109 fun v110 =>
 kBin .eql v110 (.string (bs [102])) fun v111 =>
 k [v111] s) [undef] s fun xs s =>
 un1 xs fun v111 =>
 kPick v107 v111 (.bool false) fun v112 =>
 kGrd v112 true (fun k =>
 kBin .eql v53 (.int .i64 14) fun v115 =>
 k [v115] s) [undef] s fun xs s =>
 un1 xs fun v115 =>
 kPick v112 v115 (.bool false) fun v116 =>
 kGrd v116 true (fun k =>
 kFld 5 d_8 fun v118 =>
 kLd s v118 fun v119 =>
 kBin .eql v119 (.string (bs [110, 111])) fun v120 =>
 k [v120] s) [undef] s fun xs s =>
 un1 xs fun v120 =>
 kPick v116 v120 (.bool false) fun v121 =>
 kGrd v121 true (fun k =>
 kBin .eql v60 (.int .i64 0) fun v124 =>
 k [v124] s) [undef] s fun xs s =>
 un1 xs fun v124 =>
 kPick v121 v124 (.bool false) fun v125 =>
 kGrd v125 true (fun k =>
 kFld 0 i_10 fun v127 =>
 kLd s v127 fun v128 =>
 kLen false v128 fun v129 =>
 kBin .eql v129 (.int .i64 1) fun v130 =>
 k [v130] s) [undef] s fun xs s =>
 un1 xs fun v130 =>
 kPick v125 v130 (.bool false) fun v131 =>
 kGrd v131 true (fun k =>
 kFld 0 i_10 fun v133 =>
 kLd s v133 fun v134 =>
 kIdx 2 v134 (.int .i64 0) fun v135 =>
 kFld 0 v135 fun v136 =>
 kLd s v136 fun v137 =>
 kBin .eql v137 (.string (bs [51])) fun v138 =>
 k [v138] s) [undef] s fun xs s =>
 un1 xs fun v138 =>
 kPick v131 v138 (.bool false) fun v139 =>
 k v139 s) (.slice (some ⟨s.n, 0, none⟩) 2 2) (s.new (.cells [(.string (bs [49])), (.string (bs [50, 32, 51]))]))
theorem F11_ok (s : AS) (k : Value → AS → Prop) : denFn PG [] 11 [] s k = F11 s k := by kernel_rfl
theorem f11 {s : AS} {k : Value → AS → Prop} (h : F11 s k) : kCall PG 11 [] s k := fn_by (F11_ok s k) h
def F12 (v_0 words_1 answers_2 : Value) (s : AS) (k : Value → AS → Prop) : Prop :=
 kNew s [(.slice none 0 0), (.pointer none), (.bool false), (.string (bs [])), (.int .i64 0), (.string (bs []))] fun v6 s =>
 kJoin (fun _ s =>
 kCall PG 34 [v_0] s fun v17 s =>
 kBuild [(.pointer none), (.slice none 0 0), (.int .i64 0), (.int .i64 0), (.bool false), (.string (bs [])), (.string (bs []))] [(0, 1, v17), (1, 1, answers_2)] fun v19 =>
 kNew s (cellsV v19) fun v20 s =>
 kJoin (fun xs s =>
 un1 xs fun out_9 =>
 kCall PG 39 [v20, out_9] s fun v41 s =>
 kExt 0 v41 fun v42 =>
 kExt 1 v41 fun v43 =>
 kSt s 6 v6 v42 fun s =>
 kLdN s 6 v6 fun r0 =>
 k (.tuple #[r0, v43]) s) fun J2 =>
 kLen false words_1 fun v22 =>
 kLoop (fun again3 xs s =>
 un2 xs fun out_9 v23 =>
 kBin .lss v23 v22 fun v24 =>
 kJoin (fun _ s =>
 kJoin (fun xs s =>
 un1 xs fun out_9 =>
 kBin .add v23 (.int .i64 1) fun v38 =>
 again3 [out_9, v38] s) fun J5 =>
 kIdx 1 words_1 v23 fun v25 =>
 kLd s v25 fun v26 =>
 kCall PG 35 [v20, v26, (.bool false)] s fun v29 s =>
 kJoin (fun _ s =>
 kCall PG 38 [v20] s fun v35 s =>
 kCall PG 37 [v29, v35] s fun v36 s =>
 kApp PG 30 30 out_9 v36 s fun v37 s =>
 J5 [v37] s) fun J6 =>
 kCall PG 36 [v20] s fun v31 s =>
 kCond v31 (
 J2 [out_9] s) (
 J6 [] s)) fun J4 =>
 kCond v24 (
 J4 [] s) (
 J2 [out_9] s)) [(.slice none 0 0), (.int .i64 0)] s) fun J1 =>
 kEq 0 false v_0 (.pointer none) fun v14 =>
 kCond v14 (
 kBuild [(.slice none 0 0), (.pointer none), (.bool false), (.string (bs [])), (.int .i64 0), (.string (bs []))] [] fun v15 =>
 kSt s 6 v6 v15 fun s =>
 kLdN s 6 v6 fun r0 =>
 k (.tuple #[r0, (.int .i64 2)]) s) (
 J1 [] s)
theorem F12_ok (v_0 words_1 answers_2 : Value) (s : AS) (k : Value → AS → Prop) : denFn PG [] 12 [v_0, words_1, answers_2] s k = F12 v_0 words_1 answers_2 s k := by kernel_rfl
theorem f12 {v_0 words_1 answers_2 : Value} {s : AS} {k : Value → AS → Prop} (h : F12 v_0 words_1 answers_2 s k) : kCall PG 12 [v_0, words_1, answers_2] s k := fn_by (F12_ok v_0 words_1 answers_2 s k) h
def F13 (zero_0 args_1 : Value) (s : AS) (k : Value → AS → Prop) : Prop :=
 kCall PG 40 [args_1] s fun v7 s =>
 kBuild [(.string (bs [])), (.slice none 0 0)] [(0, 1, zero_0), (1, 1, v7)] fun v8 =>
 kMkm s fun v9 s =>
 kBuild [(.string (bs [])), (.slice none 0 0), (.map none), (.int .i64 0)] [(0, 2, v8), (2, 1, v9)] fun v10 =>
 kNew s (cellsV v10) fun v11 s =>
 k v11 s
theorem F13_ok (zero_0 args_1 : Value) (s : AS) (k : Value → AS → Prop) : denFn PG [] 13 [zero_0, args_1] s k = F13 zero_0 args_1 s k := by kernel_rfl
theorem f13 {zero_0 args_1 : Value} {s : AS} {k : Value → AS → Prop} (h : F13 zero_0 args_1 s k) : kCall PG 13 [zero_0, args_1] s k := fn_by (F13_ok zero_0 args_1 s k) h
def F14 (v_0 name_1 value_2 : Value) (s : AS) (k : Value → AS → Prop) : Prop :=
 kNew s (cellsV value_2) fun value_5 s =>
 kCall PG 41 [v_0, name_1, (.bool true), (.func (.func 42) #[] #[value_5])] s fun v10 s =>
 k v10 s
theorem F14_ok (v_0 name_1 value_2 : Value) (s : AS) (k : Value → AS → Prop) : denFn PG [] 14 [v_0, name_1, value_2] s k = F14 v_0 name_1 value_2 s k := by kernel_rfl
theorem f14 {v_0 name_1 value_2 : Value} {s : AS} {k : Value → AS → Prop} (h : F14 v_0 name_1 value_2 s k) : kCall PG 14 [v_0, name_1, value_2] s k := fn_by (F14_ok v_0 name_1 value_2 s k) h
def F15 (v_0 w_1 answers_2 : Value) (s : AS) (k : Value → AS → Prop) : Prop :=
 kNew s [(.slice none 0 0), (.pointer none), (.bool false), (.string (bs [])), (.int .i64 0), (.string (bs []))] fun v6 s =>
 kJoin (fun _ s =>
 kCall PG 34 [v_0] s fun v14 s =>
 kBuild [(.pointer none), (.slice none 0 0), (.int .i64 0), (.int .i64 0), (.bool false), (.string (bs [])), (.string (bs []))] [(0, 1, v14), (1, 1, answers_2)] fun v16 =>
 kNew s (cellsV v16) fun v17 s =>
 kCall PG 43 [v17, w_1] s fun v20 s =>
 kNew s [(.string (bs [])), (.slice none 0 0)] fun f_9 s =>
 kSt s 2 f_9 v20 fun s =>
 kLdN s 2 f_9 fun v22 =>
 kBsl s 1 [(.string (bs [])), (.slice none 0 0)] [(0, 2, v22)] fun v23 s =>
 kCall PG 39 [v17, v23] s fun v24 s =>
 kExt 0 v24 fun v25 =>
 kExt 1 v24 fun v26 =>
 kSt s 6 v6 v25 fun s =>
 kLdN s 6 v6 fun r0 =>
 k (.tuple #[r0, v26]) s) fun J1 =>
 kEq 0 false v_0 (.pointer none) fun v11 =>
 kCond v11 (
 kBuild [(.slice none 0 0), (.pointer none), (.bool false), (.string (bs [])), (.int .i64 0), (.string (bs []))] [] fun v12 =>
 kSt s 6 v6 v12 fun s =>
 kLdN s 6 v6 fun r0 =>
 k (.tuple #[r0, (.int .i64 2)]) s) (
 J1 [] s)
theorem F15_ok (v_0 w_1 answers_2 : Value) (s : AS) (k : Value → AS → Prop) : denFn PG [] 15 [v_0, w_1, answers_2] s k = F15 v_0 w_1 answers_2 s k := by kernel_rfl
theorem f15 {v_0 w_1 answers_2 : Value} {s : AS} {k : Value → AS → Prop} (h : F15 v_0 w_1 answers_2 s k) : kCall PG 15 [v_0, w_1, answers_2] s k := fn_by (F15_ok v_0 w_1 answers_2 s k) h
def F16 (s_0 quoted_1 : Value) (s : AS) (k : Value → AS → Prop) : Prop :=
 kNew s [(.slice none 0 0)] fun out_5 s =>
 kJoin (fun xs s =>
 un1 xs fun v17 =>
 kLd s out_5 fun v16 =>
 kFin PG (valsOf v17) s fun s =>
 k v16 s) fun J1 =>
 kBuild [(.string (bs [])), (.slice none 0 0)] [(0, 1, s_0), (1, 1, quoted_1)] fun v9 =>
 kCall PG 44 [v9] s fun v10 s =>
 kRng PG v10 (fun xs s bg k =>
 xs.length = 1 ∧ (
 un1 xs fun v11 =>
 kNew s [(.int .i64 0), (.int .u8 0), (.bool false), (.slice none 0 0)] fun t_6 s =>
 kSt s 4 t_6 v11 fun s =>
 bg s fun s =>
 kLd s out_5 fun v12 =>
 kLdN s 4 t_6 fun v13 =>
 kBsl s 1 [(.int .i64 0), (.int .u8 0), (.bool false), (.slice none 0 0)] [(0, 4, v13)] fun v14 s =>
 kApp PG 44 44 v12 v14 s fun v15 s =>
 kSt s 1 out_5 v15 fun s =>
 k s)) s fun m2 s =>
 J1 [(consM m2 undef)] s
theorem F16_ok (s_0 quoted_1 : Value) (s : AS) (k : Value → AS → Prop) : denFn PG [] 16 [s_0, quoted_1] s k = F16 s_0 quoted_1 s k := by kernel_rfl
theorem f16 {s_0 quoted_1 : Value} {s : AS} {k : Value → AS → Prop} (h : F16 s_0 quoted_1 s k) : kCall PG 16 [s_0, quoted_1] s k := fn_by (F16_ok s_0 quoted_1 s k) h
def F17 (l_0 s_1 : Value) (s : AS) (k : Value → AS → Prop) : Prop :=
 kCall PG 45 [l_0, s_1] s fun v7 s =>
 kLen true s_1 fun v9 =>
 kIdx 1 v7 v9 fun v10 =>
 kLd s v10 fun v11 =>
 k v11 s
theorem F17_ok (l_0 s_1 : Value) (s : AS) (k : Value → AS → Prop) : denFn PG [] 17 [l_0, s_1] s k = F17 l_0 s_1 s k := by kernel_rfl
theorem f17 {l_0 s_1 : Value} {s : AS} {k : Value → AS → Prop} (h : F17 l_0 s_1 s k) : kCall PG 17 [l_0, s_1] s k := fn_by (F17_ok l_0 s_1 s k) h
def F18 (l_0 : Value) (s : AS) (k : Value → AS → Prop) : Prop :=
 kJoin (fun xs s =>
 un1 xs fun n_3 =>
 kBin .leq n_3 (.int .i64 600) fun v24 =>
 k v24 s) fun J1 =>
 kLoop (fun again2 xs s =>
 un2 xs fun n_3 i_4 =>
 kJoin (fun _ s =>
 kJoin (fun xs s =>
 un1 xs fun n_3 =>
 kBin .add i_4 (.int .i64 1) fun v14 =>
 again2 [n_3, v14] s) fun J4 =>
 kBin .add n_3 (.int .i64 1) fun v16 =>
 kIdx 1 l_0 i_4 fun v19 =>
 kLd s v19 fun v20 =>
 kCall PG 46 [v20] s fun v21 s =>
 kBin .add v16 v21 fun v22 =>
 J4 [v22] s) fun J3 =>
 kLen false l_0 fun v7 =>
 kBin .lss i_4 v7 fun v8 =>
 kGrd v8 true (fun k =>
 kBin .leq n_3 (.int .i64 600) fun v11 =>
 k [v11] s) [undef] s fun xs s =>
 un1 xs fun v11 =>
 kPick v8 v11 (.bool false) fun v12 =>
 kCond v12 (
 J3 [] s) (
 J1 [n_3] s)) [(.int .i64 0), (.int .i64 0)] s
theorem F18_ok (l_0 : Value) (s : AS) (k : Value → AS → Prop) : denFn PG [] 18 [l_0] s k = F18 l_0 s k := by kernel_rfl
theorem f18 {l_0 : Value} {s : AS} {k : Value → AS → Prop} (h : F18 l_0 s k) : kCall PG 18 [l_0] s k := fn_by (F18_ok l_0 s k) h
def F19 (s_0 : Value) (s : AS) (k : Value → AS → Prop) : Prop :=
 kNew s (cellsV s_0) fun s_1 s =>
 kFld 0 s_1 fun v3 =>
 kLd s v3 fun v4 =>
 kCall PG 10 [v4] s fun v5 s =>
 kGrd v5 true (fun k =>
 kFld 1 s_1 fun v7 =>
 kLd s v7 fun v8 =>
 kCall PG 10 [v8] s fun v9 s =>
 k [v9] s) [undef] s fun xs s =>
 un1 xs fun v9 =>
 kPick v5 v9 (.bool false) fun v10 =>
 kGrd v10 true (fun k =>
 kFld 2 s_1 fun v12 =>
 kLd s v12 fun v13 =>
 kCall PG 10 [v13] s fun v14 s =>
 k [v14] s) [undef] s fun xs s =>
 un1 xs fun v14 =>
 kPick v10 v14 (.bool false) fun v15 =>
 kGrd v15 true (fun k =>
 kFld 3 s_1 fun v17 =>
 kLd s v17 fun v18 =>
 kLen true v18 fun v19 =>
 kBin .leq v19 (.int .i64 200) fun v20 =>
 k [v20] s) [undef] s fun xs s =>
 un1 xs fun v20 =>
 kPick v15 v20 (.bool false) fun v21 =>
 k v21 s
theorem F19_ok (s_0 : Value) (s : AS) (k : Value → AS → Prop) : denFn PG [] 19 [s_0] s k = F19 s_0 s k := by kernel_rfl
theorem f19 {s_0 : Value} {s : AS} {k : Value → AS → Prop} (h : F19 s_0 s k) : kCall PG 19 [s_0] s k := fn_by (F19_ok s_0 s k) h
def F20 (s_0 : Value) (s : AS) (k : Value → AS → Prop) : Prop :=
 kNew s (cellsV s_0) fun s_1 s =>
 kFld 2 s_1 fun v7 =>
 kLd s v7 fun v8 =>
 kCall PG 13 [(.string (bs [115, 104])), v8] s fun v9 s =>
 kFld 2 s_1 fun v10 =>
 kLd s v10 fun v11 =>
 kBuild [(.slice none 0 0), (.string (bs [])), (.slice none 0 0), (.int .i64 0)] [(1, 1, (.string (bs [115, 104]))), (2, 1, v11)] fun v12 =>
 kNew s (cellsV v12) fun v13 s =>
 kJoin (fun _ s =>
 kFld 3 s_1 fun v53 =>
 kLd s v53 fun v54 =>
 kCall PG 48 [v9, v54] s fun v55 s =>
 kFld 3 s_1 fun v57 =>
 kLd s v57 fun v58 =>
 kCall PG 49 [v13, v58, (.bool true)] s fun v59 s =>
 k (.tuple #[v9, v13]) s) fun J1 =>
 kLoop (fun again2 xs s =>
 un1 xs fun i_6 =>
 kJoin (fun _ s =>
 kJoin (fun _ s =>
 kBin .add i_6 (.int .i64 1) fun v27 =>
 again2 [v27] s) fun J4 =>
 kFld 0 s_1 fun v29 =>
 kFld 1 s_1 fun v34 =>
 kLd s v29 fun v30 =>
 kIdx 1 v30 i_6 fun v32 =>
 kLd s v32 fun v33 =>
 kLd s v34 fun v35 =>
 kIdx 1 v35 i_6 fun v37 =>
 kLd s v37 fun v38 =>
 kCall PG 14 [v9, v33, v38] s fun v39 s =>
 kFld 0 s_1 fun v41 =>
 kFld 1 s_1 fun v46 =>
 kLd s v41 fun v42 =>
 kIdx 1 v42 i_6 fun v44 =>
 kLd s v44 fun v45 =>
 kLd s v46 fun v47 =>
 kIdx 1 v47 i_6 fun v49 =>
 kLd s v49 fun v50 =>
 kCall PG 47 [v13, v45, v50] s fun v51 s =>
 J4 [] s) fun J3 =>
 kFld 0 s_1 fun v15 =>
 kLd s v15 fun v16 =>
 kLen false v16 fun v17 =>
 kBin .lss i_6 v17 fun v18 =>
 kGrd v18 true (fun k =>
 kFld 1 s_1 fun v21 =>
 kLd s v21 fun v22 =>
 kLen false v22 fun v23 =>
 kBin .lss i_6 v23 fun v24 =>
 k [v24] s) [undef] s fun xs s =>
 un1 xs fun v24 =>
 kPick v18 v24 (.bool false) fun v25 =>
 kCond v25 (
 J3 [] s) (
 J1 [] s)) [(.int .i64 0)] s
theorem F20_ok (s_0 : Value) (s : AS) (k : Value → AS → Prop) : denFn PG [(6, (.go 0 (.go 1 (.go 3 (.go 6 (.go 8 (.go 2 (.go 4 (.go 5 (.go 7 (.go 9 (.go 10 (.go 11 .done))))))))))))), (7, (.go 0 (.go 1 (.go 3 (.go 6 (.go 8 (.go 2 (.go 4 (.go 5 (.go 7 (.go 9 (.go 10 (.go 11 .done)))))))))))))] 20 [s_0] s k = F20 s_0 s k := by kernel_rfl
theorem f20 {s_0 : Value} {s : AS} {k : Value → AS → Prop} (h : F20 s_0 s k) : kCall PG 20 [s_0] s k := fn_by (F20_ok s_0 s k) h
def F21 (v_0 name_1 : Value) (s : AS) (k : Value → AS → Prop) : Prop :=
 kJoin (fun _ s =>
 kNck v_0 fun v10 =>
 kFld 2 v10 fun v11 =>
 kLd s v11 fun v12 =>
 kGen PG (.lk 90 false) [v12, name_1] s fun v14 s =>
 kNew s [(.string (bs [])), (.string (bs [])), (.bool false), (.bool false), (.bool false)] fun x_6 s =>
 kSt s 5 x_6 v14 fun s =>
 kFld 1 x_6 fun v15 =>
 kFld 2 x_6 fun v17 =>
 kLd s v15 fun v16 =>
 kLd s v17 fun v18 =>
 k (.tuple #[v16, v18]) s) fun J1 =>
 kEq 0 false v_0 (.pointer none) fun v8 =>
 kCond v8 (
 k (.tuple #[(.string (bs [])), (.bool false)]) s) (
 J1 [] s)
theorem F21_ok (v_0 name_1 : Value) (s : AS) (k : Value → AS → Prop) : denFn PG [(4, (.go 0 (.go 2 (.go 1 (.go 4 (.go 3 (.go 5 .done)))))))] 21 [v_0, name_1] s k = F21 v_0 name_1 s k := by kernel_rfl
theorem f21 {v_0 name_1 : Value} {s : AS} {k : Value → AS → Prop} (h : F21 v_0 name_1 s k) : kCall PG 21 [v_0, name_1] s k := fn_by (F21_ok v_0 name_1 s k) h
def F22 (name_0 quote_1 : Value) (s : AS) (k : Value → AS → Prop) : Prop :=
 kNew s [(.int .i64 0), (.string (bs [])), (.bool false), (.int .i64 0), (.bool false), (.slice none 0 0)] fun v4 s =>
 kBuild [(.int .i64 0), (.string (bs [])), (.bool false), (.int .i64 0), (.bool false), (.slice none 0 0)] [(0, 1, (.int .i64 2)), (1, 1, name_0), (2, 1, quote_1)] fun v7 =>
 kSt s 6 v4 v7 fun s =>
 kLdN s 6 v4 fun r0 =>
 k r0 s
theorem F22_ok (name_0 quote_1 : Value) (s : AS) (k : Value → AS → Prop) : denFn PG [] 22 [name_0, quote_1] s k = F22 name_0 quote_1 s k := by kernel_rfl
theorem f22 {name_0 quote_1 : Value} {s : AS} {k : Value → AS → Prop} (h : F22 name_0 quote_1 s k) : kCall PG 22 [name_0, quote_1] s k := fn_by (F22_ok name_0 quote_1 s k) h
def F23 (f_0 : Value) (s : AS) (k : Value → AS → Prop) : Prop :=
 kNew s (cellsV f_0) fun f_1 s =>
 kJoin (fun _ s =>
 kFld 1 f_1 fun v17 =>
 kLd s v17 fun v18 =>
 kLen false v18 fun v19 =>
 kFld 0 f_1 fun v20 =>
 kLd s v20 fun v21 =>
 kLen true v21 fun v22 =>
 kBin .eql v19 v22 fun v23 =>
 k v23 s) fun J1 =>
 kLoop (fun again2 xs s =>
 un1 xs fun i_3 =>
 kJoin (fun _ s =>
 kJoin (fun _ s =>
 kBin .add i_3 (.int .i64 1) fun v10 =>
 again2 [v10] s) fun J4 =>
 kFld 1 f_1 fun v11 =>
 kLd s v11 fun v12 =>
 kIdx 1 v12 i_3 fun v14 =>
 kLd s v14 fun v15 =>
 kUn .not v15 fun v16 =>
 kCond v16 (
 k (.bool false) s) (
 J4 [] s)) fun J3 =>
 kFld 1 f_1 fun v5 =>
 kLd s v5 fun v6 =>
 kLen false v6 fun v7 =>
 kBin .lss i_3 v7 fun v8 =>
 kCond v8 (
 J3 [] s) (
 J1 [] s)) [(.int .i64 0)] s
theorem F23_ok (f_0 : Value) (s : AS) (k : Value → AS → Prop) : denFn PG [] 23 [f_0] s k = F23 f_0 s k := by kernel_rfl
theorem f23 {f_0 : Value} {s : AS} {k : Value → AS → Prop} (h : F23 f_0 s k) : kCall PG 23 [f_0] s k := fn_by (F23_ok f_0 s k) h
def F25 (v_0 : Value) (s : AS) (k : Value → AS → Prop) : Prop :=
 kJoin (fun _ s =>
 kNck v_0 fun v6 =>
 kFld 2 v6 fun v7 =>
 kLd s v7 fun v8 =>
 kCall PG 51 [v8] s fun v9 s =>
 kCall PG 50 [v9, (.func (.func 52) #[] #[])] s fun v10 s =>
 k v10 s) fun J1 =>
 kEq 0 false v_0 (.pointer none) fun v4 =>
 kCond v4 (
 k (.slice none 0 0) s) (
 J1 [] s)
theorem F25_ok (v_0 : Value) (s : AS) (k : Value → AS → Prop) : denFn PG [] 25 [v_0] s k = F25 v_0 s k := by kernel_rfl
theorem f25 {v_0 : Value} {s : AS} {k : Value → AS → Prop} (h : F25 v_0 s k) : kCall PG 25 [v_0] s k := fn_by (F25_ok v_0 s k) h
def F30 (v_0 : Value) (s : AS) (k : Value → AS → Prop) : Prop :=
 kJoin (fun _ s =>
 kNck v_0 fun v6 =>
 kFld 0 v6 fun v7 =>
 kFld 1 v7 fun v8 =>
 kLd s v8 fun v9 =>
 kCall PG 40 [v9] s fun v10 s =>
 k v10 s) fun J1 =>
 kEq 0 false v_0 (.pointer none) fun v4 =>
 kCond v4 (
 k (.slice none 0 0) s) (
 J1 [] s)
theorem F30_ok (v_0 : Value) (s : AS) (k : Value → AS → Prop) : denFn PG [] 30 [v_0] s k = F30 v_0 s k := by kernel_rfl
theorem f30 {v_0 : Value} {s : AS} {k : Value → AS → Prop} (h : F30 v_0 s k) : kCall PG 30 [v_0] s k := fn_by (F30_ok v_0 s k) h
def F34 (v_0 : Value) (s : AS) (k : Value → AS → Prop) : Prop :=
 kJoin (fun _ s =>
 kNck v_0 fun v7 =>
 kLdN s 4 v7 fun v8 =>
 kNew s [(.string (bs [])), (.slice none 0 0), (.map none), (.int .i64 0)] fun out_3 s =>
 kSt s 4 out_3 v8 fun s =>
 kNck v_0 fun v10 =>
 kFld 0 v10 fun v11 =>
 kFld 1 v11 fun v12 =>
 kLd s v12 fun v13 =>
 kCall PG 40 [v13] s fun v14 s =>
 kFld 0 out_3 fun v15 =>
 kFld 1 v15 fun v16 =>
 kSt s 1 v16 v14 fun s =>
 kNck v_0 fun v18 =>
 kFld 2 v18 fun v19 =>
 kLd s v19 fun v20 =>
 kCall PG 63 [v20] s fun v21 s =>
 kFld 2 out_3 fun v22 =>
 kSt s 1 v22 v21 fun s =>
 k out_3 s) fun J1 =>
 kEq 0 false v_0 (.pointer none) fun v5 =>
 kCond v5 (
 k (.pointer none) s) (
 J1 [] s)
theorem F34_ok (v_0 : Value) (s : AS) (k : Value → AS → Prop) : denFn PG [] 34 [v_0] s k = F34 v_0 s k := by kernel_rfl
theorem f34 {v_0 : Value} {s : AS} {k : Value → AS → Prop} (h : F34 v_0 s k) : kCall PG 34 [v_0] s k := fn_by (F34_ok v_0 s k) h
def F35 (x_0 w_1 inner_2 : Value) (s : AS) (k : Value → AS → Prop) : Prop :=
 kJoin (fun xs s =>
 un1 xs fun out_7 =>
 k out_7 s) fun J1 =>
 kLen false w_1 fun v11 =>
 kLoop (fun again2 xs s =>
 un2 xs fun out_7 v12 =>
 kBin .lss v12 v11 fun v13 =>
 kJoin (fun _ s =>
 kJoin (fun xs s =>
 un1 xs fun out_7 =>
 kBin .add v12 (.int .i64 1) fun v97 =>
 again2 [out_7, v97] s) fun J4 =>
 kIdx 6 w_1 v12 fun v14 =>
 kLdN s 6 v14 fun v15 =>
 kNew s [(.int .i64 0), (.string (bs [])), (.bool false), (.int .i64 0), (.bool false), (.slice none 0 0)] fun p_9 s =>
 kSt s 6 p_9 v15 fun s =>
 kJoin (fun _ s =>
 kFld 0 p_9 fun v18 =>
 kLd s v18 fun v19 =>
 kBin .eql v19 (.int .i64 1) fun v21 =>
 kCond v21 (
 kFld 1 p_9 fun v23 =>
 kLd s v23 fun v24 =>
 kFld 2 p_9 fun v25 =>
 kLd s v25 fun v26 =>
 kGrd inner_2 true (fun k =>
 kFld 2 p_9 fun v29 =>
 kLd s v29 fun v30 =>
 kUn .not v30 fun v31 =>
 k [v31] s) [undef] s fun xs s =>
 un1 xs fun v31 =>
 kPick inner_2 v31 (.bool false) fun v32 =>
 kBuild [(.string (bs [])), (.bool false), (.bool false), (.bool false)] [(0, 1, v24), (1, 1, v26), (2, 1, v32)] fun v33 =>
 kBsl s 1 [(.string (bs [])), (.bool false), (.bool false), (.bool false)] [(0, 4, v33)] fun v34 s =>
 kApp PG 82 82 out_7 v34 s fun v35 s =>
 J4 [v35] s) (
 kBin .eql v19 (.int .i64 3) fun v37 =>
 kCond v37 (
 kJoin (fun _ s =>
 kNck x_0 fun v58 =>
 kFld 1 v58 fun v59 =>
 kNck x_0 fun v62 =>
 kFld 2 v62 fun v63 =>
 kLd s v59 fun v60 =>
 kLd s v63 fun v64 =>
 kIdx 1 v60 v64 fun v65 =>
 kLd s v65 fun v66 =>
 kLdN s 6 p_9 fun v68 =>
 kCall PG 65 [v66, (.string (bs [10]))] s fun v67 s =>
 kChkN s 6 p_9 v68 (
 kCall PG 64 [v67, v68] s fun v69 s =>
 kBsl s 1 [(.string (bs [])), (.bool false), (.bool false), (.bool false)] [(0, 4, v69)] fun v70 s =>
 kApp PG 82 82 out_7 v70 s fun v71 s =>
 kNck x_0 fun v73 =>
 kFld 2 v73 fun v74 =>
 kLd s v74 fun v75 =>
 kBin .add v75 (.int .i64 1) fun v76 =>
 kNck x_0 fun v77 =>
 kFld 2 v77 fun v78 =>
 kSt s 1 v78 v76 fun s =>
 J4 [v71] s)) fun J6 =>
 kNck x_0 fun v39 =>
 kFld 2 v39 fun v40 =>
 kNck x_0 fun v43 =>
 kFld 1 v43 fun v44 =>
 kLd s v40 fun v41 =>
 kLd s v44 fun v45 =>
 kLen false v45 fun v46 =>
 kBin .eql v41 v46 fun v47 =>
 kCond v47 (
 kFld 1 p_9 fun v50 =>
 kNck x_0 fun v52 =>
 kFld 4 v52 fun v53 =>
 kLd s v50 fun v51 =>
 kSt s 1 v53 (.bool true) fun s =>
 kChk s v50 v51 (
 kNck x_0 fun v54 =>
 kFld 5 v54 fun v55 =>
 kSt s 1 v55 v51 fun s =>
 k (.slice none 0 0) s)) (
 J6 [] s)) (
 kBin .eql v19 (.int .i64 4) fun v80 =>
 kCond v80 (
 kFld 1 p_9 fun v83 =>
 kLd s v83 fun v84 =>
 kLdN s 6 p_9 fun v86 =>
 kCall PG 66 [x_0, v84] s fun v85 s =>
 kChkN s 6 p_9 v86 (
 kCall PG 64 [v85, v86] s fun v87 s =>
 kBsl s 1 [(.string (bs [])), (.bool false), (.bool false), (.bool false)] [(0, 4, v87)] fun v88 s =>
 kApp PG 82 82 out_7 v88 s fun v89 s =>
 J4 [v89] s)) (
 kBin .eql v19 (.int .i64 2) fun v91 =>
 kCond v91 (
 kLdN s 6 p_9 fun v94 =>
 kCall PG 67 [x_0, v94] s fun v95 s =>
 kApp PG 82 82 out_7 v95 s fun v96 s =>
 J4 [v96] s) (
 J4 [out_7] s))))) fun J5 =>
 kCall PG 36 [x_0] s fun v17 s =>
 kCond v17 (
 k (.slice none 0 0) s) (
 J5 [] s)) fun J3 =>
 kCond v13 (
 J3 [] s) (
 J1 [out_7] s)) [(.slice none 0 0), (.int .i64 0)] s
theorem F35_ok (x_0 w_1 inner_2 : Value) (s : AS) (k : Value → AS → Prop) : denFn PG [(11, (.go 0 (.go 1 (.go 2 (.go 4 (.go 5 (.go 6 (.go 3 (.go 7 (.go 8 (.go 9 .done))))))))))), (12, (.go 0 (.go 1 (.go 2 (.go 4 (.go 5 (.go 3 (.go 6 (.go 7 (.go 8 (.go 9 .done))))))))))), (14, (.go 0 (.go 1 (.go 2 (.go 3 (.go 5 (.go 6 (.go 7 (.go 4 (.go 8 (.go 9 (.go 10 (.go 12 (.go 11 (.go 13 (.go 14 (.go 15 (.go 16 .done)))))))))))))))))), (17, (.go 0 (.go 1 (.go 2 (.go 3 (.go 5 (.go 4 (.go 6 (.go 7 (.go 8 (.go 9 .done)))))))))))] 35 [x_0, w_1, inner_2] s k = F35 x_0 w_1 inner_2 s k := by kernel_rfl
theorem f35 {x_0 w_1 inner_2 : Value} {s : AS} {k : Value → AS → Prop} (h : F35 x_0 w_1 inner_2 s k) : kCall PG 35 [x_0, w_1, inner_2] s k := fn_by (F35_ok x_0 w_1 inner_2 s k) h
def F36 (x_0 : Value) (s : AS) (k : Value → AS → Prop) : Prop :=
 kNck x_0 fun v4 =>
 kFld 3 v4 fun v5 =>
 kLd s v5 fun v6 =>
 kBin .neq v6 (.int .i64 0) fun v7 =>
 kGrd v7 false (fun k =>
 kNck x_0 fun v10 =>
 kFld 4 v10 fun v11 =>
 kLd s v11 fun v12 =>
 k [v12] s) [undef] s fun xs s =>
 un1 xs fun v12 =>
 kPick v7 (.bool true) v12 fun v13 =>
 k v13 s
theorem F36_ok (x_0 : Value) (s : AS) (k : Value → AS → Prop) : denFn PG [] 36 [x_0] s k = F36 x_0 s k := by kernel_rfl
theorem f36 {x_0 : Value} {s : AS} {k : Value → AS → Prop} (h : F36 x_0 s k) : kCall PG 36 [x_0] s k := fn_by (F36_ok x_0 s k) h
def F37 (l_0 ifs_1 : Value) (s : AS) (k : Value → AS → Prop) : Prop :=
 kNew s [(.slice none 0 0)] fun out_5 s =>
 kNew s [(.pointer none)] fun now_6 s =>
 kNew s [(.bool false)] fun mark_7 s =>
 kSt s 1 mark_7 (.bool false) fun s =>
 kJoin (fun _ s =>
 kJoin (fun _ s =>
 kLd s out_5 fun v108 =>
 k v108 s) fun J2 =>
 kLd s now_6 fun v104 =>
 kEq 0 true v104 (.pointer none) fun v105 =>
 kCond v105 (
 kCallv PG (.func (.func 69) #[] #[out_5, now_6]) [] s fun v107 s =>
 J2 [] s) (
 J2 [] s)) fun J1 =>
 kLen false l_0 fun v18 =>
 kLoop (fun again3 xs s =>
 un1 xs fun v19 =>
 kBin .lss v19 v18 fun v20 =>
 kJoin (fun _ s =>
 kJoin (fun _ s =>
 kBin .add v19 (.int .i64 1) fun v103 =>
 again3 [v103] s) fun J5 =>
 kIdx 4 l_0 v19 fun v21 =>
 kLdN s 4 v21 fun v22 =>
 kNew s [(.string (bs [])), (.bool false), (.bool false), (.bool false)] fun p_11 s =>
 kSt s 4 p_11 v22 fun s =>
 kJoin (fun _ s =>
 kFld 0 p_11 fun v50 =>
 kLd s v50 fun v51 =>
 kLen true v51 fun v52 =>
 kLoop (fun again7 xs s =>
 un1 xs fun v53 =>
 kBin .lss v53 v52 fun v54 =>
 kJoin (fun _ s =>
 kJoin (fun _ s =>
 kBin .add v53 (.int .i64 1) fun v102 =>
 again7 [v102] s) fun J9 =>
 kFld 0 p_11 fun v56 =>
 kLd s v56 fun v57 =>
 kIxS v57 v53 fun v59 =>
 kCall PG 72 [ifs_1, v59] s fun v62 s =>
 kBin .geq v62 (.int .i64 0) fun v63 =>
 kGrd v63 true (fun k =>
 kBin .eql v59 (.int .u8 32) fun v77 =>
 k [v77] s) [undef] s fun xs s =>
 un1 xs fun v78 =>
 kGrd v78 false (fun k =>
 kBin .eql v59 (.int .u8 9) fun v80 =>
 k [v80] s) [undef] s fun xs s =>
 un1 xs fun v80 =>
 kGrd v63 true (fun k =>
 kPick v78 (.bool true) v80 fun v81 =>
 k [v81] s) [undef] s fun xs s =>
 un1 xs fun v82 =>
 kGrd v82 false (fun k =>
 kBin .eql v59 (.int .u8 10) fun v84 =>
 k [v84] s) [undef] s fun xs s =>
 un1 xs fun v84 =>
 kGrd v63 true (fun k =>
 kPick v82 (.bool true) v84 fun v85 =>
 k [v85] s) [undef] s fun xs s =>
 un1 xs fun v85 =>
 kPick v63 v85 (.bool false) fun v86 =>
 kCond v86 (
 kLd s now_6 fun v87 =>
 kEq 0 true v87 (.pointer none) fun v88 =>
 kCond v88 (
 kCallv PG (.func (.func 69) #[] #[out_5, now_6]) [] s fun v90 s =>
 kSt s 1 mark_7 (.bool true) fun s =>
 J9 [] s) (
 J9 [] s)) (
 kGrd v63 true (fun k =>
 kLd s mark_7 fun v94 =>
 k [v94] s) [undef] s fun xs s =>
 un1 xs fun v94 =>
 kPick v63 v94 (.bool false) fun v95 =>
 kCond v95 (
 kSt s 1 mark_7 (.bool false) fun s =>
 J9 [] s) (
 kCond v63 (
 kCallv PG (.func (.func 68) #[] #[now_6, mark_7]) [] s fun v99 s =>
 kCallv PG (.func (.func 69) #[] #[out_5, now_6]) [] s fun v101 s =>
 J9 [] s) (
 kFld 0 p_11 fun v66 =>
 kBin .add v53 (.int .i64 1) fun v70 =>
 kLd s v66 fun v67 =>
 kSubS v67 (some v53) (some v70) fun v71 =>
 kCallv PG (.func (.func 68) #[] #[now_6, mark_7]) [] s fun v65 s =>
 kChk s v66 v67 (
 kCall PG 71 [v65, v71, (.bool false)] s fun v72 s =>
 J9 [] s))))) fun J8 =>
 kCond v54 (
 J8 [] s) (
 J5 [] s)) [(.int .i64 0)] s) fun J6 =>
 kFld 3 p_11 fun v24 =>
 kLd s v24 fun v25 =>
 kCond v25 (
 kJoin (fun _ s =>
 kSt s 1 mark_7 (.bool false) fun s =>
 J5 [] s) fun J10 =>
 kLd s now_6 fun v26 =>
 kEq 0 true v26 (.pointer none) fun v27 =>
 kCond v27 (
 kCallv PG (.func (.func 69) #[] #[out_5, now_6]) [] s fun v29 s =>
 J10 [] s) (
 J10 [] s)) (
 kFld 1 p_11 fun v31 =>
 kLd s v31 fun v32 =>
 kCond v32 (
 kFld 0 p_11 fun v35 =>
 kLd s v35 fun v36 =>
 kCallv PG (.func (.func 68) #[] #[now_6, mark_7]) [] s fun v34 s =>
 kChk s v35 v36 (
 kCall PG 71 [v34, v36, (.bool true)] s fun v37 s =>
 J5 [] s)) (
 kFld 2 p_11 fun v39 =>
 kLd s v39 fun v40 =>
 kUn .not v40 fun v41 =>
 kCond v41 (
 kFld 0 p_11 fun v42 =>
 kLd s v42 fun v43 =>
 kBin .neq v43 (.string (bs [])) fun v44 =>
 kCond v44 (
 kFld 0 p_11 fun v47 =>
 kLd s v47 fun v48 =>
 kCallv PG (.func (.func 68) #[] #[now_6, mark_7]) [] s fun v46 s =>
 kChk s v47 v48 (
 kCall PG 71 [v46, v48, (.bool false)] s fun v49 s =>
 J5 [] s)) (
 J5 [] s)) (
 J6 [] s)))) fun J4 =>
 kCond v20 (
 J4 [] s) (
 J1 [] s)) [(.int .i64 0)] s
theorem F37_ok (l_0 ifs_1 : Value) (s : AS) (k : Value → AS → Prop) : denFn PG [(14, (.go 0 (.go 2 (.go 3 (.go 1 (.go 4 .done)))))), (17, (.go 0 (.go 2 (.go 3 (.go 1 (.go 4 .done)))))), (23, (.go 0 (.go 2 (.go 4 (.go 5 (.go 6 (.go 3 (.go 7 (.go 1 (.go 8 .done))))))))))] 37 [l_0, ifs_1] s k = F37 l_0 ifs_1 s k := by kernel_rfl
theorem f37 {l_0 ifs_1 : Value} {s : AS} {k : Value → AS → Prop} (h : F37 l_0 ifs_1 s k) : kCall PG 37 [l_0, ifs_1] s k := fn_by (F37_ok l_0 ifs_1 s k) h
def F38 (x_0 : Value) (s : AS) (k : Value → AS → Prop) : Prop :=
 kJoin (fun _ s =>
 k (.string (bs [32, 9, 10])) s) fun J1 =>
 kNck x_0 fun v7 =>
 kFld 0 v7 fun v8 =>
 kLd s v8 fun v9 =>
 kCall PG 21 [v9, (.string (bs [73, 70, 83]))] s fun v10 s =>
 kExt 0 v10 fun v11 =>
 kExt 1 v10 fun v12 =>
 kCond v12 (
 k v11 s) (
 J1 [] s)
theorem F38_ok (x_0 : Value) (s : AS) (k : Value → AS → Prop) : denFn PG [] 38 [x_0] s k = F38 x_0 s k := by kernel_rfl
theorem f38 {x_0 : Value} {s : AS} {k : Value → AS → Prop} (h : F38 x_0 s k) : kCall PG 38 [x_0] s k := fn_by (F38_ok x_0 s k) h
def F39 (x_0 fields_1 : Value) (s : AS) (k : Value → AS → Prop) : Prop :=
 kNew s [(.slice none 0 0), (.pointer none), (.bool false), (.string (bs [])), (.int .i64 0), (.string (bs []))] fun v4 s =>
 kJoin (fun _ s =>
 kNck x_0 fun v37 =>
 kFld 0 v37 fun v38 =>
 kNck x_0 fun v41 =>
 kFld 2 v41 fun v42 =>
 kLd s v38 fun v39 =>
 kLd s v42 fun v43 =>
 kBuild [(.slice none 0 0), (.pointer none), (.bool false), (.string (bs [])), (.int .i64 0), (.string (bs []))] [(0, 1, fields_1), (1, 1, v39), (4, 1, v43)] fun v44 =>
 kSt s 6 v4 v44 fun s =>
 kLdN s 6 v4 fun r0 =>
 k (.tuple #[r0, (.int .i64 0)]) s) fun J1 =>
 kNck x_0 fun v8 =>
 kFld 4 v8 fun v9 =>
 kLd s v9 fun v10 =>
 kCond v10 (
 kNck x_0 fun v12 =>
 kFld 5 v12 fun v13 =>
 kNck x_0 fun v16 =>
 kFld 2 v16 fun v17 =>
 kLd s v13 fun v14 =>
 kLd s v17 fun v18 =>
 kBuild [(.slice none 0 0), (.pointer none), (.bool false), (.string (bs [])), (.int .i64 0), (.string (bs []))] [(2, 1, (.bool true)), (3, 1, v14), (4, 1, v18)] fun v19 =>
 kSt s 6 v4 v19 fun s =>
 kLdN s 6 v4 fun r0 =>
 k (.tuple #[r0, (.int .i64 0)]) s) (
 kNck x_0 fun v22 =>
 kFld 3 v22 fun v23 =>
 kLd s v23 fun v24 =>
 kBin .neq v24 (.int .i64 0) fun v25 =>
 kCond v25 (
 kNck x_0 fun v27 =>
 kFld 6 v27 fun v28 =>
 kNck x_0 fun v32 =>
 kFld 3 v32 fun v33 =>
 kLd s v28 fun v29 =>
 kBuild [(.slice none 0 0), (.pointer none), (.bool false), (.string (bs [])), (.int .i64 0), (.string (bs []))] [(5, 1, v29)] fun v30 =>
 kLd s v33 fun v34 =>
 kSt s 6 v4 v30 fun s =>
 kChk s v33 v34 (
 kLdN s 6 v4 fun r0 =>
 k (.tuple #[r0, v34]) s)) (
 J1 [] s))
theorem F39_ok (x_0 fields_1 : Value) (s : AS) (k : Value → AS → Prop) : denFn PG [(2, (.go 0 (.go 1 (.go 2 (.go 4 (.go 5 (.go 6 (.go 3 (.go 7 (.go 8 (.go 9 (.go 10 .done)))))))))))), (4, (.go 0 (.go 1 (.go 2 (.go 5 (.go 6 (.go 7 (.go 3 (.go 4 (.go 8 (.go 9 (.go 10 .done)))))))))))), (5, (.go 0 (.go 1 (.go 2 (.go 3 (.go 5 (.go 6 (.go 7 (.go 4 (.go 8 (.go 9 (.go 10 (.go 11 .done)))))))))))))] 39 [x_0, fields_1] s k = F39 x_0 fields_1 s k := by kernel_rfl
theorem f39 {x_0 fields_1 : Value} {s : AS} {k : Value → AS → Prop} (h : F39 x_0 fields_1 s k) : kCall PG 39 [x_0, fields_1] s k := fn_by (F39_ok x_0 fields_1 s k) h
def F40 (s_0 : Value) (s : AS) (k : Value → AS → Prop) : Prop :=
 kJoin (fun _ s =>
 kBsl s 0 [] [] fun v5 s =>
 kApp PG 22 22 v5 s_0 s fun v7 s =>
 k v7 s) fun J1 =>
 kEq 1 false s_0 (.slice none 0 0) fun v4 =>
 kCond v4 (
 k (.slice none 0 0) s) (
 J1 [] s)
theorem F40_ok (s_0 : Value) (s : AS) (k : Value → AS → Prop) : denFn PG [] 40 [s_0] s k = F40 s_0 s k := by kernel_rfl
theorem f40 {s_0 : Value} {s : AS} {k : Value → AS → Prop} (h : F40 s_0 s k) : kCall PG 40 [s_0] s k := fn_by (F40_ok s_0 s k) h
def F41 (v_0 name_1 writes_2 how_3 : Value) (s : AS) (k : Value → AS → Prop) : Prop :=
 kJoin (fun _ s =>
 kNck v_0 fun v29 =>
 kFld 2 v29 fun v30 =>
 kLd s v30 fun v31 =>
 kGen PG (.lk 90 false) [v31, name_1] s fun v33 s =>
 kNew s [(.string (bs [])), (.string (bs [])), (.bool false), (.bool false), (.bool false)] fun x_9 s =>
 kSt s 5 x_9 v33 fun s =>
 kFld 0 x_9 fun v35 =>
 kSt s 1 v35 name_1 fun s =>
 kCallv PG how_3 [x_9] s fun v37 s =>
 kNck v_0 fun v39 =>
 kFld 2 v39 fun v40 =>
 kLd s v40 fun v41 =>
 kLdN s 5 x_9 fun v43 =>
 kGen PG (.mup 90) [v41, name_1, v43] s fun _ s =>
 kJoin (fun _ s =>
 k (.int .i64 0) s) fun J2 =>
 kFld 2 x_9 fun v44 =>
 kLd s v44 fun v45 =>
 kUn .not v45 fun v46 =>
 kGrd v46 true (fun k =>
 kFld 3 x_9 fun v48 =>
 kLd s v48 fun v49 =>
 kUn .not v49 fun v50 =>
 k [v50] s) [undef] s fun xs s =>
 un1 xs fun v50 =>
 kPick v46 v50 (.bool false) fun v51 =>
 kGrd v51 true (fun k =>
 kFld 4 x_9 fun v53 =>
 kLd s v53 fun v54 =>
 kUn .not v54 fun v55 =>
 k [v55] s) [undef] s fun xs s =>
 un1 xs fun v55 =>
 kPick v51 v55 (.bool false) fun v56 =>
 kCond v56 (
 kNck v_0 fun v58 =>
 kFld 2 v58 fun v59 =>
 kLd s v59 fun v60 =>
 kGen PG (.blt .delete [90, 9] 0) [v60, name_1] s fun _ s =>
 J2 [] s) (
 J2 [] s)) fun J1 =>
 kEq 0 false v_0 (.pointer none) fun v12 =>
 kCond v12 (
 k (.int .i64 2) s) (
 kCall PG 73 [name_1] s fun v15 s =>
 kUn .not v15 fun v16 =>
 kCond v16 (
 k (.int .i64 16) s) (
 kGrd writes_2 true (fun k =>
 kNck v_0 fun v21 =>
 kFld 2 v21 fun v22 =>
 kLd s v22 fun v23 =>
 kGen PG (.lk 90 false) [v23, name_1] s fun v25 s =>
 kGet 4 v25 fun v26 =>
 k [v26] s) [undef] s fun xs s =>
 un1 xs fun v26 =>
 kPick writes_2 v26 (.bool false) fun v27 =>
 kCond v27 (
 k (.int .i64 15) s) (
 J1 [] s)))
theorem F41_ok (v_0 name_1 writes_2 how_3 : Value) (s : AS) (k : Value → AS → Prop) : denFn PG [(10, (.go 0 (.go 1 (.go 2 (.go 4 (.go 3 (.go 5 (.go 6 .done))))))))] 41 [v_0, name_1, writes_2, how_3] s k = F41 v_0 name_1 writes_2 how_3 s k := by kernel_rfl
theorem f41 {v_0 name_1 writes_2 how_3 : Value} {s : AS} {k : Value → AS → Prop} (h : F41 v_0 name_1 writes_2 how_3 s k) : kCall PG 41 [v_0, name_1, writes_2, how_3] s k := fn_by (F41_ok v_0 name_1 writes_2 how_3 s k) h
def F42 (x_0 v1 : Value) (s : AS) (k : Value → AS → Prop) : Prop :=
 kLd s v1 fun v5 =>
 kNck x_0 fun v6 =>
 kFld 1 v6 fun v7 =>
 kSt s 1 v7 v5 fun s =>
 kNck x_0 fun v8 =>
 kFld 2 v8 fun v9 =>
 kSt s 1 v9 (.bool true) fun s =>
 k undef s
theorem F42_ok (x_0 v1 : Value) (s : AS) (k : Value → AS → Prop) : denFn PG [] 42 [x_0, v1] s k = F42 x_0 v1 s k := by kernel_rfl
theorem f42 {x_0 v1 : Value} {s : AS} {k : Value → AS → Prop} (h : F42 x_0 v1 s k) : kCall PG 42 [x_0, v1] s k := fn_by (F42_ok x_0 v1 s k) h
theorem k42_ok : okFn PG 42 = true := by kernel_rfl
def F43 (x_0 w_1 : Value) (s : AS) (k : Value → AS → Prop) : Prop :=
 kNew s [(.string (bs [])), (.slice none 0 0)] fun v4 s =>
 kCall PG 35 [x_0, w_1, (.bool false)] s fun v7 s =>
 kCall PG 74 [v7] s fun v8 s =>
 kSt s 2 v4 v8 fun s =>
 kLdN s 2 v4 fun r0 =>
 k r0 s
theorem F43_ok (x_0 w_1 : Value) (s : AS) (k : Value → AS → Prop) : denFn PG [] 43 [x_0, w_1] s k = F43 x_0 w_1 s k := by kernel_rfl
theorem f43 {x_0 w_1 : Value} {s : AS} {k : Value → AS → Prop} (h : F43 x_0 w_1 s k) : kCall PG 43 [x_0, w_1] s k := fn_by (F43_ok x_0 w_1 s k) h
def F44 (p_0 : Value) (s : AS) (k : Value → AS → Prop) : Prop :=
 kNew s (cellsV p_0) fun p_1 s =>
 k (.func (.func 75) #[] #[p_1]) s
theorem F44_ok (p_0 : Value) (s : AS) (k : Value → AS → Prop) : denFn PG [] 44 [p_0] s k = F44 p_0 s k := by kernel_rfl
theorem f44 {p_0 : Value} {s : AS} {k : Value → AS → Prop} (h : F44 p_0 s k) : kCall PG 44 [p_0] s k := fn_by (F44_ok p_0 s k) h
def F45 (l_0 s_1 : Value) (s : AS) (k : Value → AS → Prop) : Prop :=
 kLen true s_1 fun v12 =>
 kBin .add v12 (.int .i64 1) fun v13 =>
 kMks s 1 1 [(.bool false)] v13 v13 fun v14 s =>
 kIdx 1 v14 (.int .i64 0) fun v16 =>
 kSt s 1 v16 (.bool true) fun s =>
 kJoin (fun xs s =>
 un1 xs fun now_5 =>
 k now_5 s) fun J1 =>
 kLen false l_0 fun v18 =>
 kLoop (fun again2 xs s =>
 un2 xs fun now_5 v19 =>
 kBin .lss v19 v18 fun v20 =>
 kJoin (fun _ s =>
 kJoin (fun xs s =>
 un1 xs fun now_5 =>
 kBin .add v19 (.int .i64 1) fun v75 =>
 again2 [now_5, v75] s) fun J4 =>
 kIdx 4 l_0 v19 fun v21 =>
 kLdN s 4 v21 fun v22 =>
 kNew s [(.int .i64 0), (.int .u8 0), (.bool false), (.slice none 0 0)] fun t_7 s =>
 kSt s 4 t_7 v22 fun s =>
 kLen true s_1 fun v24 =>
 kBin .add v24 (.int .i64 1) fun v25 =>
 kMks s 1 1 [(.bool false)] v25 v25 fun v26 s =>
 kJoin (fun _ s =>
 J4 [v26] s) fun J5 =>
 kFld 0 t_7 fun v27 =>
 kLd s v27 fun v28 =>
 kBin .eql v28 (.int .i64 3) fun v29 =>
 kCond v29 (
 kCpy PG 38 38 v26 now_5 s fun v32 s =>
 kLoop (fun again6 xs s =>
 un1 xs fun i_9 =>
 kJoin (fun _ s =>
 kJoin (fun _ s =>
 kBin .add i_9 (.int .i64 1) fun v38 =>
 again6 [v38] s) fun J8 =>
 kIdx 1 v26 i_9 fun v43 =>
 kLd s v43 fun v44 =>
 kGrd v44 false (fun k =>
 kBin .sub i_9 (.int .i64 1) fun v48 =>
 kIdx 1 v26 v48 fun v49 =>
 kLd s v49 fun v50 =>
 k [v50] s) [undef] s fun xs s =>
 un1 xs fun v50 =>
 kPick v44 (.bool true) v50 fun v51 =>
 kIdx 1 v26 i_9 fun v52 =>
 kSt s 1 v52 v51 fun s =>
 J8 [] s) fun J7 =>
 kLen true s_1 fun v35 =>
 kBin .leq i_9 v35 fun v36 =>
 kCond v36 (
 J7 [] s) (
 J5 [] s)) [(.int .i64 1)] s) (
 kLen true s_1 fun v54 =>
 kLoop (fun again9 xs s =>
 un1 xs fun v55 =>
 kBin .lss v55 v54 fun v56 =>
 kJoin (fun _ s =>
 kJoin (fun _ s =>
 kBin .add v55 (.int .i64 1) fun v73 =>
 again9 [v73] s) fun J11 =>
 kBin .add v55 (.int .i64 1) fun v60 =>
 kIdx 1 now_5 v55 fun v63 =>
 kLd s v63 fun v64 =>
 kGrd v64 true (fun k =>
 kIxS s_1 v55 fun v69 =>
 kLdN s 4 t_7 fun v66 =>
 kCall PG 78 [v66, v69] s fun v70 s =>
 k [v70] s) [undef] s fun xs s =>
 un1 xs fun v70 =>
 kPick v64 v70 (.bool false) fun v71 =>
 kIdx 1 v26 v60 fun v72 =>
 kSt s 1 v72 v71 fun s =>
 J11 [] s) fun J10 =>
 kCond v56 (
 J10 [] s) (
 J5 [] s)) [(.int .i64 0)] s)) fun J3 =>
 kCond v20 (
 J3 [] s) (
 J1 [now_5] s)) [v14, (.int .i64 0)] s
theorem F45_ok (l_0 s_1 : Value) (s : AS) (k : Value → AS → Prop) : denFn PG [(16, (.go 0 (.go 1 (.go 2 (.go 3 (.go 4 (.go 5 (.go 6 (.go 7 (.go 9 (.go 10 (.go 11 (.go 8 (.go 12 (.go 13 (.go 14 (.go 15 .done)))))))))))))))))] 45 [l_0, s_1] s k = F45 l_0 s_1 s k := by kernel_rfl
theorem f45 {l_0 s_1 : Value} {s : AS} {k : Value → AS → Prop} (h : F45 l_0 s_1 s k) : kCall PG 45 [l_0, s_1] s k := fn_by (F45_ok l_0 s_1 s k) h
def F46 (w_0 : Value) (s : AS) (k : Value → AS → Prop) : Prop :=
 kJoin (fun xs s =>
 un1 xs fun n_3 =>
 k n_3 s) fun J1 =>
 kLoop (fun again2 xs s =>
 un2 xs fun n_3 i_4 =>
 kJoin (fun _ s =>
 kJoin (fun xs s =>
 un1 xs fun n_3 =>
 kBin .add i_4 (.int .i64 1) fun v14 =>
 again2 [n_3, v14] s) fun J4 =>
 kBin .add n_3 (.int .i64 1) fun v16 =>
 kIdx 6 w_0 i_4 fun v19 =>
 kFld 1 v19 fun v20 =>
 kIdx 6 w_0 i_4 fun v27 =>
 kFld 5 v27 fun v28 =>
 kLd s v20 fun v21 =>
 kLen true v21 fun v22 =>
 kMin v22 (.int .i64 1000) fun v23 =>
 kBin .add v16 v23 fun v24 =>
 kLd s v28 fun v29 =>
 kCall PG 46 [v29] s fun v30 s =>
 kChk s v20 v21 (
 kBin .add v24 v30 fun v31 =>
 J4 [v31] s)) fun J3 =>
 kLen false w_0 fun v7 =>
 kBin .lss i_4 v7 fun v8 =>
 kGrd v8 true (fun k =>
 kBin .leq n_3 (.int .i64 600) fun v11 =>
 k [v11] s) [undef] s fun xs s =>
 un1 xs fun v11 =>
 kPick v8 v11 (.bool false) fun v12 =>
 kCond v12 (
 J3 [] s) (
 J1 [n_3] s)) [(.int .i64 0), (.int .i64 0)] s
theorem F46_ok (w_0 : Value) (s : AS) (k : Value → AS → Prop) : denFn PG [(5, (.go 0 (.go 1 (.go 2 (.go 3 (.go 4 (.go 5 (.go 10 (.go 11 (.go 12 (.go 13 (.go 6 (.go 7 (.go 8 (.go 9 (.go 14 (.go 15 (.go 16 (.go 17 .done)))))))))))))))))))] 46 [w_0] s k = F46 w_0 s k := by kernel_rfl
theorem f46 {w_0 : Value} {s : AS} {k : Value → AS → Prop} (h : F46 w_0 s k) : kCall PG 46 [w_0] s k := fn_by (F46_ok w_0 s k) h
def F47 (v_0 name_1 value_2 : Value) (s : AS) (k : Value → AS → Prop) : Prop :=
 kJoin (fun _ s =>
 kCall PG 80 [v_0, name_1] s fun v13 s =>
 kNew s [(.string (bs [])), (.string (bs [])), (.bool false), (.bool false), (.bool false)] fun x_7 s =>
 kSt s 5 x_7 v13 fun s =>
 kJoin (fun _ s =>
 kFld 3 x_7 fun v19 =>
 kLd s v19 fun v20 =>
 kBuild [(.string (bs [])), (.string (bs [])), (.bool false), (.bool false), (.bool false)] [(0, 1, name_1), (1, 1, value_2), (2, 1, (.bool true)), (3, 1, v20)] fun v21 =>
 kCall PG 81 [v_0, v21] s fun v22 s =>
 k (.int .i64 0) s) fun J2 =>
 kFld 4 x_7 fun v14 =>
 kLd s v14 fun v15 =>
 kCond v15 (
 k (.int .i64 15) s) (
 J2 [] s)) fun J1 =>
 kCall PG 79 [name_1] s fun v9 s =>
 kUn .not v9 fun v10 =>
 kCond v10 (
 k (.int .i64 16) s) (
 J1 [] s)
theorem F47_ok (v_0 name_1 value_2 : Value) (s : AS) (k : Value → AS → Prop) : denFn PG [] 47 [v_0, name_1, value_2] s k = F47 v_0 name_1 value_2 s k := by kernel_rfl
theorem f47 {v_0 name_1 value_2 : Value} {s : AS} {k : Value → AS → Prop} (h : F47 v_0 name_1 value_2 s k) : kCall PG 47 [v_0, name_1, value_2] s k := fn_by (F47_ok v_0 name_1 value_2 s k) h
def F48 (v_0 name_1 : Value) (s : AS) (k : Value → AS → Prop) : Prop :=
 kCall PG 41 [v_0, name_1, (.bool false), (.func (.func 82) #[] #[])] s fun v7 s =>
 k v7 s
theorem F48_ok (v_0 name_1 : Value) (s : AS) (k : Value → AS → Prop) : denFn PG [] 48 [v_0, name_1] s k = F48 v_0 name_1 s k := by kernel_rfl
theorem f48 {v_0 name_1 : Value} {s : AS} {k : Value → AS → Prop} (h : F48 v_0 name_1 s k) : kCall PG 48 [v_0, name_1] s k := fn_by (F48_ok v_0 name_1 s k) h
def F49 (v_0 name_1 read_2 : Value) (s : AS) (k : Value → AS → Prop) : Prop :=
 kJoin (fun _ s =>
 kCall PG 80 [v_0, name_1] s fun v13 s =>
 kNew s [(.string (bs [])), (.string (bs [])), (.bool false), (.bool false), (.bool false)] fun x_7 s =>
 kSt s 5 x_7 v13 fun s =>
 kFld 0 x_7 fun v15 =>
 kSt s 1 v15 name_1 fun s =>
 kJoin (fun _ s =>
 kLdN s 5 x_7 fun v20 =>
 kCall PG 81 [v_0, v20] s fun v21 s =>
 k (.int .i64 0) s) fun J2 =>
 kCond read_2 (
 kFld 4 x_7 fun v17 =>
 kSt s 1 v17 (.bool true) fun s =>
 J2 [] s) (
 kFld 3 x_7 fun v18 =>
 kSt s 1 v18 (.bool true) fun s =>
 J2 [] s)) fun J1 =>
 kCall PG 79 [name_1] s fun v9 s =>
 kUn .not v9 fun v10 =>
 kCond v10 (
 k (.int .i64 16) s) (
 J1 [] s)
theorem F49_ok (v_0 name_1 read_2 : Value) (s : AS) (k : Value → AS → Prop) : denFn PG [] 49 [v_0, name_1, read_2] s k = F49 v_0 name_1 read_2 s k := by kernel_rfl
theorem f49 {v_0 name_1 read_2 : Value} {s : AS} {k : Value → AS → Prop} (h : F49 v_0 name_1 read_2 s k) : kCall PG 49 [v_0, name_1, read_2] s k := fn_by (F49_ok v_0 name_1 read_2 s k) h
def F50 (seq_0 cmp_1 : Value) (s : AS) (k : Value → AS → Prop) : Prop :=
 kCall PG 83 [seq_0] s fun v7 s =>
 kCall PG 84 [v7, cmp_1] s fun v10 s =>
 k v7 s
theorem F50_ok (seq_0 cmp_1 : Value) (s : AS) (k : Value → AS → Prop) : denFn PG [] 50 [seq_0, cmp_1] s k = F50 seq_0 cmp_1 s k := by kernel_rfl
theorem f50 {seq_0 cmp_1 : Value} {s : AS} {k : Value → AS → Prop} (h : F50 seq_0 cmp_1 s k) : kCall PG 50 [seq_0, cmp_1] s k := fn_by (F50_ok seq_0 cmp_1 s k) h
def F51 (m_0 : Value) (s : AS) (k : Value → AS → Prop) : Prop :=
 kNew s (cellsV m_0) fun m_1 s =>
 k (.func (.func 85) #[] #[m_1]) s
theorem F51_ok (m_0 : Value) (s : AS) (k : Value → AS → Prop) : denFn PG [] 51 [m_0] s k = F51 m_0 s k := by kernel_rfl
theorem f51 {m_0 : Value} {s : AS} {k : Value → AS → Prop} (h : F51 m_0 s k) : kCall PG 51 [m_0] s k := fn_by (F51_ok m_0 s k) h
def F61 (v_0 : Value) (s : AS) (k : Value → AS → Prop) : Prop :=
 kJoin (fun _ s =>
 kNck v_0 fun v6 =>
 kFld 3 v6 fun v7 =>
 kLd s v7 fun v8 =>
 k v8 s) fun J1 =>
 kEq 0 false v_0 (.pointer none) fun v4 =>
 kCond v4 (
 k (.int .i64 0) s) (
 J1 [] s)
theorem F61_ok (v_0 : Value) (s : AS) (k : Value → AS → Prop) : denFn PG [] 61 [v_0] s k = F61 v_0 s k := by kernel_rfl
theorem f61 {v_0 : Value} {s : AS} {k : Value → AS → Prop} (h : F61 v_0 s k) : kCall PG 61 [v_0] s k := fn_by (F61_ok v_0 s k) h
def F63 (m_0 : Value) (s : AS) (k : Value → AS → Prop) : Prop :=
 kJoin (fun _ s =>
 kGen PG (.mki 90) [m_0] s fun v6 s =>
 kGen PG (.ext 96) [v6] s fun v7 s =>
 kGen PG (.tas 20 90 false) [v7] s fun v8 s =>
 k v8 s) fun J1 =>
 kEq 2 false m_0 (.map none) fun v4 =>
 kCond v4 (
 k (.map none) s) (
 J1 [] s)
theorem F63_ok (m_0 : Value) (s : AS) (k : Value → AS → Prop) : denFn PG [] 63 [m_0] s k = F63 m_0 s k := by kernel_rfl
theorem f63 {m_0 : Value} {s : AS} {k : Value → AS → Prop} (h : F63 m_0 s k) : kCall PG 63 [m_0] s k := fn_by (F63_ok m_0 s k) h
def F64 (s_0 p_1 : Value) (s : AS) (k : Value → AS → Prop) : Prop :=
 kNew s (cellsV p_1) fun p_3 s =>
 kNew s [(.string (bs [])), (.bool false), (.bool false), (.bool false)] fun v4 s =>
 kFld 2 p_3 fun v6 =>
 kLd s v6 fun v7 =>
 kFld 2 p_3 fun v8 =>
 kLd s v8 fun v9 =>
 kUn .not v9 fun v10 =>
 kBuild [(.string (bs [])), (.bool false), (.bool false), (.bool false)] [(0, 1, s_0), (1, 1, v7), (2, 1, v10)] fun v11 =>
 kSt s 4 v4 v11 fun s =>
 kLdN s 4 v4 fun r0 =>
 k r0 s
theorem F64_ok (s_0 p_1 : Value) (s : AS) (k : Value → AS → Prop) : denFn PG [] 64 [s_0, p_1] s k = F64 s_0 p_1 s k := by kernel_rfl
theorem f64 {s_0 p_1 : Value} {s : AS} {k : Value → AS → Prop} (h : F64 s_0 p_1 s k) : kCall PG 64 [s_0, p_1] s k := fn_by (F64_ok s_0 p_1 s k) h
def F65 (s_0 cutset_1 : Value) (s : AS) (k : Value → AS → Prop) : Prop :=
 kJoin (fun _ s =>
 kJoin (fun _ s =>
 kJoin (fun _ s =>
 kCall PG 100 [s_0, cutset_1] s fun v36 s =>
 k v36 s) fun J3 =>
 kCall PG 98 [cutset_1] s fun v28 s =>
 kExt 0 v28 fun v29 =>
 kExt 1 v28 fun v30 =>
 kNew s (List.replicate 256 (.bool false)) fun as_5 s =>
 kSt s 256 as_5 v29 fun s =>
 kCond v30 (
 kCall PG 99 [s_0, as_5] s fun v33 s =>
 k v33 s) (
 J3 [] s)) fun J2 =>
 kLen true cutset_1 fun v15 =>
 kBin .eql v15 (.int .i64 1) fun v16 =>
 kGrd v16 true (fun k =>
 kIxS cutset_1 (.int .i64 0) fun v19 =>
 kBin .lss v19 (.int .u8 128) fun v20 =>
 k [v20] s) [undef] s fun xs s =>
 un1 xs fun v20 =>
 kPick v16 v20 (.bool false) fun v21 =>
 kCond v21 (
 kIxS cutset_1 (.int .i64 0) fun v24 =>
 kCall PG 97 [s_0, v24] s fun v25 s =>
 k v25 s) (
 J2 [] s)) fun J1 =>
 kBin .eql s_0 (.string (bs [])) fun v8 =>
 kGrd v8 false (fun k =>
 kBin .eql cutset_1 (.string (bs [])) fun v11 =>
 k [v11] s) [undef] s fun xs s =>
 un1 xs fun v11 =>
 kPick v8 (.bool true) v11 fun v12 =>
 kCond v12 (
 k s_0 s) (
 J1 [] s)
theorem F65_ok (s_0 cutset_1 : Value) (s : AS) (k : Value → AS → Prop) : denFn PG [] 65 [s_0, cutset_1] s k = F65 s_0 cutset_1 s k := by kernel_rfl
theorem f65 {s_0 cutset_1 : Value} {s : AS} {k : Value → AS → Prop} (h : F65 s_0 cutset_1 s k) : kCall PG 65 [s_0, cutset_1] s k := fn_by (F65_ok s_0 cutset_1 s k) h
def F66 (x_0 s_1 : Value) (s : AS) (k : Value → AS → Prop) : Prop :=
 kCall PG 101 [s_1] s fun v17 s =>
 kExt 0 v17 fun v18 =>
 kExt 1 v17 fun v19 =>
 kJoin (fun _ s =>
 kCall PG 43 [x_0, v18] s fun v28 s =>
 kGet 0 v28 fun v29 =>
 kJoin (fun _ s =>
 kJoin (fun xs s =>
 un1 xs fun pairs_8 =>
 kCall PG 102 [v29, pairs_8] s fun v56 s =>
 kExt 0 v56 fun v57 =>
 kExt 1 v56 fun v58 =>
 kExt 2 v56 fun v59 =>
 kJoin (fun xs s =>
 un1 xs fun e_6 =>
 kNck x_0 fun v80 =>
 kFld 3 v80 fun v81 =>
 kSt s 1 v81 e_6 fun s =>
 kCall PG 103 [v57] s fun v83 s =>
 k v83 s) fun J4 =>
 kLen false v58 fun v61 =>
 kLoop (fun again5 xs s =>
 un2 xs fun e_6 v62 =>
 kBin .lss v62 v61 fun v63 =>
 kJoin (fun _ s =>
 kJoin (fun xs s =>
 un1 xs fun e_6 =>
 kBin .add v62 (.int .i64 1) fun v77 =>
 again5 [e_6, v77] s) fun J7 =>
 kIdx 2 v58 v62 fun v64 =>
 kLdN s 2 v64 fun v65 =>
 kNew s [(.string (bs [])), (.string (bs []))] fun y_14 s =>
 kSt s 2 y_14 v65 fun s =>
 kBin .eql e_6 (.int .i64 0) fun v67 =>
 kCond v67 (
 kNck x_0 fun v69 =>
 kFld 0 v69 fun v70 =>
 kFld 0 y_14 fun v72 =>
 kFld 1 y_14 fun v74 =>
 kLd s v70 fun v71 =>
 kLd s v72 fun v73 =>
 kLd s v74 fun v75 =>
 kCall PG 14 [v71, v73, v75] s fun v76 s =>
 J7 [v76] s) (
 J7 [e_6] s)) fun J6 =>
 kCond v63 (
 J6 [] s) (
 J4 [e_6] s)) [v59, (.int .i64 0)] s) fun J3 =>
 kNck x_0 fun v33 =>
 kFld 0 v33 fun v34 =>
 kLd s v34 fun v35 =>
 kCall PG 25 [v35] s fun v36 s =>
 kLen false v36 fun v37 =>
 kLoop (fun again8 xs s =>
 un2 xs fun pairs_8 v38 =>
 kBin .lss v38 v37 fun v39 =>
 kJoin (fun _ s =>
 kJoin (fun xs s =>
 un1 xs fun pairs_8 =>
 kBin .add v38 (.int .i64 1) fun v52 =>
 again8 [pairs_8, v52] s) fun J10 =>
 kIdx 5 v36 v38 fun v40 =>
 kLdN s 5 v40 fun v41 =>
 kNew s [(.string (bs [])), (.string (bs [])), (.bool false), (.bool false), (.bool false)] fun y_10 s =>
 kSt s 5 y_10 v41 fun s =>
 kFld 2 y_10 fun v42 =>
 kLd s v42 fun v43 =>
 kCond v43 (
 kFld 0 y_10 fun v45 =>
 kLd s v45 fun v46 =>
 kFld 1 y_10 fun v47 =>
 kLd s v47 fun v48 =>
 kBuild [(.string (bs [])), (.string (bs []))] [(0, 1, v46), (1, 1, v48)] fun v49 =>
 kBsl s 1 [(.string (bs [])), (.string (bs []))] [(0, 2, v49)] fun v50 s =>
 kApp PG 180 180 pairs_8 v50 s fun v51 s =>
 J10 [v51] s) (
 J10 [pairs_8] s)) fun J9 =>
 kCond v39 (
 J9 [] s) (
 J3 [pairs_8] s)) [(.slice none 0 0), (.int .i64 0)] s) fun J2 =>
 kCall PG 36 [x_0] s fun v31 s =>
 kCond v31 (
 k (.string (bs [])) s) (
 J2 [] s)) fun J1 =>
 kBin .neq v19 (.int .i64 0) fun v21 =>
 kCond v21 (
 kNck x_0 fun v24 =>
 kFld 3 v24 fun v25 =>
 kSt s 1 v25 v19 fun s =>
 k (.string (bs [])) s) (
 J1 [] s)
theorem F66_ok (x_0 s_1 : Value) (s : AS) (k : Value → AS → Prop) : denFn PG [(20, (.go 0 (.go 1 (.go 2 (.go 4 (.go 6 (.go 3 (.go 5 (.go 7 (.go 8 (.go 9 .done)))))))))))] 66 [x_0, s_1] s k = F66 x_0 s_1 s k := by kernel_rfl
theorem f66 {x_0 s_1 : Value} {s : AS} {k : Value → AS → Prop} (h : F66 x_0 s_1 s k) : kCall PG 66 [x_0, s_1] s k := fn_by (F66_ok x_0 s_1 s k) h
def F67 (x_0 p_1 : Value) (s : AS) (k : Value → AS → Prop) : Prop :=
 kNew s (cellsV x_0) fun x_2 s =>
 kNew s (cellsV p_1) fun p_3 s =>
 kFld 1 p_3 fun v22 =>
 kLd s x_2 fun v18 =>
 kNck v18 fun v19 =>
 kFld 0 v19 fun v20 =>
 kLd s v20 fun v21 =>
 kLd s v22 fun v23 =>
 kCall PG 104 [v21, v23] s fun v24 s =>
 kExt 0 v24 fun v25 =>
 kExt 1 v24 fun v26 =>
 kBsl s 1 [(.string (bs []))] [(0, 1, v25)] fun v28 s =>
 kNew s [(.slice none 0 0)] fun values_7 s =>
 kSt s 1 values_7 v28 fun s =>
 kFld 1 p_3 fun v29 =>
 kLd s v29 fun v30 =>
 kBin .eql v30 (.string (bs [64])) fun v31 =>
 kGrd v31 false (fun k =>
 kFld 1 p_3 fun v33 =>
 kLd s v33 fun v34 =>
 kBin .eql v34 (.string (bs [42])) fun v35 =>
 k [v35] s) [undef] s fun xs s =>
 un1 xs fun v35 =>
 kPick v31 (.bool true) v35 fun v36 =>
 kJoin (fun _ s =>
 kGrd v26 true (fun k =>
 kFld 4 p_3 fun v45 =>
 kLd s v45 fun v46 =>
 kUn .not v46 fun v47 =>
 k [v47] s) [undef] s fun xs s =>
 un1 xs fun v48 =>
 kGrd v48 false (fun k =>
 kBin .neq v25 (.string (bs [])) fun v50 =>
 k [v50] s) [undef] s fun xs s =>
 un1 xs fun v50 =>
 kGrd v26 true (fun k =>
 kPick v48 (.bool true) v50 fun v51 =>
 k [v51] s) [undef] s fun xs s =>
 un1 xs fun v51 =>
 kPick v26 v51 (.bool false) fun v52 =>
 kJoin (fun _ s =>
 kLd s x_2 fun v161 =>
 kNck v161 fun v162 =>
 kFld 3 v162 fun v163 =>
 kSt s 1 v163 (.int .i64 1) fun s =>
 k (.slice none 0 0) s) fun J2 =>
 kFld 3 p_3 fun v55 =>
 kLd s v55 fun v56 =>
 kBin .eql v56 (.int .i64 0) fun v58 =>
 kCond v58 (
 kCallv PG (.func (.func 105) #[] #[x_2, p_3, values_7]) [] s fun v60 s =>
 k v60 s) (
 kBin .eql v56 (.int .i64 1) fun v62 =>
 kCond v62 (
 kLen true v25 fun v64 =>
 kJoin (fun xs s =>
 un1 xs fun n_12 =>
 kLdN s 6 p_3 fun v70 =>
 kCall PG 103 [n_12] s fun v69 s =>
 kChkN s 6 p_3 v70 (
 kCall PG 64 [v69, v70] s fun v71 s =>
 kBsl s 1 [(.string (bs [])), (.bool false), (.bool false), (.bool false)] [(0, 4, v71)] fun v72 s =>
 k v72 s)) fun J3 =>
 kCond v36 (
 kLd s values_7 fun v66 =>
 kLen false v66 fun v67 =>
 J3 [v67] s) (
 J3 [v64] s)) (
 kBin .eql v56 (.int .i64 5) fun v74 =>
 kCond v74 (
 kJoin (fun _ s =>
 kJoin (fun _ s =>
 k (.slice none 0 0) s) fun J5 =>
 kFld 2 p_3 fun v78 =>
 kLd s v78 fun v79 =>
 kCond v79 (
 kBuild [(.string (bs [])), (.bool false), (.bool false), (.bool false)] [(1, 1, (.bool true))] fun v80 =>
 kBsl s 1 [(.string (bs [])), (.bool false), (.bool false), (.bool false)] [(0, 4, v80)] fun v81 s =>
 k v81 s) (
 J5 [] s)) fun J4 =>
 kCond v52 (
 kCallv PG (.func (.func 107) #[] #[p_3, x_2]) [] s fun v77 s =>
 k v77 s) (
 J4 [] s)) (
 kJoin (fun xs s =>
 un1 xs fun v82 =>
 kCond v82 (
 kJoin (fun _ s =>
 kJoin (fun _ s =>
 kLd s x_2 fun v94 =>
 kFld 5 p_3 fun v95 =>
 kLd s v95 fun v96 =>
 kCall PG 43 [v94, v96] s fun v97 s =>
 kGet 0 v97 fun v98 =>
 kJoin (fun _ s =>
 kLdN s 6 p_3 fun v125 =>
 kCall PG 64 [v98, v125] s fun v126 s =>
 kBsl s 1 [(.string (bs [])), (.bool false), (.bool false), (.bool false)] [(0, 4, v126)] fun v127 s =>
 k v127 s) fun J9 =>
 kLd s x_2 fun v111 =>
 kCall PG 36 [v111] s fun v112 s =>
 kCond v112 (
 J9 [] s) (
 kFld 3 p_3 fun v114 =>
 kLd s v114 fun v115 =>
 kBin .eql v115 (.int .i64 4) fun v116 =>
 kCond v116 (
 kLd s x_2 fun v117 =>
 kNck v117 fun v120 =>
 kFld 3 v120 fun v121 =>
 kLd s x_2 fun v118 =>
 kSt s 1 v121 (.int .i64 14) fun s =>
 kChk s x_2 v118 (
 kNck v118 fun v122 =>
 kFld 6 v122 fun v123 =>
 kSt s 1 v123 v98 fun s =>
 J9 [] s)) (
 kFld 1 p_3 fun v104 =>
 kLd s x_2 fun v99 =>
 kLd s x_2 fun v100 =>
 kNck v100 fun v101 =>
 kFld 0 v101 fun v102 =>
 kLd s v102 fun v103 =>
 kLd s v104 fun v105 =>
 kCall PG 14 [v103, v105, v98] s fun v107 s =>
 kChk s x_2 v99 (
 kNck v99 fun v108 =>
 kFld 3 v108 fun v109 =>
 kSt s 1 v109 v107 fun s =>
 J9 [] s)))) fun J8 =>
 kFld 3 p_3 fun v89 =>
 kLd s v89 fun v90 =>
 kBin .eql v90 (.int .i64 2) fun v91 =>
 kCond v91 (
 kCallv PG (.func (.func 107) #[] #[p_3, x_2]) [] s fun v93 s =>
 k v93 s) (
 J8 [] s)) fun J7 =>
 kCond v52 (
 kCallv PG (.func (.func 105) #[] #[x_2, p_3, values_7]) [] s fun v88 s =>
 k v88 s) (
 J7 [] s)) (
 kJoin (fun xs s =>
 un1 xs fun v128 =>
 kCond v128 (
 kLd s x_2 fun v133 =>
 kFld 5 p_3 fun v134 =>
 kLd s v134 fun v135 =>
 kCall PG 43 [v133, v135] s fun v136 s =>
 kNew s [(.string (bs [])), (.slice none 0 0)] fun f_14 s =>
 kSt s 2 f_14 v136 fun s =>
 kFld 0 f_14 fun v137 =>
 kLd s v137 fun v138 =>
 kFld 1 f_14 fun v139 =>
 kLd s v139 fun v140 =>
 kCall PG 16 [v138, v140] s fun v141 s =>
 kJoin (fun _ s =>
 kCallv PG (.func (.func 105) #[] #[x_2, p_3, values_7]) [] s fun v160 s =>
 k v160 s) fun J11 =>
 kLd s values_7 fun v142 =>
 kLen false v142 fun v143 =>
 kLoop (fun again12 xs s =>
 un1 xs fun v144 =>
 kBin .lss v144 v143 fun v145 =>
 kJoin (fun _ s =>
 kJoin (fun _ s =>
 kBin .add v144 (.int .i64 1) fun v158 =>
 again12 [v158] s) fun J14 =>
 kFld 3 p_3 fun v149 =>
 kLd s values_7 fun v147 =>
 kLd s v149 fun v150 =>
 kLd s values_7 fun v152 =>
 kIdx 1 v152 v144 fun v154 =>
 kLd s v154 fun v155 =>
 kCall PG 108 [v150, v141, v155] s fun v156 s =>
 kChk s values_7 v147 (
 kIdx 1 v147 v144 fun v157 =>
 kSt s 1 v157 v156 fun s =>
 J14 [] s)) fun J13 =>
 kCond v145 (
 J13 [] s) (
 J11 [] s)) [(.int .i64 0)] s) (
 J2 [] s)) fun J10 =>
 kBin .eql v56 (.int .i64 6) fun v129 =>
 kCond v129 (
 J10 [v129] s) (
 kBin .eql v56 (.int .i64 7) fun v130 =>
 kCond v130 (
 J10 [v130] s) (
 kBin .eql v56 (.int .i64 8) fun v131 =>
 kCond v131 (
 J10 [v131] s) (
 kBin .eql v56 (.int .i64 9) fun v132 =>
 J10 [v132] s))))) fun J6 =>
 kBin .eql v56 (.int .i64 2) fun v83 =>
 kCond v83 (
 J6 [v83] s) (
 kBin .eql v56 (.int .i64 3) fun v84 =>
 kCond v84 (
 J6 [v84] s) (
 kBin .eql v56 (.int .i64 4) fun v85 =>
 J6 [v85] s)))))) fun J1 =>
 kCond v36 (
 kLd s x_2 fun v38 =>
 kNck v38 fun v39 =>
 kFld 0 v39 fun v40 =>
 kLd s v40 fun v41 =>
 kCall PG 30 [v41] s fun v42 s =>
 kSt s 1 values_7 v42 fun s =>
 J1 [] s) (
 J1 [] s)
theorem F67_ok (x_0 p_1 : Value) (s : AS) (k : Value → AS → Prop) : denFn PG [(1, (.go 4 (.go 0 (.go 1 (.go 2 (.go 3 (.go 5 (.go 6 (.go 7 (.go 8 (.go 9 (.go 10 (.go 11 .done))))))))))))), (16, (.go 0 (.go 2 (.go 1 (.go 3 (.go 4 (.go 5 .done))))))), (34, (.go 2 (.go 0 (.go 3 (.go 4 (.go 1 (.go 5 (.go 6 (.go 7 (.go 8 .done)))))))))), (31, (.go 5 (.go 7 (.go 0 (.go 1 (.go 2 (.go 3 (.go 4 (.go 6 (.go 8 (.go 9 (.go 10 (.go 11 .done))))))))))))), (45, (.go 1 (.go 2 (.go 4 (.go 6 (.go 0 (.go 3 (.go 5 (.go 7 (.go 8 (.go 9 (.go 10 (.go 11 .done)))))))))))))] 67 [x_0, p_1] s k = F67 x_0 p_1 s k := by kernel_rfl
theorem f67 {x_0 p_1 : Value} {s : AS} {k : Value → AS → Prop} (h : F67 x_0 p_1 s k) : kCall PG 67 [x_0, p_1] s k := fn_by (F67_ok x_0 p_1 s k) h
def F68 (v0 v1 : Value) (s : AS) (k : Value → AS → Prop) : Prop :=
 kJoin (fun _ s =>
 kSt s 1 v1 (.bool false) fun s =>
 kLd s v0 fun v7 =>
 k v7 s) fun J1 =>
 kLd s v0 fun v3 =>
 kEq 0 false v3 (.pointer none) fun v4 =>
 kCond v4 (
 kBuild [(.pointer none), (.slice none 0 0), (.slice none 0 0)] [] fun v5 =>
 kNewT s 145 (cellsV v5) fun v6 s =>
 kSt s 1 v0 v6 fun s =>
 J1 [] s) (
 J1 [] s)
theorem F68_ok (v0 v1 : Value) (s : AS) (k : Value → AS → Prop) : denFn PG [] 68 [v0, v1] s k = F68 v0 v1 s k := by kernel_rfl
theorem f68 {v0 v1 : Value} {s : AS} {k : Value → AS → Prop} (h : F68 v0 v1 s k) : kCall PG 68 [v0, v1] s k := fn_by (F68_ok v0 v1 s k) h
def F69 (v0 v1 : Value) (s : AS) (k : Value → AS → Prop) : Prop :=
 kLd s v0 fun v2 =>
 kLd s v1 fun v3 =>
 kCall PG 70 [v3] s fun v4 s =>
 kChk s v0 v2 (
 kBsl s 1 [(.string (bs [])), (.slice none 0 0)] [(0, 2, v4)] fun v5 s =>
 kChk s v0 v2 (
 kApp PG 30 30 v2 v5 s fun v6 s =>
 kSt s 1 v0 v6 fun s =>
 kSt s 1 v1 (.pointer none) fun s =>
 k undef s))
theorem F69_ok (v0 v1 : Value) (s : AS) (k : Value → AS → Prop) : denFn PG [(0, (.go 0 (.go 1 (.go 2 (.go 3 (.go 4 (.go 5 .done)))))))] 69 [v0, v1] s k = F69 v0 v1 s k := by kernel_rfl
theorem f69 {v0 v1 : Value} {s : AS} {k : Value → AS → Prop} (h : F69 v0 v1 s k) : kCall PG 69 [v0, v1] s k := fn_by (F69_ok v0 v1 s k) h
def F70 (m_0 : Value) (s : AS) (k : Value → AS → Prop) : Prop :=
 kNew s [(.string (bs [])), (.slice none 0 0)] fun v2 s =>
 kNck m_0 fun v4 =>
 kFld 0 v4 fun v5 =>
 kNck m_0 fun v8 =>
 kFld 2 v8 fun v9 =>
 kLd s v9 fun v10 =>
 kCall PG 109 [v5] s fun v6 s =>
 kChk s v9 v10 (
 kBuild [(.string (bs [])), (.slice none 0 0)] [(0, 1, v6), (1, 1, v10)] fun v11 =>
 kSt s 2 v2 v11 fun s =>
 kLdN s 2 v2 fun r0 =>
 k r0 s)
theorem F70_ok (m_0 : Value) (s : AS) (k : Value → AS → Prop) : denFn PG [(1, (.go 0 (.go 1 (.go 2 (.go 4 (.go 5 (.go 6 (.go 7 (.go 3 (.go 8 (.go 9 .done)))))))))))] 70 [m_0] s k = F70 m_0 s k := by kernel_rfl
theorem f70 {m_0 : Value} {s : AS} {k : Value → AS → Prop} (h : F70 m_0 s k) : kCall PG 70 [m_0] s k := fn_by (F70_ok m_0 s k) h
def F71 (m_0 s_1 quoted_2 : Value) (s : AS) (k : Value → AS → Prop) : Prop :=
 kNck m_0 fun v7 =>
 kFld 0 v7 fun v8 =>
 kCall PG 110 [v8, s_1] s fun v10 s =>
 kLen true s_1 fun v12 =>
 kLoop (fun again1 xs s =>
 un1 xs fun v13 =>
 kBin .lss v13 v12 fun v14 =>
 kJoin (fun _ s =>
 kJoin (fun _ s =>
 kBin .add v13 (.int .i64 1) fun v25 =>
 again1 [v25] s) fun J3 =>
 kNck m_0 fun v17 =>
 kFld 2 v17 fun v18 =>
 kLd s v18 fun v19 =>
 kBsl s 1 [(.bool false)] [(0, 1, quoted_2)] fun v21 s =>
 kApp PG 38 38 v19 v21 s fun v22 s =>
 kNck m_0 fun v23 =>
 kFld 2 v23 fun v24 =>
 kSt s 1 v24 v22 fun s =>
 J3 [] s) fun J2 =>
 kCond v14 (
 J2 [] s) (
 k undef s)) [(.int .i64 0)] s
theorem F71_ok (m_0 s_1 quoted_2 : Value) (s : AS) (k : Value → AS → Prop) : denFn PG [] 71 [m_0, s_1, quoted_2] s k = F71 m_0 s_1 quoted_2 s k := by kernel_rfl
theorem f71 {m_0 s_1 quoted_2 : Value} {s : AS} {k : Value → AS → Prop} (h : F71 m_0 s_1 quoted_2 s k) : kCall PG 71 [m_0, s_1, quoted_2] s k := fn_by (F71_ok m_0 s_1 quoted_2 s k) h
def F72 (s_0 c_1 : Value) (s : AS) (k : Value → AS → Prop) : Prop :=
 kCall PG 111 [s_0, c_1] s fun v7 s =>
 k v7 s
theorem F72_ok (s_0 c_1 : Value) (s : AS) (k : Value → AS → Prop) : denFn PG [] 72 [s_0, c_1] s k = F72 s_0 c_1 s k := by kernel_rfl
theorem f72 {s_0 c_1 : Value} {s : AS} {k : Value → AS → Prop} (h : F72 s_0 c_1 s k) : kCall PG 72 [s_0, c_1] s k := fn_by (F72_ok s_0 c_1 s k) h
def F73 (s_0 : Value) (s : AS) (k : Value → AS → Prop) : Prop :=
 kBin .neq s_0 (.string (bs [])) fun v4 =>
 kGrd v4 true (fun k =>
 kCall PG 112 [s_0] s fun v7 s =>
 kLen true s_0 fun v9 =>
 kBin .eql v7 v9 fun v10 =>
 k [v10] s) [undef] s fun xs s =>
 un1 xs fun v10 =>
 kPick v4 v10 (.bool false) fun v11 =>
 k v11 s
theorem F73_ok (s_0 : Value) (s : AS) (k : Value → AS → Prop) : denFn PG [] 73 [s_0] s k = F73 s_0 s k := by kernel_rfl
theorem f73 {s_0 : Value} {s : AS} {k : Value → AS → Prop} (h : F73 s_0 s k) : kCall PG 73 [s_0] s k := fn_by (F73_ok s_0 s k) h
def F74 (l_0 : Value) (s : AS) (k : Value → AS → Prop) : Prop :=
 kNew s [(.string (bs [])), (.slice none 0 0)] fun v2 s =>
 kNewT s 145 [(.pointer none), (.slice none 0 0), (.slice none 0 0)] fun out_3 s =>
 kJoin (fun _ s =>
 kCall PG 70 [out_3] s fun v21 s =>
 kSt s 2 v2 v21 fun s =>
 kLdN s 2 v2 fun r0 =>
 k r0 s) fun J1 =>
 kLen false l_0 fun v7 =>
 kLoop (fun again2 xs s =>
 un1 xs fun v8 =>
 kBin .lss v8 v7 fun v9 =>
 kJoin (fun _ s =>
 kJoin (fun _ s =>
 kBin .add v8 (.int .i64 1) fun v20 =>
 again2 [v20] s) fun J4 =>
 kIdx 4 l_0 v8 fun v10 =>
 kLdN s 4 v10 fun v11 =>
 kNew s [(.string (bs [])), (.bool false), (.bool false), (.bool false)] fun p_5 s =>
 kSt s 4 p_5 v11 fun s =>
 kJoin (fun _ s =>
 kFld 0 p_5 fun v15 =>
 kLd s v15 fun v16 =>
 kFld 1 p_5 fun v17 =>
 kLd s v17 fun v18 =>
 kCall PG 71 [out_3, v16, v18] s fun v19 s =>
 J4 [] s) fun J5 =>
 kFld 3 p_5 fun v12 =>
 kLd s v12 fun v13 =>
 kCond v13 (
 kCall PG 71 [out_3, (.string (bs [32])), (.bool false)] s fun v14 s =>
 J4 [] s) (
 J5 [] s)) fun J3 =>
 kCond v9 (
 J3 [] s) (
 J1 [] s)) [(.int .i64 0)] s
theorem F74_ok (l_0 : Value) (s : AS) (k : Value → AS → Prop) : denFn PG [] 74 [l_0] s k = F74 l_0 s k := by kernel_rfl
theorem f74 {l_0 : Value} {s : AS} {k : Value → AS → Prop} (h : F74 l_0 s k) : kCall PG 74 [l_0] s k := fn_by (F74_ok l_0 s k) h
def F75 (yield_0 v1 : Value) (s : AS) (k : Value → AS → Prop) : Prop :=
 kLoop (fun again1 xs s =>
 un1 xs fun i_3 =>
 kJoin (fun _ s =>
 kFld 0 v1 fun v14 =>
 kLd s v14 fun v15 =>
 kIxS v15 i_3 fun v17 =>
 kBuild [(.int .i64 0), (.int .u8 0), (.bool false), (.slice none 0 0)] [(0, 1, (.int .i64 1)), (1, 1, v17)] fun v18 =>
 kBin .add i_3 (.int .i64 1) fun v20 =>
 kNew s [(.int .i64 0), (.int .u8 0), (.bool false), (.slice none 0 0)] fun t_4 s =>
 kSt s 4 t_4 v18 fun s =>
 kJoin (fun xs s =>
 un1 xs fun next_5 =>
 kJoin (fun _ s =>
 again1 [next_5] s) fun J4 =>
 kLdN s 4 t_4 fun v46 =>
 kCallv PG yield_0 [v46] s fun v47 s =>
 kUn .not v47 fun v48 =>
 kCond v48 (
 k undef s) (
 J4 [] s)) fun J3 =>
 kLdN s 2 v1 fun v22 =>
 kCall PG 76 [v22, i_3, (.int .u8 63)] s fun v24 s =>
 kCond v24 (
 kBuild [(.int .i64 0), (.int .u8 0), (.bool false), (.slice none 0 0)] [(0, 1, (.int .i64 2))] fun v25 =>
 kSt s 4 t_4 v25 fun s =>
 J3 [v20] s) (
 kLdN s 2 v1 fun v27 =>
 kCall PG 76 [v27, i_3, (.int .u8 42)] s fun v29 s =>
 kCond v29 (
 kBuild [(.int .i64 0), (.int .u8 0), (.bool false), (.slice none 0 0)] [(0, 1, (.int .i64 3))] fun v30 =>
 kSt s 4 t_4 v30 fun s =>
 J3 [v20] s) (
 kLdN s 2 v1 fun v32 =>
 kCall PG 76 [v32, i_3, (.int .u8 91)] s fun v34 s =>
 kCond v34 (
 kLdN s 2 v1 fun v36 =>
 kCall PG 77 [v36, i_3] s fun v38 s =>
 kExt 0 v38 fun v39 =>
 kExt 1 v38 fun v40 =>
 kExt 2 v38 fun v41 =>
 kNew s [(.int .i64 0), (.int .u8 0), (.bool false), (.slice none 0 0)] fun c_6 s =>
 kSt s 4 c_6 v39 fun s =>
 kCond v41 (
 kLdN s 4 c_6 fun v43 =>
 kSt s 4 t_4 v43 fun s =>
 J3 [v40] s) (
 J3 [v20] s)) (
 J3 [v20] s)))) fun J2 =>
 kFld 0 v1 fun v10 =>
 kLd s v10 fun v11 =>
 kLen true v11 fun v12 =>
 kBin .lss i_3 v12 fun v13 =>
 kCond v13 (
 J2 [] s) (
 k undef s)) [(.int .i64 0)] s
theorem F75_ok (yield_0 v1 : Value) (s : AS) (k : Value → AS → Prop) : denFn PG [] 75 [yield_0, v1] s k = F75 yield_0 v1 s k := by kernel_rfl
theorem f75 {yield_0 v1 : Value} {s : AS} {k : Value → AS → Prop} (h : F75 yield_0 v1 s k) : kCall PG 75 [yield_0, v1] s k := fn_by (F75_ok yield_0 v1 s k) h
def F76 (p_0 i_1 c_2 : Value) (s : AS) (k : Value → AS → Prop) : Prop :=
 kNew s (cellsV p_0) fun p_3 s =>
 kFld 0 p_3 fun v8 =>
 kLd s v8 fun v9 =>
 kLen true v9 fun v10 =>
 kBin .lss i_1 v10 fun v11 =>
 kGrd v11 true (fun k =>
 kFld 0 p_3 fun v13 =>
 kLd s v13 fun v14 =>
 kIxS v14 i_1 fun v16 =>
 kBin .eql v16 c_2 fun v18 =>
 k [v18] s) [undef] s fun xs s =>
 un1 xs fun v18 =>
 kPick v11 v18 (.bool false) fun v19 =>
 kGrd v19 true (fun k =>
 kFld 1 p_3 fun v22 =>
 kLd s v22 fun v23 =>
 kLen false v23 fun v24 =>
 kBin .geq i_1 v24 fun v25 =>
 k [v25] s) [undef] s fun xs s =>
 un1 xs fun v26 =>
 kGrd v26 false (fun k =>
 kFld 1 p_3 fun v27 =>
 kLd s v27 fun v28 =>
 kIdx 1 v28 i_1 fun v30 =>
 kLd s v30 fun v31 =>
 kUn .not v31 fun v32 =>
 k [v32] s) [undef] s fun xs s =>
 un1 xs fun v32 =>
 kGrd v19 true (fun k =>
 kPick v26 (.bool true) v32 fun v33 =>
 k [v33] s) [undef] s fun xs s =>
 un1 xs fun v33 =>
 kPick v19 v33 (.bool false) fun v34 =>
 k v34 s
theorem F76_ok (p_0 i_1 c_2 : Value) (s : AS) (k : Value → AS → Prop) : denFn PG [] 76 [p_0, i_1, c_2] s k = F76 p_0 i_1 c_2 s k := by kernel_rfl
theorem f76 {p_0 i_1 c_2 : Value} {s : AS} {k : Value → AS → Prop} (h : F76 p_0 i_1 c_2 s k) : kCall PG 76 [p_0, i_1, c_2] s k := fn_by (F76_ok p_0 i_1 c_2 s k) h
def F77 (p_0 i_1 : Value) (s : AS) (k : Value → AS → Prop) : Prop :=
 kNew s (cellsV p_0) fun p_2 s =>
 kNew s [(.int .i64 0), (.int .u8 0), (.bool false), (.slice none 0 0)] fun v4 s =>
 kBuild [(.int .i64 0), (.int .u8 0), (.bool false), (.slice none 0 0)] [(0, 1, (.int .i64 4))] fun v9 =>
 kNew s [(.int .i64 0), (.int .u8 0), (.bool false), (.slice none 0 0)] fun t_7 s =>
 kSt s 4 t_7 v9 fun s =>
 kBin .add i_1 (.int .i64 1) fun v11 =>
 kJoin (fun xs s =>
 un1 xs fun i_1' =>
 kBin .add i_1' (.int .i64 1) fun v19 =>
 kJoin (fun xs s =>
 un1 xs fun end_8 =>
 kJoin (fun _ s =>
 kJoin (fun _ s =>
 kLdN s 4 t_7 fun v85 =>
 kBin .add end_8 (.int .i64 1) fun v87 =>
 kSt s 4 v4 v85 fun s =>
 kLdN s 4 v4 fun r0 =>
 k (.tuple #[r0, v87, (.bool true)]) s) fun J4 =>
 kLoop (fun again5 xs s =>
 un1 xs fun i_1'' =>
 kJoin (fun _ s =>
 kJoin (fun xs s =>
 un1 xs fun i_1'' =>
 kFld 3 t_7 fun v69 =>
 kFld 0 p_2 fun v71 =>
 kFld 0 p_2 fun v75 =>
 kLd s v69 fun v70 =>
 kLd s v71 fun v72 =>
 kIxS v72 i_1'' fun v74 =>
 kLd s v75 fun v76 =>
 kIxS v76 i_1'' fun v78 =>
 kBuild [(.int .u8 0), (.int .u8 0)] [(0, 1, v74), (1, 1, v78)] fun v79 =>
 kBsl s 1 [(.int .u8 0), (.int .u8 0)] [(0, 2, v79)] fun v80 s =>
 kChk s v69 v70 (
 kApp PG 104 104 v70 v80 s fun v81 s =>
 kFld 3 t_7 fun v82 =>
 kSt s 1 v82 v81 fun s =>
 kBin .add i_1'' (.int .i64 1) fun v84 =>
 again5 [v84] s)) fun J7 =>
 kBin .add i_1'' (.int .i64 2) fun v43 =>
 kBin .lss v43 end_8 fun v45 =>
 kGrd v45 true (fun k =>
 kLdN s 2 p_2 fun v47 =>
 kBin .add i_1'' (.int .i64 1) fun v49 =>
 kCall PG 76 [v47, v49, (.int .u8 45)] s fun v50 s =>
 k [v50] s) [undef] s fun xs s =>
 un1 xs fun v50 =>
 kPick v45 v50 (.bool false) fun v51 =>
 kCond v51 (
 kFld 3 t_7 fun v52 =>
 kFld 0 p_2 fun v54 =>
 kFld 0 p_2 fun v58 =>
 kBin .add i_1'' (.int .i64 2) fun v61 =>
 kLd s v52 fun v53 =>
 kLd s v54 fun v55 =>
 kIxS v55 i_1'' fun v57 =>
 kLd s v58 fun v59 =>
 kIxS v59 v61 fun v62 =>
 kBuild [(.int .u8 0), (.int .u8 0)] [(0, 1, v57), (1, 1, v62)] fun v63 =>
 kBsl s 1 [(.int .u8 0), (.int .u8 0)] [(0, 2, v63)] fun v64 s =>
 kChk s v52 v53 (
 kApp PG 104 104 v53 v64 s fun v65 s =>
 kFld 3 t_7 fun v66 =>
 kSt s 1 v66 v65 fun s =>
 kBin .add i_1'' (.int .i64 3) fun v68 =>
 again5 [v68] s)) (
 J7 [i_1''] s)) fun J6 =>
 kBin .lss i_1'' end_8 fun v41 =>
 kCond v41 (
 J6 [] s) (
 J4 [] s)) [i_1'] s) fun J3 =>
 kFld 0 p_2 fun v34 =>
 kLd s v34 fun v35 =>
 kLen true v35 fun v36 =>
 kBin .geq end_8 v36 fun v37 =>
 kCond v37 (
 kBuild [(.int .i64 0), (.int .u8 0), (.bool false), (.slice none 0 0)] [] fun v38 =>
 kSt s 4 v4 v38 fun s =>
 kLdN s 4 v4 fun r0 =>
 k (.tuple #[r0, (.int .i64 0), (.bool false)]) s) (
 J3 [] s)) fun J2 =>
 kLoop (fun again8 xs s =>
 un1 xs fun end_8 =>
 kJoin (fun _ s =>
 kBin .add end_8 (.int .i64 1) fun v32 =>
 again8 [v32] s) fun J9 =>
 kFld 0 p_2 fun v21 =>
 kLd s v21 fun v22 =>
 kLen true v22 fun v23 =>
 kBin .lss end_8 v23 fun v24 =>
 kGrd v24 true (fun k =>
 kLdN s 2 p_2 fun v26 =>
 kCall PG 76 [v26, end_8, (.int .u8 93)] s fun v28 s =>
 kUn .not v28 fun v29 =>
 k [v29] s) [undef] s fun xs s =>
 un1 xs fun v29 =>
 kPick v24 v29 (.bool false) fun v30 =>
 kCond v30 (
 J9 [] s) (
 J2 [end_8] s)) [v19] s) fun J1 =>
 kLdN s 2 p_2 fun v12 =>
 kCall PG 76 [v12, v11, (.int .u8 33)] s fun v14 s =>
 kCond v14 (
 kFld 2 t_7 fun v15 =>
 kSt s 1 v15 (.bool true) fun s =>
 kBin .add v11 (.int .i64 1) fun v17 =>
 J1 [v17] s) (
 J1 [v11] s)
theorem F77_ok (p_0 i_1 : Value) (s : AS) (k : Value → AS → Prop) : denFn PG [(13, (.go 0 (.go 2 (.go 4 (.go 6 (.go 8 (.go 9 (.go 1 (.go 3 (.go 5 (.go 7 (.go 10 (.go 11 (.go 12 (.go 13 (.go 14 (.go 15 .done))))))))))))))))), (15, (.go 0 (.go 2 (.go 4 (.go 6 (.go 8 (.go 1 (.go 3 (.go 5 (.go 7 (.go 9 (.go 10 (.go 11 (.go 12 (.go 13 (.go 14 .done))))))))))))))))] 77 [p_0, i_1] s k = F77 p_0 i_1 s k := by kernel_rfl
theorem f77 {p_0 i_1 : Value} {s : AS} {k : Value → AS → Prop} (h : F77 p_0 i_1 s k) : kCall PG 77 [p_0, i_1] s k := fn_by (F77_ok p_0 i_1 s k) h
def F78 (t_0 c_1 : Value) (s : AS) (k : Value → AS → Prop) : Prop :=
 kNew s (cellsV t_0) fun t_2 s =>
 kNew s (cellsV c_1) fun c_3 s =>
 kJoin (fun _ s =>
 k (.bool false) s) fun J1 =>
 kFld 0 t_2 fun v5 =>
 kLd s v5 fun v6 =>
 kBin .eql v6 (.int .i64 1) fun v8 =>
 kCond v8 (
 kFld 1 t_2 fun v9 =>
 kLd s v9 fun v10 =>
 kLd s c_3 fun v11 =>
 kBin .eql v10 v11 fun v12 =>
 k v12 s) (
 kBin .eql v6 (.int .i64 2) fun v14 =>
 kCond v14 (
 k (.bool true) s) (
 kBin .eql v6 (.int .i64 4) fun v16 =>
 kCond v16 (
 kFld 3 t_2 fun v17 =>
 kFld 2 t_2 fun v21 =>
 kLd s v17 fun v18 =>
 kLd s v21 fun v22 =>
 kCall PG 113 [v18, (.func (.func 114) #[] #[c_3])] s fun v20 s =>
 kChk s v21 v22 (
 kEq 4 true v20 v22 fun v23 =>
 k v23 s)) (
 J1 [] s)))
theorem F78_ok (t_0 c_1 : Value) (s : AS) (k : Value → AS → Prop) : denFn PG [(7, (.go 0 (.go 2 (.go 4 (.go 1 (.go 5 (.go 3 (.go 6 (.go 7 .done)))))))))] 78 [t_0, c_1] s k = F78 t_0 c_1 s k := by kernel_rfl
theorem f78 {t_0 c_1 : Value} {s : AS} {k : Value → AS → Prop} (h : F78 t_0 c_1 s k) : kCall PG 78 [t_0, c_1] s k := fn_by (F78_ok t_0 c_1 s k) h
def F79 (s_0 : Value) (s : AS) (k : Value → AS → Prop) : Prop :=
 kBin .neq s_0 (.string (bs [])) fun v4 =>
 kGrd v4 true (fun k =>
 kCall PG 115 [s_0] s fun v7 s =>
 kLen true s_0 fun v9 =>
 kBin .eql v7 v9 fun v10 =>
 k [v10] s) [undef] s fun xs s =>
 un1 xs fun v10 =>
 kPick v4 v10 (.bool false) fun v11 =>
 k v11 s
theorem F79_ok (s_0 : Value) (s : AS) (k : Value → AS → Prop) : denFn PG [] 79 [s_0] s k = F79 s_0 s k := by kernel_rfl
theorem f79 {s_0 : Value} {s : AS} {k : Value → AS → Prop} (h : F79 s_0 s k) : kCall PG 79 [s_0] s k := fn_by (F79_ok s_0 s k) h
def F80 (v_0 name_1 : Value) (s : AS) (k : Value → AS → Prop) : Prop :=
 kNew s [(.string (bs [])), (.string (bs [])), (.bool false), (.bool false), (.bool false)] fun v4 s =>
 kJoin (fun _ s =>
 kBuild [(.string (bs [])), (.string (bs [])), (.bool false), (.bool false), (.bool false)] [] fun v32 =>
 kSt s 5 v4 v32 fun s =>
 kLdN s 5 v4 fun r0 =>
 k r0 s) fun J1 =>
 kLoop (fun again2 xs s =>
 un1 xs fun i_5 =>
 kJoin (fun _ s =>
 kJoin (fun _ s =>
 kBin .add i_5 (.int .i64 1) fun v14 =>
 again2 [v14] s) fun J4 =>
 kNck v_0 fun v16 =>
 kFld 0 v16 fun v17 =>
 kLd s v17 fun v18 =>
 kIdx 5 v18 i_5 fun v20 =>
 kFld 0 v20 fun v21 =>
 kLd s v21 fun v22 =>
 kBin .eql v22 name_1 fun v24 =>
 kCond v24 (
 kNck v_0 fun v26 =>
 kFld 0 v26 fun v27 =>
 kLd s v27 fun v28 =>
 kIdx 5 v28 i_5 fun v30 =>
 kLdN s 5 v30 fun v31 =>
 kSt s 5 v4 v31 fun s =>
 kLdN s 5 v4 fun r0 =>
 k r0 s) (
 J4 [] s)) fun J3 =>
 kNck v_0 fun v8 =>
 kFld 0 v8 fun v9 =>
 kLd s v9 fun v10 =>
 kLen false v10 fun v11 =>
 kBin .lss i_5 v11 fun v12 =>
 kCond v12 (
 J3 [] s) (
 J1 [] s)) [(.int .i64 0)] s
theorem F80_ok (v_0 name_1 : Value) (s : AS) (k : Value → AS → Prop) : denFn PG [] 80 [v_0, name_1] s k = F80 v_0 name_1 s k := by kernel_rfl
theorem f80 {v_0 name_1 : Value} {s : AS} {k : Value → AS → Prop} (h : F80 v_0 name_1 s k) : kCall PG 80 [v_0, name_1] s k := fn_by (F80_ok v_0 name_1 s k) h
def F81 (v_0 x_1 : Value) (s : AS) (k : Value → AS → Prop) : Prop :=
 kNew s (cellsV x_1) fun x_3 s =>
 kFld 2 x_3 fun v7 =>
 kLd s v7 fun v8 =>
 kUn .not v8 fun v9 =>
 kGrd v9 true (fun k =>
 kFld 3 x_3 fun v11 =>
 kLd s v11 fun v12 =>
 kUn .not v12 fun v13 =>
 k [v13] s) [undef] s fun xs s =>
 un1 xs fun v13 =>
 kPick v9 v13 (.bool false) fun v14 =>
 kGrd v14 true (fun k =>
 kFld 4 x_3 fun v16 =>
 kLd s v16 fun v17 =>
 kUn .not v17 fun v18 =>
 k [v18] s) [undef] s fun xs s =>
 un1 xs fun v18 =>
 kPick v14 v18 (.bool false) fun v19 =>
 kJoin (fun xs s =>
 un2 xs fun out_4 done_5 =>
 kJoin (fun xs s =>
 un1 xs fun out_4 =>
 kNck v_0 fun v77 =>
 kFld 0 v77 fun v78 =>
 kSt s 1 v78 out_4 fun s =>
 k undef s) fun J2 =>
 kUn .not done_5 fun v70 =>
 kCond v70 (
 kLdN s 5 x_3 fun v72 =>
 kBsl s 1 [(.string (bs [])), (.string (bs [])), (.bool false), (.bool false), (.bool false)] [(0, 5, v72)] fun v73 s =>
 kApp PG 61 61 out_4 v73 s fun v74 s =>
 J2 [v74] s) (
 J2 [out_4] s)) fun J1 =>
 kLoop (fun again3 xs s =>
 un3 xs fun out_4 done_5 i_6 =>
 kJoin (fun _ s =>
 kJoin (fun xs s =>
 un2 xs fun out_4 done_5 =>
 kBin .add i_6 (.int .i64 1) fun v28 =>
 again3 [out_4, done_5, v28] s) fun J5 =>
 kJoin (fun xs s =>
 un2 xs fun out_4 done_5 =>
 kNck v_0 fun v49 =>
 kFld 0 v49 fun v50 =>
 kFld 0 x_3 fun v56 =>
 kLd s v50 fun v51 =>
 kIdx 5 v51 i_6 fun v53 =>
 kFld 0 v53 fun v54 =>
 kLd s v54 fun v55 =>
 kLd s v56 fun v57 =>
 kBin .neq v55 v57 fun v58 =>
 kCond v58 (
 kNck v_0 fun v61 =>
 kFld 0 v61 fun v62 =>
 kLd s v62 fun v63 =>
 kIdx 5 v63 i_6 fun v65 =>
 kLdN s 5 v65 fun v66 =>
 kBsl s 1 [(.string (bs [])), (.string (bs [])), (.bool false), (.bool false), (.bool false)] [(0, 5, v66)] fun v67 s =>
 kApp PG 61 61 out_4 v67 s fun v68 s =>
 J5 [v68, done_5] s) (
 J5 [out_4, done_5] s)) fun J6 =>
 kUn .not done_5 fun v30 =>
 kGrd v30 true (fun k =>
 kNck v_0 fun v33 =>
 kFld 0 v33 fun v34 =>
 kFld 0 x_3 fun v40 =>
 kLd s v34 fun v35 =>
 kIdx 5 v35 i_6 fun v37 =>
 kFld 0 v37 fun v38 =>
 kLd s v38 fun v39 =>
 kLd s v40 fun v41 =>
 kBin .gtr v39 v41 fun v42 =>
 k [v42] s) [undef] s fun xs s =>
 un1 xs fun v42 =>
 kPick v30 v42 (.bool false) fun v43 =>
 kCond v43 (
 kLdN s 5 x_3 fun v45 =>
 kBsl s 1 [(.string (bs [])), (.string (bs [])), (.bool false), (.bool false), (.bool false)] [(0, 5, v45)] fun v46 s =>
 kApp PG 61 61 out_4 v46 s fun v47 s =>
 J6 [v47, (.bool true)] s) (
 J6 [out_4, done_5] s)) fun J4 =>
 kNck v_0 fun v22 =>
 kFld 0 v22 fun v23 =>
 kLd s v23 fun v24 =>
 kLen false v24 fun v25 =>
 kBin .lss i_6 v25 fun v26 =>
 kCond v26 (
 J4 [] s) (
 J1 [out_4, done_5] s)) [(.slice none 0 0), v19, (.int .i64 0)] s
theorem F81_ok (v_0 x_1 : Value) (s : AS) (k : Value → AS → Prop) : denFn PG [(6, (.go 0 (.go 1 (.go 2 (.go 3 (.go 4 (.go 5 (.go 7 (.go 11 (.go 6 (.go 8 (.go 9 (.go 10 (.go 12 (.go 13 (.go 14 .done)))))))))))))))), (9, (.go 0 (.go 1 (.go 2 (.go 4 (.go 8 (.go 3 (.go 5 (.go 6 (.go 7 (.go 9 (.go 10 .done))))))))))))] 81 [v_0, x_1] s k = F81 v_0 x_1 s k := by kernel_rfl
theorem f81 {v_0 x_1 : Value} {s : AS} {k : Value → AS → Prop} (h : F81 v_0 x_1 s k) : kCall PG 81 [v_0, x_1] s k := fn_by (F81_ok v_0 x_1 s k) h
def F82 (x_0 : Value) (s : AS) (k : Value → AS → Prop) : Prop :=
 kNck x_0 fun v3 =>
 kFld 4 v3 fun v4 =>
 kSt s 1 v4 (.bool true) fun s =>
 k undef s
theorem F82_ok (x_0 : Value) (s : AS) (k : Value → AS → Prop) : denFn PG [] 82 [x_0] s k = F82 x_0 s k := by kernel_rfl
theorem f82 {x_0 : Value} {s : AS} {k : Value → AS → Prop} (h : F82 x_0 s k) : kCall PG 82 [x_0] s k := fn_by (F82_ok x_0 s k) h
theorem k82_ok : okFn PG 82 = true := by kernel_rfl
def F83 (seq_0 : Value) (s : AS) (k : Value → AS → Prop) : Prop :=
 kCall PG 116 [(.slice none 0 0), seq_0] s fun v4 s =>
 k v4 s
theorem F83_ok (seq_0 : Value) (s : AS) (k : Value → AS → Prop) : denFn PG [] 83 [seq_0] s k = F83 seq_0 s k := by kernel_rfl
theorem f83 {seq_0 : Value} {s : AS} {k : Value → AS → Prop} (h : F83 seq_0 s k) : kCall PG 83 [seq_0] s k := fn_by (F83_ok seq_0 s k) h
def F85 (yield_0 v1 : Value) (s : AS) (k : Value → AS → Prop) : Prop :=
 kLd s v1 fun v5 =>
 kGen PG (.rng 90) [v5] s fun v6 s =>
 kLoop (fun again1 _ s =>
 kGen PG (.nxt false 0) [v6] s fun v7 s =>
 kExt 0 v7 fun v8 =>
 kJoin (fun _ s =>
 kGen PG .ent [v6] s fun v9 s =>
 kExt 1 v9 fun v10 =>
 kNew s [(.string (bs [])), (.string (bs [])), (.bool false), (.bool false), (.bool false)] fun v_4 s =>
 kSt s 5 v_4 v10 fun s =>
 kLdN s 5 v_4 fun v12 =>
 kCallv PG yield_0 [v12] s fun v13 s =>
 kUn .not v13 fun v14 =>
 kCond v14 (
 k undef s) (
 again1 [] s)) fun J2 =>
 kCond v8 (
 J2 [] s) (
 k undef s)) [] s
theorem F85_ok (yield_0 v1 : Value) (s : AS) (k : Value → AS → Prop) : denFn PG [] 85 [yield_0, v1] s k = F85 yield_0 v1 s k := by kernel_rfl
theorem f85 {yield_0 v1 : Value} {s : AS} {k : Value → AS → Prop} (h : F85 yield_0 v1 s k) : kCall PG 85 [yield_0, v1] s k := fn_by (F85_ok yield_0 v1 s k) h
def F97 (s_0 c_1 : Value) (s : AS) (k : Value → AS → Prop) : Prop :=
 kJoin (fun xs s =>
 un1 xs fun s_0 =>
 k s_0 s) fun J1 =>
 kLoop (fun again2 xs s =>
 un1 xs fun s_0 =>
 kJoin (fun _ s =>
 kLen true s_0 fun v19 =>
 kBin .sub v19 (.int .i64 1) fun v20 =>
 kSubS s_0 none (some v20) fun v21 =>
 again2 [v21] s) fun J3 =>
 kLen true s_0 fun v6 =>
 kBin .gtr v6 (.int .i64 0) fun v7 =>
 kGrd v7 true (fun k =>
 kLen true s_0 fun v11 =>
 kBin .sub v11 (.int .i64 1) fun v12 =>
 kIxS s_0 v12 fun v13 =>
 kBin .eql v13 c_1 fun v15 =>
 k [v15] s) [undef] s fun xs s =>
 un1 xs fun v15 =>
 kPick v7 v15 (.bool false) fun v16 =>
 kCond v16 (
 J3 [] s) (
 J1 [s_0] s)) [s_0] s
theorem F97_ok (s_0 c_1 : Value) (s : AS) (k : Value → AS → Prop) : denFn PG [] 97 [s_0, c_1] s k = F97 s_0 c_1 s k := by kernel_rfl
theorem f97 {s_0 c_1 : Value} {s : AS} {k : Value → AS → Prop} (h : F97 s_0 c_1 s k) : kCall PG 97 [s_0, c_1] s k := fn_by (F97_ok s_0 c_1 s k) h
def F98 (chars_0 : Value) (s : AS) (k : Value → AS → Prop) : Prop :=
 kNew s (List.replicate 256 (.bool false)) fun as_2 s =>
 kJoin (fun _ s =>
 kLdN s 256 as_2 fun v20 =>
 kSt s 256 as_2 v20 fun s =>
 kLdN s 256 as_2 fun r0 =>
 k (.tuple #[r0, (.bool true)]) s) fun J1 =>
 kLoop (fun again2 xs s =>
 un1 xs fun i_4 =>
 kJoin (fun _ s =>
 kJoin (fun _ s =>
 kBin .add i_4 (.int .i64 1) fun v11 =>
 again2 [v11] s) fun J4 =>
 kIxS chars_0 i_4 fun v14 =>
 kJoin (fun _ s =>
 kIdxA 256 1 as_2 v14 fun v19 =>
 kSt s 1 v19 (.bool true) fun s =>
 J4 [] s) fun J5 =>
 kBin .geq v14 (.int .u8 128) fun v16 =>
 kCond v16 (
 kLdN s 256 as_2 fun v17 =>
 kSt s 256 as_2 v17 fun s =>
 kLdN s 256 as_2 fun r0 =>
 k (.tuple #[r0, (.bool false)]) s) (
 J5 [] s)) fun J3 =>
 kLen true chars_0 fun v8 =>
 kBin .lss i_4 v8 fun v9 =>
 kCond v9 (
 J3 [] s) (
 J1 [] s)) [(.int .i64 0)] s
theorem F98_ok (chars_0 : Value) (s : AS) (k : Value → AS → Prop) : denFn PG [] 98 [chars_0] s k = F98 chars_0 s k := by kernel_rfl
theorem f98 {chars_0 : Value} {s : AS} {k : Value → AS → Prop} (h : F98 chars_0 s k) : kCall PG 98 [chars_0] s k := fn_by (F98_ok chars_0 s k) h
def F101 (body_0 : Value) (s : AS) (k : Value → AS → Prop) : Prop :=
 kJoin (fun _ s =>
 kCall PG 132 [body_0, (.int .i64 5)] s fun v8 s =>
 kExt 0 v8 fun v9 =>
 kExt 1 v8 fun v10 =>
 k (.tuple #[v9, v10]) s) fun J1 =>
 kLen true body_0 fun v5 =>
 kBin .gtr v5 (.int .i64 4096) fun v6 =>
 kCond v6 (
 k (.tuple #[(.slice none 0 0), (.int .i64 3)]) s) (
 J1 [] s)
theorem F101_ok (body_0 : Value) (s : AS) (k : Value → AS → Prop) : denFn PG [] 101 [body_0] s k = F101 body_0 s k := by kernel_rfl
theorem f101 {body_0 : Value} {s : AS} {k : Value → AS → Prop} (h : F101 body_0 s k) : kCall PG 101 [body_0] s k := fn_by (F101_ok body_0 s k) h
def F102 (s_0 vars_1 : Value) (s : AS) (k : Value → AS → Prop) : Prop :=
 kJoin (fun _ s =>
 kCall PG 133 [] s fun v13 s =>
 kBuild [(.string (bs [])), (.map none), (.slice none 0 0), (.slice none 0 0), (.int .i64 0), (.bool false), (.int .i64 0)] [(0, 1, s_0), (1, 1, v13), (2, 1, vars_1)] fun v15 =>
 kNew s (cellsV v15) fun v16 s =>
 kJoin (fun _ s =>
 kCall PG 135 [v16] s fun v21 s =>
 kJoin (fun _ s =>
 kNck v16 fun v44 =>
 kFld 3 v44 fun v45 =>
 kLd s v45 fun v46 =>
 k (.tuple #[v21, v46, (.int .i64 0)]) s) fun J3 =>
 kNck v16 fun v24 =>
 kFld 5 v24 fun v25 =>
 kLd s v25 fun v26 =>
 kGrd v26 false (fun k =>
 kCall PG 134 [v16] s fun v29 s =>
 kBin .neq v29 (.string (bs [])) fun v30 =>
 k [v30] s) [undef] s fun xs s =>
 un1 xs fun v30 =>
 kPick v26 (.bool true) v30 fun v31 =>
 kCond v31 (
 k (.tuple #[(.int .i64 0), (.slice none 0 0), (.int .i64 10)]) s) (
 kNck v16 fun v34 =>
 kFld 6 v34 fun v35 =>
 kLd s v35 fun v36 =>
 kBin .neq v36 (.int .i64 0) fun v37 =>
 kCond v37 (
 kNck v16 fun v39 =>
 kFld 6 v39 fun v40 =>
 kLd s v40 fun v41 =>
 k (.tuple #[(.int .i64 0), (.slice none 0 0), v41]) s) (
 J3 [] s))) fun J2 =>
 kCall PG 134 [v16] s fun v18 s =>
 kBin .eql v18 (.string (bs [])) fun v19 =>
 kCond v19 (
 k (.tuple #[(.int .i64 0), (.slice none 0 0), (.int .i64 0)]) s) (
 J2 [] s)) fun J1 =>
 kLen true s_0 fun v10 =>
 kBin .gtr v10 (.int .i64 4096) fun v11 =>
 kCond v11 (
 k (.tuple #[(.int .i64 0), (.slice none 0 0), (.int .i64 3)]) s) (
 J1 [] s)
theorem F102_ok (s_0 vars_1 : Value) (s : AS) (k : Value → AS → Prop) : denFn PG [(10, (.go 0 (.go 1 (.go 2 (.go 4 (.go 5 (.go 3 (.go 6 .done)))))))), (11, (.go 0 (.go 1 (.go 2 (.go 3 (.go 5 (.go 4 (.go 6 (.go 7 .done)))))))))] 102 [s_0, vars_1] s k = F102 s_0 vars_1 s k := by kernel_rfl
theorem f102 {s_0 vars_1 : Value} {s : AS} {k : Value → AS → Prop} (h : F102 s_0 vars_1 s k) : kCall PG 102 [s_0, vars_1] s k := fn_by (F102_ok s_0 vars_1 s k) h
def F103 (n_0 : Value) (s : AS) (k : Value → AS → Prop) : Prop :=
 kCall PG 136 [n_0] s fun v4 s =>
 k v4 s
theorem F103_ok (n_0 : Value) (s : AS) (k : Value → AS → Prop) : denFn PG [] 103 [n_0] s k = F103 n_0 s k := by kernel_rfl
theorem f103 {n_0 : Value} {s : AS} {k : Value → AS → Prop} (h : F103 n_0 s k) : kCall PG 103 [n_0] s k := fn_by (F103_ok n_0 s k) h
def F104 (v_0 p_1 : Value) (s : AS) (k : Value → AS → Prop) : Prop :=
 kJoin (fun _ s =>
 kJoin (fun _ s =>
 kJoin (fun _ s =>
 kNck v_0 fun v49 =>
 kFld 0 v49 fun v50 =>
 kCall PG 138 [v50, p_1] s fun v52 s =>
 kExt 0 v52 fun v53 =>
 kExt 1 v52 fun v54 =>
 k (.tuple #[v53, v54]) s) fun J3 =>
 kCall PG 73 [p_1] s fun v42 s =>
 kCond v42 (
 kCall PG 21 [v_0, p_1] s fun v45 s =>
 kExt 0 v45 fun v46 =>
 kExt 1 v45 fun v47 =>
 k (.tuple #[v46, v47]) s) (
 J3 [] s)) fun J2 =>
 kBin .eql p_1 (.string (bs [35])) fun v10 =>
 kCond v10 (
 kNck v_0 fun v12 =>
 kFld 0 v12 fun v13 =>
 kFld 1 v13 fun v14 =>
 kLd s v14 fun v15 =>
 kLen false v15 fun v16 =>
 kCall PG 103 [v16] s fun v17 s =>
 k (.tuple #[v17, (.bool true)]) s) (
 kBin .eql p_1 (.string (bs [63])) fun v19 =>
 kCond v19 (
 kNck v_0 fun v21 =>
 kFld 3 v21 fun v22 =>
 kLd s v22 fun v23 =>
 kCall PG 103 [v23] s fun v24 s =>
 k (.tuple #[v24, (.bool true)]) s) (
 kJoin (fun xs s =>
 un1 xs fun v25 =>
 kCond v25 (
 kNck v_0 fun v29 =>
 kFld 0 v29 fun v30 =>
 kFld 1 v30 fun v31 =>
 kNck v_0 fun v35 =>
 kFld 0 v35 fun v36 =>
 kFld 1 v36 fun v37 =>
 kLd s v31 fun v32 =>
 kLd s v37 fun v38 =>
 kLen false v38 fun v39 =>
 kBin .gtr v39 (.int .i64 0) fun v40 =>
 kCall PG 137 [(.string (bs [32])), v32] s fun v33 s =>
 kChk s v37 v38 (
 k (.tuple #[v33, v40]) s)) (
 J2 [] s)) fun J4 =>
 kBin .eql p_1 (.string (bs [64])) fun v26 =>
 kCond v26 (
 J4 [v26] s) (
 kBin .eql p_1 (.string (bs [42])) fun v27 =>
 J4 [v27] s)))) fun J1 =>
 kEq 0 false v_0 (.pointer none) fun v7 =>
 kCond v7 (
 k (.tuple #[(.string (bs [])), (.bool false)]) s) (
 J1 [] s)
theorem F104_ok (v_0 p_1 : Value) (s : AS) (k : Value → AS → Prop) : denFn PG [(10, (.go 0 (.go 1 (.go 2 (.go 3 (.go 6 (.go 7 (.go 8 (.go 9 (.go 4 (.go 10 (.go 11 (.go 12 (.go 5 (.go 13 (.go 14 .done))))))))))))))))] 104 [v_0, p_1] s k = F104 v_0 p_1 s k := by kernel_rfl
theorem f104 {v_0 p_1 : Value} {s : AS} {k : Value → AS → Prop} (h : F104 v_0 p_1 s k) : kCall PG 104 [v_0, p_1] s k := fn_by (F104_ok v_0 p_1 s k) h
def F105 (v0 v1 v2 : Value) (s : AS) (k : Value → AS → Prop) : Prop :=
 kLd s v0 fun v4 =>
 kLdN s 6 v1 fun v5 =>
 kLd s v2 fun v6 =>
 kCall PG 106 [v4, v5, v6] s fun v7 s =>
 k v7 s
theorem F105_ok (v0 v1 v2 : Value) (s : AS) (k : Value → AS → Prop) : denFn PG [] 105 [v0, v1, v2] s k = F105 v0 v1 v2 s k := by kernel_rfl
theorem f105 {v0 v1 v2 : Value} {s : AS} {k : Value → AS → Prop} (h : F105 v0 v1 v2 s k) : kCall PG 105 [v0, v1, v2] s k := fn_by (F105_ok v0 v1 v2 s k) h
theorem k105_ok : okFn PG 105 = true := by kernel_rfl
def F106 (x_0 p_1 values_2 : Value) (s : AS) (k : Value → AS → Prop) : Prop :=
 kNew s (cellsV p_1) fun p_4 s =>
 kJoin (fun _ s =>
 kJoin (fun xs s =>
 un1 xs fun out_8 =>
 k out_8 s) fun J2 =>
 kLen false values_2 fun v31 =>
 kLoop (fun again3 xs s =>
 un2 xs fun out_8 v32 =>
 kBin .lss v32 v31 fun v33 =>
 kJoin (fun _ s =>
 kJoin (fun xs s =>
 un1 xs fun out_8 =>
 kBin .add v32 (.int .i64 1) fun v49 =>
 again3 [out_8, v49] s) fun J5 =>
 kIdx 1 values_2 v32 fun v35 =>
 kLd s v35 fun v36 =>
 kJoin (fun xs s =>
 un1 xs fun out_8 =>
 kLdN s 6 p_4 fun v45 =>
 kCall PG 64 [v36, v45] s fun v46 s =>
 kBsl s 1 [(.string (bs [])), (.bool false), (.bool false), (.bool false)] [(0, 4, v46)] fun v47 s =>
 kApp PG 82 82 out_8 v47 s fun v48 s =>
 J5 [v48] s) fun J6 =>
 kBin .gtr v32 (.int .i64 0) fun v38 =>
 kCond v38 (
 kBuild [(.string (bs [])), (.bool false), (.bool false), (.bool false)] [(3, 1, (.bool true))] fun v40 =>
 kBsl s 1 [(.string (bs [])), (.bool false), (.bool false), (.bool false)] [(0, 4, v40)] fun v41 s =>
 kApp PG 82 82 out_8 v41 s fun v42 s =>
 J6 [v42] s) (
 J6 [out_8] s)) fun J4 =>
 kCond v33 (
 J4 [] s) (
 J2 [out_8] s)) [(.slice none 0 0), (.int .i64 0)] s) fun J1 =>
 kFld 1 p_4 fun v11 =>
 kLd s v11 fun v12 =>
 kBin .eql v12 (.string (bs [42])) fun v13 =>
 kGrd v13 true (fun k =>
 kFld 2 p_4 fun v15 =>
 kLd s v15 fun v16 =>
 k [v16] s) [undef] s fun xs s =>
 un1 xs fun v16 =>
 kPick v13 v16 (.bool false) fun v17 =>
 kCond v17 (
 kCall PG 38 [x_0] s fun v19 s =>
 kLen true v19 fun v22 =>
 kMin v22 (.int .i64 1) fun v23 =>
 kSubS v19 none (some v23) fun v24 =>
 kLdN s 6 p_4 fun v27 =>
 kCall PG 137 [v24, values_2] s fun v26 s =>
 kChkN s 6 p_4 v27 (
 kCall PG 64 [v26, v27] s fun v28 s =>
 kBsl s 1 [(.string (bs [])), (.bool false), (.bool false), (.bool false)] [(0, 4, v28)] fun v29 s =>
 k v29 s)) (
 J1 [] s)
theorem F106_ok (x_0 p_1 values_2 : Value) (s : AS) (k : Value → AS → Prop) : denFn PG [(3, (.go 0 (.go 1 (.go 2 (.go 3 (.go 4 (.go 5 (.go 7 (.go 6 (.go 8 (.go 9 (.go 10 .done))))))))))))] 106 [x_0, p_1, values_2] s k = F106 x_0 p_1 values_2 s k := by kernel_rfl
theorem f106 {x_0 p_1 values_2 : Value} {s : AS} {k : Value → AS → Prop} (h : F106 x_0 p_1 values_2 s k) : kCall PG 106 [x_0, p_1, values_2] s k := fn_by (F106_ok x_0 p_1 values_2 s k) h
def F108 (op_0 l_1 s_2 : Value) (s : AS) (k : Value → AS → Prop) : Prop :=
 kBin .eql op_0 (.int .i64 7) fun v9 =>
 kGrd v9 false (fun k =>
 kBin .eql op_0 (.int .i64 9) fun v12 =>
 k [v12] s) [undef] s fun xs s =>
 un1 xs fun v12 =>
 kPick v9 (.bool true) v12 fun v13 =>
 kJoin (fun _ s =>
 kLen true s_2 fun v29 =>
 kCall PG 140 [l_1, s_2, v13] s fun v33 s =>
 kMax v33 (.int .i64 0) fun v34 =>
 kBin .sub v29 v34 fun v35 =>
 kSubS s_2 none (some v35) fun v36 =>
 k v36 s) fun J1 =>
 kBin .eql op_0 (.int .i64 6) fun v15 =>
 kGrd v15 false (fun k =>
 kBin .eql op_0 (.int .i64 7) fun v18 =>
 k [v18] s) [undef] s fun xs s =>
 un1 xs fun v18 =>
 kPick v15 (.bool true) v18 fun v19 =>
 kCond v19 (
 kCall PG 139 [l_1, s_2, v13] s fun v24 s =>
 kMax v24 (.int .i64 0) fun v25 =>
 kSubS s_2 (some v25) none fun v26 =>
 k v26 s) (
 J1 [] s)
theorem F108_ok (op_0 l_1 s_2 : Value) (s : AS) (k : Value → AS → Prop) : denFn PG [] 108 [op_0, l_1, s_2] s k = F108 op_0 l_1 s_2 s k := by kernel_rfl
theorem f108 {op_0 l_1 s_2 : Value} {s : AS} {k : Value → AS → Prop} (h : F108 op_0 l_1 s_2 s k) : kCall PG 108 [op_0, l_1, s_2] s k := fn_by (F108_ok op_0 l_1 s_2 s k) h
def F109 (b_0 : Value) (s : AS) (k : Value → AS → Prop) : Prop :=
 kNck b_0 fun v4 =>
 kFld 1 v4 fun v5 =>
 kNck b_0 fun v9 =>
 kFld 1 v9 fun v10 =>
 kLd s v5 fun v6 =>
 kLd s v10 fun v11 =>
 kLen false v11 fun v12 =>
 kGen PG (.blt .unsafeSliceData [141] 222) [v6] s fun v7 s =>
 kChk s v10 v11 (
 kGen PG (.blt .unsafeString [222, 3] 9) [v7, v12] s fun v13 s =>
 k v13 s)
theorem F109_ok (b_0 : Value) (s : AS) (k : Value → AS → Prop) : denFn PG [(1, (.go 0 (.go 1 (.go 2 (.go 5 (.go 6 (.go 7 (.go 3 (.go 8 (.go 9 (.go 4 (.go 10 (.go 11 .done)))))))))))))] 109 [b_0] s k = F109 b_0 s k := by kernel_rfl
theorem f109 {b_0 : Value} {s : AS} {k : Value → AS → Prop} (h : F109 b_0 s k) : kCall PG 109 [b_0] s k := fn_by (F109_ok b_0 s k) h
def F110 (b_0 s_1 : Value) (s : AS) (k : Value → AS → Prop) : Prop :=
 kCall PG 141 [b_0] s fun v7 s =>
 kNck b_0 fun v10 =>
 kFld 1 v10 fun v11 =>
 kLd s v11 fun v12 =>
 kApp PG 141 9 v12 s_1 s fun v14 s =>
 kNck b_0 fun v15 =>
 kFld 1 v15 fun v16 =>
 kSt s 1 v16 v14 fun s =>
 kLen true s_1 fun v18 =>
 k (.tuple #[v18, .nilIface]) s
theorem F110_ok (b_0 s_1 : Value) (s : AS) (k : Value → AS → Prop) : denFn PG [] 110 [b_0, s_1] s k = F110 b_0 s_1 s k := by kernel_rfl
theorem f110 {b_0 s_1 : Value} {s : AS} {k : Value → AS → Prop} (h : F110 b_0 s_1 s k) : kCall PG 110 [b_0, s_1] s k := fn_by (F110_ok b_0 s_1 s k) h
def F111 (s_0 c_1 : Value) (s : AS) (k : Value → AS → Prop) : Prop :=
 kGen PG (.ext 142) [s_0, c_1] s fun v7 s =>
 k v7 s
theorem F111_ok (s_0 c_1 : Value) (s : AS) (k : Value → AS → Prop) : denFn PG [] 111 [s_0, c_1] s k = F111 s_0 c_1 s k := by kernel_rfl
theorem f111 {s_0 c_1 : Value} {s : AS} {k : Value → AS → Prop} (h : F111 s_0 c_1 s k) : kCall PG 111 [s_0, c_1] s k := fn_by (F111_ok s_0 c_1 s k) h
def F112 (s_0 : Value) (s : AS) (k : Value → AS → Prop) : Prop :=
 kJoin (fun xs s =>
 un1 xs fun n_3 =>
 k n_3 s) fun J1 =>
 kLoop (fun again2 xs s =>
 un1 xs fun n_3 =>
 kJoin (fun _ s =>
 kBin .add n_3 (.int .i64 1) fun v25 =>
 again2 [v25] s) fun J3 =>
 kLen true s_0 fun v6 =>
 kBin .lss n_3 v6 fun v7 =>
 kGrd v7 true (fun k =>
 kIxS s_0 n_3 fun v11 =>
 kCall PG 143 [v11] s fun v12 s =>
 k [v12] s) [undef] s fun xs s =>
 un1 xs fun v13 =>
 kGrd v13 false (fun k =>
 kBin .gtr n_3 (.int .i64 0) fun v15 =>
 k [v15] s) [undef] s fun xs s =>
 un1 xs fun v16 =>
 kGrd v16 true (fun k =>
 kIxS s_0 n_3 fun v19 =>
 kCall PG 144 [v19] s fun v20 s =>
 k [v20] s) [undef] s fun xs s =>
 un1 xs fun v20 =>
 kGrd v13 false (fun k =>
 kPick v16 v20 (.bool false) fun v21 =>
 k [v21] s) [undef] s fun xs s =>
 un1 xs fun v21 =>
 kGrd v7 true (fun k =>
 kPick v13 (.bool true) v21 fun v22 =>
 k [v22] s) [undef] s fun xs s =>
 un1 xs fun v22 =>
 kPick v7 v22 (.bool false) fun v23 =>
 kCond v23 (
 J3 [] s) (
 J1 [n_3] s)) [(.int .i64 0)] s
theorem F112_ok (s_0 : Value) (s : AS) (k : Value → AS → Prop) : denFn PG [] 112 [s_0] s k = F112 s_0 s k := by kernel_rfl
theorem f112 {s_0 : Value} {s : AS} {k : Value → AS → Prop} (h : F112 s_0 s k) : kCall PG 112 [s_0] s k := fn_by (F112_ok s_0 s k) h
def F113 (s_0 f_1 : Value) (s : AS) (k : Value → AS → Prop) : Prop :=
 kCall PG 145 [s_0, f_1] s fun v7 s =>
 kBin .geq v7 (.int .i64 0) fun v8 =>
 k v8 s
theorem F113_ok (s_0 f_1 : Value) (s : AS) (k : Value → AS → Prop) : denFn PG [] 113 [s_0, f_1] s k = F113 s_0 f_1 s k := by kernel_rfl
theorem f113 {s_0 f_1 : Value} {s : AS} {k : Value → AS → Prop} (h : F113 s_0 f_1 s k) : kCall PG 113 [s_0, f_1] s k := fn_by (F113_ok s_0 f_1 s k) h
def F114 (r_0 v1 : Value) (s : AS) (k : Value → AS → Prop) : Prop :=
 kNew s (cellsV r_0) fun r_2 s =>
 kLd s v1 fun v4 =>
 kFld 0 r_2 fun v5 =>
 kLd s v5 fun v6 =>
 kBin .geq v4 v6 fun v7 =>
 kGrd v7 true (fun k =>
 kLd s v1 fun v9 =>
 kFld 1 r_2 fun v10 =>
 kLd s v10 fun v11 =>
 kBin .leq v9 v11 fun v12 =>
 k [v12] s) [undef] s fun xs s =>
 un1 xs fun v12 =>
 kPick v7 v12 (.bool false) fun v13 =>
 k v13 s
theorem F114_ok (r_0 v1 : Value) (s : AS) (k : Value → AS → Prop) : denFn PG [] 114 [r_0, v1] s k = F114 r_0 v1 s k := by kernel_rfl
theorem f114 {r_0 v1 : Value} {s : AS} {k : Value → AS → Prop} (h : F114 r_0 v1 s k) : kCall PG 114 [r_0, v1] s k := fn_by (F114_ok r_0 v1 s k) h
def F115 (s_0 : Value) (s : AS) (k : Value → AS → Prop) : Prop :=
 kJoin (fun _ s =>
 kJoin (fun xs s =>
 un1 xs fun n_3 =>
 k n_3 s) fun J2 =>
 kLoop (fun again3 xs s =>
 un1 xs fun n_3 =>
 kJoin (fun _ s =>
 kBin .add n_3 (.int .i64 1) fun v29 =>
 again3 [v29] s) fun J4 =>
 kLen true s_0 fun v14 =>
 kBin .lss n_3 v14 fun v15 =>
 kGrd v15 true (fun k =>
 kIxS s_0 n_3 fun v19 =>
 kCall PG 146 [v19] s fun v20 s =>
 k [v20] s) [undef] s fun xs s =>
 un1 xs fun v21 =>
 kGrd v21 false (fun k =>
 kIxS s_0 n_3 fun v24 =>
 kCall PG 147 [v24] s fun v25 s =>
 k [v25] s) [undef] s fun xs s =>
 un1 xs fun v25 =>
 kGrd v15 true (fun k =>
 kPick v21 (.bool true) v25 fun v26 =>
 k [v26] s) [undef] s fun xs s =>
 un1 xs fun v26 =>
 kPick v15 v26 (.bool false) fun v27 =>
 kCond v27 (
 J4 [] s) (
 J2 [n_3] s)) [(.int .i64 1)] s) fun J1 =>
 kBin .eql s_0 (.string (bs [])) fun v5 =>
 kGrd v5 false (fun k =>
 kIxS s_0 (.int .i64 0) fun v8 =>
 kCall PG 146 [v8] s fun v9 s =>
 kUn .not v9 fun v10 =>
 k [v10] s) [undef] s fun xs s =>
 un1 xs fun v10 =>
 kPick v5 (.bool true) v10 fun v11 =>
 kCond v11 (
 k (.int .i64 0) s) (
 J1 [] s)
theorem F115_ok (s_0 : Value) (s : AS) (k : Value → AS → Prop) : denFn PG [] 115 [s_0] s k = F115 s_0 s k := by kernel_rfl
theorem f115 {s_0 : Value} {s : AS} {k : Value → AS → Prop} (h : F115 s_0 s k) : kCall PG 115 [s_0] s k := fn_by (F115_ok s_0 s k) h
def F116 (s_0 seq_1 : Value) (s : AS) (k : Value → AS → Prop) : Prop :=
 kNew s (cellsV s_0) fun s_2 s =>
 kJoin (fun xs s =>
 un1 xs fun v13 =>
 kLd s s_2 fun v12 =>
 kFin PG (valsOf v13) s fun s =>
 k v12 s) fun J1 =>
 kRng PG seq_1 (fun xs s bg k =>
 xs.length = 1 ∧ (
 un1 xs fun v7 =>
 kNew s [(.string (bs [])), (.string (bs [])), (.bool false), (.bool false), (.bool false)] fun v_5 s =>
 kSt s 5 v_5 v7 fun s =>
 bg s fun s =>
 kLd s s_2 fun v8 =>
 kLdN s 5 v_5 fun v9 =>
 kBsl s 1 [(.string (bs [])), (.string (bs [])), (.bool false), (.bool false), (.bool false)] [(0, 5, v9)] fun v10 s =>
 kApp PG 63 63 v8 v10 s fun v11 s =>
 kSt s 1 s_2 v11 fun s =>
 k s)) s fun m2 s =>
 J1 [(consM m2 undef)] s
theorem F116_ok (s_0 seq_1 : Value) (s : AS) (k : Value → AS → Prop) : denFn PG [] 116 [s_0, seq_1] s k = F116 s_0 seq_1 s k := by kernel_rfl
theorem f116 {s_0 seq_1 : Value} {s : AS} {k : Value → AS → Prop} (h : F116 s_0 seq_1 s k) : kCall PG 116 [s_0, seq_1] s k := fn_by (F116_ok s_0 seq_1 s k) h
def F129 (as_0 c_1 : Value) (s : AS) (k : Value → AS → Prop) : Prop :=
 kNck as_0 fun v7 =>
 kIdxA 256 1 v7 c_1 fun v8 =>
 kLd s v8 fun v9 =>
 k v9 s
theorem F129_ok (as_0 c_1 : Value) (s : AS) (k : Value → AS → Prop) : denFn PG [] 129 [as_0, c_1] s k = F129 as_0 c_1 s k := by kernel_rfl
theorem f129 {as_0 c_1 : Value} {s : AS} {k : Value → AS → Prop} (h : F129 as_0 c_1 s k) : kCall PG 129 [as_0, c_1] s k := fn_by (F129_ok as_0 c_1 s k) h
def F132 (s_0 way_1 : Value) (s : AS) (k : Value → AS → Prop) : Prop :=
 kBuild [(.slice none 0 0), (.int .i64 0)] [] fun v11 =>
 kNew s (cellsV v11) fun v12 s =>
 kJoin (fun _ s =>
 kNck v12 fun v61 =>
 kFld 0 v61 fun v62 =>
 kLd s v62 fun v63 =>
 k (.tuple #[v63, (.int .i64 0)]) s) fun J1 =>
 kLoop (fun again2 xs s =>
 un1 xs fun i_7 =>
 kJoin (fun _ s =>
 kJoin (fun xs s =>
 un1 xs fun i_7 =>
 kCall PG 170 [s_0, i_7, way_1] s fun v37 s =>
 kExt 0 v37 fun v38 =>
 kExt 1 v37 fun v39 =>
 kJoin (fun _ s =>
 kSubS s_0 (some i_7) (some v38) fun v47 =>
 kCall PG 171 [v12, v47, way_1] s fun v49 s =>
 kJoin (fun _ s =>
 again2 [v38] s) fun J6 =>
 kNck v12 fun v51 =>
 kFld 1 v51 fun v52 =>
 kLd s v52 fun v53 =>
 kBin .neq v53 (.int .i64 0) fun v54 =>
 kCond v54 (
 kNck v12 fun v56 =>
 kFld 1 v56 fun v57 =>
 kLd s v57 fun v58 =>
 k (.tuple #[(.slice none 0 0), v58]) s) (
 J6 [] s)) fun J5 =>
 kBin .neq v39 (.int .i64 0) fun v41 =>
 kCond v41 (
 k (.tuple #[(.slice none 0 0), v39]) s) (
 J5 [] s)) fun J4 =>
 kIxS s_0 i_7 fun v19 =>
 kBin .eql v19 (.int .u8 36) fun v20 =>
 kCond v20 (
 kSubS s_0 (some i_7) none fun v24 =>
 kCall PG 169 [way_1] s fun v26 s =>
 kCall PG 168 [v12, v24, v26] s fun v27 s =>
 kBin .gtr v27 (.int .i64 0) fun v29 =>
 kCond v29 (
 kBin .add i_7 v27 fun v32 =>
 again2 [v32] s) (
 J4 [i_7] s)) (
 J4 [i_7] s)) fun J3 =>
 kLen true s_0 fun v15 =>
 kBin .lss i_7 v15 fun v16 =>
 kCond v16 (
 J3 [] s) (
 J1 [] s)) [(.int .i64 0)] s
theorem F132_ok (s_0 way_1 : Value) (s : AS) (k : Value → AS → Prop) : denFn PG [(5, (.go 0 (.go 1 (.go 2 (.go 3 (.go 4 (.go 5 (.go 6 (.go 7 .done))))))))), (13, (.go 0 (.go 1 (.go 2 (.go 4 (.go 3 (.go 5 .done)))))))] 132 [s_0, way_1] s k = F132 s_0 way_1 s k := by kernel_rfl
theorem f132 {s_0 way_1 : Value} {s : AS} {k : Value → AS → Prop} (h : F132 s_0 way_1 s k) : kCall PG 132 [s_0, way_1] s k := fn_by (F132_ok s_0 way_1 s k) h
def F133 (s : AS) (k : Value → AS → Prop) : Prop :=
 kMkm s fun v1 s =>
 kBuild [(.int .i64 0), .nilFunc] [(0, 1, (.int .i64 1)), (1, 1, .nilFunc)] fun v2 =>
 kGen PG (.mup 216) [v1, (.string (bs [124, 124])), v2] s fun _ s =>
 kBuild [(.int .i64 0), .nilFunc] [(0, 1, (.int .i64 2)), (1, 1, .nilFunc)] fun v3 =>
 kGen PG (.mup 216) [v1, (.string (bs [38, 38])), v3] s fun _ s =>
 kCall PG 172 [(.func (.func 173) #[] #[])] s fun v4 s =>
 kBuild [(.int .i64 0), .nilFunc] [(0, 1, (.int .i64 3)), (1, 1, v4)] fun v5 =>
 kGen PG (.mup 216) [v1, (.string (bs [124])), v5] s fun _ s =>
 kCall PG 172 [(.func (.func 174) #[] #[])] s fun v6 s =>
 kBuild [(.int .i64 0), .nilFunc] [(0, 1, (.int .i64 4)), (1, 1, v6)] fun v7 =>
 kGen PG (.mup 216) [v1, (.string (bs [94])), v7] s fun _ s =>
 kCall PG 172 [(.func (.func 175) #[] #[])] s fun v8 s =>
 kBuild [(.int .i64 0), .nilFunc] [(0, 1, (.int .i64 5)), (1, 1, v8)] fun v9 =>
 kGen PG (.mup 216) [v1, (.string (bs [38])), v9] s fun _ s =>
 kCall PG 172 [(.func (.func 176) #[] #[])] s fun v10 s =>
 kBuild [(.int .i64 0), .nilFunc] [(0, 1, (.int .i64 6)), (1, 1, v10)] fun v11 =>
 kGen PG (.mup 216) [v1, (.string (bs [61, 61])), v11] s fun _ s =>
 kCall PG 172 [(.func (.func 178) #[] #[])] s fun v12 s =>
 kBuild [(.int .i64 0), .nilFunc] [(0, 1, (.int .i64 6)), (1, 1, v12)] fun v13 =>
 kGen PG (.mup 216) [v1, (.string (bs [33, 61])), v13] s fun _ s =>
 kCall PG 172 [(.func (.func 179) #[] #[])] s fun v14 s =>
 kBuild [(.int .i64 0), .nilFunc] [(0, 1, (.int .i64 7)), (1, 1, v14)] fun v15 =>
 kGen PG (.mup 216) [v1, (.string (bs [60])), v15] s fun _ s =>
 kCall PG 172 [(.func (.func 180) #[] #[])] s fun v16 s =>
 kBuild [(.int .i64 0), .nilFunc] [(0, 1, (.int .i64 7)), (1, 1, v16)] fun v17 =>
 kGen PG (.mup 216) [v1, (.string (bs [60, 61])), v17] s fun _ s =>
 kCall PG 172 [(.func (.func 181) #[] #[])] s fun v18 s =>
 kBuild [(.int .i64 0), .nilFunc] [(0, 1, (.int .i64 7)), (1, 1, v18)] fun v19 =>
 kGen PG (.mup 216) [v1, (.string (bs [62])), v19] s fun _ s =>
 kCall PG 172 [(.func (.func 182) #[] #[])] s fun v20 s =>
 kBuild [(.int .i64 0), .nilFunc] [(0, 1, (.int .i64 7)), (1, 1, v20)] fun v21 =>
 kGen PG (.mup 216) [v1, (.string (bs [62, 61])), v21] s fun _ s =>
 kCall PG 172 [(.func (.func 183) #[] #[])] s fun v22 s =>
 kBuild [(.int .i64 0), .nilFunc] [(0, 1, (.int .i64 8)), (1, 1, v22)] fun v23 =>
 kGen PG (.mup 216) [v1, (.string (bs [60, 60])), v23] s fun _ s =>
 kCall PG 172 [(.func (.func 184) #[] #[])] s fun v24 s =>
 kBuild [(.int .i64 0), .nilFunc] [(0, 1, (.int .i64 8)), (1, 1, v24)] fun v25 =>
 kGen PG (.mup 216) [v1, (.string (bs [62, 62])), v25] s fun _ s =>
 kCall PG 172 [(.func (.func 185) #[] #[])] s fun v26 s =>
 kBuild [(.int .i64 0), .nilFunc] [(0, 1, (.int .i64 9)), (1, 1, v26)] fun v27 =>
 kGen PG (.mup 216) [v1, (.string (bs [43])), v27] s fun _ s =>
 kCall PG 172 [(.func (.func 186) #[] #[])] s fun v28 s =>
 kBuild [(.int .i64 0), .nilFunc] [(0, 1, (.int .i64 9)), (1, 1, v28)] fun v29 =>
 kGen PG (.mup 216) [v1, (.string (bs [45])), v29] s fun _ s =>
 kCall PG 172 [(.func (.func 187) #[] #[])] s fun v30 s =>
 kBuild [(.int .i64 0), .nilFunc] [(0, 1, (.int .i64 10)), (1, 1, v30)] fun v31 =>
 kGen PG (.mup 216) [v1, (.string (bs [42])), v31] s fun _ s =>
 kCall PG 188 [(.func (.func 189) #[] #[]), (.int .i64 (-9223372036854775808))] s fun v32 s =>
 kBuild [(.int .i64 0), .nilFunc] [(0, 1, (.int .i64 10)), (1, 1, v32)] fun v33 =>
 kGen PG (.mup 216) [v1, (.string (bs [47])), v33] s fun _ s =>
 kCall PG 188 [(.func (.func 190) #[] #[]), (.int .i64 0)] s fun v34 s =>
 kBuild [(.int .i64 0), .nilFunc] [(0, 1, (.int .i64 10)), (1, 1, v34)] fun v35 =>
 kGen PG (.mup 216) [v1, (.string (bs [37])), v35] s fun _ s =>
 k v1 s
theorem F133_ok (s : AS) (k : Value → AS → Prop) : denFn PG [] 133 [] s k = F133 s k := by kernel_rfl
theorem f133 {s : AS} {k : Value → AS → Prop} (h : F133 s k) : kCall PG 133 [] s k := fn_by (F133_ok s k) h
def F134 (w_0 : Value) (s : AS) (k : Value → AS → Prop) : Prop :=
 kCall PG 191 [w_0] s fun v7 s =>
 kJoin (fun _ s =>
 kJoin (fun _ s =>
 kNck w_0 fun v47 =>
 kFld 0 v47 fun v48 =>
 kLd s v48 fun v49 =>
 kSubS v49 none (some (.int .i64 1)) fun v50 =>
 k v50 s) fun J2 =>
 kNck w_0 fun v42 =>
 kFld 0 v42 fun v43 =>
 kLd s v43 fun v44 =>
 kBin .eql v44 (.string (bs [])) fun v45 =>
 kCond v45 (
 k (.string (bs [])) s) (
 J2 [] s)) fun J1 =>
 kNck w_0 fun v9 =>
 kFld 0 v9 fun v10 =>
 kLd s v10 fun v11 =>
 kLen true v11 fun v12 =>
 kBin .gtr v12 (.int .i64 1) fun v13 =>
 kCond v13 (
 kNck w_0 fun v15 =>
 kFld 0 v15 fun v16 =>
 kLd s v16 fun v17 =>
 kSubS v17 none (some (.int .i64 2)) fun v18 =>
 kNck w_0 fun v21 =>
 kFld 1 v21 fun v22 =>
 kLd s v22 fun v23 =>
 kGen PG (.lk 216 true) [v23, v18] s fun v25 s =>
 kExt 0 v25 fun v26 =>
 kExt 1 v25 fun v27 =>
 kNew s [(.int .i64 0), .nilFunc] fun v4 s =>
 kSt s 2 v4 v26 fun s =>
 kGrd v27 false (fun k =>
 kIxS v18 (.int .i64 1) fun v31 =>
 kBin .eql v31 (.int .u8 61) fun v32 =>
 k [v32] s) [undef] s fun xs s =>
 un1 xs fun v33 =>
 kGrd v33 true (fun k =>
 kIxS v18 (.int .i64 0) fun v35 =>
 kCall PG 72 [(.string (bs [43, 45, 42, 47, 37])), v35] s fun v36 s =>
 kBin .geq v36 (.int .i64 0) fun v37 =>
 k [v37] s) [undef] s fun xs s =>
 un1 xs fun v37 =>
 kGrd v27 false (fun k =>
 kPick v33 v37 (.bool false) fun v38 =>
 k [v38] s) [undef] s fun xs s =>
 un1 xs fun v38 =>
 kPick v27 (.bool true) v38 fun v39 =>
 kCond v39 (
 k v18 s) (
 J1 [] s)) (
 J1 [] s)
theorem F134_ok (w_0 : Value) (s : AS) (k : Value → AS → Prop) : denFn PG [] 134 [w_0] s k = F134 w_0 s k := by kernel_rfl
theorem f134 {w_0 : Value} {s : AS} {k : Value → AS → Prop} (h : F134 w_0 s k) : kCall PG 134 [w_0] s k := fn_by (F134_ok w_0 s k) h
def F135 (w_0 : Value) (s : AS) (k : Value → AS → Prop) : Prop :=
 kCall PG 191 [w_0] s fun v8 s =>
 kNck w_0 fun v10 =>
 kFld 0 v10 fun v11 =>
 kNck w_0 fun v14 =>
 kFld 0 v14 fun v15 =>
 kLd s v11 fun v12 =>
 kLd s v15 fun v16 =>
 kCall PG 112 [v16] s fun v17 s =>
 kChk s v11 v12 (
 kSubS v12 none (some v17) fun v18 =>
 kJoin (fun _ s =>
 kNck w_0 fun v24 =>
 kFld 0 v24 fun v25 =>
 kLd s v25 fun v26 =>
 kLen true v18 fun v30 =>
 kSubS v26 (some v30) none fun v31 =>
 kNck w_0 fun v32 =>
 kFld 0 v32 fun v33 =>
 kSt s 1 v33 v31 fun s =>
 kCall PG 134 [w_0] s fun v35 s =>
 kJoin (fun _ s =>
 kNck w_0 fun v52 =>
 kFld 0 v52 fun v53 =>
 kLd s v53 fun v54 =>
 kLen true v35 fun v56 =>
 kSubS v54 (some v56) none fun v57 =>
 kNck w_0 fun v58 =>
 kFld 0 v58 fun v59 =>
 kSt s 1 v59 v57 fun s =>
 kCall PG 135 [w_0] s fun v61 s =>
 kJoin (fun xs s =>
 un1 xs fun n_6 =>
 kJoin (fun _ s =>
 k n_6 s) fun J4 =>
 kCall PG 195 [w_0] s fun v73 s =>
 kCond v73 (
 kNck w_0 fun v76 =>
 kFld 3 v76 fun v77 =>
 kLd s v77 fun v78 =>
 kCall PG 103 [n_6] s fun v81 s =>
 kChk s v77 v78 (
 kBuild [(.string (bs [])), (.string (bs []))] [(0, 1, v18), (1, 1, v81)] fun v82 =>
 kBsl s 1 [(.string (bs [])), (.string (bs []))] [(0, 2, v82)] fun v83 s =>
 kChk s v77 v78 (
 kApp PG 180 180 v78 v83 s fun v84 s =>
 kNck w_0 fun v85 =>
 kFld 3 v85 fun v86 =>
 kSt s 1 v86 v84 fun s =>
 J4 [] s))) (
 J4 [] s)) fun J3 =>
 kBin .neq v35 (.string (bs [61])) fun v63 =>
 kCond v63 (
 kSubS v35 none (some (.int .i64 1)) fun v66 =>
 kCall PG 194 [w_0, v18] s fun v69 s =>
 kCall PG 193 [w_0, v66, v69, v61] s fun v71 s =>
 J3 [v71] s) (
 J3 [v61] s)) fun J2 =>
 kJoin (fun xs s =>
 un1 xs fun v43 =>
 kCond v43 (
 J2 [] s) (
 kNck w_0 fun v39 =>
 kFld 0 v39 fun v40 =>
 kSt s 1 v40 v26 fun s =>
 kCall PG 192 [w_0] s fun v42 s =>
 k v42 s)) fun J5 =>
 kBin .eql v35 (.string (bs [43, 61])) fun v44 =>
 kCond v44 (
 J5 [v44] s) (
 kBin .eql v35 (.string (bs [45, 61])) fun v45 =>
 kCond v45 (
 J5 [v45] s) (
 kBin .eql v35 (.string (bs [42, 61])) fun v46 =>
 kCond v46 (
 J5 [v46] s) (
 kBin .eql v35 (.string (bs [47, 61])) fun v47 =>
 kCond v47 (
 J5 [v47] s) (
 kBin .eql v35 (.string (bs [37, 61])) fun v48 =>
 kCond v48 (
 J5 [v48] s) (
 kBin .eql v35 (.string (bs [61])) fun v49 =>
 J5 [v49] s)))))) fun J1 =>
 kBin .eql v18 (.string (bs [])) fun v20 =>
 kCond v20 (
 kCall PG 192 [w_0] s fun v22 s =>
 k v22 s) (
 J1 [] s))
theorem F135_ok (w_0 : Value) (s : AS) (k : Value → AS → Prop) : denFn PG [(2, (.go 0 (.go 1 (.go 2 (.go 4 (.go 5 (.go 6 (.go 3 (.go 7 (.go 8 (.go 9 (.go 10 .done)))))))))))), (20, (.go 0 (.go 1 (.go 2 (.go 3 (.go 4 (.go 6 (.go 5 (.go 7 (.go 8 .done)))))))))), (22, (.go 0 (.go 1 (.go 2 (.go 3 (.go 5 (.go 6 (.go 4 (.go 7 (.go 8 (.go 9 (.go 10 (.go 11 (.go 12 (.go 13 .done)))))))))))))))] 135 [w_0] s k = F135 w_0 s k := by kernel_rfl
theorem f135 {w_0 : Value} {s : AS} {k : Value → AS → Prop} (h : F135 w_0 s k) : kCall PG 135 [w_0] s k := fn_by (F135_ok w_0 s k) h
def F137 (by_0 l_1 : Value) (s : AS) (k : Value → AS → Prop) : Prop :=
 kCall PG 197 [l_1, by_0] s fun v7 s =>
 k v7 s
theorem F137_ok (by_0 l_1 : Value) (s : AS) (k : Value → AS → Prop) : denFn PG [] 137 [by_0, l_1] s k = F137 by_0 l_1 s k := by kernel_rfl
theorem f137 {by_0 l_1 : Value} {s : AS} {k : Value → AS → Prop} (h : F137 by_0 l_1 s k) : kCall PG 137 [by_0, l_1] s k := fn_by (F137_ok by_0 l_1 s k) h
def F138 (a_0 p_1 : Value) (s : AS) (k : Value → AS → Prop) : Prop :=
 kNck a_0 fun v11 =>
 kFld 1 v11 fun v12 =>
 kLd s v12 fun v13 =>
 kLen false v13 fun v14 =>
 kCall PG 198 [p_1, v14] s fun v15 s =>
 kExt 0 v15 fun v16 =>
 kExt 1 v15 fun v17 =>
 kJoin (fun _ s =>
 kNck a_0 fun v34 =>
 kFld 1 v34 fun v35 =>
 kLd s v35 fun v36 =>
 kBin .sub v16 (.int .i64 1) fun v38 =>
 kIdx 1 v36 v38 fun v39 =>
 kLd s v39 fun v40 =>
 k (.tuple #[v40, (.bool true)]) s) fun J1 =>
 kBin .eql p_1 (.string (bs [48])) fun v20 =>
 kCond v20 (
 kNck a_0 fun v22 =>
 kFld 0 v22 fun v23 =>
 kLd s v23 fun v24 =>
 k (.tuple #[v24, (.bool true)]) s) (
 kBin .neq v17 (.int .i64 0) fun v27 =>
 kGrd v27 false (fun k =>
 kIxS p_1 (.int .i64 0) fun v30 =>
 kBin .eql v30 (.int .u8 48) fun v31 =>
 k [v31] s) [undef] s fun xs s =>
 un1 xs fun v31 =>
 kPick v27 (.bool true) v31 fun v32 =>
 kCond v32 (
 k (.tuple #[(.string (bs [])), (.bool false)]) s) (
 J1 [] s))
theorem F138_ok (a_0 p_1 : Value) (s : AS) (k : Value → AS → Prop) : denFn PG [] 138 [a_0, p_1] s k = F138 a_0 p_1 s k := by kernel_rfl
theorem f138 {a_0 p_1 : Value} {s : AS} {k : Value → AS → Prop} (h : F138 a_0 p_1 s k) : kCall PG 138 [a_0, p_1] s k := fn_by (F138_ok a_0 p_1 s k) h
def F139 (l_0 s_1 longest_2 : Value) (s : AS) (k : Value → AS → Prop) : Prop :=
 kJoin (fun xs s =>
 un1 xs fun at_7 =>
 k at_7 s) fun J1 =>
 kCall PG 45 [l_0, s_1] s fun v12 s =>
 kLen false v12 fun v13 =>
 kLoop (fun again2 xs s =>
 un2 xs fun at_7 v14 =>
 kBin .lss v14 v13 fun v15 =>
 kJoin (fun _ s =>
 kJoin (fun xs s =>
 un1 xs fun at_7 =>
 kBin .add v14 (.int .i64 1) fun v28 =>
 again2 [at_7, v28] s) fun J4 =>
 kIdx 1 v12 v14 fun v17 =>
 kLd s v17 fun v18 =>
 kGrd v18 true (fun k =>
 kBin .lss at_7 (.int .i64 0) fun v22 =>
 k [v22] s) [undef] s fun xs s =>
 un1 xs fun v23 =>
 kGrd v23 false (fun k =>
 k [longest_2] s) [undef] s fun xs s =>
 un1 xs fun v24 =>
 kGrd v18 true (fun k =>
 kPick v23 (.bool true) v24 fun v25 =>
 k [v25] s) [undef] s fun xs s =>
 un1 xs fun v25 =>
 kPick v18 v25 (.bool false) fun v26 =>
 kCond v26 (
 J4 [v14] s) (
 J4 [at_7] s)) fun J3 =>
 kCond v15 (
 J3 [] s) (
 J1 [at_7] s)) [(.int .i64 (-1)), (.int .i64 0)] s
theorem F139_ok (l_0 s_1 longest_2 : Value) (s : AS) (k : Value → AS → Prop) : denFn PG [] 139 [l_0, s_1, longest_2] s k = F139 l_0 s_1 longest_2 s k := by kernel_rfl
theorem f139 {l_0 s_1 longest_2 : Value} {s : AS} {k : Value → AS → Prop} (h : F139 l_0 s_1 longest_2 s k) : kCall PG 139 [l_0, s_1, longest_2] s k := fn_by (F139_ok l_0 s_1 longest_2 s k) h
def F140 (l_0 s_1 longest_2 : Value) (s : AS) (k : Value → AS → Prop) : Prop :=
 kJoin (fun xs s =>
 un1 xs fun at_7 =>
 k at_7 s) fun J1 =>
 kLen true s_1 fun v10 =>
 kBin .add v10 (.int .i64 1) fun v11 =>
 kLoop (fun again2 xs s =>
 un2 xs fun at_7 v12 =>
 kBin .lss v12 v11 fun v13 =>
 kJoin (fun _ s =>
 kJoin (fun xs s =>
 un1 xs fun at_7 =>
 kBin .add v12 (.int .i64 1) fun v31 =>
 again2 [at_7, v31] s) fun J4 =>
 kBin .lss at_7 (.int .i64 0) fun v16 =>
 kGrd v16 false (fun k =>
 k [longest_2] s) [undef] s fun xs s =>
 un1 xs fun v18 =>
 kPick v16 (.bool true) v18 fun v19 =>
 kGrd v19 true (fun k =>
 kLen true s_1 fun v24 =>
 kBin .sub v24 v12 fun v26 =>
 kSubS s_1 (some v26) none fun v27 =>
 kCall PG 17 [l_0, v27] s fun v28 s =>
 k [v28] s) [undef] s fun xs s =>
 un1 xs fun v28 =>
 kPick v19 v28 (.bool false) fun v29 =>
 kCond v29 (
 J4 [v12] s) (
 J4 [at_7] s)) fun J3 =>
 kCond v13 (
 J3 [] s) (
 J1 [at_7] s)) [(.int .i64 (-1)), (.int .i64 0)] s
theorem F140_ok (l_0 s_1 longest_2 : Value) (s : AS) (k : Value → AS → Prop) : denFn PG [] 140 [l_0, s_1, longest_2] s k = F140 l_0 s_1 longest_2 s k := by kernel_rfl
theorem f140 {l_0 s_1 longest_2 : Value} {s : AS} {k : Value → AS → Prop} (h : F140 l_0 s_1 longest_2 s k) : kCall PG 140 [l_0, s_1, longest_2] s k := fn_by (F140_ok l_0 s_1 longest_2 s k) h
def F141 (b_0 : Value) (s : AS) (k : Value → AS → Prop) : Prop :=
 kNck b_0 fun v3 =>
 kFld 0 v3 fun v4 =>
 kLd s v4 fun v5 =>
 kEq 0 false v5 (.pointer none) fun v6 =>
 kCond v6 (
 kGen PG (.cv 140 267) [b_0] s fun v9 s =>
 kGen PG (.ext 199) [v9] s fun v10 s =>
 kGen PG (.cv 267 140) [v10] s fun v11 s =>
 kNck b_0 fun v12 =>
 kFld 0 v12 fun v13 =>
 kSt s 1 v13 v11 fun s =>
 k undef s) (
 kNck b_0 fun v15 =>
 kFld 0 v15 fun v16 =>
 kLd s v16 fun v17 =>
 kGen PG (.bop .neq 140 (.tmp 17) (.tmp 18)) [v17, b_0] s fun v19 s =>
 kCond v19 (
 False) (
 k undef s))
theorem F141_ok (b_0 : Value) (s : AS) (k : Value → AS → Prop) : denFn PG [] 141 [b_0] s k = F141 b_0 s k := by kernel_rfl
theorem f141 {b_0 : Value} {s : AS} {k : Value → AS → Prop} (h : F141 b_0 s k) : kCall PG 141 [b_0] s k := fn_by (F141_ok b_0 s k) h
def F143 (c_0 : Value) (s : AS) (k : Value → AS → Prop) : Prop :=
 kBin .eql c_0 (.int .u8 95) fun v4 =>
 kGrd v4 false (fun k =>
 kBin .or c_0 (.int .u8 32) fun v7 =>
 kBin .geq v7 (.int .u8 97) fun v8 =>
 k [v8] s) [undef] s fun xs s =>
 un1 xs fun v9 =>
 kGrd v9 true (fun k =>
 kBin .or c_0 (.int .u8 32) fun v11 =>
 kBin .leq v11 (.int .u8 122) fun v12 =>
 k [v12] s) [undef] s fun xs s =>
 un1 xs fun v12 =>
 kGrd v4 false (fun k =>
 kPick v9 v12 (.bool false) fun v13 =>
 k [v13] s) [undef] s fun xs s =>
 un1 xs fun v13 =>
 kPick v4 (.bool true) v13 fun v14 =>
 k v14 s
theorem F143_ok (c_0 : Value) (s : AS) (k : Value → AS → Prop) : denFn PG [] 143 [c_0] s k = F143 c_0 s k := by kernel_rfl
theorem f143 {c_0 : Value} {s : AS} {k : Value → AS → Prop} (h : F143 c_0 s k) : kCall PG 143 [c_0] s k := fn_by (F143_ok c_0 s k) h
def F144 (c_0 : Value) (s : AS) (k : Value → AS → Prop) : Prop :=
 kBin .geq c_0 (.int .u8 48) fun v4 =>
 kGrd v4 true (fun k =>
 kBin .leq c_0 (.int .u8 57) fun v7 =>
 k [v7] s) [undef] s fun xs s =>
 un1 xs fun v7 =>
 kPick v4 v7 (.bool false) fun v8 =>
 k v8 s
theorem F144_ok (c_0 : Value) (s : AS) (k : Value → AS → Prop) : denFn PG [] 144 [c_0] s k = F144 c_0 s k := by kernel_rfl
theorem f144 {c_0 : Value} {s : AS} {k : Value → AS → Prop} (h : F144 c_0 s k) : kCall PG 144 [c_0] s k := fn_by (F144_ok c_0 s k) h
def F145 (s_0 f_1 : Value) (s : AS) (k : Value → AS → Prop) : Prop :=
 kJoin (fun _ s =>
 k (.int .i64 (-1)) s) fun J1 =>
 kLen false s_0 fun v7 =>
 kLoop (fun again2 xs s =>
 un1 xs fun v8 =>
 kBin .lss v8 v7 fun v9 =>
 kJoin (fun _ s =>
 kJoin (fun _ s =>
 kBin .add v8 (.int .i64 1) fun v18 =>
 again2 [v18] s) fun J4 =>
 kIdx 2 s_0 v8 fun v14 =>
 kLdN s 2 v14 fun v15 =>
 kCallv PG f_1 [v15] s fun v16 s =>
 kCond v16 (
 k v8 s) (
 J4 [] s)) fun J3 =>
 kCond v9 (
 J3 [] s) (
 J1 [] s)) [(.int .i64 0)] s
theorem F145_ok (s_0 f_1 : Value) (s : AS) (k : Value → AS → Prop) : denFn PG [] 145 [s_0, f_1] s k = F145 s_0 f_1 s k := by kernel_rfl
theorem f145 {s_0 f_1 : Value} {s : AS} {k : Value → AS → Prop} (h : F145 s_0 f_1 s k) : kCall PG 145 [s_0, f_1] s k := fn_by (F145_ok s_0 f_1 s k) h
def F146 (c_0 : Value) (s : AS) (k : Value → AS → Prop) : Prop :=
 kBin .geq c_0 (.int .u8 97) fun v4 =>
 kGrd v4 true (fun k =>
 kBin .leq c_0 (.int .u8 122) fun v7 =>
 k [v7] s) [undef] s fun xs s =>
 un1 xs fun v7 =>
 kPick v4 v7 (.bool false) fun v8 =>
 kGrd v8 false (fun k =>
 kBin .geq c_0 (.int .u8 65) fun v11 =>
 k [v11] s) [undef] s fun xs s =>
 un1 xs fun v12 =>
 kGrd v12 true (fun k =>
 kBin .leq c_0 (.int .u8 90) fun v14 =>
 k [v14] s) [undef] s fun xs s =>
 un1 xs fun v14 =>
 kGrd v8 false (fun k =>
 kPick v12 v14 (.bool false) fun v15 =>
 k [v15] s) [undef] s fun xs s =>
 un1 xs fun v15 =>
 kPick v8 (.bool true) v15 fun v16 =>
 kGrd v16 false (fun k =>
 kBin .eql c_0 (.int .u8 95) fun v19 =>
 k [v19] s) [undef] s fun xs s =>
 un1 xs fun v19 =>
 kPick v16 (.bool true) v19 fun v20 =>
 k v20 s
theorem F146_ok (c_0 : Value) (s : AS) (k : Value → AS → Prop) : denFn PG [] 146 [c_0] s k = F146 c_0 s k := by kernel_rfl
theorem f146 {c_0 : Value} {s : AS} {k : Value → AS → Prop} (h : F146 c_0 s k) : kCall PG 146 [c_0] s k := fn_by (F146_ok c_0 s k) h
def F147 (c_0 : Value) (s : AS) (k : Value → AS → Prop) : Prop :=
 kBin .geq c_0 (.int .u8 48) fun v4 =>
 kGrd v4 true (fun k =>
 kBin .leq c_0 (.int .u8 57) fun v7 =>
 k [v7] s) [undef] s fun xs s =>
 un1 xs fun v7 =>
 kPick v4 v7 (.bool false) fun v8 =>
 k v8 s
theorem F147_ok (c_0 : Value) (s : AS) (k : Value → AS → Prop) : denFn PG [] 147 [c_0] s k = F147 c_0 s k := by kernel_rfl
theorem f147 {c_0 : Value} {s : AS} {k : Value → AS → Prop} (h : F147 c_0 s k) : kCall PG 147 [c_0] s k := fn_by (F147_ok c_0 s k) h
def F167 (s_0 r_1 : Value) (s : AS) (k : Value → AS → Prop) : Prop :=
 kBin .leq (.int .i32 0) r_1 fun v162 =>
 kGrd v162 true (fun k =>
 kBin .lss r_1 (.int .i32 128) fun v165 =>
 k [v165] s) [undef] s fun xs s =>
 un1 xs fun v165 =>
 kPick v162 v165 (.bool false) fun v166 =>
 kCond v166 (
 kCvi .u8 r_1 fun v169 =>
 kCall PG 72 [s_0, v169] s fun v170 s =>
 k v170 s) (
 kBin .eql r_1 (.int .i32 65533) fun v173 =>
 kCond v173 (
 kJoin (fun _ s =>
 k (.int .i64 (-1)) s) fun J1 =>
 kGen PG (.rng 9) [s_0] s fun v175 s =>
 kLoop (fun again2 _ s =>
 kGen PG (.nxt true 0) [v175] s fun v176 s =>
 kExt 0 v176 fun v177 =>
 kJoin (fun _ s =>
 kExt 1 v176 fun v178 =>
 kExt 2 v176 fun v179 =>
 kBin .eql v179 (.int .i32 65533) fun v181 =>
 kCond v181 (
 k v178 s) (
 again2 [] s)) fun J3 =>
 kCond v177 (
 J3 [] s) (
 J1 [] s)) [] s) (
 kCall PG 218 [r_1] s fun v185 s =>
 kUn .not v185 fun v186 =>
 kCond v186 (
 k (.int .i64 (-1)) s) (
 kGen PG (.cv 21 9) [r_1] s fun v18 s =>
 kLen true v18 fun v20 =>
 kBin .sub v20 (.int .i64 1) fun v21 =>
 kJoin (fun xs s =>
 un1 xs fun i_9 =>
 kJoin (fun _ s =>
 kJoin (fun _ s =>
 k (.int .i64 (-1)) s) fun J6 =>
 kCond (.bool true) (
 kBin .sub i_9 v21 fun v102 =>
 kSubS s_0 (some v102) none fun v103 =>
 kGen PG (.cv 21 9) [r_1] s fun v105 s =>
 kGen PG (.ext 220) [v103, v105] s fun v106 s =>
 kBin .geq v106 (.int .i64 0) fun v108 =>
 kCond v108 (
 kBin .add i_9 v106 fun v111 =>
 kBin .sub v111 v21 fun v113 =>
 k v113 s) (
 J6 [] s)) (
 kIxS v18 v21 fun v116 =>
 kBin .sub v21 (.int .i64 1) fun v119 =>
 kIxS v18 v119 fun v120 =>
 kLoop (fun again7 xs s =>
 un1 xs fun i_9 =>
 kJoin (fun _ s =>
 kJoin (fun _ s =>
 kBin .add i_9 (.int .i64 1) fun v126 =>
 again7 [v126] s) fun J9 =>
 kIxS s_0 i_9 fun v129 =>
 kBin .eql v129 v116 fun v131 =>
 kGrd v131 true (fun k =>
 kBin .sub i_9 (.int .i64 1) fun v135 =>
 kIxS s_0 v135 fun v136 =>
 kBin .eql v136 v120 fun v138 =>
 k [v138] s) [undef] s fun xs s =>
 un1 xs fun v138 =>
 kPick v131 v138 (.bool false) fun v139 =>
 kCond v139 (
 kJoin (fun _ s =>
 kBin .sub i_9 v21 fun v159 =>
 k v159 s) fun J10 =>
 kLoop (fun again11 xs s =>
 un1 xs fun k_16 =>
 kJoin (fun _ s =>
 kJoin (fun _ s =>
 kBin .add k_16 (.int .i64 1) fun v145 =>
 again11 [v145] s) fun J13 =>
 kBin .sub i_9 k_16 fun v149 =>
 kIxS s_0 v149 fun v150 =>
 kBin .sub v21 k_16 fun v154 =>
 kIxS v18 v154 fun v155 =>
 kBin .neq v150 v155 fun v156 =>
 kCond v156 (
 J9 [] s) (
 J13 [] s)) fun J12 =>
 kLen true v18 fun v142 =>
 kBin .lss k_16 v142 fun v143 =>
 kCond v143 (
 J12 [] s) (
 J10 [] s)) [(.int .i64 2)] s) (
 J9 [] s)) fun J8 =>
 kLen true s_0 fun v123 =>
 kBin .lss i_9 v123 fun v124 =>
 kCond v124 (
 J8 [] s) (
 J6 [] s)) [i_9] s)) fun J5 =>
 k (.int .i64 (-1)) s) fun J4 =>
 kLoop (fun again14 xs s =>
 un2 xs fun i_9 fails_10 =>
 kJoin (fun _ s =>
 kJoin (fun xs s =>
 un1 xs fun i_9 =>
 kJoin (fun _ s =>
 kJoin (fun _ s =>
 kBin .add fails_10 (.int .i64 1) fun v69 =>
 kBin .add i_9 (.int .i64 1) fun v71 =>
 kGrd (.bool true) true (fun k =>
 kCall PG 219 [v71] s fun v75 s =>
 kBin .gtr v69 v75 fun v76 =>
 k [v76] s) [undef] s fun xs s =>
 un1 xs fun v76 =>
 kPick (.bool true) v76 (.bool false) fun v77 =>
 kGrd v77 true (fun k =>
 kLen true s_0 fun v81 =>
 kBin .lss v71 v81 fun v82 =>
 k [v82] s) [undef] s fun xs s =>
 un1 xs fun v82 =>
 kPick v77 v82 (.bool false) fun v83 =>
 kGrd v83 false (fun k =>
 k [(.bool false)] s) [undef] s fun xs s =>
 un1 xs fun v85 =>
 kGrd v85 true (fun k =>
 kSft .shr v71 (.int .u64 4) fun v88 =>
 kBin .add (.int .i64 4) v88 fun v89 =>
 kBin .geq v69 v89 fun v90 =>
 k [v90] s) [undef] s fun xs s =>
 un1 xs fun v90 =>
 kGrd v83 false (fun k =>
 kPick v85 v90 (.bool false) fun v91 =>
 k [v91] s) [undef] s fun xs s =>
 un1 xs fun v92 =>
 kGrd v92 true (fun k =>
 kLen true s_0 fun v95 =>
 kBin .lss v71 v95 fun v96 =>
 k [v96] s) [undef] s fun xs s =>
 un1 xs fun v96 =>
 kGrd v83 false (fun k =>
 kPick v92 v96 (.bool false) fun v97 =>
 k [v97] s) [undef] s fun xs s =>
 un1 xs fun v97 =>
 kPick v83 (.bool true) v97 fun v98 =>
 kCond v98 (
 False) (
 again14 [v71, v69] s)) fun J18 =>
 kBin .sub i_9 v21 fun v67 =>
 k v67 s) fun J17 =>
 kLoop (fun again19 xs s =>
 un1 xs fun j_12 =>
 kJoin (fun _ s =>
 kJoin (fun _ s =>
 kBin .add j_12 (.int .i64 1) fun v53 =>
 again19 [v53] s) fun J21 =>
 kBin .sub i_9 j_12 fun v57 =>
 kIxS s_0 v57 fun v58 =>
 kBin .sub v21 j_12 fun v62 =>
 kIxS v18 v62 fun v63 =>
 kBin .neq v58 v63 fun v64 =>
 kCond v64 (
 False) (
 J21 [] s)) fun J20 =>
 kLen true v18 fun v50 =>
 kBin .lss j_12 v50 fun v51 =>
 kCond v51 (
 J20 [] s) (
 J17 [] s)) [(.int .i64 1)] s) fun J16 =>
 kIxS s_0 i_9 fun v29 =>
 kIxS v18 v21 fun v32 =>
 kBin .neq v29 v32 fun v33 =>
 kCond v33 (
 kBin .add i_9 (.int .i64 1) fun v36 =>
 kSubS s_0 (some v36) none fun v37 =>
 kIxS v18 v21 fun v40 =>
 kCall PG 72 [v37, v40] s fun v41 s =>
 kJoin (fun _ s =>
 kBin .add v41 (.int .i64 1) fun v46 =>
 kBin .add i_9 v46 fun v47 =>
 J16 [v47] s) fun J22 =>
 kBin .lss v41 (.int .i64 0) fun v43 =>
 kCond v43 (
 k (.int .i64 (-1)) s) (
 J22 [] s)) (
 J16 [i_9] s)) fun J15 =>
 kLen true s_0 fun v25 =>
 kBin .lss i_9 v25 fun v26 =>
 kCond v26 (
 J15 [] s) (
 J4 [i_9] s)) [v21, (.int .i64 0)] s)))
theorem F167_ok (s_0 r_1 : Value) (s : AS) (k : Value → AS → Prop) : denFn PG [(6, (.go 0 (.go 1 (.go 2 (.go 3 (.go 4 (.go 5 (.go 6 .done)))))))), (7, (.go 0 (.go 1 (.go 2 (.go 3 (.go 4 (.go 5 (.go 6 (.go 7 (.go 8 .done)))))))))), (14, (.go 0 (.go 1 (.go 2 (.go 3 (.go 4 (.go 5 (.go 6 (.go 7 (.go 8 (.go 9 (.go 10 .done)))))))))))), (31, (.go 0 (.go 1 (.go 2 (.go 3 (.go 4 (.go 5 (.go 6 (.go 7 (.go 8 (.go 9 (.go 10 .done))))))))))))] 167 [s_0, r_1] s k = F167 s_0 r_1 s k := by kernel_rfl
theorem f167 {s_0 r_1 : Value} {s : AS} {k : Value → AS → Prop} (h : F167 s_0 r_1 s k) : kCall PG 167 [s_0, r_1] s k := fn_by (F167_ok s_0 r_1 s k) h
def F169 (way_0 : Value) (s : AS) (k : Value → AS → Prop) : Prop :=
 kBin .eql way_0 (.int .i64 2) fun v4 =>
 kGrd v4 false (fun k =>
 kBin .eql way_0 (.int .i64 3) fun v7 =>
 k [v7] s) [undef] s fun xs s =>
 un1 xs fun v7 =>
 kPick v4 (.bool true) v7 fun v8 =>
 kGrd v8 false (fun k =>
 kBin .eql way_0 (.int .i64 5) fun v11 =>
 k [v11] s) [undef] s fun xs s =>
 un1 xs fun v11 =>
 kPick v8 (.bool true) v11 fun v12 =>
 k v12 s
theorem F169_ok (way_0 : Value) (s : AS) (k : Value → AS → Prop) : denFn PG [] 169 [way_0] s k = F169 way_0 s k := by kernel_rfl
theorem f169 {way_0 : Value} {s : AS} {k : Value → AS → Prop} (h : F169 way_0 s k) : kCall PG 169 [way_0] s k := fn_by (F169_ok way_0 s k) h
def F170 (s_0 i_1 way_2 : Value) (s : AS) (k : Value → AS → Prop) : Prop :=
 kJoin (fun _ s =>
 kCall PG 222 [s_0, i_1, (.bool false)] s fun v52 s =>
 kExt 0 v52 fun v53 =>
 kExt 1 v52 fun v54 =>
 kExt 2 v52 fun v55 =>
 k (.tuple #[v53, v55]) s) fun J1 =>
 kIxS s_0 i_1 fun v20 =>
 kBin .eql v20 (.int .u8 34) fun v23 =>
 kGrd v23 true (fun k =>
 kBin .neq way_2 (.int .i64 5) fun v26 =>
 k [v26] s) [undef] s fun xs s =>
 un1 xs fun v26 =>
 kPick v23 v26 (.bool false) fun v27 =>
 kCond v27 (
 kCall PG 222 [s_0, i_1, (.bool false)] s fun v31 s =>
 kExt 0 v31 fun v32 =>
 kExt 1 v31 fun v33 =>
 kExt 2 v31 fun v34 =>
 k (.tuple #[v32, v34]) s) (
 kBin .geq way_2 (.int .i64 2) fun v39 =>
 kCond v39 (
 kCall PG 222 [s_0, i_1, (.bool true)] s fun v43 s =>
 kExt 0 v43 fun v44 =>
 kExt 1 v43 fun v45 =>
 kExt 2 v43 fun v46 =>
 k (.tuple #[v44, v46]) s) (
 J1 [] s))
theorem F170_ok (s_0 i_1 way_2 : Value) (s : AS) (k : Value → AS → Prop) : denFn PG [] 170 [s_0, i_1, way_2] s k = F170 s_0 i_1 way_2 s k := by kernel_rfl
theorem f170 {s_0 i_1 way_2 : Value} {s : AS} {k : Value → AS → Prop} (h : F170 s_0 i_1 way_2 s k) : kCall PG 170 [s_0, i_1, way_2] s k := fn_by (F170_ok s_0 i_1 way_2 s k) h
def F171 (r_0 t_1 way_2 : Value) (s : AS) (k : Value → AS → Prop) : Prop :=
 kIxS t_1 (.int .i64 0) fun v13 =>
 kBin .eql v13 (.int .u8 92) fun v14 =>
 kCond v14 (
 kCall PG 223 [r_0, t_1, way_2] s fun v18 s =>
 k undef s) (
 kIxS t_1 (.int .i64 0) fun v21 =>
 kBin .eql v21 (.int .u8 39) fun v22 =>
 kGrd v22 true (fun k =>
 kLen true t_1 fun v25 =>
 kBin .gtr v25 (.int .i64 1) fun v26 =>
 k [v26] s) [undef] s fun xs s =>
 un1 xs fun v26 =>
 kPick v22 v26 (.bool false) fun v27 =>
 kCond v27 (
 kLen true t_1 fun v31 =>
 kBin .sub v31 (.int .i64 1) fun v32 =>
 kSubS t_1 (some (.int .i64 1)) (some v32) fun v33 =>
 kCall PG 224 [r_0, v33, (.bool true)] s fun v34 s =>
 k undef s) (
 kIxS t_1 (.int .i64 0) fun v37 =>
 kBin .eql v37 (.int .u8 34) fun v38 =>
 kGrd v38 true (fun k =>
 kLen true t_1 fun v41 =>
 kBin .gtr v41 (.int .i64 1) fun v42 =>
 k [v42] s) [undef] s fun xs s =>
 un1 xs fun v42 =>
 kPick v38 v42 (.bool false) fun v43 =>
 kCond v43 (
 kLen true t_1 fun v47 =>
 kBin .sub v47 (.int .i64 1) fun v48 =>
 kSubS t_1 (some (.int .i64 1)) (some v48) fun v49 =>
 kCall PG 225 [r_0, v49] s fun v50 s =>
 k undef s) (
 kLen true t_1 fun v53 =>
 kBin .gtr v53 (.int .i64 1) fun v54 =>
 kGrd v54 true (fun k =>
 kIxS t_1 (.int .i64 1) fun v57 =>
 kBin .eql v57 (.int .u8 123) fun v58 =>
 k [v58] s) [undef] s fun xs s =>
 un1 xs fun v58 =>
 kPick v54 v58 (.bool false) fun v59 =>
 kCond v59 (
 kLen true t_1 fun v63 =>
 kBin .sub v63 (.int .i64 1) fun v64 =>
 kSubS t_1 (some (.int .i64 2)) (some v64) fun v65 =>
 kCall PG 226 [r_0, v65, way_2] s fun v67 s =>
 k undef s) (
 kLen true t_1 fun v70 =>
 kBin .gtr v70 (.int .i64 1) fun v71 =>
 kCond v71 (
 kSubS t_1 (some (.int .i64 1)) none fun v74 =>
 kCall PG 169 [way_2] s fun v76 s =>
 kCall PG 227 [r_0, v74, v76] s fun v77 s =>
 k undef s) (
 kIxS t_1 (.int .i64 0) fun v80 =>
 kBin .eql v80 (.int .u8 36) fun v81 =>
 kCond v81 (
 kCall PG 224 [r_0, t_1, (.bool true)] s fun v84 s =>
 k undef s) (
 kBin .eql way_2 (.int .i64 0) fun v87 =>
 kGrd v87 true (fun k =>
 kIxS t_1 (.int .i64 0) fun v90 =>
 kCall PG 228 [v90] s fun v91 s =>
 k [v91] s) [undef] s fun xs s =>
 un1 xs fun v91 =>
 kPick v87 v91 (.bool false) fun v92 =>
 kCond v92 (
 kNck r_0 fun v94 =>
 kFld 1 v94 fun v95 =>
 kSt s 1 v95 (.int .i64 10) fun s =>
 k undef s) (
 kCall PG 169 [way_2] s fun v9 s =>
 kCall PG 224 [r_0, t_1, v9] s fun v10 s =>
 k undef s)))))))
theorem F171_ok (r_0 t_1 way_2 : Value) (s : AS) (k : Value → AS → Prop) : denFn PG [(10, (.go 0 (.go 1 (.go 2 (.go 3 (.go 4 (.go 5 .done)))))))] 171 [r_0, t_1, way_2] s k = F171 r_0 t_1 way_2 s k := by kernel_rfl
theorem f171 {r_0 t_1 way_2 : Value} {s : AS} {k : Value → AS → Prop} (h : F171 r_0 t_1 way_2 s k) : kCall PG 171 [r_0, t_1, way_2] s k := fn_by (F171_ok r_0 t_1 way_2 s k) h
def F172 (f_0 : Value) (s : AS) (k : Value → AS → Prop) : Prop :=
 kNew s (cellsV f_0) fun f_1 s =>
 k (.func (.func 229) #[] #[f_1]) s
theorem F172_ok (f_0 : Value) (s : AS) (k : Value → AS → Prop) : denFn PG [] 172 [f_0] s k = F172 f_0 s k := by kernel_rfl
theorem f172 {f_0 : Value} {s : AS} {k : Value → AS → Prop} (h : F172 f_0 s k) : kCall PG 172 [f_0] s k := fn_by (F172_ok f_0 s k) h
def F173 (a_0 b_1 : Value) (s : AS) (k : Value → AS → Prop) : Prop :=
 kBin .or a_0 b_1 fun v7 =>
 k v7 s
theorem F173_ok (a_0 b_1 : Value) (s : AS) (k : Value → AS → Prop) : denFn PG [] 173 [a_0, b_1] s k = F173 a_0 b_1 s k := by kernel_rfl
theorem f173 {a_0 b_1 : Value} {s : AS} {k : Value → AS → Prop} (h : F173 a_0 b_1 s k) : kCall PG 173 [a_0, b_1] s k := fn_by (F173_ok a_0 b_1 s k) h
def F174 (a_0 b_1 : Value) (s : AS) (k : Value → AS → Prop) : Prop :=
 kBin .xor a_0 b_1 fun v7 =>
 k v7 s
theorem F174_ok (a_0 b_1 : Value) (s : AS) (k : Value → AS → Prop) : denFn PG [] 174 [a_0, b_1] s k = F174 a_0 b_1 s k := by kernel_rfl
theorem f174 {a_0 b_1 : Value} {s : AS} {k : Value → AS → Prop} (h : F174 a_0 b_1 s k) : kCall PG 174 [a_0, b_1] s k := fn_by (F174_ok a_0 b_1 s k) h
def F175 (a_0 b_1 : Value) (s : AS) (k : Value → AS → Prop) : Prop :=
 kBin .and a_0 b_1 fun v7 =>
 k v7 s
theorem F175_ok (a_0 b_1 : Value) (s : AS) (k : Value → AS → Prop) : denFn PG [] 175 [a_0, b_1] s k = F175 a_0 b_1 s k := by kernel_rfl
theorem f175 {a_0 b_1 : Value} {s : AS} {k : Value → AS → Prop} (h : F175 a_0 b_1 s k) : kCall PG 175 [a_0, b_1] s k := fn_by (F175_ok a_0 b_1 s k) h
def F176 (a_0 b_1 : Value) (s : AS) (k : Value → AS → Prop) : Prop :=
 kBin .eql a_0 b_1 fun v7 =>
 kCall PG 177 [v7] s fun v8 s =>
 k v8 s
theorem F176_ok (a_0 b_1 : Value) (s : AS) (k : Value → AS → Prop) : denFn PG [] 176 [a_0, b_1] s k = F176 a_0 b_1 s k := by kernel_rfl
theorem f176 {a_0 b_1 : Value} {s : AS} {k : Value → AS → Prop} (h : F176 a_0 b_1 s k) : kCall PG 176 [a_0, b_1] s k := fn_by (F176_ok a_0 b_1 s k) h
def F177 (is_0 : Value) (s : AS) (k : Value → AS → Prop) : Prop :=
 kJoin (fun _ s =>
 k (.int .i64 0) s) fun J1 =>
 kCond is_0 (
 k (.int .i64 1) s) (
 J1 [] s)
theorem F177_ok (is_0 : Value) (s : AS) (k : Value → AS → Prop) : denFn PG [] 177 [is_0] s k = F177 is_0 s k := by kernel_rfl
theorem f177 {is_0 : Value} {s : AS} {k : Value → AS → Prop} (h : F177 is_0 s k) : kCall PG 177 [is_0] s k := fn_by (F177_ok is_0 s k) h
def F178 (a_0 b_1 : Value) (s : AS) (k : Value → AS → Prop) : Prop :=
 kBin .neq a_0 b_1 fun v7 =>
 kCall PG 177 [v7] s fun v8 s =>
 k v8 s
theorem F178_ok (a_0 b_1 : Value) (s : AS) (k : Value → AS → Prop) : denFn PG [] 178 [a_0, b_1] s k = F178 a_0 b_1 s k := by kernel_rfl
theorem f178 {a_0 b_1 : Value} {s : AS} {k : Value → AS → Prop} (h : F178 a_0 b_1 s k) : kCall PG 178 [a_0, b_1] s k := fn_by (F178_ok a_0 b_1 s k) h
def F179 (a_0 b_1 : Value) (s : AS) (k : Value → AS → Prop) : Prop :=
 kBin .lss a_0 b_1 fun v7 =>
 kCall PG 177 [v7] s fun v8 s =>
 k v8 s
theorem F179_ok (a_0 b_1 : Value) (s : AS) (k : Value → AS → Prop) : denFn PG [] 179 [a_0, b_1] s k = F179 a_0 b_1 s k := by kernel_rfl
theorem f179 {a_0 b_1 : Value} {s : AS} {k : Value → AS → Prop} (h : F179 a_0 b_1 s k) : kCall PG 179 [a_0, b_1] s k := fn_by (F179_ok a_0 b_1 s k) h
def F180 (a_0 b_1 : Value) (s : AS) (k : Value → AS → Prop) : Prop :=
 kBin .leq a_0 b_1 fun v7 =>
 kCall PG 177 [v7] s fun v8 s =>
 k v8 s
theorem F180_ok (a_0 b_1 : Value) (s : AS) (k : Value → AS → Prop) : denFn PG [] 180 [a_0, b_1] s k = F180 a_0 b_1 s k := by kernel_rfl
theorem f180 {a_0 b_1 : Value} {s : AS} {k : Value → AS → Prop} (h : F180 a_0 b_1 s k) : kCall PG 180 [a_0, b_1] s k := fn_by (F180_ok a_0 b_1 s k) h
def F181 (a_0 b_1 : Value) (s : AS) (k : Value → AS → Prop) : Prop :=
 kBin .gtr a_0 b_1 fun v7 =>
 kCall PG 177 [v7] s fun v8 s =>
 k v8 s
theorem F181_ok (a_0 b_1 : Value) (s : AS) (k : Value → AS → Prop) : denFn PG [] 181 [a_0, b_1] s k = F181 a_0 b_1 s k := by kernel_rfl
theorem f181 {a_0 b_1 : Value} {s : AS} {k : Value → AS → Prop} (h : F181 a_0 b_1 s k) : kCall PG 181 [a_0, b_1] s k := fn_by (F181_ok a_0 b_1 s k) h
def F182 (a_0 b_1 : Value) (s : AS) (k : Value → AS → Prop) : Prop :=
 kBin .geq a_0 b_1 fun v7 =>
 kCall PG 177 [v7] s fun v8 s =>
 k v8 s
theorem F182_ok (a_0 b_1 : Value) (s : AS) (k : Value → AS → Prop) : denFn PG [] 182 [a_0, b_1] s k = F182 a_0 b_1 s k := by kernel_rfl
theorem f182 {a_0 b_1 : Value} {s : AS} {k : Value → AS → Prop} (h : F182 a_0 b_1 s k) : kCall PG 182 [a_0, b_1] s k := fn_by (F182_ok a_0 b_1 s k) h
def F183 (a_0 b_1 : Value) (s : AS) (k : Value → AS → Prop) : Prop :=
 kBin .and b_1 (.int .i64 63) fun v7 =>
 kSft .shl a_0 v7 fun v8 =>
 k v8 s
theorem F183_ok (a_0 b_1 : Value) (s : AS) (k : Value → AS → Prop) : denFn PG [] 183 [a_0, b_1] s k = F183 a_0 b_1 s k := by kernel_rfl
theorem f183 {a_0 b_1 : Value} {s : AS} {k : Value → AS → Prop} (h : F183 a_0 b_1 s k) : kCall PG 183 [a_0, b_1] s k := fn_by (F183_ok a_0 b_1 s k) h
def F184 (a_0 b_1 : Value) (s : AS) (k : Value → AS → Prop) : Prop :=
 kBin .and b_1 (.int .i64 63) fun v7 =>
 kSft .shr a_0 v7 fun v8 =>
 k v8 s
theorem F184_ok (a_0 b_1 : Value) (s : AS) (k : Value → AS → Prop) : denFn PG [] 184 [a_0, b_1] s k = F184 a_0 b_1 s k := by kernel_rfl
theorem f184 {a_0 b_1 : Value} {s : AS} {k : Value → AS → Prop} (h : F184 a_0 b_1 s k) : kCall PG 184 [a_0, b_1] s k := fn_by (F184_ok a_0 b_1 s k) h
def F185 (a_0 b_1 : Value) (s : AS) (k : Value → AS → Prop) : Prop :=
 kBin .add a_0 b_1 fun v7 =>
 k v7 s
theorem F185_ok (a_0 b_1 : Value) (s : AS) (k : Value → AS → Prop) : denFn PG [] 185 [a_0, b_1] s k = F185 a_0 b_1 s k := by kernel_rfl
theorem f185 {a_0 b_1 : Value} {s : AS} {k : Value → AS → Prop} (h : F185 a_0 b_1 s k) : kCall PG 185 [a_0, b_1] s k := fn_by (F185_ok a_0 b_1 s k) h
def F186 (a_0 b_1 : Value) (s : AS) (k : Value → AS → Prop) : Prop :=
 kBin .sub a_0 b_1 fun v7 =>
 k v7 s
theorem F186_ok (a_0 b_1 : Value) (s : AS) (k : Value → AS → Prop) : denFn PG [] 186 [a_0, b_1] s k = F186 a_0 b_1 s k := by kernel_rfl
theorem f186 {a_0 b_1 : Value} {s : AS} {k : Value → AS → Prop} (h : F186 a_0 b_1 s k) : kCall PG 186 [a_0, b_1] s k := fn_by (F186_ok a_0 b_1 s k) h
def F187 (a_0 b_1 : Value) (s : AS) (k : Value → AS → Prop) : Prop :=
 kBin .mul a_0 b_1 fun v7 =>
 k v7 s
theorem F187_ok (a_0 b_1 : Value) (s : AS) (k : Value → AS → Prop) : denFn PG [] 187 [a_0, b_1] s k = F187 a_0 b_1 s k := by kernel_rfl
theorem f187 {a_0 b_1 : Value} {s : AS} {k : Value → AS → Prop} (h : F187 a_0 b_1 s k) : kCall PG 187 [a_0, b_1] s k := fn_by (F187_ok a_0 b_1 s k) h
def F188 (f_0 least_1 : Value) (s : AS) (k : Value → AS → Prop) : Prop :=
 kNew s (cellsV f_0) fun f_2 s =>
 kNew s (cellsV least_1) fun least_3 s =>
 k (.func (.func 230) #[] #[least_3, f_2]) s
theorem F188_ok (f_0 least_1 : Value) (s : AS) (k : Value → AS → Prop) : denFn PG [] 188 [f_0, least_1] s k = F188 f_0 least_1 s k := by kernel_rfl
theorem f188 {f_0 least_1 : Value} {s : AS} {k : Value → AS → Prop} (h : F188 f_0 least_1 s k) : kCall PG 188 [f_0, least_1] s k := fn_by (F188_ok f_0 least_1 s k) h
def F189 (a_0 b_1 : Value) (s : AS) (k : Value → AS → Prop) : Prop :=
 kBin .quo a_0 b_1 fun v7 =>
 k v7 s
theorem F189_ok (a_0 b_1 : Value) (s : AS) (k : Value → AS → Prop) : denFn PG [] 189 [a_0, b_1] s k = F189 a_0 b_1 s k := by kernel_rfl
theorem f189 {a_0 b_1 : Value} {s : AS} {k : Value → AS → Prop} (h : F189 a_0 b_1 s k) : kCall PG 189 [a_0, b_1] s k := fn_by (F189_ok a_0 b_1 s k) h
def F190 (a_0 b_1 : Value) (s : AS) (k : Value → AS → Prop) : Prop :=
 kBin .rem a_0 b_1 fun v7 =>
 k v7 s
theorem F190_ok (a_0 b_1 : Value) (s : AS) (k : Value → AS → Prop) : denFn PG [] 190 [a_0, b_1] s k = F190 a_0 b_1 s k := by kernel_rfl
theorem f190 {a_0 b_1 : Value} {s : AS} {k : Value → AS → Prop} (h : F190 a_0 b_1 s k) : kCall PG 190 [a_0, b_1] s k := fn_by (F190_ok a_0 b_1 s k) h
def F191 (w_0 : Value) (s : AS) (k : Value → AS → Prop) : Prop :=
 kNck w_0 fun v4 =>
 kFld 0 v4 fun v5 =>
 kLd s v5 fun v6 =>
 kCall PG 231 [v6, (.string (bs [32, 9, 10]))] s fun v7 s =>
 kNck w_0 fun v8 =>
 kFld 0 v8 fun v9 =>
 kSt s 1 v9 v7 fun s =>
 k undef s
theorem F191_ok (w_0 : Value) (s : AS) (k : Value → AS → Prop) : denFn PG [] 191 [w_0] s k = F191 w_0 s k := by kernel_rfl
theorem f191 {w_0 : Value} {s : AS} {k : Value → AS → Prop} (h : F191 w_0 s k) : kCall PG 191 [w_0] s k := fn_by (F191_ok w_0 s k) h
def F192 (w_0 : Value) (s : AS) (k : Value → AS → Prop) : Prop :=
 kCall PG 232 [w_0, (.int .i64 1)] s fun v7 s =>
 kJoin (fun _ s =>
 kNck w_0 fun v20 =>
 kFld 0 v20 fun v21 =>
 kLd s v21 fun v22 =>
 kSubS v22 (some (.int .i64 1)) none fun v23 =>
 kNck w_0 fun v24 =>
 kFld 0 v24 fun v25 =>
 kSt s 1 v25 v23 fun s =>
 kBin .neq v7 (.int .i64 0) fun v28 =>
 kCall PG 233 [w_0, v28, (.func (.func 135) #[w_0] #[])] s fun v31 s =>
 kJoin (fun _ s =>
 kNck w_0 fun v40 =>
 kFld 0 v40 fun v41 =>
 kLd s v41 fun v42 =>
 kSubS v42 (some (.int .i64 1)) none fun v43 =>
 kNck w_0 fun v44 =>
 kFld 0 v44 fun v45 =>
 kSt s 1 v45 v43 fun s =>
 kBin .eql v7 (.int .i64 0) fun v48 =>
 kCall PG 233 [w_0, v48, (.func (.func 192) #[w_0] #[])] s fun v51 s =>
 kJoin (fun _ s =>
 k v51 s) fun J3 =>
 kBin .neq v7 (.int .i64 0) fun v53 =>
 kCond v53 (
 k v31 s) (
 J3 [] s)) fun J2 =>
 kCall PG 134 [w_0] s fun v33 s =>
 kBin .neq v33 (.string (bs [58])) fun v34 =>
 kCond v34 (
 kNck w_0 fun v36 =>
 kFld 5 v36 fun v37 =>
 kSt s 1 v37 (.bool true) fun s =>
 k (.int .i64 0) s) (
 J2 [] s)) fun J1 =>
 kCall PG 134 [w_0] s fun v9 s =>
 kBin .neq v9 (.string (bs [63])) fun v10 =>
 kGrd v10 false (fun k =>
 kNck w_0 fun v13 =>
 kFld 5 v13 fun v14 =>
 kLd s v14 fun v15 =>
 k [v15] s) [undef] s fun xs s =>
 un1 xs fun v15 =>
 kPick v10 (.bool true) v15 fun v16 =>
 kCond v16 (
 k v7 s) (
 J1 [] s)
theorem F192_ok (w_0 : Value) (s : AS) (k : Value → AS → Prop) : denFn PG [] 192 [w_0] s k = F192 w_0 s k := by kernel_rfl
theorem f192 {w_0 : Value} {s : AS} {k : Value → AS → Prop} (h : F192 w_0 s k) : kCall PG 192 [w_0] s k := fn_by (F192_ok w_0 s k) h
def F193 (w_0 op_1 a_2 b_3 : Value) (s : AS) (k : Value → AS → Prop) : Prop :=
 kJoin (fun _ s =>
 kNck w_0 fun v16 =>
 kFld 1 v16 fun v17 =>
 kLd s v17 fun v18 =>
 kGen PG (.lk 216 false) [v18, op_1] s fun v20 s =>
 kGet 1 v20 fun v21 =>
 kCallv PG v21 [a_2, b_3] s fun v24 s =>
 kExt 0 v24 fun v25 =>
 kExt 1 v24 fun v26 =>
 kNck w_0 fun v29 =>
 kFld 6 v29 fun v30 =>
 kSt s 1 v30 v26 fun s =>
 k v25 s) fun J1 =>
 kCall PG 195 [w_0] s fun v12 s =>
 kUn .not v12 fun v13 =>
 kCond v13 (
 k (.int .i64 0) s) (
 J1 [] s)
theorem F193_ok (w_0 op_1 a_2 b_3 : Value) (s : AS) (k : Value → AS → Prop) : denFn PG [] 193 [w_0, op_1, a_2, b_3] s k = F193 w_0 op_1 a_2 b_3 s k := by kernel_rfl
theorem f193 {w_0 op_1 a_2 b_3 : Value} {s : AS} {k : Value → AS → Prop} (h : F193 w_0 op_1 a_2 b_3 s k) : kCall PG 193 [w_0, op_1, a_2, b_3] s k := fn_by (F193_ok w_0 op_1 a_2 b_3 s k) h
def F194 (w_0 name_1 : Value) (s : AS) (k : Value → AS → Prop) : Prop :=
 kNew s (cellsV name_1) fun name_3 s =>
 kJoin (fun _ s =>
 kJoin (fun xs s =>
 un1 xs fun value_6 =>
 kJoin (fun xs s =>
 un1 xs fun value_6 =>
 kCall PG 236 [value_6] s fun v49 s =>
 kExt 0 v49 fun v50 =>
 kExt 1 v49 fun v51 =>
 kNck w_0 fun v54 =>
 kFld 6 v54 fun v55 =>
 kSt s 1 v55 v51 fun s =>
 k v50 s) fun J3 =>
 kNck w_0 fun v33 =>
 kFld 3 v33 fun v34 =>
 kLd s v34 fun v35 =>
 kLen false v35 fun v36 =>
 kLoop (fun again4 xs s =>
 un2 xs fun value_6 v37 =>
 kBin .lss v37 v36 fun v38 =>
 kJoin (fun _ s =>
 kJoin (fun xs s =>
 un1 xs fun value_6 =>
 kBin .add v37 (.int .i64 1) fun v46 =>
 again4 [value_6, v46] s) fun J6 =>
 kIdx 2 v35 v37 fun v39 =>
 kLdN s 2 v39 fun v40 =>
 kNew s [(.string (bs [])), (.string (bs []))] fun p_9 s =>
 kSt s 2 p_9 v40 fun s =>
 kLdN s 2 p_9 fun v42 =>
 kCallv PG (.func (.func 234) #[] #[name_3]) [v42] s fun v43 s =>
 kCond v43 (
 kFld 1 p_9 fun v44 =>
 kLd s v44 fun v45 =>
 J6 [v45] s) (
 J6 [value_6] s)) fun J5 =>
 kCond v38 (
 J5 [] s) (
 J3 [value_6] s)) [value_6, (.int .i64 0)] s) fun J2 =>
 kNck w_0 fun v17 =>
 kFld 2 v17 fun v18 =>
 kLd s v18 fun v19 =>
 kCall PG 235 [v19, (.func (.func 234) #[] #[name_3])] s fun v21 s =>
 kBin .geq v21 (.int .i64 0) fun v23 =>
 kCond v23 (
 kNck w_0 fun v25 =>
 kFld 2 v25 fun v26 =>
 kLd s v26 fun v27 =>
 kIdx 2 v27 v21 fun v29 =>
 kFld 1 v29 fun v30 =>
 kLd s v30 fun v31 =>
 J2 [v31] s) (
 J2 [(.string (bs []))] s)) fun J1 =>
 kCall PG 195 [w_0] s fun v13 s =>
 kUn .not v13 fun v14 =>
 kCond v14 (
 k (.int .i64 0) s) (
 J1 [] s)
theorem F194_ok (w_0 name_1 : Value) (s : AS) (k : Value → AS → Prop) : denFn PG [] 194 [w_0, name_1] s k = F194 w_0 name_1 s k := by kernel_rfl
theorem f194 {w_0 name_1 : Value} {s : AS} {k : Value → AS → Prop} (h : F194 w_0 name_1 s k) : kCall PG 194 [w_0, name_1] s k := fn_by (F194_ok w_0 name_1 s k) h
def F195 (w_0 : Value) (s : AS) (k : Value → AS → Prop) : Prop :=
 kNck w_0 fun v4 =>
 kFld 4 v4 fun v5 =>
 kLd s v5 fun v6 =>
 kBin .eql v6 (.int .i64 0) fun v7 =>
 kGrd v7 true (fun k =>
 kNck w_0 fun v10 =>
 kFld 5 v10 fun v11 =>
 kLd s v11 fun v12 =>
 kUn .not v12 fun v13 =>
 k [v13] s) [undef] s fun xs s =>
 un1 xs fun v13 =>
 kPick v7 v13 (.bool false) fun v14 =>
 kGrd v14 true (fun k =>
 kNck w_0 fun v17 =>
 kFld 6 v17 fun v18 =>
 kLd s v18 fun v19 =>
 kBin .eql v19 (.int .i64 0) fun v20 =>
 k [v20] s) [undef] s fun xs s =>
 un1 xs fun v20 =>
 kPick v14 v20 (.bool false) fun v21 =>
 k v21 s
theorem F195_ok (w_0 : Value) (s : AS) (k : Value → AS → Prop) : denFn PG [] 195 [w_0] s k = F195 w_0 s k := by kernel_rfl
theorem f195 {w_0 : Value} {s : AS} {k : Value → AS → Prop} (h : F195 w_0 s k) : kCall PG 195 [w_0] s k := fn_by (F195_ok w_0 s k) h
def F198 (s_0 most_1 : Value) (s : AS) (k : Value → AS → Prop) : Prop :=
 kJoin (fun _ s =>
 kCall PG 240 [s_0] s fun v17 s =>
 kExt 0 v17 fun v18 =>
 kExt 1 v17 fun v19 =>
 kJoin (fun _ s =>
 k (.tuple #[v18, (.int .i64 0)]) s) fun J2 =>
 kEqi true v19 .nilIface fun v21 =>
 kGrd v21 false (fun k =>
 kBin .gtr v18 most_1 fun v25 =>
 k [v25] s) [undef] s fun xs s =>
 un1 xs fun v25 =>
 kPick v21 (.bool true) v25 fun v26 =>
 kCond v26 (
 k (.tuple #[(.int .i64 0), (.int .i64 3)]) s) (
 J2 [] s)) fun J1 =>
 kBin .eql s_0 (.string (bs [])) fun v9 =>
 kGrd v9 false (fun k =>
 kCall PG 239 [s_0, (.string (bs [48, 49, 50, 51, 52, 53, 54, 55, 56, 57]))] s fun v12 s =>
 kBin .neq v12 (.string (bs [])) fun v13 =>
 k [v13] s) [undef] s fun xs s =>
 un1 xs fun v13 =>
 kPick v9 (.bool true) v13 fun v14 =>
 kCond v14 (
 k (.tuple #[(.int .i64 0), (.int .i64 10)]) s) (
 J1 [] s)
theorem F198_ok (s_0 most_1 : Value) (s : AS) (k : Value → AS → Prop) : denFn PG [] 198 [s_0, most_1] s k = F198 s_0 most_1 s k := by kernel_rfl
theorem f198 {s_0 most_1 : Value} {s : AS} {k : Value → AS → Prop} (h : F198 s_0 most_1 s k) : kCall PG 198 [s_0, most_1] s k := fn_by (F198_ok s_0 most_1 s k) h
def F218 (r_0 : Value) (s : AS) (k : Value → AS → Prop) : Prop :=
 kJoin (fun _ s =>
 k (.bool false) s) fun J1 =>
 kBin .leq (.int .i32 0) r_0 fun v5 =>
 kGrd v5 true (fun k =>
 kBin .lss r_0 (.int .i32 55296) fun v8 =>
 k [v8] s) [undef] s fun xs s =>
 un1 xs fun v8 =>
 kPick v5 v8 (.bool false) fun v9 =>
 kCond v9 (
 k (.bool true) s) (
 kBin .lss (.int .i32 57343) r_0 fun v12 =>
 kGrd v12 true (fun k =>
 kBin .leq r_0 (.int .i32 1114111) fun v15 =>
 k [v15] s) [undef] s fun xs s =>
 un1 xs fun v15 =>
 kPick v12 v15 (.bool false) fun v16 =>
 kCond v16 (
 k (.bool true) s) (
 J1 [] s))
theorem F218_ok (r_0 : Value) (s : AS) (k : Value → AS → Prop) : denFn PG [] 218 [r_0] s k = F218 r_0 s k := by kernel_rfl
theorem f218 {r_0 : Value} {s : AS} {k : Value → AS → Prop} (h : F218 r_0 s k) : kCall PG 218 [r_0] s k := fn_by (F218_ok r_0 s k) h
def F221 (r_0 p_1 : Value) (s : AS) (k : Value → AS → Prop) : Prop :=
 kNew s (cellsV p_1) fun p_3 s =>
 kJoin (fun _ s =>
 kNck r_0 fun v56 =>
 kFld 0 v56 fun v57 =>
 kLd s v57 fun v58 =>
 kLen false v58 fun v60 =>
 kLdN s 6 p_3 fun v59 =>
 kBsl s 1 [(.int .i64 0), (.string (bs [])), (.bool false), (.int .i64 0), (.bool false), (.slice none 0 0)] [(0, 6, (.agg #[(.int .i64 0), (.string (bs [])), (.bool false), (.int .i64 0), (.bool false), (.slice none 0 0)]))] fun v61 s =>
 kChkN s 6 p_3 v59 (
 kChk s v57 v58 (
 kApp PG 27 27 v58 v61 s fun v62 s =>
 kIdx 6 v62 v60 fun v63 =>
 kNck r_0 fun v64 =>
 kFld 0 v64 fun v65 =>
 kAlt (
 kSt s 6 v63 v59 fun s =>
 kSt s 1 v65 v62 fun s =>
 k undef s) (
 kSt s 1 v65 v62 fun s =>
 kSt s 6 v63 v59 fun s =>
 k undef s)))) fun J1 =>
 kNck r_0 fun v6 =>
 kFld 0 v6 fun v7 =>
 kLd s v7 fun v8 =>
 kLen false v8 fun v9 =>
 kBin .sub v9 (.int .i64 1) fun v10 =>
 kFld 0 p_3 fun v11 =>
 kLd s v11 fun v12 =>
 kBin .eql v12 (.int .i64 1) fun v13 =>
 kGrd v13 true (fun k =>
 kBin .geq v10 (.int .i64 0) fun v16 =>
 k [v16] s) [undef] s fun xs s =>
 un1 xs fun v16 =>
 kPick v13 v16 (.bool false) fun v17 =>
 kGrd v17 true (fun k =>
 kNck r_0 fun v20 =>
 kFld 0 v20 fun v21 =>
 kLd s v21 fun v22 =>
 kIdx 6 v22 v10 fun v24 =>
 kFld 0 v24 fun v25 =>
 kLd s v25 fun v26 =>
 kBin .eql v26 (.int .i64 1) fun v27 =>
 k [v27] s) [undef] s fun xs s =>
 un1 xs fun v27 =>
 kPick v17 v27 (.bool false) fun v28 =>
 kGrd v28 true (fun k =>
 kNck r_0 fun v31 =>
 kFld 0 v31 fun v32 =>
 kFld 2 p_3 fun v38 =>
 kLd s v32 fun v33 =>
 kIdx 6 v33 v10 fun v35 =>
 kFld 2 v35 fun v36 =>
 kLd s v36 fun v37 =>
 kLd s v38 fun v39 =>
 kEq 4 false v37 v39 fun v40 =>
 k [v40] s) [undef] s fun xs s =>
 un1 xs fun v40 =>
 kPick v28 v40 (.bool false) fun v41 =>
 kCond v41 (
 kNck r_0 fun v43 =>
 kFld 0 v43 fun v44 =>
 kFld 1 p_3 fun v50 =>
 kLd s v44 fun v45 =>
 kIdx 6 v45 v10 fun v47 =>
 kFld 1 v47 fun v48 =>
 kLd s v48 fun v49 =>
 kLd s v50 fun v51 =>
 kBin .add v49 v51 fun v52 =>
 kIdx 6 v45 v10 fun v53 =>
 kFld 1 v53 fun v54 =>
 kSt s 1 v54 v52 fun s =>
 k undef s) (
 J1 [] s)
theorem F221_ok (r_0 p_1 : Value) (s : AS) (k : Value → AS → Prop) : denFn PG [(2, (.go 0 (.go 1 (.go 2 (.go 3 (.go 4 (.go 5 (.go 6 (.go 7 (.go 8 (.go 9 (.go 10 (.go 12 (.go 11 (.go 13 (.go 14 (.go 15 (.go 16 (.go 17 (.go 18 (.go 19 (.go 20 (.go 21 (.go 23 (.go 27 (.go 22 (.go 24 (.go 25 (.go 26 (.go 28 (.go 29 (.go 30 .done)))))))))))))))))))))))))))))))), (3, (.go 0 (.go 1 (.go 2 (.go 4 (.go 8 (.go 3 (.go 5 (.go 6 (.go 7 (.go 9 (.go 10 (.go 11 (.go 12 (.go 13 .done))))))))))))))), (4, (.go 0 (.go 1 (.go 2 (.go 3 (.go 5 (.go 4 (.go 6 (.go 7 (.go 8 (.go 10 (.go 11 (.both 9 (.go 12 .done) (.go 12 (.go 9 .done)))))))))))))))] 221 [r_0, p_1] s k = F221 r_0 p_1 s k := by kernel_rfl
theorem f221 {r_0 p_1 : Value} {s : AS} {k : Value → AS → Prop} (h : F221 r_0 p_1 s k) : kCall PG 221 [r_0, p_1] s k := fn_by (F221_ok r_0 p_1 s k) h
def F222 (s_0 at_1 quoted_2 : Value) (s : AS) (k : Value → AS → Prop) : Prop :=
 kJoin (fun _ s =>
 kBuild [(.int .i64 0), (.int .i64 0), (.string (bs [])), (.int .i64 0), (.int .i64 0)] [(2, 1, s_0), (3, 1, at_1)] fun v20 =>
 kNew s (cellsV v20) fun v21 s =>
 kUn .not quoted_2 fun v25 =>
 kCall PG 252 [v21, quoted_2, v25, (.bool false)] s fun v26 s =>
 kJoin (fun _ s =>
 kNck v21 fun v42 =>
 kFld 3 v42 fun v43 =>
 kLd s v43 fun v44 =>
 k (.tuple #[v44, (.int .i64 0), (.int .i64 0)]) s) fun J2 =>
 kNck v21 fun v28 =>
 kFld 0 v28 fun v29 =>
 kCall PG 253 [v29] s fun v30 s =>
 kCond v30 (
 kNck v21 fun v32 =>
 kFld 0 v32 fun v33 =>
 kFld 1 v33 fun v34 =>
 kNck v21 fun v37 =>
 kFld 0 v37 fun v38 =>
 kFld 0 v38 fun v39 =>
 kLd s v34 fun v35 =>
 kLd s v39 fun v40 =>
 k (.tuple #[(.int .i64 0), v35, v40]) s) (
 J2 [] s)) fun J1 =>
 kBin .lss at_1 (.int .i64 0) fun v11 =>
 kGrd v11 false (fun k =>
 kLen true s_0 fun v15 =>
 kBin .geq at_1 v15 fun v16 =>
 k [v16] s) [undef] s fun xs s =>
 un1 xs fun v16 =>
 kPick v11 (.bool true) v16 fun v17 =>
 kCond v17 (
 k (.tuple #[(.int .i64 0), (.int .i64 0), (.int .i64 1)]) s) (
 J1 [] s)
theorem F222_ok (s_0 at_1 quoted_2 : Value) (s : AS) (k : Value → AS → Prop) : denFn PG [(6, (.go 0 (.go 1 (.go 2 (.go 3 (.go 5 (.go 6 (.go 7 (.go 8 (.go 10 (.go 4 (.go 11 (.go 9 (.go 12 .done))))))))))))))] 222 [s_0, at_1, quoted_2] s k = F222 s_0 at_1 quoted_2 s k := by kernel_rfl
theorem f222 {s_0 at_1 quoted_2 : Value} {s : AS} {k : Value → AS → Prop} (h : F222 s_0 at_1 quoted_2 s k) : kCall PG 222 [s_0, at_1, quoted_2] s k := fn_by (F222_ok s_0 at_1 quoted_2 s k) h
def F224 (r_0 s_1 quote_2 : Value) (s : AS) (k : Value → AS → Prop) : Prop :=
 kBuild [(.int .i64 0), (.string (bs [])), (.bool false), (.int .i64 0), (.bool false), (.slice none 0 0)] [(0, 1, (.int .i64 1)), (1, 1, s_1), (2, 1, quote_2)] fun v9 =>
 kCall PG 221 [r_0, v9] s fun v10 s =>
 k undef s
theorem F224_ok (r_0 s_1 quote_2 : Value) (s : AS) (k : Value → AS → Prop) : denFn PG [] 224 [r_0, s_1, quote_2] s k = F224 r_0 s_1 quote_2 s k := by kernel_rfl
theorem f224 {r_0 s_1 quote_2 : Value} {s : AS} {k : Value → AS → Prop} (h : F224 r_0 s_1 quote_2 s k) : kCall PG 224 [r_0, s_1, quote_2] s k := fn_by (F224_ok r_0 s_1 quote_2 s k) h
def F229 (a_0 b_1 v2 : Value) (s : AS) (k : Value → AS → Prop) : Prop :=
 kLd s v2 fun v7 =>
 kCallv PG v7 [a_0, b_1] s fun v10 s =>
 k (.tuple #[v10, (.int .i64 0)]) s
theorem F229_ok (a_0 b_1 v2 : Value) (s : AS) (k : Value → AS → Prop) : denFn PG [] 229 [a_0, b_1, v2] s k = F229 a_0 b_1 v2 s k := by kernel_rfl
theorem f229 {a_0 b_1 v2 : Value} {s : AS} {k : Value → AS → Prop} (h : F229 a_0 b_1 v2 s k) : kCall PG 229 [a_0, b_1, v2] s k := fn_by (F229_ok a_0 b_1 v2 s k) h
def F230 (a_0 b_1 v2 v3 : Value) (s : AS) (k : Value → AS → Prop) : Prop :=
 kJoin (fun _ s =>
 kLd s v3 fun v19 =>
 kCallv PG v19 [a_0, b_1] s fun v22 s =>
 k (.tuple #[v22, (.int .i64 0)]) s) fun J1 =>
 kBin .eql b_1 (.int .i64 0) fun v10 =>
 kCond v10 (
 k (.tuple #[(.int .i64 0), (.int .i64 13)]) s) (
 kBin .eql a_0 (.int .i64 (-9223372036854775808)) fun v13 =>
 kGrd v13 true (fun k =>
 kBin .eql b_1 (.int .i64 (-1)) fun v16 =>
 k [v16] s) [undef] s fun xs s =>
 un1 xs fun v16 =>
 kPick v13 v16 (.bool false) fun v17 =>
 kCond v17 (
 kLd s v2 fun v18 =>
 k (.tuple #[v18, (.int .i64 0)]) s) (
 J1 [] s))
theorem F230_ok (a_0 b_1 v2 v3 : Value) (s : AS) (k : Value → AS → Prop) : denFn PG [] 230 [a_0, b_1, v2, v3] s k = F230 a_0 b_1 v2 v3 s k := by kernel_rfl
theorem f230 {a_0 b_1 v2 v3 : Value} {s : AS} {k : Value → AS → Prop} (h : F230 a_0 b_1 v2 v3 s k) : kCall PG 230 [a_0, b_1, v2, v3] s k := fn_by (F230_ok a_0 b_1 v2 v3 s k) h
def F232 (w_0 r_1 : Value) (s : AS) (k : Value → AS → Prop) : Prop :=
 kNew s (cellsV w_0) fun w_2 s =>
 kNew s (cellsV r_1) fun r_3 s =>
 kJoin (fun _ s =>
 kLd s w_2 fun v17 =>
 kLd s r_3 fun v18 =>
 kBin .add v18 (.int .i64 1) fun v19 =>
 kCall PG 232 [v17, v19] s fun v20 s =>
 kJoin (fun xs s =>
 un1 xs fun a_5 =>
 k a_5 s) fun J2 =>
 kLoop (fun again3 xs s =>
 un1 xs fun a_5 =>
 kJoin (fun _ s =>
 kLd s w_2 fun v26 =>
 kCall PG 134 [v26] s fun v27 s =>
 kLd s w_2 fun v29 =>
 kNck v29 fun v30 =>
 kFld 1 v30 fun v31 =>
 kLd s v31 fun v32 =>
 kGen PG (.lk 216 true) [v32, v27] s fun v34 s =>
 kExt 0 v34 fun v35 =>
 kExt 1 v34 fun v36 =>
 kNew s [(.int .i64 0), .nilFunc] fun o_7 s =>
 kSt s 2 o_7 v35 fun s =>
 kJoin (fun _ s =>
 kLen true v27 fun v51 =>
 kLd s w_2 fun v45 =>
 kLd s w_2 fun v46 =>
 kNck v46 fun v47 =>
 kFld 0 v47 fun v48 =>
 kLd s v48 fun v49 =>
 kSubS v49 (some v51) none fun v52 =>
 kNck v45 fun v53 =>
 kFld 0 v53 fun v54 =>
 kSt s 1 v54 v52 fun s =>
 kBin .eql v27 (.string (bs [124, 124])) fun v65 =>
 kCond v65 (
 kLd s w_2 fun v66 =>
 kBin .eql a_5 (.int .i64 0) fun v68 =>
 kCall PG 233 [v66, v68, (.func (.func 265) #[] #[w_2, r_3])] s fun v70 s =>
 kBin .neq a_5 (.int .i64 0) fun v72 =>
 kGrd v72 false (fun k =>
 kBin .neq v70 (.int .i64 0) fun v75 =>
 k [v75] s) [undef] s fun xs s =>
 un1 xs fun v75 =>
 kPick v72 (.bool true) v75 fun v76 =>
 kCall PG 177 [v76] s fun v77 s =>
 again3 [v77] s) (
 kBin .eql v27 (.string (bs [38, 38])) fun v79 =>
 kCond v79 (
 kLd s w_2 fun v80 =>
 kBin .neq a_5 (.int .i64 0) fun v82 =>
 kCall PG 233 [v80, v82, (.func (.func 265) #[] #[w_2, r_3])] s fun v84 s =>
 kBin .neq a_5 (.int .i64 0) fun v86 =>
 kGrd v86 true (fun k =>
 kBin .neq v84 (.int .i64 0) fun v89 =>
 k [v89] s) [undef] s fun xs s =>
 un1 xs fun v89 =>
 kPick v86 v89 (.bool false) fun v90 =>
 kCall PG 177 [v90] s fun v91 s =>
 again3 [v91] s) (
 kCallv PG (.func (.func 265) #[] #[w_2, r_3]) [] s fun v58 s =>
 kLd s w_2 fun v59 =>
 kCall PG 193 [v59, v27, a_5, v58] s fun v63 s =>
 again3 [v63] s))) fun J5 =>
 kUn .not v36 fun v38 =>
 kGrd v38 false (fun k =>
 kFld 0 o_7 fun v40 =>
 kLd s v40 fun v41 =>
 kLd s r_3 fun v42 =>
 kBin .neq v41 v42 fun v43 =>
 k [v43] s) [undef] s fun xs s =>
 un1 xs fun v43 =>
 kPick v38 (.bool true) v43 fun v44 =>
 kCond v44 (
 J2 [a_5] s) (
 J5 [] s)) fun J4 =>
 kLd s w_2 fun v21 =>
 kNck v21 fun v22 =>
 kFld 5 v22 fun v23 =>
 kLd s v23 fun v24 =>
 kUn .not v24 fun v25 =>
 kCond v25 (
 J4 [] s) (
 J2 [a_5] s)) [v20] s) fun J1 =>
 kLd s r_3 fun v13 =>
 kBin .gtr v13 (.int .i64 10) fun v14 =>
 kCond v14 (
 kLd s w_2 fun v15 =>
 kCall PG 264 [v15] s fun v16 s =>
 k v16 s) (
 J1 [] s)
theorem F232_ok (w_0 r_1 : Value) (s : AS) (k : Value → AS → Prop) : denFn PG [(8, (.go 5 (.go 6 (.go 0 (.go 1 (.go 2 (.go 3 (.go 4 (.go 7 (.go 8 (.go 9 (.go 10 .done))))))))))))] 232 [w_0, r_1] s k = F232 w_0 r_1 s k := by kernel_rfl
theorem f232 {w_0 r_1 : Value} {s : AS} {k : Value → AS → Prop} (h : F232 w_0 r_1 s k) : kCall PG 232 [w_0, r_1] s k := fn_by (F232_ok w_0 r_1 s k) h
def F233 (w_0 is_1 read_2 : Value) (s : AS) (k : Value → AS → Prop) : Prop :=
 kNew s (cellsV w_0) fun w_3 s =>
 kJoin (fun xs s =>
 un1 xs fun v19 =>
 kCallv PG read_2 [] s fun v18 s =>
 kFin PG (valsOf v19) s fun s =>
 k v18 s) fun J1 =>
 kUn .not is_1 fun v8 =>
 kCond v8 (
 kLd s w_3 fun v9 =>
 kNck v9 fun v10 =>
 kFld 4 v10 fun v11 =>
 kLd s v11 fun v12 =>
 kBin .add v12 (.int .i64 1) fun v13 =>
 kNck v9 fun v14 =>
 kFld 4 v14 fun v15 =>
 kSt s 1 v15 v13 fun s =>
 kGen PG .dfr [(.func (.func 266) #[] #[w_3]), undef] s fun v19 s =>
 J1 [v19] s) (
 J1 [undef] s)
theorem F233_ok (w_0 is_1 read_2 : Value) (s : AS) (k : Value → AS → Prop) : denFn PG [] 233 [w_0, is_1, read_2] s k = F233 w_0 is_1 read_2 s k := by kernel_rfl
theorem f233 {w_0 is_1 read_2 : Value} {s : AS} {k : Value → AS → Prop} (h : F233 w_0 is_1 read_2 s k) : kCall PG 233 [w_0, is_1, read_2] s k := fn_by (F233_ok w_0 is_1 read_2 s k) h
def F234 (p_0 v1 : Value) (s : AS) (k : Value → AS → Prop) : Prop :=
 kNew s (cellsV p_0) fun p_2 s =>
 kFld 0 p_2 fun v4 =>
 kLd s v4 fun v5 =>
 kLd s v1 fun v6 =>
 kBin .eql v5 v6 fun v7 =>
 k v7 s
theorem F234_ok (p_0 v1 : Value) (s : AS) (k : Value → AS → Prop) : denFn PG [] 234 [p_0, v1] s k = F234 p_0 v1 s k := by kernel_rfl
theorem f234 {p_0 v1 : Value} {s : AS} {k : Value → AS → Prop} (h : F234 p_0 v1 s k) : kCall PG 234 [p_0, v1] s k := fn_by (F234_ok p_0 v1 s k) h
def F235 (s_0 f_1 : Value) (s : AS) (k : Value → AS → Prop) : Prop :=
 kJoin (fun _ s =>
 k (.int .i64 (-1)) s) fun J1 =>
 kLen false s_0 fun v7 =>
 kLoop (fun again2 xs s =>
 un1 xs fun v8 =>
 kBin .lss v8 v7 fun v9 =>
 kJoin (fun _ s =>
 kJoin (fun _ s =>
 kBin .add v8 (.int .i64 1) fun v18 =>
 again2 [v18] s) fun J4 =>
 kIdx 2 s_0 v8 fun v14 =>
 kLdN s 2 v14 fun v15 =>
 kCallv PG f_1 [v15] s fun v16 s =>
 kCond v16 (
 k v8 s) (
 J4 [] s)) fun J3 =>
 kCond v9 (
 J3 [] s) (
 J1 [] s)) [(.int .i64 0)] s
theorem F235_ok (s_0 f_1 : Value) (s : AS) (k : Value → AS → Prop) : denFn PG [] 235 [s_0, f_1] s k = F235 s_0 f_1 s k := by kernel_rfl
theorem f235 {s_0 f_1 : Value} {s : AS} {k : Value → AS → Prop} (h : F235 s_0 f_1 s k) : kCall PG 235 [s_0, f_1] s k := fn_by (F235_ok s_0 f_1 s k) h
def F236 (s_0 : Value) (s : AS) (k : Value → AS → Prop) : Prop :=
 kCall PG 239 [s_0, (.string (bs [32, 9, 10]))] s fun v8 s =>
 kJoin (fun _ s =>
 kJoin (fun xs s =>
 un2 xs fun s_0' sign_4 =>
 kCall PG 267 [s_0'] s fun v25 s =>
 kExt 0 v25 fun v26 =>
 kExt 1 v25 fun v27 =>
 kJoin (fun _ s =>
 kCvi .i64 v26 fun v50 =>
 k (.tuple #[v50, (.int .i64 0)]) s) fun J3 =>
 kUn .not v27 fun v30 =>
 kGrd v30 false (fun k =>
 kBin .gtr v26 (.int .u64 9223372036854775808) fun v33 =>
 k [v33] s) [undef] s fun xs s =>
 un1 xs fun v33 =>
 kPick v30 (.bool true) v33 fun v34 =>
 kGrd v34 false (fun k =>
 kBin .eql v26 (.int .u64 9223372036854775808) fun v37 =>
 k [v37] s) [undef] s fun xs s =>
 un1 xs fun v38 =>
 kGrd v38 true (fun k =>
 kBin .neq sign_4 (.string (bs [45])) fun v40 =>
 k [v40] s) [undef] s fun xs s =>
 un1 xs fun v40 =>
 kGrd v34 false (fun k =>
 kPick v38 v40 (.bool false) fun v41 =>
 k [v41] s) [undef] s fun xs s =>
 un1 xs fun v41 =>
 kPick v34 (.bool true) v41 fun v42 =>
 kCond v42 (
 k (.tuple #[(.int .i64 0), (.int .i64 10)]) s) (
 kBin .eql sign_4 (.string (bs [45])) fun v45 =>
 kCond v45 (
 kCvi .i64 v26 fun v47 =>
 kUn .neg v47 fun v48 =>
 k (.tuple #[v48, (.int .i64 0)]) s) (
 J3 [] s))) fun J2 =>
 kIxS v8 (.int .i64 0) fun v12 =>
 kBin .eql v12 (.int .u8 43) fun v13 =>
 kGrd v13 false (fun k =>
 kIxS v8 (.int .i64 0) fun v16 =>
 kBin .eql v16 (.int .u8 45) fun v17 =>
 k [v17] s) [undef] s fun xs s =>
 un1 xs fun v17 =>
 kPick v13 (.bool true) v17 fun v18 =>
 kCond v18 (
 kSubS v8 none (some (.int .i64 1)) fun v20 =>
 kSubS v8 (some (.int .i64 1)) none fun v22 =>
 J2 [v22, v20] s) (
 J2 [v8, (.string (bs []))] s)) fun J1 =>
 kBin .eql v8 (.string (bs [])) fun v10 =>
 kCond v10 (
 k (.tuple #[(.int .i64 0), (.int .i64 0)]) s) (
 J1 [] s)
theorem F236_ok (s_0 : Value) (s : AS) (k : Value → AS → Prop) : denFn PG [(6, (.go 0 (.go 1 (.go 2 (.go 3 (.go 4 (.go 5 .done)))))))] 236 [s_0] s k = F236 s_0 s k := by kernel_rfl
theorem f236 {s_0 : Value} {s : AS} {k : Value → AS → Prop} (h : F236 s_0 s k) : kCall PG 236 [s_0] s k := fn_by (F236_ok s_0 s k) h
def F252 (r_0 quoted_1 quotes_2 brackets_3 : Value) (s : AS) (k : Value → AS → Prop) : Prop :=
 kNew s (cellsV r_0) fun r_4 s =>
 kLd s r_4 fun v10 =>
 kNck v10 fun v11 =>
 kFld 2 v11 fun v12 =>
 kLd s v12 fun v13 =>
 kLd s r_4 fun v14 =>
 kNck v14 fun v15 =>
 kFld 3 v15 fun v16 =>
 kLd s v16 fun v17 =>
 kIxS v13 v17 fun v18 =>
 kBin .eql v18 (.int .u8 92) fun v28 =>
 kCond v28 (
 kLd s r_4 fun v29 =>
 kLd s r_4 fun v30 =>
 kNck v30 fun v31 =>
 kFld 3 v31 fun v32 =>
 kLd s v32 fun v33 =>
 kBin .add v33 (.int .i64 2) fun v34 =>
 kLd s r_4 fun v35 =>
 kNck v35 fun v36 =>
 kFld 2 v36 fun v37 =>
 kLd s v37 fun v38 =>
 kLen true v38 fun v39 =>
 kMin v34 v39 fun v40 =>
 kNck v29 fun v41 =>
 kFld 3 v41 fun v42 =>
 kSt s 1 v42 v40 fun s =>
 k undef s) (
 kBin .eql v18 (.int .u8 39) fun v45 =>
 kGrd v45 true (fun k =>
 kUn .not quoted_1 fun v48 =>
 k [v48] s) [undef] s fun xs s =>
 un1 xs fun v48 =>
 kPick v45 v48 (.bool false) fun v49 =>
 kCond v49 (
 kLd s r_4 fun v50 =>
 kCall PG 280 [v50] s fun v51 s =>
 k undef s) (
 kBin .eql v18 (.int .u8 34) fun v54 =>
 kGrd v54 true (fun k =>
 k [quotes_2] s) [undef] s fun xs s =>
 un1 xs fun v56 =>
 kPick v54 v56 (.bool false) fun v57 =>
 kCond v57 (
 kLd s r_4 fun v58 =>
 kNck v58 fun v59 =>
 kFld 3 v59 fun v60 =>
 kLd s v60 fun v61 =>
 kLd s r_4 fun v62 =>
 kNck v62 fun v63 =>
 kFld 3 v63 fun v64 =>
 kLd s v64 fun v65 =>
 kBin .add v65 (.int .i64 1) fun v66 =>
 kNck v62 fun v67 =>
 kFld 3 v67 fun v68 =>
 kSt s 1 v68 v66 fun s =>
 kLd s r_4 fun v69 =>
 kCall PG 281 [v69, (.int .u8 34), v61, (.func (.func 282) #[] #[r_4])] s fun v72 s =>
 k undef s) (
 kBin .eql v18 (.int .u8 40) fun v75 =>
 kGrd v75 true (fun k =>
 k [brackets_3] s) [undef] s fun xs s =>
 un1 xs fun v77 =>
 kPick v75 v77 (.bool false) fun v78 =>
 kCond v78 (
 kLd s r_4 fun v79 =>
 kCall PG 283 [v79] s fun v80 s =>
 k undef s) (
 kBin .eql v18 (.int .u8 36) fun v83 =>
 kCond v83 (
 kLd s r_4 fun v84 =>
 kCall PG 284 [v84, quoted_1] s fun v86 s =>
 k undef s) (
 kBin .eql v18 (.int .u8 96) fun v89 =>
 kCond v89 (
 kLd s r_4 fun v90 =>
 kNck v90 fun v91 =>
 kFld 0 v91 fun v92 =>
 kLd s r_4 fun v93 =>
 kNck v93 fun v94 =>
 kFld 3 v94 fun v95 =>
 kLd s v95 fun v96 =>
 kCall PG 285 [v92, (.int .i64 10), v96] s fun v97 s =>
 k undef s) (
 kLd s r_4 fun v19 =>
 kNck v19 fun v20 =>
 kFld 3 v20 fun v21 =>
 kLd s v21 fun v22 =>
 kBin .add v22 (.int .i64 1) fun v23 =>
 kNck v19 fun v24 =>
 kFld 3 v24 fun v25 =>
 kSt s 1 v25 v23 fun s =>
 k undef s))))))
theorem F252_ok (r_0 quoted_1 quotes_2 brackets_3 : Value) (s : AS) (k : Value → AS → Prop) : denFn PG [(1, (.go 0 (.go 1 (.go 2 (.go 3 (.go 4 (.go 5 (.go 6 (.go 7 (.go 8 (.go 9 .done))))))))))), (4, (.go 0 (.go 1 (.go 2 (.go 3 (.go 4 (.go 5 (.go 6 (.go 7 (.go 8 (.go 9 (.go 10 (.go 11 (.go 12 (.go 13 (.go 14 .done)))))))))))))))), (16, (.go 0 (.go 1 (.go 2 (.go 3 (.go 4 (.go 5 (.go 6 (.go 7 .done)))))))))] 252 [r_0, quoted_1, quotes_2, brackets_3] s k = F252 r_0 quoted_1 quotes_2 brackets_3 s k := by kernel_rfl
theorem f252 {r_0 quoted_1 quotes_2 brackets_3 : Value} {s : AS} {k : Value → AS → Prop} (h : F252 r_0 quoted_1 quotes_2 brackets_3 s k) : kCall PG 252 [r_0, quoted_1, quotes_2, brackets_3] s k := fn_by (F252_ok r_0 quoted_1 quotes_2 brackets_3 s k) h
def F253 (b_0 : Value) (s : AS) (k : Value → AS → Prop) : Prop :=
 kNck b_0 fun v4 =>
 kFld 0 v4 fun v5 =>
 kLd s v5 fun v6 =>
 kBin .neq v6 (.int .i64 0) fun v7 =>
 k v7 s
theorem F253_ok (b_0 : Value) (s : AS) (k : Value → AS → Prop) : denFn PG [] 253 [b_0] s k = F253 b_0 s k := by kernel_rfl
theorem f253 {b_0 : Value} {s : AS} {k : Value → AS → Prop} (h : F253 b_0 s k) : kCall PG 253 [b_0] s k := fn_by (F253_ok b_0 s k) h
def F264 (w_0 : Value) (s : AS) (k : Value → AS → Prop) : Prop :=
 kCall PG 191 [w_0] s fun v11 s =>
 kJoin (fun _ s =>
 kJoin (fun _ s =>
 kNck w_0 fun v166 =>
 kFld 5 v166 fun v167 =>
 kSt s 1 v167 (.bool true) fun s =>
 k (.int .i64 0) s) fun J2 =>
 kNck w_0 fun v27 =>
 kFld 0 v27 fun v28 =>
 kLd s v28 fun v29 =>
 kIxS v29 (.int .i64 0) fun v30 =>
 kBin .eql v30 (.int .u8 43) fun v33 =>
 kGrd v33 false (fun k =>
 kBin .eql v30 (.int .u8 45) fun v36 =>
 k [v36] s) [undef] s fun xs s =>
 un1 xs fun v36 =>
 kPick v33 (.bool true) v36 fun v37 =>
 kGrd v37 false (fun k =>
 kBin .eql v30 (.int .u8 33) fun v40 =>
 k [v40] s) [undef] s fun xs s =>
 un1 xs fun v40 =>
 kPick v37 (.bool true) v40 fun v41 =>
 kGrd v41 false (fun k =>
 kBin .eql v30 (.int .u8 126) fun v44 =>
 k [v44] s) [undef] s fun xs s =>
 un1 xs fun v44 =>
 kPick v41 (.bool true) v44 fun v45 =>
 kCond v45 (
 kNck w_0 fun v48 =>
 kFld 0 v48 fun v49 =>
 kLd s v49 fun v50 =>
 kSubS v50 (some (.int .i64 1)) none fun v51 =>
 kNck w_0 fun v52 =>
 kFld 0 v52 fun v53 =>
 kSt s 1 v53 v51 fun s =>
 kCall PG 264 [w_0] s fun v55 s =>
 kJoin (fun _ s =>
 k v55 s) fun J3 =>
 kBin .eql v30 (.int .u8 45) fun v58 =>
 kCond v58 (
 kUn .neg v55 fun v60 =>
 k v60 s) (
 kBin .eql v30 (.int .u8 33) fun v62 =>
 kCond v62 (
 kBin .eql v55 (.int .i64 0) fun v64 =>
 kCall PG 177 [v64] s fun v65 s =>
 k v65 s) (
 kBin .eql v30 (.int .u8 126) fun v67 =>
 kCond v67 (
 kUn .xor v55 fun v69 =>
 k v69 s) (
 J3 [] s)))) (
 kBin .eql v30 (.int .u8 40) fun v73 =>
 kCond v73 (
 kNck w_0 fun v76 =>
 kFld 0 v76 fun v77 =>
 kLd s v77 fun v78 =>
 kSubS v78 (some (.int .i64 1)) none fun v79 =>
 kNck w_0 fun v80 =>
 kFld 0 v80 fun v81 =>
 kSt s 1 v81 v79 fun s =>
 kCall PG 135 [w_0] s fun v83 s =>
 kJoin (fun _ s =>
 kNck w_0 fun v92 =>
 kFld 0 v92 fun v93 =>
 kLd s v93 fun v94 =>
 kSubS v94 (some (.int .i64 1)) none fun v95 =>
 kNck w_0 fun v96 =>
 kFld 0 v96 fun v97 =>
 kSt s 1 v97 v95 fun s =>
 k v83 s) fun J4 =>
 kCall PG 134 [w_0] s fun v85 s =>
 kBin .neq v85 (.string (bs [41])) fun v86 =>
 kCond v86 (
 kNck w_0 fun v88 =>
 kFld 5 v88 fun v89 =>
 kSt s 1 v89 (.bool true) fun s =>
 k (.int .i64 0) s) (
 J4 [] s)) (
 kCall PG 143 [v30] s fun v101 s =>
 kCond v101 (
 kNck w_0 fun v103 =>
 kFld 0 v103 fun v104 =>
 kNck w_0 fun v107 =>
 kFld 0 v107 fun v108 =>
 kLd s v104 fun v105 =>
 kLd s v108 fun v109 =>
 kCall PG 112 [v109] s fun v110 s =>
 kChk s v104 v105 (
 kSubS v105 none (some v110) fun v111 =>
 kNck w_0 fun v114 =>
 kFld 0 v114 fun v115 =>
 kLd s v115 fun v116 =>
 kLen true v111 fun v118 =>
 kSubS v116 (some v118) none fun v119 =>
 kNck w_0 fun v120 =>
 kFld 0 v120 fun v121 =>
 kSt s 1 v121 v119 fun s =>
 kCall PG 194 [w_0, v111] s fun v124 s =>
 k v124 s)) (
 kCall PG 144 [v30] s fun v127 s =>
 kCond v127 (
 kNck w_0 fun v129 =>
 kFld 0 v129 fun v130 =>
 kLd s v130 fun v131 =>
 kBin .add (.string (bs [95])) v131 fun v132 =>
 kCall PG 112 [v132] s fun v133 s =>
 kBin .sub v133 (.int .i64 1) fun v134 =>
 kNck w_0 fun v137 =>
 kFld 0 v137 fun v138 =>
 kLd s v138 fun v139 =>
 kSubS v139 none (some v134) fun v141 =>
 kCall PG 267 [v141] s fun v142 s =>
 kExt 0 v142 fun v143 =>
 kExt 1 v142 fun v144 =>
 kNck w_0 fun v147 =>
 kFld 0 v147 fun v148 =>
 kLd s v148 fun v149 =>
 kSubS v149 (some v134) none fun v151 =>
 kNck w_0 fun v152 =>
 kFld 0 v152 fun v153 =>
 kSt s 1 v153 v151 fun s =>
 kUn .not v144 fun v156 =>
 kGrd v156 false (fun k =>
 kBin .geq v143 (.int .u64 9223372036854775808) fun v159 =>
 k [v159] s) [undef] s fun xs s =>
 un1 xs fun v159 =>
 kPick v156 (.bool true) v159 fun v160 =>
 kNck w_0 fun v161 =>
 kFld 5 v161 fun v162 =>
 kSt s 1 v162 v160 fun s =>
 kCvi .i64 v143 fun v164 =>
 k v164 s) (
 J2 [] s))))) fun J1 =>
 kNck w_0 fun v13 =>
 kFld 5 v13 fun v14 =>
 kLd s v14 fun v15 =>
 kGrd v15 false (fun k =>
 kNck w_0 fun v18 =>
 kFld 0 v18 fun v19 =>
 kLd s v19 fun v20 =>
 kBin .eql v20 (.string (bs [])) fun v21 =>
 k [v21] s) [undef] s fun xs s =>
 un1 xs fun v21 =>
 kPick v15 (.bool true) v21 fun v22 =>
 kCond v22 (
 kNck w_0 fun v24 =>
 kFld 5 v24 fun v25 =>
 kSt s 1 v25 (.bool true) fun s =>
 k (.int .i64 0) s) (
 J1 [] s)
theorem F264_ok (w_0 : Value) (s : AS) (k : Value → AS → Prop) : denFn PG [(26, (.go 0 (.go 1 (.go 2 (.go 4 (.go 5 (.go 6 (.go 3 (.go 7 (.go 8 (.go 9 (.go 10 .done))))))))))))] 264 [w_0] s k = F264 w_0 s k := by kernel_rfl
theorem f264 {w_0 : Value} {s : AS} {k : Value → AS → Prop} (h : F264 w_0 s k) : kCall PG 264 [w_0] s k := fn_by (F264_ok w_0 s k) h
def F265 (v0 v1 : Value) (s : AS) (k : Value → AS → Prop) : Prop :=
 kLd s v0 fun v3 =>
 kLd s v1 fun v4 =>
 kBin .add v4 (.int .i64 1) fun v5 =>
 kCall PG 232 [v3, v5] s fun v6 s =>
 k v6 s
theorem F265_ok (v0 v1 : Value) (s : AS) (k : Value → AS → Prop) : denFn PG [] 265 [v0, v1] s k = F265 v0 v1 s k := by kernel_rfl
theorem f265 {v0 v1 : Value} {s : AS} {k : Value → AS → Prop} (h : F265 v0 v1 s k) : kCall PG 265 [v0, v1] s k := fn_by (F265_ok v0 v1 s k) h
def F266 (v0 : Value) (s : AS) (k : Value → AS → Prop) : Prop :=
 kLd s v0 fun v1 =>
 kNck v1 fun v2 =>
 kFld 4 v2 fun v3 =>
 kLd s v3 fun v4 =>
 kBin .sub v4 (.int .i64 1) fun v5 =>
 kNck v1 fun v6 =>
 kFld 4 v6 fun v7 =>
 kSt s 1 v7 v5 fun s =>
 k undef s
theorem F266_ok (v0 : Value) (s : AS) (k : Value → AS → Prop) : denFn PG [] 266 [v0] s k = F266 v0 s k := by kernel_rfl
theorem f266 {v0 : Value} {s : AS} {k : Value → AS → Prop} (h : F266 v0 s k) : kCall PG 266 [v0] s k := fn_by (F266_ok v0 s k) h
def F267 (w_0 : Value) (s : AS) (k : Value → AS → Prop) : Prop :=
 kJoin (fun xs s =>
 un2 xs fun base_4 digits_5 =>
 kJoin (fun _ s =>
 kCall PG 290 [digits_5, base_4, (.int .i64 64)] s fun v43 s =>
 kExt 0 v43 fun v44 =>
 kExt 1 v43 fun v45 =>
 kEqi false v45 .nilIface fun v48 =>
 k (.tuple #[v44, v48]) s) fun J2 =>
 kBin .eql digits_5 (.string (bs [])) fun v35 =>
 kGrd v35 false (fun k =>
 kCall PG 289 [digits_5, (.string (bs [95, 43, 45]))] s fun v38 s =>
 k [v38] s) [undef] s fun xs s =>
 un1 xs fun v38 =>
 kPick v35 (.bool true) v38 fun v39 =>
 kCond v39 (
 k (.tuple #[(.int .u64 0), (.bool false)]) s) (
 J2 [] s)) fun J1 =>
 kLen true w_0 fun v11 =>
 kBin .gtr v11 (.int .i64 2) fun v12 =>
 kGrd v12 true (fun k =>
 kSubS w_0 none (some (.int .i64 2)) fun v15 =>
 kBin .eql v15 (.string (bs [48, 120])) fun v16 =>
 k [v16] s) [undef] s fun xs s =>
 un1 xs fun v17 =>
 kGrd v17 false (fun k =>
 kSubS w_0 none (some (.int .i64 2)) fun v19 =>
 kBin .eql v19 (.string (bs [48, 88])) fun v20 =>
 k [v20] s) [undef] s fun xs s =>
 un1 xs fun v20 =>
 kGrd v12 true (fun k =>
 kPick v17 (.bool true) v20 fun v21 =>
 k [v21] s) [undef] s fun xs s =>
 un1 xs fun v21 =>
 kPick v12 v21 (.bool false) fun v22 =>
 kCond v22 (
 kSubS w_0 (some (.int .i64 2)) none fun v24 =>
 J1 [(.int .i64 16), v24] s) (
 kLen true w_0 fun v27 =>
 kBin .gtr v27 (.int .i64 1) fun v28 =>
 kGrd v28 true (fun k =>
 kIxS w_0 (.int .i64 0) fun v31 =>
 kBin .eql v31 (.int .u8 48) fun v32 =>
 k [v32] s) [undef] s fun xs s =>
 un1 xs fun v32 =>
 kPick v28 v32 (.bool false) fun v33 =>
 kCond v33 (
 J1 [(.int .i64 8), w_0] s) (
 J1 [(.int .i64 10), w_0] s))
theorem F267_ok (w_0 : Value) (s : AS) (k : Value → AS → Prop) : denFn PG [(3, (.go 0 (.go 1 (.go 2 (.go 3 .done))))), (9, (.go 0 (.go 1 (.go 2 (.go 3 (.go 4 .done))))))] 267 [w_0] s k = F267 w_0 s k := by kernel_rfl
theorem f267 {w_0 : Value} {s : AS} {k : Value → AS → Prop} (h : F267 w_0 s k) : kCall PG 267 [w_0] s k := fn_by (F267_ok w_0 s k) h
def F289 (s_0 chars_1 : Value) (s : AS) (k : Value → AS → Prop) : Prop :=
 kCall PG 305 [s_0, chars_1] s fun v7 s =>
 kBin .geq v7 (.int .i64 0) fun v8 =>
 k v8 s
theorem F289_ok (s_0 chars_1 : Value) (s : AS) (k : Value → AS → Prop) : denFn PG [] 289 [s_0, chars_1] s k = F289 s_0 chars_1 s k := by kernel_rfl
theorem f289 {s_0 chars_1 : Value} {s : AS} {k : Value → AS → Prop} (h : F289 s_0 chars_1 s k) : kCall PG 289 [s_0, chars_1] s k := fn_by (F289_ok s_0 chars_1 s k) h
def F290 (s_0 base_1 bitSize_2 : Value) (s : AS) (k : Value → AS → Prop) : Prop :=
 kCall PG 306 [s_0, base_1, bitSize_2] s fun v14 s =>
 kExt 0 v14 fun v15 =>
 kExt 1 v14 fun v16 =>
 kJoin (fun _ s =>
 k (.tuple #[v15, .nilIface]) s) fun J1 =>
 kEqi true v16 .nilIface fun v18 =>
 kCond v18 (
 kCall PG 274 [(.string (bs [80, 97, 114, 115, 101, 85, 105, 110, 116])), s_0, base_1, bitSize_2, v16] s fun v24 s =>
 k (.tuple #[v15, v24]) s) (
 J1 [] s)
theorem F290_ok (s_0 base_1 bitSize_2 : Value) (s : AS) (k : Value → AS → Prop) : denFn PG [] 290 [s_0, base_1, bitSize_2] s k = F290 s_0 base_1 bitSize_2 s k := by kernel_rfl
theorem f290 {s_0 base_1 bitSize_2 : Value} {s : AS} {k : Value → AS → Prop} (h : F290 s_0 base_1 bitSize_2 s k) : kCall PG 290 [s_0, base_1, bitSize_2] s k := fn_by (F290_ok s_0 base_1 bitSize_2 s k) h
def F305 (s_0 chars_1 : Value) (s : AS) (k : Value → AS → Prop) : Prop :=
 kJoin (fun _ s =>
 kJoin (fun _ s =>
 kJoin (fun _ s =>
 kJoin (fun _ s =>
 k (.int .i64 (-1)) s) fun J4 =>
 kGen PG (.rng 9) [s_0] s fun v45 s =>
 kLoop (fun again5 _ s =>
 kGen PG (.nxt true 0) [v45] s fun v46 s =>
 kExt 0 v46 fun v47 =>
 kJoin (fun _ s =>
 kExt 1 v46 fun v48 =>
 kExt 2 v46 fun v49 =>
 kCall PG 167 [chars_1, v49] s fun v52 s =>
 kBin .geq v52 (.int .i64 0) fun v53 =>
 kCond v53 (
 k v48 s) (
 again5 [] s)) fun J6 =>
 kCond v47 (
 J6 [] s) (
 J4 [] s)) [] s) fun J3 =>
 kLen true s_0 fun v25 =>
 kCall PG 311 [v25] s fun v26 s =>
 kCond v26 (
 kCall PG 98 [chars_1] s fun v29 s =>
 kExt 0 v29 fun v30 =>
 kExt 1 v29 fun v31 =>
 kNew s (List.replicate 256 (.bool false)) fun as_6 s =>
 kSt s 256 as_6 v30 fun s =>
 kCond v31 (
 kJoin (fun _ s =>
 k (.int .i64 (-1)) s) fun J7 =>
 kLoop (fun again8 xs s =>
 un1 xs fun i_8 =>
 kJoin (fun _ s =>
 kJoin (fun _ s =>
 kBin .add i_8 (.int .i64 1) fun v38 =>
 again8 [v38] s) fun J10 =>
 kIxS s_0 i_8 fun v41 =>
 kCall PG 129 [as_6, v41] s fun v42 s =>
 kCond v42 (
 k i_8 s) (
 J10 [] s)) fun J9 =>
 kLen true s_0 fun v35 =>
 kBin .lss i_8 v35 fun v36 =>
 kCond v36 (
 J9 [] s) (
 J7 [] s)) [(.int .i64 0)] s) (
 J3 [] s)) (
 J3 [] s)) fun J2 =>
 kLen true chars_1 fun v14 =>
 kBin .eql v14 (.int .i64 1) fun v15 =>
 kCond v15 (
 kIxS chars_1 (.int .i64 0) fun v17 =>
 kCvi .i32 v17 fun v18 =>
 kJoin (fun xs s =>
 un1 xs fun r_5 =>
 kCall PG 167 [s_0, r_5] s fun v23 s =>
 k v23 s) fun J11 =>
 kBin .geq v18 (.int .i32 128) fun v20 =>
 kCond v20 (
 J11 [(.int .i32 65533)] s) (
 J11 [v18] s)) (
 J2 [] s)) fun J1 =>
 kBin .eql chars_1 (.string (bs [])) fun v12 =>
 kCond v12 (
 k (.int .i64 (-1)) s) (
 J1 [] s)
theorem F305_ok (s_0 chars_1 : Value) (s : AS) (k : Value → AS → Prop) : denFn PG [] 305 [s_0, chars_1] s k = F305 s_0 chars_1 s k := by kernel_rfl
theorem f305 {s_0 chars_1 : Value} {s : AS} {k : Value → AS → Prop} (h : F305 s_0 chars_1 s k) : kCall PG 305 [s_0, chars_1] s k := fn_by (F305_ok s_0 chars_1 s k) h
def F306 (s_0 base_1 bitSize_2 : Value) (s : AS) (k : Value → AS → Prop) : Prop :=
 kJoin (fun _ s =>
 kBin .eql base_1 (.int .i64 0) fun v22 =>
 kJoin (fun xs s =>
 un2 xs fun s_0' base_1' =>
 kJoin (fun xs s =>
 un1 xs fun bitSize_2 =>
 kJoin (fun xs s =>
 un1 xs fun cutoff_10 =>
 kCvi .u64 bitSize_2 fun v95 =>
 kSft .shl (.int .u64 1) v95 fun v96 =>
 kBin .sub v96 (.int .u64 1) fun v97 =>
 kJoin (fun xs s =>
 un2 xs fun underscores_12 n_13 =>
 kJoin (fun _ s =>
 k (.tuple #[n_13, .nilIface]) s) fun J6 =>
 kGrd underscores_12 true (fun k =>
 kCall PG 313 [s_0] s fun v167 s =>
 kUn .not v167 fun v168 =>
 k [v168] s) [undef] s fun xs s =>
 un1 xs fun v168 =>
 kPick underscores_12 v168 (.bool false) fun v169 =>
 kCond v169 (
 kGen PG (.mki 334) [(.int .i64 2)] s fun v170 s =>
 k (.tuple #[(.int .u64 0), v170]) s) (
 J6 [] s)) fun J5 =>
 kGen PG (.cv 9 141) [s_0'] s fun v99 s =>
 kLen false v99 fun v100 =>
 kLoop (fun again7 xs s =>
 un3 xs fun underscores_12 n_13 v101 =>
 kBin .lss v101 v100 fun v102 =>
 kJoin (fun _ s =>
 kJoin (fun xs s =>
 un2 xs fun underscores_12 n_13 =>
 kBin .add v101 (.int .i64 1) fun v163 =>
 again7 [underscores_12, n_13, v163] s) fun J9 =>
 kIdx 1 v99 v101 fun v103 =>
 kLd s v103 fun v104 =>
 kJoin (fun xs s =>
 un2 xs fun underscores_12 d_16 =>
 kJoin (fun _ s =>
 kJoin (fun _ s =>
 kCvi .u64 base_1' fun v146 =>
 kBin .mul n_13 v146 fun v147 =>
 kCvi .u64 d_16 fun v150 =>
 kBin .add v147 v150 fun v151 =>
 kJoin (fun _ s =>
 J9 [underscores_12, v151] s) fun J13 =>
 kBin .lss v151 v147 fun v154 =>
 kGrd v154 false (fun k =>
 kBin .gtr v151 v97 fun v158 =>
 k [v158] s) [undef] s fun xs s =>
 un1 xs fun v158 =>
 kPick v154 (.bool true) v158 fun v159 =>
 kCond v159 (
 kGen PG (.mki 334) [(.int .i64 1)] s fun v161 s =>
 k (.tuple #[v97, v161]) s) (
 J13 [] s)) fun J12 =>
 kBin .geq n_13 cutoff_10 fun v141 =>
 kCond v141 (
 kGen PG (.mki 334) [(.int .i64 1)] s fun v143 s =>
 k (.tuple #[v97, v143]) s) (
 J12 [] s)) fun J11 =>
 kCvi .u8 base_1' fun v136 =>
 kBin .geq d_16 v136 fun v137 =>
 kCond v137 (
 kGen PG (.mki 334) [(.int .i64 2)] s fun v138 s =>
 k (.tuple #[(.int .u64 0), v138]) s) (
 J11 [] s)) fun J10 =>
 kBin .eql v104 (.int .u8 95) fun v108 =>
 kGrd v108 true (fun k =>
 k [v22] s) [undef] s fun xs s =>
 un1 xs fun v110 =>
 kPick v108 v110 (.bool false) fun v111 =>
 kCond v111 (
 J9 [(.bool true), n_13] s) (
 kBin .leq (.int .u8 48) v104 fun v114 =>
 kGrd v114 true (fun k =>
 kBin .leq v104 (.int .u8 57) fun v117 =>
 k [v117] s) [undef] s fun xs s =>
 un1 xs fun v117 =>
 kPick v114 v117 (.bool false) fun v118 =>
 kCond v118 (
 kBin .sub v104 (.int .u8 48) fun v120 =>
 J10 [underscores_12, v120] s) (
 kCall PG 312 [v104] s fun v123 s =>
 kBin .leq (.int .u8 97) v123 fun v124 =>
 kGrd v124 true (fun k =>
 kCall PG 312 [v104] s fun v127 s =>
 kBin .leq v127 (.int .u8 122) fun v128 =>
 k [v128] s) [undef] s fun xs s =>
 un1 xs fun v128 =>
 kPick v124 v128 (.bool false) fun v129 =>
 kCond v129 (
 kCall PG 312 [v104] s fun v131 s =>
 kBin .sub v131 (.int .u8 97) fun v132 =>
 kBin .add v132 (.int .u8 10) fun v133 =>
 J10 [underscores_12, v133] s) (
 kGen PG (.mki 334) [(.int .i64 2)] s fun v105 s =>
 k (.tuple #[(.int .u64 0), v105]) s)))) fun J8 =>
 kCond v102 (
 J8 [] s) (
 J5 [underscores_12, n_13] s)) [(.bool false), (.int .u64 0), (.int .i64 0)] s) fun J4 =>
 kBin .eql base_1' (.int .i64 10) fun v91 =>
 kCond v91 (
 J4 [(.int .u64 1844674407370955162)] s) (
 kBin .eql base_1' (.int .i64 16) fun v93 =>
 kCond v93 (
 J4 [(.int .u64 1152921504606846976)] s) (
 kCvi .u64 base_1' fun v87 =>
 kBin .quo (.int .u64 18446744073709551615) v87 fun v88 =>
 kBin .add v88 (.int .u64 1) fun v89 =>
 J4 [v89] s))) fun J3 =>
 kBin .eql bitSize_2 (.int .i64 0) fun v77 =>
 kCond v77 (
 J3 [(.int .i64 64)] s) (
 kBin .lss bitSize_2 (.int .i64 0) fun v79 =>
 kGrd v79 false (fun k =>
 kBin .gtr bitSize_2 (.int .i64 64) fun v82 =>
 k [v82] s) [undef] s fun xs s =>
 un1 xs fun v82 =>
 kPick v79 (.bool true) v82 fun v83 =>
 kCond v83 (
 kGen PG (.mki 334) [(.int .i64 4)] s fun v84 s =>
 k (.tuple #[(.int .u64 0), v84]) s) (
 J3 [bitSize_2] s))) fun J2 =>
 kBin .leq (.int .i64 2) base_1 fun v27 =>
 kGrd v27 true (fun k =>
 kBin .leq base_1 (.int .i64 36) fun v30 =>
 k [v30] s) [undef] s fun xs s =>
 un1 xs fun v30 =>
 kPick v27 v30 (.bool false) fun v31 =>
 kCond v31 (
 J2 [s_0, base_1] s) (
 kBin .eql base_1 (.int .i64 0) fun v34 =>
 kCond v34 (
 kIxS s_0 (.int .i64 0) fun v36 =>
 kBin .eql v36 (.int .u8 48) fun v37 =>
 kCond v37 (
 kLen true s_0 fun v42 =>
 kBin .geq v42 (.int .i64 3) fun v43 =>
 kGrd v43 true (fun k =>
 kIxS s_0 (.int .i64 1) fun v46 =>
 kCall PG 312 [v46] s fun v47 s =>
 kBin .eql v47 (.int .u8 98) fun v48 =>
 k [v48] s) [undef] s fun xs s =>
 un1 xs fun v48 =>
 kPick v43 v48 (.bool false) fun v49 =>
 kCond v49 (
 kSubS s_0 (some (.int .i64 2)) none fun v51 =>
 J2 [v51, (.int .i64 2)] s) (
 kLen true s_0 fun v54 =>
 kBin .geq v54 (.int .i64 3) fun v55 =>
 kGrd v55 true (fun k =>
 kIxS s_0 (.int .i64 1) fun v58 =>
 kCall PG 312 [v58] s fun v59 s =>
 kBin .eql v59 (.int .u8 111) fun v60 =>
 k [v60] s) [undef] s fun xs s =>
 un1 xs fun v60 =>
 kPick v55 v60 (.bool false) fun v61 =>
 kCond v61 (
 kSubS s_0 (some (.int .i64 2)) none fun v63 =>
 J2 [v63, (.int .i64 8)] s) (
 kLen true s_0 fun v66 =>
 kBin .geq v66 (.int .i64 3) fun v67 =>
 kGrd v67 true (fun k =>
 kIxS s_0 (.int .i64 1) fun v70 =>
 kCall PG 312 [v70] s fun v71 s =>
 kBin .eql v71 (.int .u8 120) fun v72 =>
 k [v72] s) [undef] s fun xs s =>
 un1 xs fun v72 =>
 kPick v67 v72 (.bool false) fun v73 =>
 kCond v73 (
 kSubS s_0 (some (.int .i64 2)) none fun v75 =>
 J2 [v75, (.int .i64 16)] s) (
 kSubS s_0 (some (.int .i64 1)) none fun v39 =>
 J2 [v39, (.int .i64 8)] s)))) (
 J2 [s_0, (.int .i64 10)] s)) (
 kGen PG (.mki 334) [(.int .i64 3)] s fun v24 s =>
 k (.tuple #[(.int .u64 0), v24]) s))) fun J1 =>
 kBin .eql s_0 (.string (bs [])) fun v19 =>
 kCond v19 (
 kGen PG (.mki 334) [(.int .i64 2)] s fun v20 s =>
 k (.tuple #[(.int .u64 0), v20]) s) (
 J1 [] s)
theorem F306_ok (s_0 base_1 bitSize_2 : Value) (s : AS) (k : Value → AS → Prop) : denFn PG [] 306 [s_0, base_1, bitSize_2] s k = F306 s_0 base_1 bitSize_2 s k := by kernel_rfl
theorem f306 {s_0 base_1 bitSize_2 : Value} {s : AS} {k : Value → AS → Prop} (h : F306 s_0 base_1 bitSize_2 s k) : kCall PG 306 [s_0, base_1, bitSize_2] s k := fn_by (F306_ok s_0 base_1 bitSize_2 s k) h
def F311 (bufLen_0 : Value) (s : AS) (k : Value → AS → Prop) : Prop :=
 kBin .gtr bufLen_0 (.int .i64 8) fun v4 =>
 k v4 s
theorem F311_ok (bufLen_0 : Value) (s : AS) (k : Value → AS → Prop) : denFn PG [] 311 [bufLen_0] s k = F311 bufLen_0 s k := by kernel_rfl
theorem f311 {bufLen_0 : Value} {s : AS} {k : Value → AS → Prop} (h : F311 bufLen_0 s k) : kCall PG 311 [bufLen_0] s k := fn_by (F311_ok bufLen_0 s k) h
def F312 (c_0 : Value) (s : AS) (k : Value → AS → Prop) : Prop :=
 kBin .or c_0 (.int .u8 32) fun v4 =>
 k v4 s
theorem F312_ok (c_0 : Value) (s : AS) (k : Value → AS → Prop) : denFn PG [] 312 [c_0] s k = F312 c_0 s k := by kernel_rfl
theorem f312 {c_0 : Value} {s : AS} {k : Value → AS → Prop} (h : F312 c_0 s k) : kCall PG 312 [c_0] s k := fn_by (F312_ok c_0 s k) h
end Go.Proofs.YtdlimikcgdgfpaaGreatDoor
namespace Go.Proofs.YtdlimikcgdgfpaaGreatDoor
open Tryz renaming prog → PG
open E renaming preR → P1, postR → P2, w_join → P3, w_stop → P4, dsc → P5
open E Go.Lib
structure Bld (σ : AS) (T : TypeId) (p o : Nat) (L : List Value) (v : Value) (t : List UInt8) : Prop where
  m : σ.m p = some (.typed T L)
  a : L[o]? = some (.pointer none) ∨ L[o]? = some (.pointer (some ⟨p, o, none⟩))
  b : L[o + 1]? = some v
  own : OwnT σ 5 v t
  ne : p ∉ ownL v
def bldL (p o : Nat) (L : List Value) (v : Value) : List Value := (L.set o (.pointer (some ⟨p, o, none⟩))).set (o + 1) v
section
variable {σ : AS} {k : Value → AS → Prop} {p o : Nat} {T : TypeId} {L : List Value} {v : Value} {t s : List UInt8}
theorem ltOfS {α : Type} {l : List α} {i : Nat} {a : α} (h : l[i]? = some a) : i < l.length := (List.getElem?_eq_some_iff.1 h).1
theorem cck_c (hm : σ.m p = some (.typed T L)) (ha : L[o]? = some (.pointer none) ∨ L[o]? = some (.pointer (some ⟨p, o, none⟩))) (hc : cvfB PG 267 140 T L.length o = true)
    (hk : k undef (σ.put p (.typed T (L.set o (.pointer (some ⟨p, o, none⟩)))))) : kCall PG 141 [.pointer (some ⟨p, o, none⟩)] σ k := by
  refine f141 ?_
  rcases ha with ha | ha
  · have ho := ltOfS ha
    (try simp -dsimp (disch := first|exact P5|fail) only [↓P1,P2,↓P3,Q1,Q2,Q3,Q4,Q5,Q6,Q7,Q8,Q9, F141, hm, ha])
    refine cvt_by (by kernel_rfl) hm ho ?_
    (try simp -dsimp (disch := first|exact P5|fail) only [↓P1,P2,↓P3,Q1,Q2,Q3,Q4,Q5,Q6,Q7,Q8,Q9])
    refine noe_by (by kernel_rfl) (by kernel_rfl) ?_
    (try simp -dsimp (disch := first|exact P5|fail) only [↓P1,P2,↓P3,Q1,Q2,Q3,Q4,Q5,Q6,Q7,Q8,Q9])
    refine cvf_by hc hm ?_
    (try simp -dsimp (disch := first|exact P5|fail) only [↓P1,P2,↓P3,Q1,Q2,Q3,Q4,Q5,Q6,Q7,Q8,Q9, hm])
    exact hk
  · have ho := ltOfS ha
    have e : L.set o (.pointer (some ⟨p, o, none⟩)) = L := by
      apply List.ext_getElem?
      intro i
      by_cases h : o = i
      · subst h; rw [List.getElem?_set_self ho, ha]
      · rw [List.getElem?_set_ne h]
    rw [e, put_same hm] at hk
    (try simp -dsimp (disch := first|exact P5|fail) only [↓P1,P2,↓P3,Q1,Q2,Q3,Q4,Q5,Q6,Q7,Q8,Q9, F141, hm, ha])
    refine neq_by (by kernel_rfl) ?_
    (try simp -dsimp (disch := first|exact P5|fail) only [↓P1,P2,↓P3,Q1,Q2,Q3,Q4,Q5,Q6,Q7,Q8,Q9])
    exact hk
theorem wrs_e (h : Bld σ T p o L v t) (hc : cvfB PG 267 140 T L.length o = true) (hlen : t.length + s.length ≤ 140737488355328)
    (hk : ∀ v' σ', Bld σ' T p o (bldL p o L v') v' (t ++ s) → Chg (p :: ownL v) σ σ' → (∀ g, g ∈ ownL v' → g ∈ ownL v ∨ σ.n ≤ g) → k (.tuple #[.int .i64 s.length, .nilIface]) σ') :
    kCall PG 110 [.pointer (some ⟨p, o, none⟩), .string (bs s)] σ k := by
  refine f110 ?_
  have ho := ltOfS h.b
  have hpn := σ.lt h.m
  (try simp -dsimp (disch := first|exact P5|fail) only [↓P1,P2,↓P3,Q1,Q2,Q3,Q4,Q5,Q6,Q7,Q8,Q9, F110])
  refine cck_c h.m h.a hc ?_
  have c0 : Chg [p] σ (σ.put p (.typed T (L.set o (.pointer (some ⟨p, o, none⟩))))) := (Chg.refl _ _).put (.inl (by simp)) _
  have hm1 : (σ.put p (.typed T (L.set o (.pointer (some ⟨p, o, none⟩))))).m p = some (.typed T (L.set o (.pointer (some ⟨p, o, none⟩)))) := by rw [put_eq, h.m]; rfl
  have own1 := h.own.chg c0 (fun g hg => by simp; rintro rfl; exact h.ne hg)
  have e1 : (L.set o (.pointer (some ⟨p, o, none⟩)))[o + 1]? = some v := by rw [List.getElem?_set_ne (by omega)]; exact h.b
  generalize σ.put p _ = σ1 at c0 hm1 own1
  have l1 : (L.set o (.pointer (some ⟨p, o, none⟩))).length = L.length := by simp
  (try simp -dsimp (disch := first|exact P5|fail) only [↓P1,P2,↓P3,Q1,Q2,Q3,Q4,Q5,Q6,Q7,Q8,Q9, hm1, e1])
  refine appS_by Tryz.underlying141 Tryz.underlying9 (by kernel_rfl) own1 hlen ?_
  intro v' σ2 own2 c2 hg2
  have hm2 : σ2.m p = some (.typed T (L.set o (.pointer (some ⟨p, o, none⟩)))) := (c2.m p (σ1.lt hm1) h.ne).trans hm1
  have hp2 : p ∉ ownL v' := fun hp => by
    rcases hg2 p hp with h1 | h1
    · exact h.ne h1
    · have := c0.n; omega
  have okv := own2.ok
  (try simp -dsimp (disch := first|exact P5|fail) only [↓P1,P2,↓P3,Q1,Q2,Q3,Q4,Q5,Q6,Q7,Q8,Q9, hm2, l1])
  have cc : Chg (p :: ownL v) σ (σ2.put p (.typed T (bldL p o L v'))) :=
    ((c0.wide (T := p :: ownL v) (by simp)).step c2 (fun i hi => .inl (by simp [hi]))).put (.inl (by simp)) _
  refine hk v' _ ⟨by rw [put_eq, hm2]; rfl, .inr ?_, ?_, own2.chg ((Chg.refl [p] σ2).put (.inl (by simp)) _) (fun g hg => by simp; rintro rfl; exact hp2 hg), hp2⟩ cc (fun g hg => ?_)
  · rw [bldL, List.getElem?_set_ne (by omega), List.getElem?_set_self (by omega)]
  · rw [bldL, List.getElem?_set_self (by simp; omega)]
  · rcases hg2 g hg with h1 | h1
    · exact .inl h1
    · exact .inr (by have := c0.n; omega)
theorem bst_e (h : Bld σ T p o L v t) (hlen : t.length ≤ 140737488355328) (hk : ∀ σ', Chg (ownL v) σ σ' → k (.string (bs t)) σ') : kCall PG 109 [.pointer (some ⟨p, o, none⟩)] σ k := by
  refine f109 ?_
  obtain ⟨x, c, rfl, hcl⟩ := h.own.val
  (try simp -dsimp (disch := first|exact P5|fail) only [↓P1,P2,↓P3,Q1,Q2,Q3,Q4,Q5,Q6,Q7,Q8,Q9, F109, h.m, h.b])
  refine usd_by h.own ?_
  (try simp -dsimp (disch := first|exact P5|fail) only [↓P1,P2,↓P3,Q1,Q2,Q3,Q4,Q5,Q6,Q7,Q8,Q9, h.m, h.b])
  refine ust_by (by kernel_rfl) h.own (by omega) ?_
  intro σ' c'
  (try simp -dsimp (disch := first|exact P5|fail) only [↓P1,P2,↓P3,Q1,Q2,Q3,Q4,Q5,Q6,Q7,Q8,Q9])
  exact hk σ' c'
end
end Go.Proofs.YtdlimikcgdgfpaaGreatDoor
namespace Go.Proofs.YtdlimikcgdgfpaaGreatDoor.S09
open Tryz renaming prog → PG
open E renaming preR → P1, postR → P2, w_join → P3, w_stop → P4, dsc → P5
open E Go.Lib
abbrev bl (q : List Bool) : List Value := q.map Value.bool
def Mk (σ : AS) (M : List Nat) (p : Nat) (t : List UInt8) (q : List Bool) : Prop :=
  ∃ a v w, Bld σ 145 p 0 [a, v, w] v t ∧ OwnV σ w q.length 1 (bl q) ∧ p ∉ ownL w ∧ (∀ g, g ∈ ownL v → g ∉ ownL w) ∧ p ∈ M ∧ (∀ g, g ∈ ownL v → g ∈ M) ∧ (∀ g, g ∈ ownL w → g ∈ M) ∧ (∀ g, g ∈ M → g < σ.n)
section
variable {σ σ' : AS} {k : Value → AS → Prop} {p : Nat} {M S : List Nat} {t s : List UInt8} {q : List Bool}
theorem Mk.below (h : Mk σ M p t q) : ∀ g, g ∈ M → g < σ.n := by
  obtain ⟨a, v, w, _, _, _, _, _, _, _, h⟩ := h
  exact h
theorem Mk.chg (h : Mk σ M p t q) (k : Chg S σ σ') (hn : ∀ g, g ∈ M → g ∉ S) : Mk σ' M p t q := by
  obtain ⟨a, v, w, hb, hw, h1, h2, h3, h4, h5, h6⟩ := h
  refine ⟨a, v, w, ⟨(k.m p (σ.lt hb.m) (hn p h3)).trans hb.m, hb.a, hb.b, hb.own.chg k (fun g hg => hn g (h4 g hg)), hb.ne⟩, hw.chg k (fun g hg => hn g (h5 g hg)), h1, h2, h3, h4, h5, fun g hg => Nat.lt_of_lt_of_le (h6 g hg) k.n⟩
theorem mk_new : Mk (σ.new (.typed 145 [.pointer none, .slice none 0 0, .slice none 0 0])) [σ.n] σ.n [] [] :=
  ⟨_, _, _, ⟨new_eq_, .inl rfl, rfl, OwnT.nil _ _, by simp [ownL]⟩, OwnV.nil _ _, by simp [ownL], by simp [ownL], by simp, by simp [ownL], by simp [ownL], by simp [new_n]⟩
theorem making_ok : cvfB PG 267 140 145 3 0 = true := by kernel_rfl
theorem add_e (b : Bool) (h : Mk σ M p t q) (hl : t.length + s.length ≤ 140737488355328) (hq : q.length + s.length ≤ 140737488355328)
    (hk : ∀ σ' M', Mk σ' M' p (t ++ s) (q ++ List.replicate s.length b) → Chg M σ σ' → (∀ g, g ∈ M' → g ∈ M ∨ σ.n ≤ g) → k undef σ') :
    kCall PG 71 [.pointer (some ⟨p, 0, none⟩), .string (bs s), .bool b] σ k := by
  obtain ⟨a, v, w, hb, hw, h1, h2, h3, h4, h5, h6⟩ := h
  refine f71 ?_
  (try simp -dsimp (disch := first|exact P5|fail) only [↓P1,P2,↓P3,Q1,Q2,Q3,Q4,Q5,Q6,Q7,Q8,Q9, F71])
  refine wrs_e hb making_ok hl ?_
  intro v' σ1 hb1 c1 hg1
  have hpn := σ.lt hb.m
  have mk1 : ∃ M1, Mk σ1 M1 p (t ++ s) (q ++ List.replicate 0 b) ∧ Chg M σ σ1 ∧ ∀ g, g ∈ M1 → g ∈ M ∨ σ.n ≤ g := by
    refine ⟨p :: ownL v' ++ ownL w, ⟨_, v', w, hb1, ?_, h1, ?_, by simp, by simp; intro g hg; exact .inr (.inl hg), by simp; intro g hg; exact .inr (.inr hg), ?_⟩, c1.wide ?_, ?_⟩
    · simp only [List.replicate_zero, List.append_nil]
      exact hw.chg c1 (fun g hg => by simp; exact ⟨fun e => h1 (e ▸ hg), fun hv => h2 g hv hg⟩)
    · intro g hg hgw
      rcases hg1 g hg with h | h
      · exact h2 g h hgw
      · have := hw.lt hgw; omega
    · intro g hg
      have := c1.n
      simp at hg
      rcases hg with rfl | hg | hg
      · exact σ1.lt hb1.m
      · exact hb1.own.lt hg
      · have := hw.lt hg; omega
    · intro g hg
      simp at hg
      rcases hg with rfl | hg
      · exact h3
      · exact h4 g hg
    · intro g hg
      simp at hg
      rcases hg with rfl | hg | hg
      · exact .inl h3
      · rcases hg1 g hg with h | h
        · exact .inl (h4 g h)
        · exact .inr h
      · exact .inl (h5 g hg)
  (try simp -dsimp (disch := first|exact P5|fail) only [↓P1,P2,↓P3,Q1,Q2,Q3,Q4,Q5,Q6,Q7,Q8,Q9])
  refine loop_by (α := Nat × AS) (fun x => [.int .i64 x.1]) (fun x => x.2) (fun x => x.1 ≤ s.length ∧ ∃ M1, Mk x.2 M1 p (t ++ s) (q ++ List.replicate x.1 b) ∧ Chg M σ x.2 ∧ ∀ g, g ∈ M1 → g ∈ M ∨ σ.n ≤ g) (fun x => s.length - x.1) (0, σ1) ⟨by simp, mk1⟩ rfl rfl ?_
  rintro ⟨i, σ2⟩ ⟨hi, M1, mk2, c2, g2⟩ again hag
  dsimp only at hi mk2 c2 g2 hag ⊢
  have hs64 : (s.length : Int) ≤ 140737488355328 := by omega
  by_cases hlt : i < s.length
  · obtain ⟨a2, v2, w2, hb2, hw2, k1, k2, k3, k4, k5, k6⟩ := mk2
    have hpn2 := σ2.lt hb2.m
    have hlq : (q ++ List.replicate i b).length = q.length + i := by simp
    (try simp -dsimp (disch := first|exact P5|fail) only [↓P1,P2,↓P3,Q1,Q2,Q3,Q4,Q5,Q6,Q7,Q8,Q9, hb2.m])
    have c0 : Chg [] σ2 (σ2.new (.cells [.bool b])) := (Chg.refl _ _).new _
    refine app_by Tryz.underlying38 (by kernel_rfl : infB PG 4 1 1 = true) (hw2.chg c0 (fun _ _ => by simp)) (m := 1) (news := [.bool b]) ?_ rfl (by rw [hlq]; omega) (by rw [hlq]; unfold maxLen; omega) ?_
    · rw [ldsM new_eq_ _ 0 (by simp)]; rfl
    · intro w3 σ3 hw3 c3 g3
      have hm3 : σ3.m p = some (.typed 145 [a2, v2, w2]) := by
        rw [c3.m p (by rw [new_n]; omega) k1, new_ne (by omega)]; exact hb2.m
      have okw := hw3.ok
      (try simp -dsimp (disch := first|exact P5|fail) only [↓P1,P2,↓P3,Q1,Q2,Q3,Q4,Q5,Q6,Q7,Q8,Q9, hm3])
      have c4 : Chg (p :: ownL w2) σ2 (σ3.put p (.typed 145 [a2, v2, w3])) := ((c0.wide (by simp)).step c3 (fun i hi => .inl (by simp [hi]))).put (.inl (by simp)) _
      have hpw3 : p ∉ ownL w3 := fun hp => by
        rcases g3 p hp with h | h
        · exact k1 h
        · rw [new_n] at h; omega
      refine hag (i + 1, σ3.put p (.typed 145 [a2, v2, w3])) ⟨by omega, p :: ownL v2 ++ ownL w3, ⟨a2, v2, w3, ⟨by rw [put_eq, hm3]; rfl, hb2.a, rfl, ?_, hb2.ne⟩, ?_, hpw3, ?_, by simp, by simp; intro g hg; exact .inr (.inl hg), by simp; intro g hg; exact .inr (.inr hg), ?_⟩, ?_, ?_⟩ (by simp; omega)
      · exact hb2.own.chg c4 (fun g hg => by simp; exact ⟨fun e => hb2.ne (e ▸ hg), k2 g hg⟩)
      · have e : q ++ List.replicate (i + 1) b = (q ++ List.replicate i b) ++ [b] := by rw [List.replicate_succ', List.append_assoc]
        rw [e]
        have := hw3.chg ((Chg.refl [p] σ3).put (g := p) (.inl (by simp)) (.typed 145 [a2, v2, w3])) (fun g hg => by simp; rintro rfl; exact hpw3 hg)
        simpa [bl, Nat.add_assoc] using this
      · intro g hg hgw
        rcases g3 g hgw with h | h
        · exact k2 g hg h
        · have := hb2.own.lt hg; rw [new_n] at h; omega
      · intro g hg
        have := c4.n
        rw [put_n] at this ⊢
        simp at hg
        rcases hg with rfl | hg | hg
        · omega
        · have := hb2.own.lt hg; omega
        · exact hw3.lt hg
      · refine c2.step c4 (fun g hg => ?_)
        simp at hg
        rcases hg with rfl | hg
        · exact .inl h3
        · exact g2 g (k5 g hg)
      · intro g hg
        have hn := c2.n
        simp at hg
        rcases hg with rfl | hg | hg
        · exact .inl h3
        · exact g2 g (k4 g hg)
        · rcases g3 g hg with h | h
          · exact g2 g (k5 g h)
          · rw [new_n] at h; exact .inr (by omega)
  · obtain rfl : i = s.length := by omega
    (try simp -dsimp (disch := first|exact P5|fail) only [↓P1,P2,↓P3,Q1,Q2,Q3,Q4,Q5,Q6,Q7,Q8,Q9])
    exact hk σ2 M1 mk2 c2 g2
theorem field_e (h : Mk σ M p t q) (hl : t.length ≤ 140737488355328)
    (hk : ∀ σ' w, OwnV σ' w q.length 1 (bl q) → (∀ g, g ∈ ownL w → g ∈ M) → Chg M σ σ' → k (.agg [.string (bs t), w].toArray) σ') :
    kCall PG 70 [.pointer (some ⟨p, 0, none⟩)] σ k := by
  obtain ⟨a, v, w, hb, hw, h1, h2, h3, h4, h5, h6⟩ := h
  have hpn := σ.lt hb.m
  have c0 : Chg [] σ (σ.new (.cells [.string (bs []), .slice none 0 0])) := (Chg.refl _ _).new _
  have okw := hw.ok
  refine f70 ?_
  (try simp -dsimp (disch := first|exact P5|fail) only [↓P1,P2,↓P3,Q1,Q2,Q3,Q4,Q5,Q6,Q7,Q8,Q9, F70, hb.m])
  have hb1 : Bld (σ.new (.cells [.string (bs []), .slice none 0 0])) 145 p 0 [a, v, w] v t := ⟨(c0.m p hpn (by simp)).trans hb.m, hb.a, hb.b, hb.own.chg c0 (fun _ _ => by simp), hb.ne⟩
  refine bst_e hb1 hl ?_
  intro σ2 c2
  have hm2 : σ2.m p = some (.typed 145 [a, v, w]) := (c2.m p (by rw [new_n]; omega) hb.ne).trans hb1.m
  have hn2 : σ2.m σ.n = some (.cells [.string (bs []), .slice none 0 0]) := (c2.m σ.n (by rw [new_n]; omega) (fun h => by have := hb.own.lt h; omega)).trans new_eq_
  have cw : cellsV w = [w] := by
    obtain ⟨x, c, rfl, _⟩ := hw.val
    rfl
  have okl : ([.string (bs t), w] : List Value).all okCell = true := by simp only [List.all_cons, okw]; rfl
  (try simp -dsimp (disch := first|exact P5|fail) only [↓P1,P2,↓P3,Q1,Q2,Q3,Q4,Q5,Q6,Q7,Q8,Q9, hm2, hn2, cw, okl])
  have hne : p ≠ σ.n := by omega
  have c3 : Chg (ownL v) σ (σ2.put σ.n (.cells [.string (bs t), w])) := ((c0.wide (by simp)).step c2 (fun g hg => .inl hg)).put (.inr (by omega)) _
  exact hk _ w (hw.chg c3 (fun g hg hv => h2 g hv hg)) h5 (c3.wide h4)
end
end Go.Proofs.YtdlimikcgdgfpaaGreatDoor.S09
namespace Go.Proofs.YtdlimikcgdgfpaaGreatDoor.S09
open Tryz renaming prog → PG
open E renaming preR → P1, postR → P2, w_join → P3, w_stop → P4, dsc → P5
open E Go.Lib
abbrev Fd := List UInt8 × List Bool
abbrev Fld := Fd
abbrev Pc := List UInt8 × Bool × Bool × Bool
structure SS where
  out : List Fd
  now : Option Fd
  mark : Bool
namespace SS
def cur (s : SS) : Fd := s.now.getD ([], [])
def there (s : SS) : SS := ⟨s.out, some s.cur, false⟩
def add (s : SS) (t : List UInt8) (b : Bool) : SS := ⟨s.out, some (s.cur.1 ++ t, s.cur.2 ++ List.replicate t.length b), false⟩
def ends (s : SS) : SS := ⟨s.out ++ [s.cur], none, s.mark⟩
def fin (s : SS) : SS := if s.now.isSome then s.ends else s
def setM (s : SS) (b : Bool) : SS := ⟨s.out, s.now, b⟩
def sign (ifs : List UInt8) (s : SS) (c : UInt8) : SS :=
  if c ∈ ifs then (if c = 32 ∨ c = 9 ∨ c = 10 then (if s.now.isSome then s.ends.setM true else s) else if s.mark then s.setM false else s.there.ends) else s.add [c] false
def piece (ifs : List UInt8) (s : SS) (p : Pc) : SS :=
  if p.2.2.2 then s.fin.setM false else if p.2.1 then s.add p.1 true else if p.2.2.1 then p.1.foldl (sign ifs) s else if p.1 = [] then s else s.add p.1 false
def zero : SS := ⟨[], none, false⟩
def Bd (s : SS) (n : Nat) : Prop := s.cur.2.length = s.cur.1.length ∧ s.out.length + s.cur.1.length ≤ n
section
variable {s : SS} {n m : Nat}
theorem Bd.le (h : s.Bd n) (hm : n ≤ m) : s.Bd m := ⟨h.1, Nat.le_trans h.2 hm⟩
theorem bd_there (h : s.Bd n) : s.there.Bd n := h
theorem bd_add (h : s.Bd n) (t : List UInt8) (b : Bool) : (s.add t b).Bd (n + t.length) := by
  obtain ⟨h1, h2⟩ := h
  refine ⟨?_, ?_⟩
  · show (_ ++ _ : List Bool).length = (_ ++ _ : List UInt8).length
    rw [List.length_append, List.length_append, List.length_replicate, h1]
  · show s.out.length + (_ ++ _ : List UInt8).length ≤ _
    rw [List.length_append]
    omega
theorem bd_ends (h : s.Bd n) : s.ends.Bd (n + 1) := ⟨rfl, by
  show (s.out ++ [s.cur]).length + 0 ≤ n + 1
  have := h.2
  simp; omega⟩
theorem bd_setM (h : s.Bd n) (b : Bool) : (s.setM b).Bd n := h
theorem bd_fin (h : s.Bd n) : s.fin.Bd (n + 1) := by
  unfold fin
  split
  · exact bd_ends h
  · exact h.le (by omega)
theorem bd_sign (ifs : List UInt8) (c : UInt8) (h : s.Bd n) : (s.sign ifs c).Bd (n + 1) := by
  unfold sign
  split
  · split
    · split
      · exact bd_setM (bd_ends h) _
      · exact h.le (by omega)
    · split
      · exact (bd_setM h _).le (by omega)
      · exact bd_ends (bd_there h)
  · exact bd_add h _ _
theorem bd_signs (ifs : List UInt8) : ∀ (t : List UInt8) {s : SS} {n : Nat}, s.Bd n → (t.foldl (sign ifs) s).Bd (n + t.length)
  | [], s, n, h => h
  | c :: t, s, n, h => (bd_signs ifs t (bd_sign ifs c h)).le (by simp; omega)
theorem bd_piece (ifs : List UInt8) (p : Pc) (h : s.Bd n) : (s.piece ifs p).Bd (n + (List.length p.1 + 1)) := by
  unfold piece
  split
  · exact (bd_setM (bd_fin h) _).le (by omega)
  split
  · exact (bd_add h _ _).le (by omega)
  split
  · exact (bd_signs ifs p.1 h).le (by omega)
  split
  · exact h.le (by omega)
  · exact (bd_add h _ _).le (by omega)
theorem bd_zero : zero.Bd 0 := ⟨rfl, Nat.le_refl _⟩
end
end SS
def many (l : List Pc) : Nat := (l.map fun p => List.length p.1 + 1).sum
def fieldsS (l : List Pc) (ifs : List UInt8) : SS := (l.foldl (SS.piece ifs) SS.zero).fin
def fieldsM (l : List Pc) (ifs : List UInt8) : List Fd := (fieldsS l ifs).out
def oneM (l : List Pc) : Fd := l.foldl (fun f p => if p.2.2.2 then (f.1 ++ [32], f.2 ++ [false]) else (f.1 ++ p.1, f.2 ++ List.replicate (List.length p.1) p.2.1)) ([], [])
theorem many_app (l m : List Pc) : many (l ++ m) = many l + many m := by simp [many]
theorem bd_fold (ifs : List UInt8) : ∀ (l : List Pc) {s : SS} {n : Nat}, s.Bd n → (l.foldl (SS.piece ifs) s).Bd (n + many l)
  | [], s, n, h => h
  | p :: l, s, n, h => (bd_fold ifs l (SS.bd_piece ifs p h)).le (by simp [many]; omega)
theorem idx_neg (l : List UInt8) (c : UInt8) : 0 ≤ indexByte l c ↔ c ∈ l := by
  induction l with
  | nil => simp [indexByte]
  | cons b l ih =>
    unfold indexByte
    have hg := indexByte_ge l c
    by_cases h : b = c
    · subst h; simp
    · have h' : (b == c) = false := by simpa using h
      have hc : ¬ c = b := fun e => h e.symm
      simp only [h', Bool.false_eq_true, if_false, List.mem_cons, hc, false_or, ← ih]
      by_cases h1 : indexByte l c = -1
      · simp [h1]
      · have h2 : (indexByte l c == -1) = false := by simpa using h1
        simp only [h2, Bool.false_eq_true, if_false]
        omega
section
variable {σ σ' : AS} {k : Value → AS → Prop}
theorem rpl_bool (c : Ce) : ∀ q : List Bool, RpL c q (bl q)
  | [] => rfl
  | b :: q => ⟨[.bool b], bl q, rfl, rfl, rpl_bool c q⟩
def SI (σ0 σ : AS) (ob nb mb : Nat) (F : List Nat) (nv : Value) (s : SS) : Prop :=
  ∃ ov M, F = [ob, nb, mb] ++ ownL ov ++ M ∧ σ.m ob = some (.cells [ov]) ∧ σ.m nb = some (.cells [nv]) ∧ σ.m mb = some (.cells [.bool s.mark]) ∧ OwnR (α := Fld) σ (List.range σ0.n ++ F) ov s.out ∧
    (match s.now with | none => nv = .pointer none ∧ M = [] | some x => ∃ p, nv = .pointer (some ⟨p, 0, none⟩) ∧ Mk σ M p x.1 x.2) ∧
    (ob ≠ nb ∧ ob ≠ mb ∧ nb ≠ mb) ∧ (∀ g, g ∈ ownL ov → g ∉ [ob, nb, mb]) ∧ (∀ g, g ∈ M → g ∉ [ob, nb, mb] ∧ g ∉ ownL ov) ∧ (∀ g, g ∈ F → σ0.n ≤ g) ∧ Chg [] σ0 σ
variable {σ0 : AS} {ob nb mb : Nat} {F : List Nat} {nv : Value} {s : SS}
theorem SI.ch (h : SI σ0 σ ob nb mb F nv s) : Chg [] σ0 σ := by obtain ⟨_, _, _, _, _, _, _, _, _, _, _, _, h⟩ := h; exact h
theorem SI.nowb (h : SI σ0 σ ob nb mb F nv s) : σ.m nb = some (.cells [nv]) := by obtain ⟨_, _, _, _, h, _⟩ := h; exact h
theorem SI.markb (h : SI σ0 σ ob nb mb F nv s) : σ.m mb = some (.cells [.bool s.mark]) := by obtain ⟨_, _, _, _, _, h, _⟩ := h; exact h
theorem SI.gar (h : SI σ0 σ ob nb mb F nv s) (g : Chg [] σ σ') : SI σ0 σ' ob nb mb F nv s := by
  obtain ⟨ov, M, hF, h1, h2, h3, h4, h5, h6, h7, h8, h9, h10⟩ := h
  refine ⟨ov, M, hF, (g.m _ (σ.lt h1) (by simp)).trans h1, (g.m _ (σ.lt h2) (by simp)).trans h2, (g.m _ (σ.lt h3) (by simp)).trans h3, h4.chg g (fun _ _ => by simp) (fun _ h => by simp at h), ?_, h6, h7, h8, h9, h10.step g (fun _ h => by simp at h)⟩
  cases hs : s.now with
  | none => rw [hs] at h5; exact h5
  | some x =>
    rw [hs] at h5
    obtain ⟨p, e, hp⟩ := h5
    exact ⟨p, e, hp.chg g (fun _ _ => by simp)⟩
theorem SI.setM (h : SI σ0 σ ob nb mb F nv s) (b : Bool) : SI σ0 (σ.put mb (.cells [.bool b])) ob nb mb F nv (s.setM b) ∧ Chg F σ (σ.put mb (.cells [.bool b])) := by
  obtain ⟨ov, M, hF, h1, h2, h3, h4, h5, h6, h7, h8, h9, h10⟩ := h
  have hin : mb ∈ F := by rw [hF]; simp
  have c : Chg [mb] σ (σ.put mb (.cells [.bool b])) := (Chg.refl _ _).put (.inl (by simp)) _
  refine ⟨⟨ov, M, hF, by rw [put_ne h6.2.1]; exact h1, by rw [put_ne h6.2.2]; exact h2, by rw [put_eq, h3]; rfl, h4.chg c (fun g hg => ?_) (fun g hg => ?_), ?_, h6, h7, h8, h9, h10.step c (fun g hg => ?_)⟩, c.wide (by simpa using hin)⟩
  · have := h7 g hg; simp at this ⊢; exact this.2.2
  · simp at hg; subst hg; exact .inl (List.mem_append_right _ hin)
  · show (match s.now with | none => _ | some x => _)
    cases hs : s.now with
    | none => rw [hs] at h5; exact h5
    | some x =>
      rw [hs] at h5
      obtain ⟨p, e, hp⟩ := h5
      exact ⟨p, e, hp.chg c (fun g hg => by have := (h8 g hg).1; simp at this ⊢; exact this.2.2)⟩
  · simp at hg; subst hg; exact .inr (h9 _ hin)
theorem there_i (h : SI σ0 σ ob nb mb F nv s) (hk : ∀ σ' F' p, SI σ0 σ' ob nb mb F' (.pointer (some ⟨p, 0, none⟩)) s.there → Chg F σ σ' → (∀ g, g ∈ F' → g ∈ F ∨ σ.n ≤ g) → k (.pointer (some ⟨p, 0, none⟩)) σ') :
    kCall PG 68 [.pointer (some ⟨nb, 0, none⟩), .pointer (some ⟨mb, 0, none⟩)] σ k := by
  refine f68 ?_
  cases hs : s.now with
  | some x =>
    obtain ⟨h0, c0⟩ := h.setM false
    have hn := h.nowb
    have hm := h.markb
    have hn' := h0.nowb
    have hmark : (s.setM false) = s.there := by
      unfold SS.setM SS.there SS.cur
      rw [hs]; rfl
    rw [hmark] at h0
    obtain ⟨ov, M, hF, h1, h2, h3, h4, h5, _⟩ := h
    rw [hs] at h5
    obtain ⟨p, rfl, hp⟩ := h5
    (try simp -dsimp (disch := first|exact P5|fail) only [↓P1,P2,↓P3,Q1,Q2,Q3,Q4,Q5,Q6,Q7,Q8,Q9, F68, hn, hm, hn'])
    exact hk _ F p h0 c0 (fun g hg => .inl hg)
  | none =>
    obtain ⟨ov, M, hF, h1, h2, h3, h4, h5, h6, h7, h8, h9, h10⟩ := h
    rw [hs] at h5
    obtain ⟨rfl, rfl⟩ := h5
    have l1 := σ.lt h1
    have l2 := σ.lt h2
    have l3 := σ.lt h3
    (try simp -dsimp (disch := first|exact P5|fail) only [↓P1,P2,↓P3,Q1,Q2,Q3,Q4,Q5,Q6,Q7,Q8,Q9, F68, h2, h3])
    generalize hz : σ.new _ = σa
    have ca : Chg [] σ σa := by rw [← hz]; exact (Chg.refl _ _).new _
    have mk : Mk σa [σ.n] σ.n [] [] := by rw [← hz]; exact mk_new
    have nx : σ.n < σa.n := by rw [← hz, new_n]; omega
    have c1 : Chg [nb, mb] σ ((σa.put nb (.cells [.pointer (some ⟨σ.n, 0, none⟩)])).put mb (.cells [.bool false])) := ((ca.wide (by simp)).put (.inl (by simp)) _).put (.inl (by simp)) _
    have a1 := (ca.m _ l1 (by simp)).trans h1
    have a2 := (ca.m _ l2 (by simp)).trans h2
    have a3 := (ca.m _ l3 (by simp)).trans h3
    (try simp -dsimp (disch := first|exact P5|fail) only [↓P1,P2,↓P3,Q1,Q2,Q3,Q4,Q5,Q6,Q7,Q8,Q9, a2, a3, put_ne h6.2.2])
    refine hk _ (F ++ [σ.n]) σ.n ⟨ov, [σ.n], by rw [hF]; simp, ?_, ?_, ?_, ?_, ⟨σ.n, rfl, ?_⟩, h6, h7, ?_, ?_, h10.step c1 ?_⟩ (c1.wide ?_) ?_
    · rw [put_ne h6.2.1, put_ne h6.1]; exact a1
    · rw [put_ne h6.2.2, put_eq, a2]; rfl
    · rw [put_eq, put_ne h6.2.2.symm, a3]; rfl
    · refine (h4.more (Y := List.range σ0.n ++ (F ++ [σ.n])) (fun g hg => ?_)).chg c1 (fun g hg => ?_) (fun g hg => ?_)
      · simp only [List.mem_append, List.mem_singleton] at hg ⊢
        rcases hg with hg | hg | rfl
        · exact .inl (.inl hg)
        · exact .inl (.inr hg)
        · exact .inr (Nat.le_refl _)
      · have := h7 g hg; simp at this ⊢; exact this.2
      · left; refine List.mem_append_right _ ?_; rw [hF]; simp at hg ⊢; rcases hg with rfl | rfl <;> simp
    · have hc : s.cur = ([], []) := by unfold SS.cur; rw [hs]; rfl
      rw [hc]
      exact mk.chg (S := [nb, mb]) (((Chg.refl _ _).put (.inl (by simp)) _).put (.inl (by simp)) _) (fun g hg => by simp at hg ⊢; omega)
    · intro g hg
      simp at hg
      subst hg
      refine ⟨by simp; omega, fun hg => ?_⟩
      have := h4.lt hg
      omega
    · intro g hg
      simp at hg
      rcases hg with hg | rfl
      · exact h9 g hg
      · exact h10.n
    · intro g hg
      right
      refine h9 g ?_
      rw [hF]; simp at hg ⊢; rcases hg with rfl | rfl <;> simp
    · intro g hg; rw [hF]; simp at hg ⊢; rcases hg with rfl | rfl <;> simp
    · intro g hg
      simp at hg
      rcases hg with hg | rfl
      · exact .inl hg
      · exact .inr (Nat.le_refl _)
theorem add_i {p : Nat} {t : List UInt8} (b : Bool) {n : Nat} (h : SI σ0 σ ob nb mb F (.pointer (some ⟨p, 0, none⟩)) s) (hm : s.mark = false) (hs : s.now = some s.cur) (hb : s.Bd n) (hn : n + t.length ≤ 1000000000)
    (hk : ∀ σ' F', SI σ0 σ' ob nb mb F' (.pointer (some ⟨p, 0, none⟩)) (s.add t b) → Chg F σ σ' → (∀ g, g ∈ F' → g ∈ F ∨ σ.n ≤ g) → k undef σ') :
    kCall PG 71 [.pointer (some ⟨p, 0, none⟩), .string (bs t), .bool b] σ k := by
  obtain ⟨ov, M, hF, h1, h2, h3, h4, h5, h6, h7, h8, h9, h10⟩ := h
  rw [hs] at h5
  obtain ⟨p', he, hp⟩ := h5
  simp at he
  subst he
  obtain ⟨b1, b2⟩ := hb
  refine add_e b hp (by show List.length s.cur.1 + _ ≤ _; omega) (by rw [b1]; omega) ?_
  intro σ' M' mk' c' g'
  have l1 := σ.lt h1
  have l2 := σ.lt h2
  have l3 := σ.lt h3
  have n1 : ∀ g, g ∈ [ob, nb, mb] → g ∉ M := fun g hg hM => (h8 g hM).1 hg
  have inF : ∀ g, g ∈ M → g ∈ F := fun g hg => by rw [hF]; simp [hg]
  have sub : ∀ g, g ∈ [ob, nb, mb] ++ ownL ov ++ M' → g ∈ F ∨ σ.n ≤ g := by
    intro g hg
    simp only [List.mem_append] at hg
    rcases hg with hg | hg
    · left; rw [hF]; simp only [List.mem_append]; exact .inl hg
    · rcases g' g hg with h | h
      · exact .inl (inF g h)
      · exact .inr h
  refine hk σ' _ ⟨ov, M', rfl, (c'.m _ l1 (n1 _ (by simp))).trans h1, (c'.m _ l2 (n1 _ (by simp))).trans h2, ?_, ?_, ⟨p, rfl, mk'⟩, h6, h7, ?_, ?_, h10.step c' (fun g hg => .inr (h9 g (inF g hg)))⟩ (c'.wide inF) sub
  · rw [(c'.m _ l3 (n1 _ (by simp))).trans h3, hm]; rfl
  · refine (h4.more (Y := List.range σ0.n ++ ([ob, nb, mb] ++ ownL ov ++ (M' ++ M))) (fun g hg => ?_)).chg c' (fun g hg hM => (h8 g hM).2 hg) (fun g hg => .inl (by simp [hg])) |>.more (fun g hg => .inl ?_)
    · rw [List.mem_append] at hg
      rcases hg with hg | hg
      · exact .inl (List.mem_append_left _ hg)
      have : g ∈ F ∨ σ.n ≤ g := by
        simp only [List.mem_append] at hg
        rcases hg with hg | hg | hg
        · left; rw [hF]; simp only [List.mem_append]; exact .inl hg
        · exact sub g (by simp only [List.mem_append]; exact .inr hg)
        · exact .inl (inF g hg)
      rcases this with h | h
      · exact .inl (List.mem_append_right _ h)
      · exact .inr h
    · simp only [List.mem_append] at hg ⊢
      rcases hg with hg | hg | hg
      · exact .inl hg
      · exact .inr (.inl hg)
      · exact .inr (.inr (.inl hg))
  · intro g hg
    rcases g' g hg with h | h
    · exact h8 g h
    · refine ⟨by simp; omega, fun hg => ?_⟩
      have := h4.lt hg; omega
  · intro g hg
    rcases sub g hg with h | h
    · exact h9 g h
    · have := h10.n; omega
theorem ends_i {n : Nat} (h : SI σ0 σ ob nb mb F nv s) (hs : s.now.isSome = true) (hb : s.Bd n) (hn : n ≤ 1000000000)
    (hk : ∀ σ' F', SI σ0 σ' ob nb mb F' (.pointer none) s.ends → Chg F σ σ' → (∀ g, g ∈ F' → g ∈ F ∨ σ.n ≤ g) → k undef σ') :
    kCall PG 69 [.pointer (some ⟨ob, 0, none⟩), .pointer (some ⟨nb, 0, none⟩)] σ k := by
  obtain ⟨ov, M, hF, h1, h2, h3, h4, h5, h6, h7, h8, h9, h10⟩ := h
  obtain ⟨x, hx⟩ := Option.isSome_iff_exists.1 hs
  have hcur : s.cur = x := by unfold SS.cur; rw [hx]; rfl
  rw [hx] at h5
  obtain ⟨p, rfl, hp⟩ := h5
  obtain ⟨b1, b2⟩ := hb
  rw [hcur] at b1 b2
  have l1 := σ.lt h1
  have l2 := σ.lt h2
  have l3 := σ.lt h3
  have n1 : ∀ g, g ∈ [ob, nb, mb] → g ∉ M := fun g hg hM => (h8 g hM).1 hg
  have inF : ∀ g, g ∈ M → g ∈ F := fun g hg => by rw [hF]; simp [hg]
  have inF2 : ∀ g, g ∈ ownL ov → g ∈ F := fun g hg => by rw [hF]; simp [hg]
  refine f69 ?_
  (try simp -dsimp (disch := first|exact P5|fail) only [↓P1,P2,↓P3,Q1,Q2,Q3,Q4,Q5,Q6,Q7,Q8,Q9, F69, h1, h2])
  refine field_e hp (by show List.length x.1 ≤ _; omega) ?_
  intro σ1 w hw hwM c1
  have m1 := (c1.m _ l1 (n1 _ (by simp))).trans h1
  have m2 := (c1.m _ l2 (n1 _ (by simp))).trans h2
  have m3 := (c1.m _ l3 (n1 _ (by simp))).trans h3
  have o1 : OwnR (α := Fld) σ1 (List.range σ0.n ++ F) ov s.out := h4.chg c1 (fun g hg hM => (h8 g hM).2 hg) (fun g hg => .inl (List.mem_append_right _ (inF g hg)))
  have hn1 := c1.n
  have cwv : ∃ a c, w = .slice a x.2.length c := by
    obtain ⟨a, c, h, _⟩ := hw.val
    exact ⟨a, c, h⟩
  (try simp -dsimp (disch := first|exact P5|fail) only [↓P1,P2,↓P3,Q1,Q2,Q3,Q4,Q5,Q6,Q7,Q8,Q9, m1])
  generalize hz : σ1.new _ = σ2
  have c2 : Chg [] σ1 σ2 := by rw [← hz]; exact (Chg.refl _ _).new _
  have nx : σ2.n = σ1.n + 1 := by rw [← hz]; rfl
  have m2n : σ2.m σ1.n = some (.cells [.string (bs x.1), w]) := by rw [← hz]; exact new_eq_
  have o2 : OwnR (α := Fld) σ2 (List.range σ0.n ++ σ2.n :: ([ob, nb, mb] ++ ownL ov)) ov s.out := (o1.chg c2 (fun _ _ => by simp) (fun _ h => by simp at h)).more (fun g hg => by
    rw [List.mem_append, List.mem_cons] at hg
    rcases hg with hg | rfl | hg
    · exact .inl (List.mem_append_left _ hg)
    · exact .inr (Nat.le_refl _)
    · left; refine List.mem_append_right _ ?_; rw [hF]; exact List.mem_append_left _ hg)
  have rw2 : RepL (sans σ2 (List.range σ0.n ++ σ2.n :: ([ob, nb, mb] ++ ownL ov))) w x.2 := by
    refine OwnR.repX (α := Bool) ⟨bl x.2, hw.chg c2 (fun _ _ => by simp), rpl_bool _ _⟩ (fun g hg => ?_)
    have h11 := h8 g (hwM g hg)
    have h12 := h9 g (inF g (hwM g hg))
    have := hw.lt hg
    simp only [List.mem_cons, List.mem_append, not_or, List.mem_range] at h11 ⊢
    exact ⟨by omega, by omega, h11.1, h11.2⟩
  have p1 := (c2.m _ (by omega) (by simp)).trans m1
  have p2 := (c2.m _ (by omega) (by simp)).trans m2
  have p3 := (c2.m _ (by omega) (by simp)).trans m3
  (try simp -dsimp (disch := first|exact P5|fail) only [↓P1,P2,↓P3,Q1,Q2,Q3,Q4,Q5,Q6,Q7,Q8,Q9, p1])
  refine appR_by (α := Fld) Tryz.underlying30 (by kernel_rfl : infB PG 40 2 40 = true) o2 (fun g hg => by simp [hg]) (m := 1) (ms := [x]) (news := [.string (bs x.1), w]) ?_ (RpL.one ⟨[.string (bs x.1)], [w], rfl, ⟨rfl, ?_⟩, ⟨w, rfl, rw2⟩⟩) rfl (by show (List.length s.out + 1) * 40 ≤ _; omega) (by show List.length s.out + 1 ≤ _; unfold maxLen; omega) ?_
  · rw [ldsM m2n _ 0 (by simp [Rp.sz])]; rfl
  · show List.length x.1 ≤ maxLen
    unfold maxLen; omega
  intro v' σ3 o3 c3 g3
  have okv := o3.ok
  have q1 := (c3.m _ (by omega) (fun h => h7 _ h (by simp))).trans p1
  have q2 := (c3.m _ (by omega) (fun h => h7 _ h (by simp))).trans p2
  have q3 := (c3.m _ (by omega) (fun h => h7 _ h (by simp))).trans p3
  (try simp -dsimp (disch := first|exact P5|fail) only [↓P1,P2,↓P3,Q1,Q2,Q3,Q4,Q5,Q6,Q7,Q8,Q9, q1, q2, okv, put_ne h6.1])
  have hv' : ∀ g, g ∈ ownL v' → g ∉ [ob, nb, mb] := fun g hg => by
    rcases g3 g hg with h | h
    · exact h7 g h
    · simp; omega
  have cc : Chg [ob, nb] σ3 ((σ3.put ob (.cells [v'])).put nb (.cells [.pointer none])) := ((Chg.refl _ _).put (.inl (by simp)) _).put (.inl (by simp)) _
  have cF : Chg F σ ((σ3.put ob (.cells [v'])).put nb (.cells [.pointer none])) := (((c1.wide (T := F) inF).step c2 (by simp)).step c3 (fun g hg => .inl (inF2 g hg))).step cc (fun g hg => .inl (by rw [hF]; simp at hg ⊢; rcases hg with rfl | rfl <;> simp))
  have sub : ∀ g, g ∈ [ob, nb, mb] ++ ownL v' ++ [] → g ∈ F ∨ σ.n ≤ g := by
    intro g hg
    simp only [List.append_nil, List.mem_append] at hg
    rcases hg with hg | hg
    · left; rw [hF]; simp only [List.mem_append]; exact .inl (.inl hg)
    · rcases g3 g hg with h | h
      · exact .inl (inF2 g h)
      · right; omega
  refine hk _ ([ob, nb, mb] ++ ownL v' ++ []) ⟨v', [], rfl, ?_, ?_, ?_, ?_, ⟨rfl, rfl⟩, h6, hv', by simp, ?_, h10.step cF (fun g hg => .inr (h9 g hg))⟩ cF sub
  · rw [put_ne h6.1, put_eq, q1]; rfl
  · rw [put_eq, put_ne h6.1.symm, q2]; rfl
  · rw [put_ne h6.2.2.symm, put_ne h6.2.1.symm]; exact q3
  · show OwnR (α := Fld) _ _ v' (s.out ++ [s.cur])
    rw [hcur]
    refine (o3.chg cc (fun g hg hg2 => ?_) (fun g hg => .inl ?_)).more (fun g hg => .inl ?_)
    · have := hv' g hg; simp at this hg2; omega
    · refine List.mem_append_right _ ?_
      simp at hg ⊢; rcases hg with rfl | rfl <;> simp
    · rw [List.mem_append, List.append_nil, List.mem_append] at hg
      rcases hg with hg | hg | hg
      · exact List.mem_append_left _ hg
      · exact List.mem_append_right _ (List.mem_cons_of_mem _ (List.mem_append_left _ hg))
      · refine List.mem_append_right _ ?_
        rcases g3 g hg with h | h
        · exact List.mem_cons_of_mem _ (List.mem_append_right _ h)
        · rw [h]; exact List.mem_cons_self
  · intro g hg
    rcases sub g hg with h | h
    · exact h9 g h
    · have := h10.n; omega
end
end Go.Proofs.YtdlimikcgdgfpaaGreatDoor.S09
namespace Go.Proofs.YtdlimikcgdgfpaaGreatDoor.S09
open Tryz renaming prog → PG
open E renaming preR → P1, postR → P2, w_join → P3, w_stop → P4, dsc → P5
open E Go.Lib
namespace SS
variable {ifs : List UInt8} {s : SS} {c : UInt8}
theorem sign_not (h : c ∉ ifs) : sign ifs s c = s.there.add [c] false := by
  unfold sign; rw [if_neg h]; rfl
theorem sign_none (h : c ∈ ifs) (hb : c = 32 ∨ c = 9 ∨ c = 10) (hs : s.now.isSome = false) : sign ifs s c = s := by
  unfold sign; rw [if_pos h, if_pos hb, hs]; rfl
theorem sign_blank (h : c ∈ ifs) (hb : c = 32 ∨ c = 9 ∨ c = 10) (hs : s.now.isSome = true) : sign ifs s c = s.ends.setM true := by
  unfold sign; rw [if_pos h, if_pos hb, hs]; rfl
theorem sign_mark (h : c ∈ ifs) (hb : ¬ (c = 32 ∨ c = 9 ∨ c = 10)) (hm : s.mark = true) : sign ifs s c = s.setM false := by
  unfold sign; rw [if_pos h, if_neg hb, hm]; rfl
theorem sign_hard (h : c ∈ ifs) (hb : ¬ (c = 32 ∨ c = 9 ∨ c = 10)) (hm : s.mark = false) : sign ifs s c = s.there.ends := by
  unfold sign; rw [if_pos h, if_neg hb, hm]; rfl
end SS
section
variable {σ σ' : AS} {k : Value → AS → Prop}
theorem u8_of (c : UInt8) : ((c.toNat : Int)).toNat.toUInt8 = c := by simp
theorem ixb_c {s : List UInt8} {c : UInt8} (hk : k (.int .i64 (indexByte s c)) σ) : kCall PG 72 [.string (bs s), .int .u8 c.toNat] σ k := by
  refine f72 ?_
  (try simp -dsimp (disch := first|exact P5|fail) only [↓P1,P2,↓P3,Q1,Q2,Q3,Q4,Q5,Q6,Q7,Q8,Q9, F72])
  refine f111 ?_
  (try simp -dsimp (disch := first|exact P5|fail) only [↓P1,P2,↓P3,Q1,Q2,Q3,Q4,Q5,Q6,Q7,Q8,Q9, F111])
  refine idx_by (by kernel_rfl) (by kernel_rfl) ?_
  rw [u8_of]
  (try simp -dsimp (disch := first|exact P5|fail) only [↓P1,P2,↓P3,Q1,Q2,Q3,Q4,Q5,Q6,Q7,Q8,Q9])
  exact hk
theorem keepE {e : Nat} {o : Ob} {F F' : List Nat} (hm : σ.m e = some o) (he : e ∉ F) (c : Chg F σ σ') (g : ∀ g, g ∈ F' → g ∈ F ∨ σ.n ≤ g) : σ'.m e = some o ∧ e ∉ F' :=
  ⟨(c.m e (σ.lt hm) he).trans hm, fun h => by
    rcases g e h with h | h
    · exact he h
    · have := σ.lt hm; omega⟩
variable {σ0 : AS} {ob nb mb : Nat} {F : List Nat} {nv : Value} {s : SS}
theorem SI.outb (h : SI σ0 σ ob nb mb F nv s) : ∃ ov, σ.m ob = some (.cells [ov]) ∧ RepL (α := Fld) (sans σ (List.range σ0.n)) ov s.out := by
  obtain ⟨ov, M, hF, h1, h2, h3, h4, _, _, _, _, h9, _⟩ := h
  refine ⟨ov, h1, (h4.more (fun g hg => .inl (List.mem_append_left _ hg))).repX (fun g hg => ?_)⟩
  have := h9 g (by rw [hF]; simp [hg])
  simp only [List.mem_range]
  omega
theorem SI.nil (h : SI σ0 σ ob nb mb F nv s) : (s.now = none ∧ nv = .pointer none) ∨ (∃ x p, s.now = some x ∧ nv = .pointer (some ⟨p, 0, none⟩)) := by
  obtain ⟨ov, M, hF, h1, h2, h3, h4, h5, _⟩ := h
  cases hs : s.now with
  | none => rw [hs] at h5; exact .inl ⟨rfl, h5.1⟩
  | some x => rw [hs] at h5; obtain ⟨p, e, _⟩ := h5; exact .inr ⟨x, p, rfl, e⟩
theorem SI.zero (σ : AS) : SI σ ((((σ.new (.cells [.slice none 0 0])).new (.cells [.pointer none])).new (.cells [.bool false])).put (σ.n + 1 + 1) (.cells [.bool false])) σ.n (σ.new (.cells [.slice none 0 0])).n ((σ.new (.cells [.slice none 0 0])).new (.cells [.pointer none])).n
    [σ.n, (σ.new (.cells [.slice none 0 0])).n, ((σ.new (.cells [.slice none 0 0])).new (.cells [.pointer none])).n] (.pointer none) SS.zero := by
  refine ⟨.slice none 0 0, [], rfl, ?_, ?_, ?_, OwnR.nil, ⟨rfl, rfl⟩, by simp only [new_n]; omega, by simp [ownL], by simp, by simp only [new_n]; simp; omega, ?_⟩
  · (try simp -dsimp (disch := first|exact P5|fail) only [↓P1,P2,↓P3,Q1,Q2,Q3,Q4,Q5,Q6,Q7,Q8,Q9])
  · (try simp -dsimp (disch := first|exact P5|fail) only [↓P1,P2,↓P3,Q1,Q2,Q3,Q4,Q5,Q6,Q7,Q8,Q9])
  · (try simp -dsimp (disch := first|exact P5|fail) only [↓P1,P2,↓P3,Q1,Q2,Q3,Q4,Q5,Q6,Q7,Q8,Q9]); rfl
  · exact ((((Chg.refl _ _).new _).new _).new _).put (.inr (by omega)) _
theorem SI.below (h : SI σ0 σ ob nb mb F nv s) : ∀ g, g ∈ F → g < σ.n := by
  obtain ⟨ov, M, hF, h1, h2, h3, h4, h5, _⟩ := h
  intro g hg
  rw [hF] at hg
  simp only [List.mem_append, List.mem_cons, List.not_mem_nil, or_false] at hg
  rcases hg with ((rfl | rfl | rfl) | hg) | hg
  · exact σ.lt h1
  · exact σ.lt h2
  · exact σ.lt h3
  · exact h4.lt hg
  · cases hs : s.now with
    | none => rw [hs] at h5; rw [h5.2] at hg; simp at hg
    | some x => rw [hs] at h5; obtain ⟨p, _, hp⟩ := h5; exact hp.below g hg
abbrev ldc (σ : AS) (b o : Nat) : Option Value := ldOb (σ.c b o) (σ.m b) o
theorem pcs_at {v : Value} {l : List Pc} (h : RepL (α := Pc) σ.ld v l) : ∃ a cap, v = .slice a l.length cap ∧ l.length ≤ cap ∧ (l = [] ∨ ∃ b o, a = some ⟨b, o, none⟩ ∧ ∀ i (hi : i < l.length), l[i].1.length ≤ maxLen ∧
    ldsS σ b (o + i * 4) 4 = some [.string (bs l[i].1), .bool l[i].2.1, .bool l[i].2.2.1, .bool l[i].2.2.2] ∧
    ldc σ b (o + i * 4) = some (.string (bs l[i].1)) ∧ ldc σ b (o + i * 4 + 1) = some (.bool l[i].2.1) ∧ ldc σ b (o + i * 4 + 1 + 1) = some (.bool l[i].2.2.1) ∧ ldc σ b (o + i * 4 + 1 + 1 + 1) = some (.bool l[i].2.2.2)) := by
  simp only [ldc, ← ld_ob]
  obtain ⟨b, o, cap, hv, h1, h2, hat⟩ := h.at
  rcases hv with rfl | ⟨rfl, a, rfl⟩
  · refine ⟨_, cap, rfl, h1, .inr ⟨b, o, rfl, fun i hi => ?_⟩⟩
    obtain ⟨cs, hcs, _, hlds, hc⟩ := hat i hi
    obtain ⟨x, _, rfl, ⟨rfl, ht⟩, y, _, rfl, rfl, z, _, rfl, rfl, rfl⟩ := hcs
    exact ⟨ht, hlds, hc 0 _ rfl, hc 1 _ rfl, hc 2 _ rfl, hc 3 _ rfl⟩
  · exact ⟨a, cap, rfl, h1, .inl rfl⟩
theorem fields_f {v0 : Value} {l : List Pc} {ifs : List UInt8} (h0 : RepL (α := Pc) σ.ld v0 l) (hl : many l ≤ 1000000) (hk : ∀ σ' v', RepL (α := Fld) (sans σ' (List.range σ.n)) v' (fieldsM l ifs) → Chg [] σ σ' → k v' σ') :
    kCall PG 37 [v0, .string (bs ifs)] σ k := by
  have hlen : l.length ≤ many l := by
    clear h0 hl hk
    induction l with
    | nil => simp [many]
    | cons p l ih =>
      have e : many (p :: l) = (p.1.length + 1) + many l := by simp [many]
      rw [e, List.length_cons]; omega
  have bdI : ∀ i, ((l.take i).foldl (SS.piece ifs) SS.zero).Bd (many (l.take i)) := fun i => (bd_fold ifs _ SS.bd_zero).le (by omega)
  have mI : ∀ i (hi : i < l.length), many (l.take i) + (l[i].1.length + 1) ≤ 1000000 := by
    intro i hi
    have e : many l = many (l.take i) + (many [l[i]] + many (l.drop (i + 1))) := by
      rw [← many_app, ← many_app, List.singleton_append, ← List.drop_eq_getElem_cons hi, List.take_append_drop]
    have : many [l[i]] = l[i].1.length + 1 := by simp [many]
    omega
  obtain ⟨va, vc, rfl, _⟩ := pcs_at h0
  refine f37 ?_
  have hi0 := SI.zero σ
  (try simp -dsimp (disch := first|exact P5|fail) only [↓P1,P2,↓P3,Q1,Q2,Q3,Q4,Q5,Q6,Q7,Q8,Q9, F37])
  generalize AS.put _ _ _ = σ1 at hi0 ⊢
  have hob : σ.n < σ.n + 1 := by omega
  generalize hx2 : ((σ.new (.cells [.slice none 0 0])).new (.cells [.pointer none])).n = mb at hi0 ⊢
  generalize hx1 : (σ.new (.cells [.slice none 0 0])).n = nb at hi0 ⊢
  clear hx1 hx2
  refine loop_by (α := Nat × AS × List Nat × Value) (fun x => [.int .i64 x.1]) (fun x => x.2.1) (fun x => x.1 ≤ l.length ∧ SI σ x.2.1 σ.n nb mb x.2.2.1 x.2.2.2 ((l.take x.1).foldl (SS.piece ifs) SS.zero)) (fun x => l.length - x.1) (0, σ1, _, _) ⟨by simp, hi0⟩ rfl rfl ?_
  rintro ⟨i, σ2, F2, nv2⟩ ⟨hi, h2⟩ again hag
  dsimp only at hi h2 hag ⊢
  have bd2 := bdI i
  by_cases hlt : i < l.length
  · have m2 := mI i hlt
    have nxt : ∀ s', s' = SS.piece ifs ((l.take i).foldl (SS.piece ifs) SS.zero) l[i] → ∀ σ' F' nv', SI σ σ' σ.n nb mb F' nv' s' → again [.int .i64 ((i : Int) + 1)] σ' := by
      intro s' hs' σ' F' nv' h'
      have := hag (i + 1, σ', F', nv') ⟨by omega, by
        rw [List.take_succ_eq_append_getElem hlt, List.foldl_append, List.foldl_cons, List.foldl_nil, ← hs']
        exact h'⟩ (by simp; omega)
      simpa using this
    generalize (l.take i).foldl (SS.piece ifs) SS.zero = s2 at h2 bd2 nxt
    generalize many (l.take i) = n2 at bd2 m2
    obtain ⟨_, _, hv, _, hat⟩ := pcs_at (RepL.mono h2.ch.le h0)
    injection hv with hv1 _ hv2
    subst hv1
    rcases hat with rfl | ⟨b, o, rfl, hat⟩
    · simp at hlt
    obtain ⟨ht, hlds, e0, e1, e2, e3⟩ := hat i hlt
    clear hat
    generalize l[i] = pc at ht hlds nxt m2 e0 e1 e2 e3
    obtain ⟨t, q, sp, br⟩ := pc
    dsimp only [ldc] at ht hlds m2 e0 e1 e2 e3
    have hl64 : (l.length : Int) ≤ 1000000 := by omega
    (simp -dsimp (disch := first|exact P5|fail) only [↓P1,P2,↓P3,Q1,Q2,Q3,Q4,Q5,Q6,Q7,Q8,Q9, e0, e1, e2, e3])
    generalize hz : AS.put _ σ2.n _ = σ3
    have c3 : Chg [] σ2 σ3 := by rw [← hz]; exact ((Chg.refl _ σ2).new _).put (.inr (by omega)) _
    have hE : σ3.m σ2.n = some (.cells [.string (bs t), .bool q, .bool sp, .bool br]) := by rw [← hz]; (try simp -dsimp (disch := first|exact P5|fail) only [↓P1,P2,↓P3,Q1,Q2,Q3,Q4,Q5,Q6,Q7,Q8,Q9])
    have h3 := h2.gar c3
    have heF : σ2.n ∉ F2 := fun h => Nat.lt_irrefl _ (h2.below _ h)
    have bd3 := bd2
    clear hz e0 e1 e2 e3 hlds
    generalize σ2.n = e at hE heF ⊢
    clear h2 c3 bd2
    cases br
    rotate_left
    · -- a border
      rcases h3.nil with ⟨hs, rfl⟩ | ⟨x, p, hs, rfl⟩
      · (try simp -dsimp (disch := first|exact P5|fail) only [↓P1,P2,↓P3,Q1,Q2,Q3,Q4,Q5,Q6,Q7,Q8,Q9, hE, h3.nowb, h3.markb])
        refine nxt _ ?_ _ F2 _ (h3.setM false).1
        simp [SS.piece, SS.fin, hs]
      · (simp -dsimp (disch := first|exact P5|fail) only [↓P1,P2,↓P3,Q1,Q2,Q3,Q4,Q5,Q6,Q7,Q8,Q9, hE, h3.nowb, h3.markb])
        refine callv_by (by kernel_rfl) (ends_i h3 (by rw [hs]; rfl) bd3 (by omega) ?_)
        intro σ4 F4 h4 c4 g4
        (try simp -dsimp (disch := first|exact P5|fail) only [↓P1,P2,↓P3,Q1,Q2,Q3,Q4,Q5,Q6,Q7,Q8,Q9, h4.markb])
        refine nxt _ ?_ _ F4 _ (h4.setM false).1
        simp [SS.piece, SS.fin, hs]
    cases q
    rotate_left
    · (simp -dsimp (disch := first|exact P5|fail) only [↓P1,P2,↓P3,Q1,Q2,Q3,Q4,Q5,Q6,Q7,Q8,Q9, hE])
      refine callv_by (by kernel_rfl) (there_i h3 ?_)
      intro σ4 F4 p h4 c4 g4
      obtain ⟨hE4, he4⟩ := keepE hE heF c4 g4
      (try simp -dsimp (disch := first|exact P5|fail) only [↓P1,P2,↓P3,Q1,Q2,Q3,Q4,Q5,Q6,Q7,Q8,Q9, hE4])
      refine add_i true h4 rfl rfl (SS.bd_there bd3) (by omega) ?_
      intro σ5 F5 h5 c5 g5
      (try simp -dsimp (disch := first|exact P5|fail) only [↓P1,P2,↓P3,Q1,Q2,Q3,Q4,Q5,Q6,Q7,Q8,Q9])
      refine nxt _ ?_ _ F5 _ h5
      simp [SS.piece]
      rfl
    cases sp
    · by_cases htn : t = []
      · subst htn
        (try simp -dsimp (disch := first|exact P5|fail) only [↓P1,P2,↓P3,Q1,Q2,Q3,Q4,Q5,Q6,Q7,Q8,Q9, hE])
        refine nxt _ ?_ _ F2 _ h3
        simp [SS.piece]
      · (simp -dsimp (disch := first|exact P5|fail) only [↓P1,P2,↓P3,Q1,Q2,Q3,Q4,Q5,Q6,Q7,Q8,Q9, hE])
        refine callv_by (by kernel_rfl) (there_i h3 ?_)
        intro σ4 F4 p h4 c4 g4
        obtain ⟨hE4, he4⟩ := keepE hE heF c4 g4
        (try simp -dsimp (disch := first|exact P5|fail) only [↓P1,P2,↓P3,Q1,Q2,Q3,Q4,Q5,Q6,Q7,Q8,Q9, hE4])
        refine add_i false h4 rfl rfl (SS.bd_there bd3) (by omega) ?_
        intro σ5 F5 h5 c5 g5
        (try simp -dsimp (disch := first|exact P5|fail) only [↓P1,P2,↓P3,Q1,Q2,Q3,Q4,Q5,Q6,Q7,Q8,Q9])
        refine nxt _ ?_ _ F5 _ h5
        simp [SS.piece, htn]
        rfl
    · (simp -dsimp (disch := first|exact P5|fail) only [↓P1,P2,↓P3,Q1,Q2,Q3,Q4,Q5,Q6,Q7,Q8,Q9, hE])
      refine loop_by (α := Nat × AS × List Nat × Value) (fun x => [.int .i64 x.1]) (fun x => x.2.1) (fun x => x.1 ≤ t.length ∧ SI σ x.2.1 σ.n nb mb x.2.2.1 x.2.2.2 ((t.take x.1).foldl (SS.sign ifs) s2) ∧ x.2.1.m e = some (.cells [.string (bs t), .bool false, .bool true, .bool false]) ∧ e ∉ x.2.2.1) (fun x => t.length - x.1) (0, σ3, F2, nv2) ⟨by simp, h3, hE, heF⟩ rfl rfl ?_
      rintro ⟨j, σ4, F4, nv4⟩ ⟨hj, h4, hE4, he4⟩ again2 hag2
      dsimp only at hj h4 hE4 he4 hag2 ⊢
      have bd4 := SS.bd_signs ifs (t.take j) bd3
      have ht64 : (t.length : Int) ≤ 1000000 := by omega
      by_cases hjt : j < t.length
      · have ml : (t.take j).length = j := by rw [List.length_take]; omega
        rw [ml] at bd4
        have nxt2 : ∀ s', s' = SS.sign ifs ((t.take j).foldl (SS.sign ifs) s2) t[j] → ∀ σ' F' nv', SI σ σ' σ.n nb mb F' nv' s' → σ'.m e = some (.cells [.string (bs t), .bool false, .bool true, .bool false]) → e ∉ F' → again2 [.int .i64 ((j : Int) + 1)] σ' := by
          intro s' hs' σ' F' nv' h' h1 h2
          have := hag2 (j + 1, σ', F', nv') ⟨by omega, by
            rw [List.take_succ_eq_append_getElem hjt, List.foldl_append, List.foldl_cons, List.foldl_nil, ← hs']
            exact h', h1, h2⟩ (by simp; omega)
          simpa using this
        have hgc : t[j]?.getD 0 = t[j] := by rw [List.getElem?_eq_getElem hjt]; rfl
        have hsub : (t.drop j).take 1 = [t[j]] := by rw [List.drop_eq_getElem_cons hjt]; rfl
        generalize (t.take j).foldl (SS.sign ifs) s2 = s4 at h4 bd4 nxt2
        generalize t[j] = c at nxt2 hgc hsub
        have x32 : (c.toNat : Int) = 32 ↔ c = 32 := by rw [← UInt8.toNat_inj]; show _ ↔ c.toNat = 32; omega
        have x9 : (c.toNat : Int) = 9 ↔ c = 9 := by rw [← UInt8.toNat_inj]; show _ ↔ c.toNat = 9; omega
        have x10 : (c.toNat : Int) = 10 ↔ c = 10 := by rw [← UInt8.toNat_inj]; show _ ↔ c.toNat = 10; omega
        have xin := idx_neg ifs c
        have jb : j + 1 - j = 1 := by omega
        (simp -dsimp (disch := first|exact P5|fail) only [↓P1,P2,↓P3,Q1,Q2,Q3,Q4,Q5,Q6,Q7,Q8,Q9, hE4, hgc])
        refine ixb_c ?_
        by_cases hin : c ∈ ifs
        · have hi1 : 0 ≤ indexByte ifs c := xin.2 hin
          by_cases hbl : c = 32 ∨ c = 9 ∨ c = 10
          · rcases h4.nil with ⟨hs, rfl⟩ | ⟨x, p, hs, rfl⟩
            · have fin := nxt2 s4 (SS.sign_none hin hbl (by rw [hs]; rfl)).symm σ4 F4 _ h4 hE4 he4
              by_cases y32 : (c.toNat : Int) = 32
              · (try simp -dsimp (disch := first|exact P5|fail) only [↓P1,P2,↓P3,Q1,Q2,Q3,Q4,Q5,Q6,Q7,Q8,Q9, h4.nowb]); exact fin
              by_cases y9 : (c.toNat : Int) = 9
              · (try simp -dsimp (disch := first|exact P5|fail) only [↓P1,P2,↓P3,Q1,Q2,Q3,Q4,Q5,Q6,Q7,Q8,Q9, h4.nowb]); exact fin
              have y10 : (c.toNat : Int) = 10 := by
                rcases hbl with h | h | h
                · exact absurd (x32.2 h) y32
                · exact absurd (x9.2 h) y9
                · exact x10.2 h
              (try simp -dsimp (disch := first|exact P5|fail) only [↓P1,P2,↓P3,Q1,Q2,Q3,Q4,Q5,Q6,Q7,Q8,Q9, h4.nowb]); exact fin
            · have fin : ∀ {K : Value → AS → Prop}, (∀ σ5 F5, SI σ σ5 σ.n nb mb F5 (.pointer none) s4.ends → (∀ σ' F' nv', SI σ σ' σ.n nb mb F' nv' (s4.ends.setM true) → Chg F5 σ5 σ' → F' = F5 → again2 [.int .i64 ((j : Int) + 1)] σ') → K undef σ5) → kCall PG 69 [.pointer (some ⟨σ.n, 0, none⟩), .pointer (some ⟨nb, 0, none⟩)] σ4 K := by
                intro K hK
                refine ends_i h4 (by rw [hs]; rfl) bd4 (by omega) ?_
                intro σ5 F5 h5 c5 g5
                obtain ⟨hE5, he5⟩ := keepE hE4 he4 c5 g5
                refine hK σ5 F5 h5 ?_
                rintro σ6 F6 nv6 h6 c6 rfl
                obtain ⟨hE6, he6⟩ := keepE hE5 he5 c6 (fun g hg => .inl hg)
                exact nxt2 _ (SS.sign_blank hin hbl (by rw [hs]; rfl)).symm _ F6 _ h6 hE6 he6
              by_cases y32 : (c.toNat : Int) = 32
              · (simp -dsimp (disch := first|exact P5|fail) only [↓P1,P2,↓P3,Q1,Q2,Q3,Q4,Q5,Q6,Q7,Q8,Q9, h4.nowb])
                refine callv_by (by kernel_rfl) (fin fun σ5 F5 h5 hx => ?_)
                obtain ⟨h6, c6⟩ := h5.setM true
                (try simp -dsimp (disch := first|exact P5|fail) only [↓P1,P2,↓P3,Q1,Q2,Q3,Q4,Q5,Q6,Q7,Q8,Q9, h5.markb])
                exact hx _ F5 _ h6 c6 rfl
              by_cases y9 : (c.toNat : Int) = 9
              · (simp -dsimp (disch := first|exact P5|fail) only [↓P1,P2,↓P3,Q1,Q2,Q3,Q4,Q5,Q6,Q7,Q8,Q9, h4.nowb])
                refine callv_by (by kernel_rfl) (fin fun σ5 F5 h5 hx => ?_)
                obtain ⟨h6, c6⟩ := h5.setM true
                (try simp -dsimp (disch := first|exact P5|fail) only [↓P1,P2,↓P3,Q1,Q2,Q3,Q4,Q5,Q6,Q7,Q8,Q9, h5.markb])
                exact hx _ F5 _ h6 c6 rfl
              have y10 : (c.toNat : Int) = 10 := by
                rcases hbl with h | h | h
                · exact absurd (x32.2 h) y32
                · exact absurd (x9.2 h) y9
                · exact x10.2 h
              (simp -dsimp (disch := first|exact P5|fail) only [↓P1,P2,↓P3,Q1,Q2,Q3,Q4,Q5,Q6,Q7,Q8,Q9, h4.nowb])
              refine callv_by (by kernel_rfl) (fin fun σ5 F5 h5 hx => ?_)
              obtain ⟨h6, c6⟩ := h5.setM true
              (try simp -dsimp (disch := first|exact P5|fail) only [↓P1,P2,↓P3,Q1,Q2,Q3,Q4,Q5,Q6,Q7,Q8,Q9, h5.markb])
              exact hx _ F5 _ h6 c6 rfl
          · have y32 : ¬ (c.toNat : Int) = 32 := fun h => hbl (.inl (x32.1 h))
            have y9 : ¬ (c.toNat : Int) = 9 := fun h => hbl (.inr (.inl (x9.1 h)))
            have y10 : ¬ (c.toNat : Int) = 10 := fun h => hbl (.inr (.inr (x10.1 h)))
            cases hmk : s4.mark
            · have hmb := h4.markb
              rw [hmk] at hmb
              (simp -dsimp (disch := first|exact P5|fail) only [↓P1,P2,↓P3,Q1,Q2,Q3,Q4,Q5,Q6,Q7,Q8,Q9, hmb])
              refine callv_by (by kernel_rfl) (there_i h4 ?_)
              intro σ5 F5 p h5 c5 g5
              obtain ⟨hE5, he5⟩ := keepE hE4 he4 c5 g5
              (try simp -dsimp (disch := first|exact P5|fail) only [↓P1,P2,↓P3,Q1,Q2,Q3,Q4,Q5,Q6,Q7,Q8,Q9])
              refine callv_by (by kernel_rfl) (ends_i h5 rfl (SS.bd_there bd4) (by omega) ?_)
              intro σ6 F6 h6 c6 g6
              obtain ⟨hE6, he6⟩ := keepE hE5 he5 c6 g6
              (try simp -dsimp (disch := first|exact P5|fail) only [↓P1,P2,↓P3,Q1,Q2,Q3,Q4,Q5,Q6,Q7,Q8,Q9])
              exact nxt2 _ (SS.sign_hard hin hbl hmk).symm _ F6 _ h6 hE6 he6
            · have hmb := h4.markb
              rw [hmk] at hmb
              obtain ⟨h6, c6⟩ := h4.setM false
              obtain ⟨hE6, he6⟩ := keepE hE4 he4 c6 (fun g hg => .inl hg)
              (try simp -dsimp (disch := first|exact P5|fail) only [↓P1,P2,↓P3,Q1,Q2,Q3,Q4,Q5,Q6,Q7,Q8,Q9, hmb])
              exact nxt2 _ (SS.sign_mark hin hbl hmk).symm _ F4 _ h6 hE6 he6
        · have hi1 : ¬ 0 ≤ indexByte ifs c := fun h => hin (xin.1 h)
          (simp -dsimp (disch := first|exact P5|fail) only [↓P1,P2,↓P3,Q1,Q2,Q3,Q4,Q5,Q6,Q7,Q8,Q9, hE4, jb, hsub])
          refine callv_by (by kernel_rfl) (there_i h4 ?_)
          intro σ5 F5 p h5 c5 g5
          obtain ⟨hE5, he5⟩ := keepE hE4 he4 c5 g5
          (try simp -dsimp (disch := first|exact P5|fail) only [↓P1,P2,↓P3,Q1,Q2,Q3,Q4,Q5,Q6,Q7,Q8,Q9, hE5])
          refine add_i false h5 rfl rfl (SS.bd_there bd4) (by simp; omega) ?_
          intro σ6 F6 h6 c6 g6
          obtain ⟨hE6, he6⟩ := keepE hE5 he5 c6 g6
          (try simp -dsimp (disch := first|exact P5|fail) only [↓P1,P2,↓P3,Q1,Q2,Q3,Q4,Q5,Q6,Q7,Q8,Q9])
          exact nxt2 _ (SS.sign_not hin).symm _ F6 _ h6 hE6 he6
      · obtain rfl : j = t.length := by omega
        rw [List.take_length] at h4
        (try simp -dsimp (disch := first|exact P5|fail) only [↓P1,P2,↓P3,Q1,Q2,Q3,Q4,Q5,Q6,Q7,Q8,Q9])
        exact nxt _ (by simp [SS.piece]) _ F4 _ h4
  · obtain rfl : i = l.length := by omega
    rw [List.take_length] at h2 bd2
    have hfm : fieldsM l ifs = ((l.foldl (SS.piece ifs) SS.zero).fin).out := rfl
    rcases h2.nil with ⟨hs, rfl⟩ | ⟨x, p, hs, rfl⟩
    · obtain ⟨ov, ho, hr⟩ := h2.outb
      (try simp -dsimp (disch := first|exact P5|fail) only [↓P1,P2,↓P3,Q1,Q2,Q3,Q4,Q5,Q6,Q7,Q8,Q9, h2.nowb, ho])
      refine hk _ _ ?_ h2.ch
      rw [hfm, SS.fin, hs]
      exact hr
    · (simp -dsimp (disch := first|exact P5|fail) only [↓P1,P2,↓P3,Q1,Q2,Q3,Q4,Q5,Q6,Q7,Q8,Q9, h2.nowb])
      refine callv_by (by kernel_rfl) (ends_i h2 (by rw [hs]; rfl) bd2 (by omega) ?_)
      intro σ3 F3 h3 c3 g3
      obtain ⟨ov, ho, hr⟩ := h3.outb
      (try simp -dsimp (disch := first|exact P5|fail) only [↓P1,P2,↓P3,Q1,Q2,Q3,Q4,Q5,Q6,Q7,Q8,Q9, ho])
      refine hk _ _ ?_ h3.ch
      rw [hfm, SS.fin, hs]
      exact hr
end
end Go.Proofs.YtdlimikcgdgfpaaGreatDoor.S09
namespace Go.Proofs.YtdlimikcgdgfpaaGreatDoor.S09
open Tryz renaming prog → PG
open E renaming preR → P1, postR → P2, w_join → P3, w_stop → P4, dsc → P5
open E Go.Lib
section
variable {σ σ' : AS} {k : Value → AS → Prop}
theorem pc_rp {c : Ce} {p : Pc} (h : p.1.length ≤ maxLen) : Rp.rp (α := Pc) c p [.string (bs p.1), .bool p.2.1, .bool p.2.2.1, .bool p.2.2.2] :=
  ⟨[.string (bs p.1)], _, rfl, ⟨rfl, h⟩, [.bool p.2.1], _, rfl, rfl, [.bool p.2.2.1], _, rfl, rfl, rfl⟩
def one1 (f : Fd) (p : Pc) : Fd := if p.2.2.2 then (f.1 ++ [32], f.2 ++ [false]) else (f.1 ++ p.1, f.2 ++ List.replicate p.1.length p.2.1)
theorem oneM_eq (l : List Pc) : oneM l = l.foldl one1 ([], []) := rfl
theorem one_len : ∀ (l : List Pc) (f : Fd), f.2.length = f.1.length → (l.foldl one1 f).2.length = (l.foldl one1 f).1.length ∧ (l.foldl one1 f).1.length ≤ f.1.length + many l
  | [], f, h => ⟨h, by simp [many]⟩
  | p :: l, f, h => by
    have e : many (p :: l) = (p.1.length + 1) + many l := by simp [many]
    have h1 : (one1 f p).2.length = (one1 f p).1.length ∧ (one1 f p).1.length ≤ f.1.length + (p.1.length + 1) := by
      unfold one1
      split <;> simp [h] <;> omega
    have := one_len l (one1 f p) h1.1
    exact ⟨this.1, by rw [e]; have := this.2; simp only [List.foldl_cons]; omega⟩
theorem many_take (l : List Pc) (i : Nat) : many (l.take i) ≤ many l := by
  have : many l = many (l.take i) + many (l.drop i) := by rw [← many_app, List.take_append_drop]
  omega
theorem many_get (l : List Pc) (i : Nat) (hi : i < l.length) : l[i].1.length + 1 ≤ many l := by
  have e : many l = many (l.take i) + (many [l[i]] + many (l.drop (i + 1))) := by
    rw [← many_app, ← many_app, List.singleton_append, ← List.drop_eq_getElem_cons hi, List.take_append_drop]
  have : many [l[i]] = l[i].1.length + 1 := by simp [many]
  omega
theorem len_many (l : List Pc) : l.length ≤ many l := by
  induction l with
  | nil => simp [many]
  | cons p l ih =>
    have e : many (p :: l) = (p.1.length + 1) + many l := by simp [many]
    rw [e, List.length_cons]; omega
theorem one_f {v0 : Value} {l : List Pc} (h0 : RepL (α := Pc) σ.ld v0 l) (hl : many l ≤ 1000000) (hk : ∀ σ' w, OwnV σ' w (oneM l).2.length 1 (bl (oneM l).2) → (∀ g, g ∈ ownL w → σ.n ≤ g) → Chg [] σ σ' → k (.agg [.string (bs (oneM l).1), w].toArray) σ') :
    kCall PG 74 [v0] σ k := by
  have hlen := len_many l
  obtain ⟨va, vc, rfl, _⟩ := pcs_at h0
  refine f74 ?_
  (try simp -dsimp (disch := first|exact P5|fail) only [↓P1,P2,↓P3,Q1,Q2,Q3,Q4,Q5,Q6,Q7,Q8,Q9, F74])
  generalize hz : σ.new (.cells [.string (bs []), .slice none 0 0]) = σa
  have ka : Chg [] σ σa := by rw [← hz]; exact (Chg.refl _ _).new _
  have ma : σa.m σ.n = some (.cells [.string (bs []), .slice none 0 0]) := by rw [← hz]; exact new_eq_
  have na : σa.n = σ.n + 1 := by rw [← hz]; rfl
  refine loop_by (α := Nat × AS) (fun x => [.int .i64 x.1]) (fun x => x.2) (fun x => x.1 ≤ l.length ∧ ∃ M, Mk x.2 M σa.n ((l.take x.1).foldl one1 ([], [])).1 ((l.take x.1).foldl one1 ([], [])).2 ∧ Chg [] σa x.2 ∧ ∀ g, g ∈ M → σa.n ≤ g) (fun x => l.length - x.1) (0, _) ⟨by simp, [σa.n], mk_new, (Chg.refl _ _).new _, by simp⟩ rfl rfl ?_
  rintro ⟨i, σ2⟩ ⟨hi, M, mk, k2, gM⟩ again hag
  dsimp only at hi mk k2 gM hag ⊢
  have hl' : (l.length : Int) ≤ 1000000 := by omega
  have ol := one_len (l.take i) ([], []) rfl
  have mt := many_take l i
  by_cases hlt : i < l.length
  · have mg := many_get l i hlt
    have nxt : ∀ f', f' = one1 ((l.take i).foldl one1 ([], [])) l[i] → ∀ σ' M', Mk σ' M' σa.n f'.1 f'.2 → Chg [] σa σ' → (∀ g, g ∈ M' → σa.n ≤ g) → again [.int .i64 ((i : Int) + 1)] σ' := by
      intro f' hf σ' M' h1 h2 h3
      have := hag (i + 1, σ') ⟨by omega, M', by
        dsimp only
        rw [List.take_succ_eq_append_getElem hlt, List.foldl_append, List.foldl_cons, List.foldl_nil, ← hf]
        exact h1, h2, h3⟩ (by simp; omega)
      simpa using this
    generalize (l.take i).foldl one1 ([], []) = f at mk nxt ol
    obtain ⟨_, _, e1, _, x1⟩ := pcs_at (RepL.mono (ka.step k2 (by simp)).le h0)
    injection e1 with e1 _ _
    subst e1
    rcases x1 with rfl | ⟨b1, o1, rfl, x1⟩
    · simp at hlt
    obtain ⟨ht, _, y0, y1, y2, y3⟩ := x1 i hlt
    generalize l[i] = pc at ht y0 y1 y2 y3 nxt mg
    obtain ⟨t, q, sp, br⟩ := pc
    dsimp only [ldc, List.length_nil] at ht y0 y1 y2 y3 mg ol
    (simp -dsimp (disch := first|exact P5|fail) only [↓P1,P2,↓P3,Q1,Q2,Q3,Q4,Q5,Q6,Q7,Q8,Q9, y0, y1, y2, y3])
    generalize hz : AS.put _ σ2.n _ = σ3
    have c3 : Chg [] σ2 σ3 := by rw [← hz]; exact ((Chg.refl _ σ2).new _).put (.inr (by omega)) _
    have hE : σ3.m σ2.n = some (.cells [.string (bs t), .bool q, .bool sp, .bool br]) := by rw [← hz]; (try simp -dsimp (disch := first|exact P5|fail) only [↓P1,P2,↓P3,Q1,Q2,Q3,Q4,Q5,Q6,Q7,Q8,Q9])
    have mk3 := mk.chg c3 (fun _ _ => by simp)
    have k3 : Chg [] σa σ3 := k2.step c3 (by simp)
    cases br
    · (simp -dsimp (disch := first|exact P5|fail) only [↓P1,P2,↓P3,Q1,Q2,Q3,Q4,Q5,Q6,Q7,Q8,Q9, hE])
      refine add_e q mk3 (by omega) (by omega) ?_
      intro σ4 M4 mk4 c4 g4
      (try simp -dsimp (disch := first|exact P5|fail) only [↓P1,P2,↓P3,Q1,Q2,Q3,Q4,Q5,Q6,Q7,Q8,Q9])
      refine nxt (f.1 ++ t, f.2 ++ List.replicate t.length q) ?_ _ M4 mk4 (k3.step c4 (fun g hg => .inr (gM g hg))) (fun g hg => ?_)
      · simp [one1]
      · have := k3.n
        rcases g4 g hg with h | h
        · exact gM g h
        · omega
    · (simp -dsimp (disch := first|exact P5|fail) only [↓P1,P2,↓P3,Q1,Q2,Q3,Q4,Q5,Q6,Q7,Q8,Q9, hE])
      refine add_e (s := [32]) false mk3 (by simp; omega) (by simp; omega) ?_
      intro σ4 M4 mk4 c4 g4
      (try simp -dsimp (disch := first|exact P5|fail) only [↓P1,P2,↓P3,Q1,Q2,Q3,Q4,Q5,Q6,Q7,Q8,Q9])
      refine nxt (f.1 ++ [32], f.2 ++ [false]) ?_ _ M4 mk4 (k3.step c4 (fun g hg => .inr (gM g hg))) (fun g hg => ?_)
      · simp [one1]
      · have := k3.n
        rcases g4 g hg with h | h
        · exact gM g h
        · omega
  · obtain rfl : i = l.length := by omega
    rw [List.take_length] at mk ol
    rw [← oneM_eq] at mk ol
    dsimp only [List.length_nil] at ol
    (try simp -dsimp (disch := first|exact P5|fail) only [↓P1,P2,↓P3,Q1,Q2,Q3,Q4,Q5,Q6,Q7,Q8,Q9])
    refine field_e mk (by omega) ?_
    intro σ3 w hw hwM c3
    have m3 : σ3.m σ.n = some (.cells [.string (bs []), .slice none 0 0]) := by
      rw [c3.m _ (by have := k2.n; omega) (fun h => by have := gM _ h; omega), k2.m _ (by omega) (by simp)]; exact ma
    have cw : cellsV w = [w] := by obtain ⟨a, c, rfl, _⟩ := hw.val; rfl
    have okl : ([.string (bs (oneM l).1), w] : List Value).all okCell = true := by simp only [List.all_cons, hw.ok]; rfl
    (try simp -dsimp (disch := first|exact P5|fail) only [↓P1,P2,↓P3,Q1,Q2,Q3,Q4,Q5,Q6,Q7,Q8,Q9, m3, cw, okl])
    have k3 : Chg [] σ (σ3.put σ.n (.cells [.string (bs (oneM l).1), w])) := ((ka.step k2 (by simp)).step c3 (fun g hg => .inr (by have := gM g hg; omega))).put (.inr (by omega)) _
    exact hk _ w (hw.chg (S := [σ.n]) ((Chg.refl _ _).put (.inl (by simp)) _) (fun g hg => by have := gM g (hwM g hg); simp; omega)) (fun g hg => by have := gM g (hwM g hg); omega) k3
end
end Go.Proofs.YtdlimikcgdgfpaaGreatDoor.S09
namespace Go.Proofs.YtdlimikcgdgfpaaGreatDoor
open Tryz renaming prog → PG
open E Go.Lib S09
section
variable {σ σ' : AS} {X : Ce} {R : List Ck} {k : Value → AS → Prop}
theorem found {α : Type} [Rp α] {v : Value} {l : List α} (h : Hs σ X R) (c : Chg [] σ σ') (hr : RepL (sans σ' (List.range σ.n)) v l) : ∃ X', Ce.le X X' ∧ RepL X' v l ∧ Hs σ' X' R := by
  have hle : Ce.le X (fun b o => if b < σ.n then X b o else σ'.ld b o) := fun b o v hv => by
    have : b < σ.n := inX_lt h.x ⟨o, by rw [hv]; simp⟩
    simp [this, hv]
  refine ⟨_, hle, hr.mono (fun b o v hv => ?_), ⟨fun b o v hv => ?_, h.s.frame hle (fun g hg _ => c.m g hg (by simp)) (fun g hg => ?_)⟩⟩
  · unfold sans at hv
    split at hv
    · cases hv
    · rename_i hb
      have : ¬ b < σ.n := fun h => hb (List.mem_range.2 h)
      simp [this, hv]
  · by_cases hb : b < σ.n
    · exact c.le _ _ _ (h.x _ _ _ (by simpa [hb] using hv))
    · simpa [hb] using hv
  · by_cases hb : g < σ.n
    · obtain ⟨o, ho⟩ := hg
      exact .inl ⟨o, by simpa [hb] using ho⟩
    · exact .inr (by omega)
theorem fields_h {v0 : Value} {l : List Pc} {ifs : List UInt8} (h : Hs σ X R) (hr : RepL (α := Pc) X v0 l) (hl : many l ≤ 1000000) (hk : ∀ X' v' σ', Ce.le X X' → RepL (α := Fld) X' v' (fieldsM l ifs) → Hs σ' X' R → k v' σ') :
    kCall PG 37 [v0, .string (bs ifs)] σ k :=
  fields_f (hr.mono h.x) hl fun σ' v' hr' c => by
    obtain ⟨X', le, r, h'⟩ := found h c hr'
    exact hk X' v' σ' le r h'
theorem one_h {v0 : Value} {l : List Pc} (h : Hs σ X R) (hr : RepL (α := Pc) X v0 l) (hl : many l ≤ 1000000) (hk : ∀ X' w σ', Ce.le X X' → RepL X' w (oneM l).2 → Hs σ' X' R → k (.agg [.string (bs (oneM l).1), w].toArray) σ') :
    kCall PG 74 [v0] σ k :=
  one_f (hr.mono h.x) hl fun σ' w ho hg c => by
    have h1 : Hs σ' X (E.Own w (oneM l).2 :: R) := h.more (F := ownL w) c ⟨rfl, bl (oneM l).2, ho, rpl_bool _ _⟩ hg
    obtain ⟨X', le, r, h2⟩ := h1.keep
    exact hk X' w σ' le r h2
end
end Go.Proofs.YtdlimikcgdgfpaaGreatDoor
