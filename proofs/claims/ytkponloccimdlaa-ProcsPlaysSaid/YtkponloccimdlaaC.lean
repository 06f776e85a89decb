/- The walks of the functions, printed by a program of this proof, each held against the loaded program by the kernel. Conditions: none. -/
import Derived.Test.YtkponloccimdlaaProg
import Derived.Test.YtkponloccimdlaaF6
namespace Go.Proofs.Ytkponloccimdlaa
open E
set_option maxRecDepth 100000
set_option linter.unusedVariables false

/- conch conchlaw17.ProcsOnce -/
def F3 (ops_0 : Value) (s : AS) (k : Value → AS → Prop) : Prop :=
 kCall Try.prog 7 [(.int .i64 50)] s fun v13 s =>
 kExt 0 v13 fun v14 =>
 kExt 1 v13 fun v15 =>
 kJoin (fun _ s =>
 kNew s (List.replicate 51 (.int .i64 0)) fun ended_5 s =>
 kNew s (List.replicate 51 (.bool false)) fun waits_6 s =>
 kJoin (fun _ s =>
 kCall Try.prog 12 [] s fun v147 s =>
 k v147 s) fun J2 =>
 kLoop (fun again3 xs s =>
 un1 xs fun i_7 =>
 kJoin (fun _ s =>
 kJoin (fun _ s =>
 kBin .add i_7 (.int .i64 1) fun v31 =>
 again3 [v31] s) fun J5 =>
 kIdx 3 ops_0 i_7 fun v34 =>
 kLdN s 3 v34 fun v35 =>
 kNew s [(.int .i64 0), (.int .i64 0), (.int .i64 0)] fun o_8 s =>
 kSt s 3 o_8 v35 fun s =>
 kLdN s 3 o_8 fun v38 =>
 kCall Try.prog 8 [v14, v38] s fun v39 s =>
 kExt 0 v39 fun v40 =>
 kExt 1 v39 fun v41 =>
 kExt 2 v39 fun v42 =>
 kJoin (fun _ s =>
 kJoin (fun _ s =>
 kCall Try.prog 11 [v14] s fun v145 s =>
 kUn .not v145 fun v146 =>
 kCond v146 (
 k (.bool false) s) (
 J5 [] s)) fun J7 =>
 kFld 0 o_8 fun v51 =>
 kLd s v51 fun v52 =>
 kBin .eql v52 (.int .i64 0) fun v54 =>
 kCond v54 (
 kJoin (fun _ s =>
 kIdxA 51 1 waits_6 v40 fun v76 =>
 kSt s 1 v76 (.bool false) fun s =>
 J7 [] s) fun J8 =>
 kBin .lss v40 (.int .i64 1) fun v56 =>
 kGrd v56 false (fun k =>
 kBin .gtr v40 (.int .i64 50) fun v59 =>
 k [v59] s) [undef] s fun xs s =>
 un1 xs fun v59 =>
 kPick v56 (.bool true) v59 fun v60 =>
 kGrd v60 false (fun k =>
 kCall Try.prog 9 [v14, v40] s fun v64 s =>
 kBin .neq v64 (.int .i64 1) fun v65 =>
 k [v65] s) [undef] s fun xs s =>
 un1 xs fun v65 =>
 kPick v60 (.bool true) v65 fun v66 =>
 kGrd v66 false (fun k =>
 kFld 1 o_8 fun v71 =>
 kLd s v71 fun v72 =>
 kCall Try.prog 10 [v14, v40] s fun v70 s =>
 kChk s v71 v72 (
 kBin .neq v70 v72 fun v73 =>
 k [v73] s)) [undef] s fun xs s =>
 un1 xs fun v73 =>
 kPick v66 (.bool true) v73 fun v74 =>
 kCond v74 (
 k (.bool false) s) (
 J8 [] s)) (
 kBin .eql v52 (.int .i64 3) fun v78 =>
 kCond v78 (
 kJoin (fun _ s =>
 kFld 1 o_8 fun v91 =>
 kFld 1 o_8 fun v94 =>
 kLd s v91 fun v92 =>
 kLd s v94 fun v95 =>
 kCall Try.prog 9 [v14, v95] s fun v96 s =>
 kChk s v91 v92 (
 kBin .eql v96 (.int .i64 3) fun v97 =>
 kIdxA 51 1 waits_6 v92 fun v98 =>
 kSt s 1 v98 v97 fun s =>
 kFld 1 o_8 fun v99 =>
 kLd s v99 fun v100 =>
 kFld 2 o_8 fun v101 =>
 kLd s v101 fun v102 =>
 kIdxA 51 1 ended_5 v100 fun v103 =>
 kSt s 1 v103 v102 fun s =>
 J7 [] s)) fun J9 =>
 kFld 1 o_8 fun v80 =>
 kLd s v80 fun v81 =>
 kCall Try.prog 9 [v14, v81] s fun v82 s =>
 kBin .eql v82 (.int .i64 1) fun v83 =>
 kGrd v83 false (fun k =>
 kFld 1 o_8 fun v86 =>
 kLd s v86 fun v87 =>
 kCall Try.prog 9 [v14, v87] s fun v88 s =>
 kBin .eql v88 (.int .i64 2) fun v89 =>
 k [v89] s) [undef] s fun xs s =>
 un1 xs fun v89 =>
 kPick v83 (.bool true) v89 fun v90 =>
 kCond v90 (
 k (.bool false) s) (
 J9 [] s)) (
 kBin .eql v52 (.int .i64 4) fun v105 =>
 kCond v105 (
 kJoin (fun _ s =>
 kIdxA 51 1 waits_6 v40 fun v143 =>
 kSt s 1 v143 (.bool false) fun s =>
 J7 [] s) fun J10 =>
 kBin .lss v40 (.int .i64 1) fun v107 =>
 kGrd v107 false (fun k =>
 kBin .gtr v40 (.int .i64 50) fun v110 =>
 k [v110] s) [undef] s fun xs s =>
 un1 xs fun v110 =>
 kPick v107 (.bool true) v110 fun v111 =>
 kGrd v111 false (fun k =>
 kIdxA 51 1 waits_6 v40 fun v114 =>
 kLd s v114 fun v115 =>
 kUn .not v115 fun v116 =>
 k [v116] s) [undef] s fun xs s =>
 un1 xs fun v116 =>
 kPick v111 (.bool true) v116 fun v117 =>
 kGrd v117 false (fun k =>
 kIdxA 51 1 ended_5 v40 fun v120 =>
 kLd s v120 fun v121 =>
 kBin .neq v121 v41 fun v123 =>
 k [v123] s) [undef] s fun xs s =>
 un1 xs fun v123 =>
 kPick v117 (.bool true) v123 fun v124 =>
 kGrd v124 false (fun k =>
 kCall Try.prog 9 [v14, v40] s fun v128 s =>
 kBin .neq v128 (.int .i64 0) fun v129 =>
 k [v129] s) [undef] s fun xs s =>
 un1 xs fun v129 =>
 kPick v124 (.bool true) v129 fun v130 =>
 kGrd v130 false (fun k =>
 kFld 2 o_8 fun v132 =>
 kLd s v132 fun v133 =>
 kBin .neq v133 (.int .i64 0) fun v134 =>
 k [v134] s) [undef] s fun xs s =>
 un1 xs fun v135 =>
 kGrd v135 true (fun k =>
 kFld 2 o_8 fun v136 =>
 kLd s v136 fun v137 =>
 kBin .neq v137 v40 fun v139 =>
 k [v139] s) [undef] s fun xs s =>
 un1 xs fun v139 =>
 kGrd v130 false (fun k =>
 kPick v135 v139 (.bool false) fun v140 =>
 k [v140] s) [undef] s fun xs s =>
 un1 xs fun v140 =>
 kPick v130 (.bool true) v140 fun v141 =>
 kCond v141 (
 k (.bool false) s) (
 J10 [] s)) (
 J7 [] s)))) fun J6 =>
 kBin .neq v42 (.int .i64 0) fun v44 =>
 kCond v44 (
 kBin .neq v40 (.int .i64 0) fun v46 =>
 kGrd v46 false (fun k =>
 kBin .neq v41 (.int .i64 0) fun v49 =>
 k [v49] s) [undef] s fun xs s =>
 un1 xs fun v49 =>
 kPick v46 (.bool true) v49 fun v50 =>
 kCond v50 (
 k (.bool false) s) (
 J5 [] s)) (
 J6 [] s)) fun J4 =>
 kLen false ops_0 fun v24 =>
 kBin .lss i_7 v24 fun v25 =>
 kGrd v25 true (fun k =>
 kBin .lss i_7 (.int .i64 100) fun v28 =>
 k [v28] s) [undef] s fun xs s =>
 un1 xs fun v28 =>
 kPick v25 v28 (.bool false) fun v29 =>
 kCond v29 (
 J4 [] s) (
 J2 [] s)) [(.int .i64 0)] s) fun J1 =>
 kBin .neq v15 (.int .i64 0) fun v17 =>
 kGrd v17 false (fun k =>
 kEq 0 false v14 (.pointer none) fun v20 =>
 k [v20] s) [undef] s fun xs s =>
 un1 xs fun v20 =>
 kPick v17 (.bool true) v20 fun v21 =>
 kCond v21 (
 k (.bool false) s) (
 J1 [] s)
theorem F3_ok (ops_0 : Value) (s : AS) (k : Value → AS → Prop) : denFn Try.prog [(16, (.go 0 (.go 1 (.go 2 (.go 3 (.go 4 (.go 5 (.go 6 (.go 7 (.go 8 (.go 9 (.go 10 (.go 11 (.go 12 (.go 13 (.go 14 (.go 16 (.go 17 (.go 15 (.go 18 (.go 19 .done))))))))))))))))))))), (22, (.go 0 (.go 2 (.go 3 (.go 1 (.go 4 (.go 5 (.go 6 (.go 7 (.go 8 .done))))))))))] 3 [ops_0] s k = F3 ops_0 s k := by kernel_rfl
theorem f3 {ops_0 : Value} {s : AS} {k : Value → AS → Prop} (h : F3 ops_0 s k) : kCall Try.prog 3 [ops_0] s k := denFn_ok [(16, (.go 0 (.go 1 (.go 2 (.go 3 (.go 4 (.go 5 (.go 6 (.go 7 (.go 8 (.go 9 (.go 10 (.go 11 (.go 12 (.go 13 (.go 14 (.go 16 (.go 17 (.go 15 (.go 18 (.go 19 .done))))))))))))))))))))), (22, (.go 0 (.go 2 (.go 3 (.go 1 (.go 4 (.go 5 (.go 6 (.go 7 (.go 8 .done))))))))))] (cast (F3_ok ops_0 s k).symm h)
theorem k3_ok : okFn Try.prog 3 = true := by kernel_rfl

/- conch conchlaw17.ProcsTree -/
def F4 (ops_0 : Value) (s : AS) (k : Value → AS → Prop) : Prop :=
 kCall Try.prog 7 [(.int .i64 50)] s fun v11 s =>
 kExt 0 v11 fun v12 =>
 kExt 1 v11 fun v13 =>
 kJoin (fun _ s =>
 kJoin (fun _ s =>
 kCall Try.prog 12 [] s fun v78 s =>
 k v78 s) fun J2 =>
 kLoop (fun again3 xs s =>
 un1 xs fun i_5 =>
 kJoin (fun _ s =>
 kJoin (fun _ s =>
 kBin .add i_5 (.int .i64 1) fun v29 =>
 again3 [v29] s) fun J5 =>
 kIdx 3 ops_0 i_5 fun v33 =>
 kLdN s 3 v33 fun v34 =>
 kCall Try.prog 8 [v12, v34] s fun v35 s =>
 kJoin (fun xs s =>
 un1 xs fun many_6 =>
 kCall Try.prog 13 [v12] s fun v76 s =>
 kBin .neq many_6 v76 fun v77 =>
 kCond v77 (
 k (.bool false) s) (
 J5 [] s)) fun J6 =>
 kLoop (fun again7 xs s =>
 un2 xs fun many_6 p_7 =>
 kJoin (fun _ s =>
 kJoin (fun xs s =>
 un1 xs fun many_6 =>
 kBin .add p_7 (.int .i64 1) fun v39 =>
 again7 [many_6, v39] s) fun J9 =>
 kJoin (fun _ s =>
 kBin .add many_6 (.int .i64 1) fun v49 =>
 kCall Try.prog 10 [v12, p_7] s fun v52 s =>
 kLoop (fun again11 xs s =>
 un2 xs fun up_8 k_9 =>
 kJoin (fun _ s =>
 kJoin (fun xs s =>
 un1 xs fun up_8 =>
 kBin .add k_9 (.int .i64 1) fun v56 =>
 again11 [up_8, v56] s) fun J13 =>
 kJoin (fun _ s =>
 kCall Try.prog 10 [v12, up_8] s fun v73 s =>
 J13 [v73] s) fun J14 =>
 kBin .gtr k_9 (.int .i64 50) fun v58 =>
 kGrd v58 false (fun k =>
 kCall Try.prog 9 [v12, up_8] s fun v62 s =>
 kBin .eql v62 (.int .i64 0) fun v63 =>
 k [v63] s) [undef] s fun xs s =>
 un1 xs fun v63 =>
 kPick v58 (.bool true) v63 fun v64 =>
 kGrd v64 false (fun k =>
 kCall Try.prog 9 [v12, up_8] s fun v68 s =>
 kBin .eql v68 (.int .i64 3) fun v69 =>
 k [v69] s) [undef] s fun xs s =>
 un1 xs fun v69 =>
 kPick v64 (.bool true) v69 fun v70 =>
 kCond v70 (
 k (.bool false) s) (
 J14 [] s)) fun J12 =>
 kBin .neq up_8 (.int .i64 0) fun v54 =>
 kCond v54 (
 J12 [] s) (
 J9 [v49] s)) [v52, (.int .i64 0)] s) fun J10 =>
 kCall Try.prog 9 [v12, p_7] s fun v42 s =>
 kBin .eql v42 (.int .i64 0) fun v43 =>
 kCond v43 (
 kCall Try.prog 10 [v12, p_7] s fun v46 s =>
 kBin .neq v46 (.int .i64 0) fun v47 =>
 kCond v47 (
 k (.bool false) s) (
 J9 [many_6] s)) (
 J10 [] s)) fun J8 =>
 kBin .leq p_7 (.int .i64 50) fun v37 =>
 kCond v37 (
 J8 [] s) (
 J6 [many_6] s)) [(.int .i64 0), (.int .i64 1)] s) fun J4 =>
 kLen false ops_0 fun v22 =>
 kBin .lss i_5 v22 fun v23 =>
 kGrd v23 true (fun k =>
 kBin .lss i_5 (.int .i64 100) fun v26 =>
 k [v26] s) [undef] s fun xs s =>
 un1 xs fun v26 =>
 kPick v23 v26 (.bool false) fun v27 =>
 kCond v27 (
 J4 [] s) (
 J2 [] s)) [(.int .i64 0)] s) fun J1 =>
 kBin .neq v13 (.int .i64 0) fun v15 =>
 kGrd v15 false (fun k =>
 kEq 0 false v12 (.pointer none) fun v18 =>
 k [v18] s) [undef] s fun xs s =>
 un1 xs fun v18 =>
 kPick v15 (.bool true) v18 fun v19 =>
 kCond v19 (
 k (.bool false) s) (
 J1 [] s)
theorem F4_ok (ops_0 : Value) (s : AS) (k : Value → AS → Prop) : denFn Try.prog [] 4 [ops_0] s k = F4 ops_0 s k := by kernel_rfl
theorem f4 {ops_0 : Value} {s : AS} {k : Value → AS → Prop} (h : F4 ops_0 s k) : kCall Try.prog 4 [ops_0] s k := denFn_ok [] (cast (F4_ok ops_0 s k).symm h)
theorem k4_ok : okFn Try.prog 4 = true := by kernel_rfl

/- conch conchlaw17.ProcsPlays -/
def F5 (most_0 ops_1 : Value) (s : AS) (k : Value → AS → Prop) : Prop :=
 kCall Try.prog 7 [most_0] s fun v22 s =>
 kExt 0 v22 fun v23 =>
 kExt 1 v22 fun v24 =>
 kCall Try.prog 14 [most_0] s fun v27 s =>
 kExt 0 v27 fun v28 =>
 kExt 1 v27 fun v29 =>
 kJoin (fun _ s =>
 kJoin (fun _ s =>
 kJoin (fun _ s =>
 kCall Try.prog 12 [] s fun v139 s =>
 k v139 s) fun J3 =>
 kLoop (fun again4 xs s =>
 un1 xs fun i_9 =>
 kJoin (fun _ s =>
 kJoin (fun _ s =>
 kBin .add i_9 (.int .i64 1) fun v52 =>
 again4 [v52] s) fun J6 =>
 kIdx 3 ops_1 i_9 fun v57 =>
 kLdN s 3 v57 fun v58 =>
 kCall Try.prog 8 [v23, v58] s fun v59 s =>
 kExt 0 v59 fun v60 =>
 kExt 1 v59 fun v61 =>
 kExt 2 v59 fun v62 =>
 kIdx 3 ops_1 i_9 fun v67 =>
 kLdN s 3 v67 fun v68 =>
 kCall Try.prog 15 [v28, v68] s fun v69 s =>
 kExt 0 v69 fun v70 =>
 kExt 1 v69 fun v71 =>
 kExt 2 v69 fun v72 =>
 kJoin (fun _ s =>
 kJoin (fun _ s =>
 kCall Try.prog 18 [v23] s fun v116 s =>
 kCall Try.prog 19 [v28] s fun v118 s =>
 kJoin (fun _ s =>
 kLoop (fun again10 xs s =>
 un1 xs fun k_19 =>
 kJoin (fun _ s =>
 kJoin (fun _ s =>
 kBin .add k_19 (.int .i64 1) fun v129 =>
 again10 [v129] s) fun J12 =>
 kIdx 1 v116 k_19 fun v132 =>
 kIdx 1 v118 k_19 fun v136 =>
 kLd s v132 fun v133 =>
 kLd s v136 fun v137 =>
 kBin .neq v133 v137 fun v138 =>
 kCond v138 (
 k (.bool false) s) (
 J12 [] s)) fun J11 =>
 kLen false v116 fun v126 =>
 kBin .lss k_19 v126 fun v127 =>
 kCond v127 (
 J11 [] s) (
 J6 [] s)) [(.int .i64 0)] s) fun J9 =>
 kLen false v116 fun v120 =>
 kLen false v118 fun v122 =>
 kBin .neq v120 v122 fun v123 =>
 kCond v123 (
 k (.bool false) s) (
 J9 [] s)) fun J8 =>
 kLoop (fun again13 xs s =>
 un1 xs fun p_16 =>
 kJoin (fun _ s =>
 kJoin (fun _ s =>
 kBin .add p_16 (.int .i64 1) fun v96 =>
 again13 [v96] s) fun J15 =>
 kCall Try.prog 9 [v23, p_16] s fun v99 s =>
 kCall Try.prog 17 [v28, p_16] s fun v102 s =>
 kGet 0 v102 fun v103 =>
 kBin .neq v99 v103 fun v104 =>
 kGrd v104 false (fun k =>
 kCall Try.prog 10 [v23, p_16] s fun v108 s =>
 kCall Try.prog 17 [v28, p_16] s fun v111 s =>
 kGet 1 v111 fun v112 =>
 kBin .neq v108 v112 fun v113 =>
 k [v113] s) [undef] s fun xs s =>
 un1 xs fun v113 =>
 kPick v104 (.bool true) v113 fun v114 =>
 kCond v114 (
 k (.bool false) s) (
 J15 [] s)) fun J14 =>
 kBin .lss p_16 (.int .i64 20) fun v94 =>
 kCond v94 (
 J14 [] s) (
 J8 [] s)) [(.int .i64 (-1))] s) fun J7 =>
 kBin .neq v60 v70 fun v75 =>
 kGrd v75 false (fun k =>
 kBin .neq v61 v71 fun v79 =>
 k [v79] s) [undef] s fun xs s =>
 un1 xs fun v79 =>
 kPick v75 (.bool true) v79 fun v80 =>
 kGrd v80 false (fun k =>
 kBin .neq v62 v72 fun v84 =>
 k [v84] s) [undef] s fun xs s =>
 un1 xs fun v84 =>
 kPick v80 (.bool true) v84 fun v85 =>
 kGrd v85 false (fun k =>
 kCall Try.prog 13 [v23] s fun v88 s =>
 kCall Try.prog 16 [v28] s fun v90 s =>
 kBin .neq v88 v90 fun v91 =>
 k [v91] s) [undef] s fun xs s =>
 un1 xs fun v91 =>
 kPick v85 (.bool true) v91 fun v92 =>
 kCond v92 (
 k (.bool false) s) (
 J7 [] s)) fun J5 =>
 kLen false ops_1 fun v45 =>
 kBin .lss i_9 v45 fun v46 =>
 kGrd v46 true (fun k =>
 kBin .lss i_9 (.int .i64 100) fun v49 =>
 k [v49] s) [undef] s fun xs s =>
 un1 xs fun v49 =>
 kPick v46 v49 (.bool false) fun v50 =>
 kCond v50 (
 J5 [] s) (
 J3 [] s)) [(.int .i64 0)] s) fun J2 =>
 kEq 0 false v28 (.pointer none) fun v41 =>
 kCond v41 (
 kCall Try.prog 12 [] s fun v42 s =>
 k v42 s) (
 J2 [] s)) fun J1 =>
 kBin .neq v24 v29 fun v32 =>
 kGrd v32 false (fun k =>
 kEq 0 false v23 (.pointer none) fun v35 =>
 kEq 0 false v28 (.pointer none) fun v37 =>
 kEq 4 true v35 v37 fun v38 =>
 k [v38] s) [undef] s fun xs s =>
 un1 xs fun v38 =>
 kPick v32 (.bool true) v38 fun v39 =>
 kCond v39 (
 k (.bool false) s) (
 J1 [] s)
theorem F5_ok (most_0 ops_1 : Value) (s : AS) (k : Value → AS → Prop) : denFn Try.prog [(26, (.go 0 (.go 1 (.go 2 (.go 4 (.go 5 (.go 6 (.go 3 (.go 7 (.go 8 .done))))))))))] 5 [most_0, ops_1] s k = F5 most_0 ops_1 s k := by kernel_rfl
theorem f5 {most_0 ops_1 : Value} {s : AS} {k : Value → AS → Prop} (h : F5 most_0 ops_1 s k) : kCall Try.prog 5 [most_0, ops_1] s k := denFn_ok [(26, (.go 0 (.go 1 (.go 2 (.go 4 (.go 5 (.go 6 (.go 3 (.go 7 (.go 8 .done))))))))))] (cast (F5_ok most_0 ops_1 s k).symm h)
theorem k5_ok : okFn Try.prog 5 = true := by kernel_rfl

/- conch conchlaw17.ProcsNil -/
def F6 (p_0 n_1 : Value) (s : AS) (k : Value → AS → Prop) : Prop :=
 kCall Try.prog 20 [(.pointer none), p_0] s fun v14 s =>
 kExt 0 v14 fun v15 =>
 kExt 1 v14 fun v16 =>
 kCall Try.prog 21 [(.pointer none), p_0, n_1] s fun v21 s =>
 kExt 0 v21 fun v22 =>
 kExt 1 v21 fun v23 =>
 kExt 2 v21 fun v24 =>
 kBin .eql v16 (.int .i64 2) fun v26 =>
 kGrd v26 true (fun k =>
 kCall Try.prog 22 [(.pointer none), p_0] s fun v30 s =>
 kBin .eql v30 (.int .i64 2) fun v31 =>
 k [v31] s) [undef] s fun xs s =>
 un1 xs fun v31 =>
 kPick v26 v31 (.bool false) fun v32 =>
 kGrd v32 true (fun k =>
 kCall Try.prog 23 [(.pointer none), p_0] s fun v36 s =>
 kBin .eql v36 (.int .i64 2) fun v37 =>
 k [v37] s) [undef] s fun xs s =>
 un1 xs fun v37 =>
 kPick v32 v37 (.bool false) fun v38 =>
 kGrd v38 true (fun k =>
 kCall Try.prog 24 [(.pointer none), p_0, n_1] s fun v43 s =>
 kBin .eql v43 (.int .i64 2) fun v44 =>
 k [v44] s) [undef] s fun xs s =>
 un1 xs fun v44 =>
 kPick v38 v44 (.bool false) fun v45 =>
 kGrd v45 true (fun k =>
 kBin .eql v24 (.int .i64 2) fun v48 =>
 k [v48] s) [undef] s fun xs s =>
 un1 xs fun v48 =>
 kPick v45 v48 (.bool false) fun v49 =>
 kGrd v49 true (fun k =>
 kCall Try.prog 9 [(.pointer none), p_0] s fun v53 s =>
 kBin .eql v53 (.int .i64 0) fun v54 =>
 k [v54] s) [undef] s fun xs s =>
 un1 xs fun v54 =>
 kPick v49 v54 (.bool false) fun v55 =>
 kGrd v55 true (fun k =>
 kCall Try.prog 10 [(.pointer none), p_0] s fun v59 s =>
 kBin .eql v59 (.int .i64 0) fun v60 =>
 k [v60] s) [undef] s fun xs s =>
 un1 xs fun v60 =>
 kPick v55 v60 (.bool false) fun v61 =>
 kGrd v61 true (fun k =>
 kCall Try.prog 18 [(.pointer none)] s fun v64 s =>
 kLen false v64 fun v65 =>
 kBin .eql v65 (.int .i64 0) fun v66 =>
 k [v66] s) [undef] s fun xs s =>
 un1 xs fun v66 =>
 kPick v61 v66 (.bool false) fun v67 =>
 kGrd v67 true (fun k =>
 kCall Try.prog 13 [(.pointer none)] s fun v70 s =>
 kBin .eql v70 (.int .i64 0) fun v71 =>
 k [v71] s) [undef] s fun xs s =>
 un1 xs fun v71 =>
 kPick v67 v71 (.bool false) fun v72 =>
 kGrd v72 true (fun k =>
 kCall Try.prog 12 [] s fun v74 s =>
 k [v74] s) [undef] s fun xs s =>
 un1 xs fun v74 =>
 kPick v72 v74 (.bool false) fun v75 =>
 k v75 s
theorem F6_ok (p_0 n_1 : Value) (s : AS) (k : Value → AS → Prop) : denFn Try.prog [] 6 [p_0, n_1] s k = F6 p_0 n_1 s k := by kernel_rfl
theorem f6 {p_0 n_1 : Value} {s : AS} {k : Value → AS → Prop} (h : F6 p_0 n_1 s k) : kCall Try.prog 6 [p_0, n_1] s k := denFn_ok [] (cast (F6_ok p_0 n_1 s k).symm h)
theorem k6_ok : okFn Try.prog 6 = true := by kernel_rfl

/- conch procs.New -/
def F7 (many_0 : Value) (s : AS) (k : Value → AS → Prop) : Prop :=
 kJoin (fun _ s =>
 kMkm s fun v11 s =>
 kBuild [(.int .i64 0), (.map none)] [(0, 1, many_0), (1, 1, v11)] fun v12 =>
 kNew s (cellsV v12) fun v13 s =>
 k (.tuple #[v13, (.int .i64 0)]) s) fun J1 =>
 kBin .lss many_0 (.int .i64 1) fun v5 =>
 kGrd v5 false (fun k =>
 kBin .gtr many_0 (.int .i64 1024) fun v8 =>
 k [v8] s) [undef] s fun xs s =>
 un1 xs fun v8 =>
 kPick v5 (.bool true) v8 fun v9 =>
 kCond v9 (
 k (.tuple #[(.pointer none), (.int .i64 1)]) s) (
 J1 [] s)
theorem F7_ok (many_0 : Value) (s : AS) (k : Value → AS → Prop) : denFn Try.prog [] 7 [many_0] s k = F7 many_0 s k := by kernel_rfl
theorem f7 {many_0 : Value} {s : AS} {k : Value → AS → Prop} (h : F7 many_0 s k) : kCall Try.prog 7 [many_0] s k := denFn_ok [] (cast (F7_ok many_0 s k).symm h)
theorem k7_ok : okFn Try.prog 7 = true := by kernel_rfl

/- conch conchlaw17.do -/
def F8 (t_0 o_1 : Value) (s : AS) (k : Value → AS → Prop) : Prop :=
 kNew s (cellsV o_1) fun o_3 s =>
 kJoin (fun _ s =>
 kFld 1 o_3 fun v43 =>
 kLd s v43 fun v44 =>
 kFld 2 o_3 fun v45 =>
 kLd s v45 fun v46 =>
 kCall Try.prog 21 [t_0, v44, v46] s fun v47 s =>
 kExt 0 v47 fun v48 =>
 kExt 1 v47 fun v49 =>
 kExt 2 v47 fun v50 =>
 k (.tuple #[v48, v49, v50]) s) fun J1 =>
 kFld 0 o_3 fun v9 =>
 kLd s v9 fun v10 =>
 kBin .eql v10 (.int .i64 0) fun v12 =>
 kCond v12 (
 kFld 1 o_3 fun v15 =>
 kLd s v15 fun v16 =>
 kCall Try.prog 20 [t_0, v16] s fun v17 s =>
 kExt 0 v17 fun v18 =>
 kExt 1 v17 fun v19 =>
 k (.tuple #[v18, (.int .i64 0), v19]) s) (
 kBin .eql v10 (.int .i64 1) fun v23 =>
 kCond v23 (
 kFld 1 o_3 fun v25 =>
 kLd s v25 fun v26 =>
 kCall Try.prog 22 [t_0, v26] s fun v27 s =>
 k (.tuple #[(.int .i64 0), (.int .i64 0), v27]) s) (
 kBin .eql v10 (.int .i64 2) fun v29 =>
 kCond v29 (
 kFld 1 o_3 fun v31 =>
 kLd s v31 fun v32 =>
 kCall Try.prog 23 [t_0, v32] s fun v33 s =>
 k (.tuple #[(.int .i64 0), (.int .i64 0), v33]) s) (
 kBin .eql v10 (.int .i64 3) fun v35 =>
 kCond v35 (
 kFld 1 o_3 fun v37 =>
 kLd s v37 fun v38 =>
 kFld 2 o_3 fun v39 =>
 kLd s v39 fun v40 =>
 kCall Try.prog 24 [t_0, v38, v40] s fun v41 s =>
 k (.tuple #[(.int .i64 0), (.int .i64 0), v41]) s) (
 J1 [] s))))
theorem F8_ok (t_0 o_1 : Value) (s : AS) (k : Value → AS → Prop) : denFn Try.prog [] 8 [t_0, o_1] s k = F8 t_0 o_1 s k := by kernel_rfl
theorem f8 {t_0 o_1 : Value} {s : AS} {k : Value → AS → Prop} (h : F8 t_0 o_1 s k) : kCall Try.prog 8 [t_0, o_1] s k := denFn_ok [] (cast (F8_ok t_0 o_1 s k).symm h)
theorem k8_ok : okFn Try.prog 8 = true := by kernel_rfl

/- (*conch procs.Table).State -/
def F9 (t_0 pid_1 : Value) (s : AS) (k : Value → AS → Prop) : Prop :=
 kCall Try.prog 25 [t_0, pid_1] s fun v7 s =>
 kGet 0 v7 fun v8 =>
 k v8 s
theorem F9_ok (t_0 pid_1 : Value) (s : AS) (k : Value → AS → Prop) : denFn Try.prog [] 9 [t_0, pid_1] s k = F9 t_0 pid_1 s k := by kernel_rfl
theorem f9 {t_0 pid_1 : Value} {s : AS} {k : Value → AS → Prop} (h : F9 t_0 pid_1 s k) : kCall Try.prog 9 [t_0, pid_1] s k := denFn_ok [] (cast (F9_ok t_0 pid_1 s k).symm h)
theorem k9_ok : okFn Try.prog 9 = true := by kernel_rfl

/- (*conch procs.Table).Parent -/
def F10 (t_0 pid_1 : Value) (s : AS) (k : Value → AS → Prop) : Prop :=
 kCall Try.prog 25 [t_0, pid_1] s fun v7 s =>
 kGet 1 v7 fun v8 =>
 k v8 s
theorem F10_ok (t_0 pid_1 : Value) (s : AS) (k : Value → AS → Prop) : denFn Try.prog [] 10 [t_0, pid_1] s k = F10 t_0 pid_1 s k := by kernel_rfl
theorem f10 {t_0 pid_1 : Value} {s : AS} {k : Value → AS → Prop} (h : F10 t_0 pid_1 s k) : kCall Try.prog 10 [t_0, pid_1] s k := denFn_ok [] (cast (F10_ok t_0 pid_1 s k).symm h)
theorem k10_ok : okFn Try.prog 10 = true := by kernel_rfl

/- conch conchlaw17.orphans -/
def F11 (t_0 : Value) (s : AS) (k : Value → AS → Prop) : Prop :=
 kJoin (fun _ s =>
 k (.bool true) s) fun J1 =>
 kLoop (fun again2 xs s =>
 un1 xs fun p_3 =>
 kJoin (fun _ s =>
 kJoin (fun _ s =>
 kBin .add p_3 (.int .i64 1) fun v8 =>
 again2 [v8] s) fun J4 =>
 kCall Try.prog 9 [t_0, p_3] s fun v11 s =>
 kBin .eql v11 (.int .i64 3) fun v12 =>
 kCond v12 (
 kCall Try.prog 10 [t_0, p_3] s fun v16 s =>
 kCall Try.prog 9 [t_0, v16] s fun v17 s =>
 kBin .neq v17 (.int .i64 1) fun v19 =>
 kGrd v19 true (fun k =>
 kBin .neq v17 (.int .i64 2) fun v22 =>
 k [v22] s) [undef] s fun xs s =>
 un1 xs fun v22 =>
 kPick v19 v22 (.bool false) fun v23 =>
 kCond v23 (
 k (.bool false) s) (
 J4 [] s)) (
 J4 [] s)) fun J3 =>
 kBin .leq p_3 (.int .i64 50) fun v6 =>
 kCond v6 (
 J3 [] s) (
 J1 [] s)) [(.int .i64 1)] s
theorem F11_ok (t_0 : Value) (s : AS) (k : Value → AS → Prop) : denFn Try.prog [] 11 [t_0] s k = F11 t_0 s k := by kernel_rfl
theorem f11 {t_0 : Value} {s : AS} {k : Value → AS → Prop} (h : F11 t_0 s k) : kCall Try.prog 11 [t_0] s k := denFn_ok [] (cast (F11_ok t_0 s k).symm h)
theorem k11_ok : okFn Try.prog 11 = true := by kernel_rfl

/- conch conchlaw17.awake -/
def F12 (s : AS) (k : Value → AS → Prop) : Prop :=
 kCall Try.prog 7 [(.int .i64 9)] s fun v18 s =>
 kExt 0 v18 fun v19 =>
 kExt 1 v18 fun v20 =>
 kJoin (fun _ s =>
 kCall Try.prog 20 [v19, (.int .i64 0)] s fun v29 s =>
 kExt 0 v29 fun v30 =>
 kExt 1 v29 fun v31 =>
 kCall Try.prog 20 [v19, (.int .i64 1)] s fun v34 s =>
 kExt 0 v34 fun v35 =>
 kExt 1 v34 fun v36 =>
 kCall Try.prog 20 [v19, (.int .i64 2)] s fun v39 s =>
 kExt 0 v39 fun v40 =>
 kExt 1 v39 fun v41 =>
 kCall Try.prog 24 [v19, (.int .i64 2), (.int .i64 7)] s fun v43 s =>
 kCall Try.prog 10 [v19, (.int .i64 3)] s fun v45 s =>
 kCall Try.prog 21 [v19, (.int .i64 1), (.int .i64 0)] s fun v48 s =>
 kExt 0 v48 fun v49 =>
 kExt 1 v48 fun v50 =>
 kExt 2 v48 fun v51 =>
 kCall Try.prog 21 [v19, (.int .i64 1), (.int .i64 0)] s fun v54 s =>
 kExt 0 v54 fun v55 =>
 kExt 1 v54 fun v56 =>
 kExt 2 v54 fun v57 =>
 kBin .eql v30 (.int .i64 1) fun v59 =>
 kGrd v59 true (fun k =>
 kBin .eql v35 (.int .i64 2) fun v62 =>
 k [v62] s) [undef] s fun xs s =>
 un1 xs fun v62 =>
 kPick v59 v62 (.bool false) fun v63 =>
 kGrd v63 true (fun k =>
 kBin .eql v40 (.int .i64 3) fun v66 =>
 k [v66] s) [undef] s fun xs s =>
 un1 xs fun v66 =>
 kPick v63 v66 (.bool false) fun v67 =>
 kGrd v67 true (fun k =>
 kBin .eql v43 (.int .i64 0) fun v70 =>
 k [v70] s) [undef] s fun xs s =>
 un1 xs fun v70 =>
 kPick v67 v70 (.bool false) fun v71 =>
 kGrd v71 true (fun k =>
 kBin .eql v45 (.int .i64 1) fun v74 =>
 k [v74] s) [undef] s fun xs s =>
 un1 xs fun v74 =>
 kPick v71 v74 (.bool false) fun v75 =>
 kGrd v75 true (fun k =>
 kBin .eql v49 (.int .i64 2) fun v78 =>
 k [v78] s) [undef] s fun xs s =>
 un1 xs fun v78 =>
 kPick v75 v78 (.bool false) fun v79 =>
 kGrd v79 true (fun k =>
 kBin .eql v50 (.int .i64 7) fun v82 =>
 k [v82] s) [undef] s fun xs s =>
 un1 xs fun v82 =>
 kPick v79 v82 (.bool false) fun v83 =>
 kGrd v83 true (fun k =>
 kBin .eql v51 (.int .i64 0) fun v86 =>
 k [v86] s) [undef] s fun xs s =>
 un1 xs fun v86 =>
 kPick v83 v86 (.bool false) fun v87 =>
 kGrd v87 true (fun k =>
 kBin .eql v57 (.int .i64 30) fun v90 =>
 k [v90] s) [undef] s fun xs s =>
 un1 xs fun v90 =>
 kPick v87 v90 (.bool false) fun v91 =>
 k v91 s) fun J1 =>
 kBin .neq v20 (.int .i64 0) fun v22 =>
 kGrd v22 false (fun k =>
 kEq 0 false v19 (.pointer none) fun v25 =>
 k [v25] s) [undef] s fun xs s =>
 un1 xs fun v25 =>
 kPick v22 (.bool true) v25 fun v26 =>
 kCond v26 (
 k (.bool false) s) (
 J1 [] s)
theorem F12_ok (s : AS) (k : Value → AS → Prop) : denFn Try.prog [] 12 [] s k = F12 s k := by kernel_rfl
theorem f12 {s : AS} {k : Value → AS → Prop} (h : F12 s k) : kCall Try.prog 12 [] s k := denFn_ok [] (cast (F12_ok s k).symm h)
theorem k12_ok : okFn Try.prog 12 = true := by kernel_rfl

/- (*conch procs.Table).Many -/
def F13 (t_0 : Value) (s : AS) (k : Value → AS → Prop) : Prop :=
 kJoin (fun _ s =>
 kNck t_0 fun v6 =>
 kFld 1 v6 fun v7 =>
 kLd s v7 fun v8 =>
 kGen Try.prog (.blt .len [54] 3) [v8] s fun v9 s =>
 k v9 s) fun J1 =>
 kEq 0 false t_0 (.pointer none) fun v4 =>
 kCond v4 (
 k (.int .i64 0) s) (
 J1 [] s)
theorem F13_ok (t_0 : Value) (s : AS) (k : Value → AS → Prop) : denFn Try.prog [] 13 [t_0] s k = F13 t_0 s k := by kernel_rfl
theorem f13 {t_0 : Value} {s : AS} {k : Value → AS → Prop} (h : F13 t_0 s k) : kCall Try.prog 13 [t_0] s k := denFn_ok [] (cast (F13_ok t_0 s k).symm h)
theorem k13_ok : okFn Try.prog 13 = true := by kernel_rfl

/- conch conchref17.New -/
def F14 (most_0 : Value) (s : AS) (k : Value → AS → Prop) : Prop :=
 kJoin (fun _ s =>
 kBin .add most_0 (.int .i64 1) fun v11 =>
 kMks s 3 24 [(.int .i64 0), (.int .i64 0), (.int .i64 0)] v11 v11 fun v12 s =>
 kBuild [(.slice none 0 0)] [(0, 1, v12)] fun v13 =>
 kNew s (cellsV v13) fun v14 s =>
 k (.tuple #[v14, (.int .i64 0)]) s) fun J1 =>
 kBin .lss most_0 (.int .i64 1) fun v5 =>
 kGrd v5 false (fun k =>
 kBin .gtr most_0 (.int .i64 1024) fun v8 =>
 k [v8] s) [undef] s fun xs s =>
 un1 xs fun v8 =>
 kPick v5 (.bool true) v8 fun v9 =>
 kCond v9 (
 k (.tuple #[(.pointer none), (.int .i64 1)]) s) (
 J1 [] s)
theorem F14_ok (most_0 : Value) (s : AS) (k : Value → AS → Prop) : denFn Try.prog [] 14 [most_0] s k = F14 most_0 s k := by kernel_rfl
theorem f14 {most_0 : Value} {s : AS} {k : Value → AS → Prop} (h : F14 most_0 s k) : kCall Try.prog 14 [most_0] s k := denFn_ok [] (cast (F14_ok most_0 s k).symm h)
theorem k14_ok : okFn Try.prog 14 = true := by kernel_rfl

/- conch conchlaw17.plain -/
def F15 (t_0 o_1 : Value) (s : AS) (k : Value → AS → Prop) : Prop :=
 kNew s (cellsV o_1) fun o_3 s =>
 kJoin (fun _ s =>
 kFld 1 o_3 fun v43 =>
 kLd s v43 fun v44 =>
 kFld 2 o_3 fun v45 =>
 kLd s v45 fun v46 =>
 kCall Try.prog 29 [t_0, v44, v46] s fun v47 s =>
 kExt 0 v47 fun v48 =>
 kExt 1 v47 fun v49 =>
 kExt 2 v47 fun v50 =>
 k (.tuple #[v48, v49, v50]) s) fun J1 =>
 kFld 0 o_3 fun v9 =>
 kLd s v9 fun v10 =>
 kBin .eql v10 (.int .i64 0) fun v12 =>
 kCond v12 (
 kFld 1 o_3 fun v15 =>
 kLd s v15 fun v16 =>
 kCall Try.prog 26 [t_0, v16] s fun v17 s =>
 kExt 0 v17 fun v18 =>
 kExt 1 v17 fun v19 =>
 k (.tuple #[v18, (.int .i64 0), v19]) s) (
 kBin .eql v10 (.int .i64 1) fun v23 =>
 kCond v23 (
 kFld 1 o_3 fun v25 =>
 kLd s v25 fun v26 =>
 kCall Try.prog 27 [t_0, v26, (.int .i64 2)] s fun v27 s =>
 k (.tuple #[(.int .i64 0), (.int .i64 0), v27]) s) (
 kBin .eql v10 (.int .i64 2) fun v29 =>
 kCond v29 (
 kFld 1 o_3 fun v31 =>
 kLd s v31 fun v32 =>
 kCall Try.prog 27 [t_0, v32, (.int .i64 1)] s fun v33 s =>
 k (.tuple #[(.int .i64 0), (.int .i64 0), v33]) s) (
 kBin .eql v10 (.int .i64 3) fun v35 =>
 kCond v35 (
 kFld 1 o_3 fun v37 =>
 kLd s v37 fun v38 =>
 kFld 2 o_3 fun v39 =>
 kLd s v39 fun v40 =>
 kCall Try.prog 28 [t_0, v38, v40] s fun v41 s =>
 k (.tuple #[(.int .i64 0), (.int .i64 0), v41]) s) (
 J1 [] s))))
theorem F15_ok (t_0 o_1 : Value) (s : AS) (k : Value → AS → Prop) : denFn Try.prog [] 15 [t_0, o_1] s k = F15 t_0 o_1 s k := by kernel_rfl
theorem f15 {t_0 o_1 : Value} {s : AS} {k : Value → AS → Prop} (h : F15 t_0 o_1 s k) : kCall Try.prog 15 [t_0, o_1] s k := denFn_ok [] (cast (F15_ok t_0 o_1 s k).symm h)
theorem k15_ok : okFn Try.prog 15 = true := by kernel_rfl

/- (*conch conchref17.Table).Many -/
def F16 (t_0 : Value) (s : AS) (k : Value → AS → Prop) : Prop :=
 kJoin (fun xs s =>
 un1 xs fun n_3 =>
 k n_3 s) fun J1 =>
 kLoop (fun again2 xs s =>
 un2 xs fun n_3 i_4 =>
 kJoin (fun _ s =>
 kJoin (fun xs s =>
 un1 xs fun n_3 =>
 kBin .add i_4 (.int .i64 1) fun v13 =>
 again2 [n_3, v13] s) fun J4 =>
 kNck t_0 fun v15 =>
 kFld 0 v15 fun v16 =>
 kLd s v16 fun v17 =>
 kIdx 3 v17 i_4 fun v19 =>
 kFld 0 v19 fun v20 =>
 kLd s v20 fun v21 =>
 kBin .gtr v21 (.int .i64 0) fun v22 =>
 kCond v22 (
 kBin .add n_3 (.int .i64 1) fun v24 =>
 J4 [v24] s) (
 J4 [n_3] s)) fun J3 =>
 kNck t_0 fun v7 =>
 kFld 0 v7 fun v8 =>
 kLd s v8 fun v9 =>
 kLen false v9 fun v10 =>
 kBin .lss i_4 v10 fun v11 =>
 kCond v11 (
 J3 [] s) (
 J1 [n_3] s)) [(.int .i64 0), (.int .i64 1)] s
theorem F16_ok (t_0 : Value) (s : AS) (k : Value → AS → Prop) : denFn Try.prog [] 16 [t_0] s k = F16 t_0 s k := by kernel_rfl
theorem f16 {t_0 : Value} {s : AS} {k : Value → AS → Prop} (h : F16 t_0 s k) : kCall Try.prog 16 [t_0] s k := denFn_ok [] (cast (F16_ok t_0 s k).symm h)
theorem k16_ok : okFn Try.prog 16 = true := by kernel_rfl

/- (*conch conchref17.Table).Get -/
def F17 (t_0 pid_1 : Value) (s : AS) (k : Value → AS → Prop) : Prop :=
 kNew s [(.int .i64 0), (.int .i64 0), (.int .i64 0)] fun v4 s =>
 kJoin (fun _ s =>
 kNck t_0 fun v18 =>
 kFld 0 v18 fun v19 =>
 kLd s v19 fun v20 =>
 kIdx 3 v20 pid_1 fun v22 =>
 kLdN s 3 v22 fun v23 =>
 kSt s 3 v4 v23 fun s =>
 kLdN s 3 v4 fun r0 =>
 k r0 s) fun J1 =>
 kBin .lss pid_1 (.int .i64 1) fun v6 =>
 kGrd v6 false (fun k =>
 kNck t_0 fun v10 =>
 kFld 0 v10 fun v11 =>
 kLd s v11 fun v12 =>
 kLen false v12 fun v13 =>
 kBin .geq pid_1 v13 fun v14 =>
 k [v14] s) [undef] s fun xs s =>
 un1 xs fun v14 =>
 kPick v6 (.bool true) v14 fun v15 =>
 kCond v15 (
 kBuild [(.int .i64 0), (.int .i64 0), (.int .i64 0)] [] fun v16 =>
 kSt s 3 v4 v16 fun s =>
 kLdN s 3 v4 fun r0 =>
 k r0 s) (
 J1 [] s)
theorem F17_ok (t_0 pid_1 : Value) (s : AS) (k : Value → AS → Prop) : denFn Try.prog [] 17 [t_0, pid_1] s k = F17 t_0 pid_1 s k := by kernel_rfl
theorem f17 {t_0 pid_1 : Value} {s : AS} {k : Value → AS → Prop} (h : F17 t_0 pid_1 s k) : kCall Try.prog 17 [t_0, pid_1] s k := denFn_ok [] (cast (F17_ok t_0 pid_1 s k).symm h)
theorem k17_ok : okFn Try.prog 17 = true := by kernel_rfl

/- (*conch procs.Table).Ready -/
def F18 (t_0 : Value) (s : AS) (k : Value → AS → Prop) : Prop :=
 kJoin (fun _ s =>
 kJoin (fun xs s =>
 un1 xs fun l_3 =>
 kCall Try.prog 30 [l_3] s fun v28 s =>
 k l_3 s) fun J2 =>
 kNck t_0 fun v9 =>
 kFld 1 v9 fun v10 =>
 kLd s v10 fun v11 =>
 kGen Try.prog (.rng 54) [v11] s fun v12 s =>
 kLoop (fun again3 xs s =>
 un1 xs fun l_3 =>
 kGen Try.prog (.nxt false 0) [v12] s fun v13 s =>
 kExt 0 v13 fun v14 =>
 kJoin (fun _ s =>
 kGen Try.prog .ent [v12] s fun v15 s =>
 kExt 0 v15 fun v16 =>
 kExt 1 v15 fun v17 =>
 kNck v17 fun v19 =>
 kFld 0 v19 fun v20 =>
 kLd s v20 fun v21 =>
 kBin .eql v21 (.int .i64 1) fun v22 =>
 kCond v22 (
 kBsl s 1 [(.int .i64 0)] [(0, 1, v16)] fun v25 s =>
 kApp Try.prog 45 45 l_3 v25 s fun v26 s =>
 again3 [v26] s) (
 again3 [l_3] s)) fun J4 =>
 kCond v14 (
 J4 [] s) (
 J2 [l_3] s)) [(.slice none 0 0)] s) fun J1 =>
 kEq 0 false t_0 (.pointer none) fun v7 =>
 kCond v7 (
 k (.slice none 0 0) s) (
 J1 [] s)
theorem F18_ok (t_0 : Value) (s : AS) (k : Value → AS → Prop) : denFn Try.prog [] 18 [t_0] s k = F18 t_0 s k := by kernel_rfl
theorem f18 {t_0 : Value} {s : AS} {k : Value → AS → Prop} (h : F18 t_0 s k) : kCall Try.prog 18 [t_0] s k := denFn_ok [] (cast (F18_ok t_0 s k).symm h)
theorem k18_ok : okFn Try.prog 18 = true := by kernel_rfl

/- (*conch conchref17.Table).Ready -/
def F19 (t_0 : Value) (s : AS) (k : Value → AS → Prop) : Prop :=
 kJoin (fun xs s =>
 un1 xs fun out_3 =>
 k out_3 s) fun J1 =>
 kLoop (fun again2 xs s =>
 un2 xs fun out_3 i_4 =>
 kJoin (fun _ s =>
 kJoin (fun xs s =>
 un1 xs fun out_3 =>
 kBin .add i_4 (.int .i64 1) fun v13 =>
 again2 [out_3, v13] s) fun J4 =>
 kNck t_0 fun v15 =>
 kFld 0 v15 fun v16 =>
 kLd s v16 fun v17 =>
 kIdx 3 v17 i_4 fun v19 =>
 kFld 0 v19 fun v20 =>
 kLd s v20 fun v21 =>
 kBin .eql v21 (.int .i64 1) fun v22 =>
 kCond v22 (
 kBsl s 1 [(.int .i64 0)] [(0, 1, i_4)] fun v25 s =>
 kApp Try.prog 45 45 out_3 v25 s fun v26 s =>
 J4 [v26] s) (
 J4 [out_3] s)) fun J3 =>
 kNck t_0 fun v7 =>
 kFld 0 v7 fun v8 =>
 kLd s v8 fun v9 =>
 kLen false v9 fun v10 =>
 kBin .lss i_4 v10 fun v11 =>
 kCond v11 (
 J3 [] s) (
 J1 [out_3] s)) [(.slice none 0 0), (.int .i64 1)] s
theorem F19_ok (t_0 : Value) (s : AS) (k : Value → AS → Prop) : denFn Try.prog [] 19 [t_0] s k = F19 t_0 s k := by kernel_rfl
theorem f19 {t_0 : Value} {s : AS} {k : Value → AS → Prop} (h : F19 t_0 s k) : kCall Try.prog 19 [t_0] s k := denFn_ok [] (cast (F19_ok t_0 s k).symm h)
theorem k19_ok : okFn Try.prog 19 = true := by kernel_rfl

/- (*conch procs.Table).Fork -/
def F20 (t_0 parent_1 : Value) (s : AS) (k : Value → AS → Prop) : Prop :=
 kJoin (fun _ s =>
 kJoin (fun _ s =>
 k (.tuple #[(.int .i64 0), (.int .i64 32)]) s) fun J2 =>
 kLoop (fun again3 xs s =>
 un1 xs fun pid_8 =>
 kJoin (fun _ s =>
 kJoin (fun _ s =>
 kBin .add pid_8 (.int .i64 1) fun v33 =>
 again3 [v33] s) fun J5 =>
 kNck t_0 fun v35 =>
 kFld 1 v35 fun v36 =>
 kLd s v36 fun v37 =>
 kGen Try.prog (.lk 54 false) [v37, pid_8] s fun v39 s =>
 kEq 0 false v39 (.pointer none) fun v40 =>
 kCond v40 (
 kNck t_0 fun v42 =>
 kFld 1 v42 fun v43 =>
 kLd s v43 fun v44 =>
 kBuild [(.int .i64 0), (.int .i64 0), (.int .i64 0)] [(0, 1, (.int .i64 1)), (1, 1, parent_1)] fun v47 =>
 kNew s (cellsV v47) fun v48 s =>
 kGen Try.prog (.mup 54) [v44, pid_8, v48] s fun _ s =>
 k (.tuple #[pid_8, (.int .i64 0)]) s) (
 J5 [] s)) fun J4 =>
 kNck t_0 fun v28 =>
 kFld 0 v28 fun v29 =>
 kLd s v29 fun v30 =>
 kBin .leq pid_8 v30 fun v31 =>
 kCond v31 (
 J4 [] s) (
 J2 [] s)) [(.int .i64 1)] s) fun J1 =>
 kCall Try.prog 31 [t_0, parent_1] s fun v12 s =>
 kExt 0 v12 fun v13 =>
 kExt 1 v12 fun v14 =>
 kBin .eql v14 (.int .i64 2) fun v16 =>
 kGrd v16 false (fun k =>
 kBin .neq v14 (.int .i64 0) fun v19 =>
 k [v19] s) [undef] s fun xs s =>
 un1 xs fun v20 =>
 kGrd v20 true (fun k =>
 kBin .neq parent_1 (.int .i64 0) fun v22 =>
 k [v22] s) [undef] s fun xs s =>
 un1 xs fun v22 =>
 kGrd v16 false (fun k =>
 kPick v20 v22 (.bool false) fun v23 =>
 k [v23] s) [undef] s fun xs s =>
 un1 xs fun v23 =>
 kPick v16 (.bool true) v23 fun v24 =>
 kCond v24 (
 k (.tuple #[(.int .i64 0), v14]) s) (
 J1 [] s)
theorem F20_ok (t_0 parent_1 : Value) (s : AS) (k : Value → AS → Prop) : denFn Try.prog [] 20 [t_0, parent_1] s k = F20 t_0 parent_1 s k := by kernel_rfl
theorem f20 {t_0 parent_1 : Value} {s : AS} {k : Value → AS → Prop} (h : F20 t_0 parent_1 s k) : kCall Try.prog 20 [t_0, parent_1] s k := denFn_ok [] (cast (F20_ok t_0 parent_1 s k).symm h)
theorem k20_ok : okFn Try.prog 20 = true := by kernel_rfl

/- (*conch procs.Table).Wait -/
def F21 (t_0 pid_1 child_2 : Value) (s : AS) (k : Value → AS → Prop) : Prop :=
 kJoin (fun _ s =>
 kJoin (fun _ s =>
 kJoin (fun xs s =>
 un2 xs fun found_11 least_12 =>
 kJoin (fun _ s =>
 kNck t_0 fun v74 =>
 kFld 1 v74 fun v75 =>
 kLd s v75 fun v76 =>
 kGen Try.prog (.lk 54 false) [v76, least_12] s fun v78 s =>
 kNck v78 fun v79 =>
 kFld 2 v79 fun v80 =>
 kLd s v80 fun v81 =>
 kNck t_0 fun v83 =>
 kFld 1 v83 fun v84 =>
 kLd s v84 fun v85 =>
 kGen Try.prog (.blt .delete [54, 3] 0) [v85, least_12] s fun _ s =>
 k (.tuple #[least_12, v81, (.int .i64 0)]) s) fun J4 =>
 kUn .not found_11 fun v69 =>
 kCond v69 (
 k (.tuple #[(.int .i64 0), (.int .i64 0), (.int .i64 31)]) s) (
 kBin .eql least_12 (.int .i64 0) fun v72 =>
 kCond v72 (
 k (.tuple #[(.int .i64 0), (.int .i64 0), (.int .i64 30)]) s) (
 J4 [] s))) fun J3 =>
 kNck t_0 fun v28 =>
 kFld 1 v28 fun v29 =>
 kLd s v29 fun v30 =>
 kGen Try.prog (.rng 54) [v30] s fun v31 s =>
 kLoop (fun again5 xs s =>
 un2 xs fun found_11 least_12 =>
 kGen Try.prog (.nxt false 0) [v31] s fun v32 s =>
 kExt 0 v32 fun v33 =>
 kJoin (fun _ s =>
 kGen Try.prog .ent [v31] s fun v34 s =>
 kExt 0 v34 fun v35 =>
 kExt 1 v34 fun v36 =>
 kJoin (fun _ s =>
 kNck v36 fun v53 =>
 kFld 0 v53 fun v54 =>
 kLd s v54 fun v55 =>
 kBin .eql v55 (.int .i64 3) fun v56 =>
 kGrd v56 true (fun k =>
 kBin .eql least_12 (.int .i64 0) fun v59 =>
 k [v59] s) [undef] s fun xs s =>
 un1 xs fun v60 =>
 kGrd v60 false (fun k =>
 kBin .lss v35 least_12 fun v63 =>
 k [v63] s) [undef] s fun xs s =>
 un1 xs fun v63 =>
 kGrd v56 true (fun k =>
 kPick v60 (.bool true) v63 fun v64 =>
 k [v64] s) [undef] s fun xs s =>
 un1 xs fun v64 =>
 kPick v56 v64 (.bool false) fun v65 =>
 kCond v65 (
 again5 [(.bool true), v35] s) (
 again5 [(.bool true), least_12] s)) fun J7 =>
 kNck v36 fun v38 =>
 kFld 1 v38 fun v39 =>
 kLd s v39 fun v40 =>
 kBin .neq v40 pid_1 fun v42 =>
 kGrd v42 false (fun k =>
 kBin .neq child_2 (.int .i64 0) fun v45 =>
 k [v45] s) [undef] s fun xs s =>
 un1 xs fun v46 =>
 kGrd v46 true (fun k =>
 kBin .neq child_2 v35 fun v49 =>
 k [v49] s) [undef] s fun xs s =>
 un1 xs fun v49 =>
 kGrd v42 false (fun k =>
 kPick v46 v49 (.bool false) fun v50 =>
 k [v50] s) [undef] s fun xs s =>
 un1 xs fun v50 =>
 kPick v42 (.bool true) v50 fun v51 =>
 kCond v51 (
 again5 [found_11, least_12] s) (
 J7 [] s)) fun J6 =>
 kCond v33 (
 J6 [] s) (
 J3 [found_11, least_12] s)) [(.bool false), (.int .i64 0)] s) fun J2 =>
 kBin .lss child_2 (.int .i64 0) fun v26 =>
 kCond v26 (
 k (.tuple #[(.int .i64 0), (.int .i64 0), (.int .i64 1)]) s) (
 J2 [] s)) fun J1 =>
 kCall Try.prog 31 [t_0, pid_1] s fun v19 s =>
 kExt 0 v19 fun v20 =>
 kExt 1 v19 fun v21 =>
 kBin .neq v21 (.int .i64 0) fun v23 =>
 kCond v23 (
 k (.tuple #[(.int .i64 0), (.int .i64 0), v21]) s) (
 J1 [] s)
theorem F21_ok (t_0 pid_1 child_2 : Value) (s : AS) (k : Value → AS → Prop) : denFn Try.prog [] 21 [t_0, pid_1, child_2] s k = F21 t_0 pid_1 child_2 s k := by kernel_rfl
theorem f21 {t_0 pid_1 child_2 : Value} {s : AS} {k : Value → AS → Prop} (h : F21 t_0 pid_1 child_2 s k) : kCall Try.prog 21 [t_0, pid_1, child_2] s k := denFn_ok [] (cast (F21_ok t_0 pid_1 child_2 s k).symm h)
theorem k21_ok : okFn Try.prog 21 = true := by kernel_rfl

/- (*conch procs.Table).Block -/
def F22 (t_0 pid_1 : Value) (s : AS) (k : Value → AS → Prop) : Prop :=
 kCall Try.prog 32 [t_0, pid_1, (.int .i64 2)] s fun v7 s =>
 k v7 s
theorem F22_ok (t_0 pid_1 : Value) (s : AS) (k : Value → AS → Prop) : denFn Try.prog [] 22 [t_0, pid_1] s k = F22 t_0 pid_1 s k := by kernel_rfl
theorem f22 {t_0 pid_1 : Value} {s : AS} {k : Value → AS → Prop} (h : F22 t_0 pid_1 s k) : kCall Try.prog 22 [t_0, pid_1] s k := denFn_ok [] (cast (F22_ok t_0 pid_1 s k).symm h)
theorem k22_ok : okFn Try.prog 22 = true := by kernel_rfl

/- (*conch procs.Table).Wake -/
def F23 (t_0 pid_1 : Value) (s : AS) (k : Value → AS → Prop) : Prop :=
 kCall Try.prog 32 [t_0, pid_1, (.int .i64 1)] s fun v7 s =>
 k v7 s
theorem F23_ok (t_0 pid_1 : Value) (s : AS) (k : Value → AS → Prop) : denFn Try.prog [] 23 [t_0, pid_1] s k = F23 t_0 pid_1 s k := by kernel_rfl
theorem f23 {t_0 pid_1 : Value} {s : AS} {k : Value → AS → Prop} (h : F23 t_0 pid_1 s k) : kCall Try.prog 23 [t_0, pid_1] s k := denFn_ok [] (cast (F23_ok t_0 pid_1 s k).symm h)
theorem k23_ok : okFn Try.prog 23 = true := by kernel_rfl

/- (*conch procs.Table).Exit -/
def F24 (t_0 pid_1 status_2 : Value) (s : AS) (k : Value → AS → Prop) : Prop :=
 kCall Try.prog 31 [t_0, pid_1] s fun v16 s =>
 kExt 0 v16 fun v17 =>
 kExt 1 v16 fun v18 =>
 kJoin (fun _ s =>
 kJoin (fun xs s =>
 un1 xs fun heir_9 =>
 kNck v17 fun v43 =>
 kFld 0 v43 fun v44 =>
 kSt s 1 v44 (.int .i64 3) fun s =>
 kNck v17 fun v45 =>
 kFld 2 v45 fun v46 =>
 kSt s 1 v46 status_2 fun s =>
 kJoin (fun _ s =>
 kNck v17 fun v81 =>
 kFld 1 v81 fun v82 =>
 kLd s v82 fun v83 =>
 kCall Try.prog 34 [t_0, pid_1, v83] s fun v84 s =>
 k (.int .i64 0) s) fun J3 =>
 kNck t_0 fun v48 =>
 kFld 1 v48 fun v49 =>
 kLd s v49 fun v50 =>
 kGen Try.prog (.rng 54) [v50] s fun v51 s =>
 kLoop (fun again4 _ s =>
 kGen Try.prog (.nxt false 0) [v51] s fun v52 s =>
 kExt 0 v52 fun v53 =>
 kJoin (fun _ s =>
 kGen Try.prog .ent [v51] s fun v54 s =>
 kExt 0 v54 fun v55 =>
 kExt 1 v54 fun v56 =>
 kNck v56 fun v63 =>
 kFld 1 v63 fun v64 =>
 kLd s v64 fun v65 =>
 kBin .neq v65 pid_1 fun v67 =>
 kCond v67 (
 again4 [] s) (
 kNck v56 fun v70 =>
 kFld 0 v70 fun v71 =>
 kLd s v71 fun v72 =>
 kBin .eql v72 (.int .i64 3) fun v73 =>
 kCond v73 (
 kCall Try.prog 34 [t_0, v55, heir_9] s fun v77 s =>
 again4 [] s) (
 kNck v56 fun v59 =>
 kFld 1 v59 fun v60 =>
 kSt s 1 v60 heir_9 fun s =>
 again4 [] s))) fun J5 =>
 kCond v53 (
 J5 [] s) (
 J3 [] s)) [] s) fun J2 =>
 kNck t_0 fun v23 =>
 kFld 1 v23 fun v24 =>
 kLd s v24 fun v25 =>
 kGen Try.prog (.lk 54 false) [v25, (.int .i64 1)] s fun v26 s =>
 kBin .neq pid_1 (.int .i64 1) fun v28 =>
 kGrd v28 true (fun k =>
 kCall Try.prog 33 [v26] s fun v31 s =>
 k [v31] s) [undef] s fun xs s =>
 un1 xs fun v31 =>
 kPick v28 v31 (.bool false) fun v32 =>
 kGrd v32 true (fun k =>
 kNck v26 fun v35 =>
 kFld 1 v35 fun v36 =>
 kLd s v36 fun v37 =>
 kBin .eql v37 (.int .i64 0) fun v38 =>
 k [v38] s) [undef] s fun xs s =>
 un1 xs fun v38 =>
 kPick v32 v38 (.bool false) fun v39 =>
 kCond v39 (
 J2 [(.int .i64 1)] s) (
 J2 [(.int .i64 0)] s)) fun J1 =>
 kBin .neq v18 (.int .i64 0) fun v20 =>
 kCond v20 (
 k v18 s) (
 J1 [] s)
theorem F24_ok (t_0 pid_1 status_2 : Value) (s : AS) (k : Value → AS → Prop) : denFn Try.prog [] 24 [t_0, pid_1, status_2] s k = F24 t_0 pid_1 status_2 s k := by kernel_rfl
theorem f24 {t_0 pid_1 status_2 : Value} {s : AS} {k : Value → AS → Prop} (h : F24 t_0 pid_1 status_2 s k) : kCall Try.prog 24 [t_0, pid_1, status_2] s k := denFn_ok [] (cast (F24_ok t_0 pid_1 status_2 s k).symm h)
theorem k24_ok : okFn Try.prog 24 = true := by kernel_rfl

/- (*conch procs.Table).at -/
def F25 (t_0 pid_1 : Value) (s : AS) (k : Value → AS → Prop) : Prop :=
 kNew s [(.int .i64 0), (.int .i64 0), (.int .i64 0)] fun v4 s =>
 kJoin (fun _ s =>
 kNck t_0 fun v18 =>
 kFld 1 v18 fun v19 =>
 kLd s v19 fun v20 =>
 kGen Try.prog (.lk 54 false) [v20, pid_1] s fun v22 s =>
 kNck v22 fun v23 =>
 kLdN s 3 v23 fun v24 =>
 kSt s 3 v4 v24 fun s =>
 kLdN s 3 v4 fun r0 =>
 k r0 s) fun J1 =>
 kEq 0 false t_0 (.pointer none) fun v6 =>
 kGrd v6 false (fun k =>
 kNck t_0 fun v9 =>
 kFld 1 v9 fun v10 =>
 kLd s v10 fun v11 =>
 kGen Try.prog (.lk 54 false) [v11, pid_1] s fun v13 s =>
 kEq 0 false v13 (.pointer none) fun v14 =>
 k [v14] s) [undef] s fun xs s =>
 un1 xs fun v14 =>
 kPick v6 (.bool true) v14 fun v15 =>
 kCond v15 (
 kBuild [(.int .i64 0), (.int .i64 0), (.int .i64 0)] [] fun v16 =>
 kSt s 3 v4 v16 fun s =>
 kLdN s 3 v4 fun r0 =>
 k r0 s) (
 J1 [] s)
theorem F25_ok (t_0 pid_1 : Value) (s : AS) (k : Value → AS → Prop) : denFn Try.prog [] 25 [t_0, pid_1] s k = F25 t_0 pid_1 s k := by kernel_rfl
theorem f25 {t_0 pid_1 : Value} {s : AS} {k : Value → AS → Prop} (h : F25 t_0 pid_1 s k) : kCall Try.prog 25 [t_0, pid_1] s k := denFn_ok [] (cast (F25_ok t_0 pid_1 s k).symm h)
theorem k25_ok : okFn Try.prog 25 = true := by kernel_rfl

/- (*conch conchref17.Table).Fork -/
def F26 (t_0 parent_1 : Value) (s : AS) (k : Value → AS → Prop) : Prop :=
 kJoin (fun _ s =>
 kJoin (fun _ s =>
 k (.tuple #[(.int .i64 0), (.int .i64 32)]) s) fun J2 =>
 kLoop (fun again3 xs s =>
 un1 xs fun i_6 =>
 kJoin (fun _ s =>
 kJoin (fun _ s =>
 kBin .add i_6 (.int .i64 1) fun v23 =>
 again3 [v23] s) fun J5 =>
 kNck t_0 fun v25 =>
 kFld 0 v25 fun v26 =>
 kLd s v26 fun v27 =>
 kIdx 3 v27 i_6 fun v29 =>
 kFld 0 v29 fun v30 =>
 kLd s v30 fun v31 =>
 kBin .eql v31 (.int .i64 0) fun v32 =>
 kCond v32 (
 kNck t_0 fun v34 =>
 kFld 0 v34 fun v35 =>
 kLd s v35 fun v36 =>
 kBuild [(.int .i64 0), (.int .i64 0), (.int .i64 0)] [(0, 1, (.int .i64 1)), (1, 1, parent_1)] fun v39 =>
 kIdx 3 v36 i_6 fun v40 =>
 kSt s 3 v40 v39 fun s =>
 k (.tuple #[i_6, (.int .i64 0)]) s) (
 J5 [] s)) fun J4 =>
 kNck t_0 fun v17 =>
 kFld 0 v17 fun v18 =>
 kLd s v18 fun v19 =>
 kLen false v19 fun v20 =>
 kBin .lss i_6 v20 fun v21 =>
 kCond v21 (
 J4 [] s) (
 J2 [] s)) [(.int .i64 1)] s) fun J1 =>
 kBin .neq parent_1 (.int .i64 0) fun v8 =>
 kGrd v8 true (fun k =>
 kCall Try.prog 35 [t_0, parent_1] s fun v12 s =>
 kUn .not v12 fun v13 =>
 k [v13] s) [undef] s fun xs s =>
 un1 xs fun v13 =>
 kPick v8 v13 (.bool false) fun v14 =>
 kCond v14 (
 k (.tuple #[(.int .i64 0), (.int .i64 23)]) s) (
 J1 [] s)
theorem F26_ok (t_0 parent_1 : Value) (s : AS) (k : Value → AS → Prop) : denFn Try.prog [] 26 [t_0, parent_1] s k = F26 t_0 parent_1 s k := by kernel_rfl
theorem f26 {t_0 parent_1 : Value} {s : AS} {k : Value → AS → Prop} (h : F26 t_0 parent_1 s k) : kCall Try.prog 26 [t_0, parent_1] s k := denFn_ok [] (cast (F26_ok t_0 parent_1 s k).symm h)
theorem k26_ok : okFn Try.prog 26 = true := by kernel_rfl

/- (*conch conchref17.Table).Turn -/
def F27 (t_0 pid_1 state_2 : Value) (s : AS) (k : Value → AS → Prop) : Prop :=
 kJoin (fun _ s =>
 kNck t_0 fun v12 =>
 kFld 0 v12 fun v13 =>
 kLd s v13 fun v14 =>
 kIdx 3 v14 pid_1 fun v17 =>
 kFld 0 v17 fun v18 =>
 kSt s 1 v18 state_2 fun s =>
 k (.int .i64 0) s) fun J1 =>
 kCall Try.prog 35 [t_0, pid_1] s fun v9 s =>
 kUn .not v9 fun v10 =>
 kCond v10 (
 k (.int .i64 23) s) (
 J1 [] s)
theorem F27_ok (t_0 pid_1 state_2 : Value) (s : AS) (k : Value → AS → Prop) : denFn Try.prog [] 27 [t_0, pid_1, state_2] s k = F27 t_0 pid_1 state_2 s k := by kernel_rfl
theorem f27 {t_0 pid_1 state_2 : Value} {s : AS} {k : Value → AS → Prop} (h : F27 t_0 pid_1 state_2 s k) : kCall Try.prog 27 [t_0, pid_1, state_2] s k := denFn_ok [] (cast (F27_ok t_0 pid_1 state_2 s k).symm h)
theorem k27_ok : okFn Try.prog 27 = true := by kernel_rfl

/- (*conch conchref17.Table).Exit -/
def F28 (t_0 pid_1 status_2 : Value) (s : AS) (k : Value → AS → Prop) : Prop :=
 kJoin (fun _ s =>
 kJoin (fun xs s =>
 un1 xs fun heir_7 =>
 kJoin (fun _ s =>
 kNck t_0 fun v101 =>
 kFld 0 v101 fun v102 =>
 kLd s v102 fun v103 =>
 kIdx 3 v103 pid_1 fun v105 =>
 kFld 1 v105 fun v106 =>
 kLd s v106 fun v107 =>
 kNck t_0 fun v109 =>
 kFld 0 v109 fun v110 =>
 kLd s v110 fun v111 =>
 kBuild [(.int .i64 0), (.int .i64 0), (.int .i64 0)] [] fun v113 =>
 kIdx 3 v111 pid_1 fun v114 =>
 kSt s 3 v114 v113 fun s =>
 kJoin (fun _ s =>
 k (.int .i64 0) s) fun J4 =>
 kBin .neq v107 (.int .i64 0) fun v116 =>
 kCond v116 (
 kNck t_0 fun v118 =>
 kFld 0 v118 fun v119 =>
 kLd s v119 fun v120 =>
 kBuild [(.int .i64 0), (.int .i64 0), (.int .i64 0)] [(0, 1, (.int .i64 3)), (1, 1, v107), (2, 1, status_2)] fun v124 =>
 kIdx 3 v120 pid_1 fun v125 =>
 kSt s 3 v125 v124 fun s =>
 kCall Try.prog 36 [t_0, v107] s fun v128 s =>
 J4 [] s) (
 J4 [] s)) fun J3 =>
 kLoop (fun again5 xs s =>
 un1 xs fun i_8 =>
 kJoin (fun _ s =>
 kJoin (fun _ s =>
 kBin .add i_8 (.int .i64 1) fun v38 =>
 again5 [v38] s) fun J7 =>
 kJoin (fun _ s =>
 kNck t_0 fun v61 =>
 kFld 0 v61 fun v62 =>
 kLd s v62 fun v63 =>
 kIdx 3 v63 i_8 fun v66 =>
 kFld 1 v66 fun v67 =>
 kSt s 1 v67 heir_7 fun s =>
 kNck t_0 fun v69 =>
 kFld 0 v69 fun v70 =>
 kLd s v70 fun v71 =>
 kIdx 3 v71 i_8 fun v73 =>
 kFld 0 v73 fun v74 =>
 kLd s v74 fun v75 =>
 kBin .eql v75 (.int .i64 3) fun v76 =>
 kGrd v76 true (fun k =>
 kBin .eql heir_7 (.int .i64 0) fun v79 =>
 k [v79] s) [undef] s fun xs s =>
 un1 xs fun v79 =>
 kPick v76 v79 (.bool false) fun v80 =>
 kCond v80 (
 kNck t_0 fun v82 =>
 kFld 0 v82 fun v83 =>
 kLd s v83 fun v84 =>
 kBuild [(.int .i64 0), (.int .i64 0), (.int .i64 0)] [] fun v86 =>
 kIdx 3 v84 i_8 fun v87 =>
 kSt s 3 v87 v86 fun s =>
 J7 [] s) (
 kNck t_0 fun v89 =>
 kFld 0 v89 fun v90 =>
 kLd s v90 fun v91 =>
 kIdx 3 v91 i_8 fun v93 =>
 kFld 0 v93 fun v94 =>
 kLd s v94 fun v95 =>
 kBin .eql v95 (.int .i64 3) fun v96 =>
 kCond v96 (
 kCall Try.prog 36 [t_0, heir_7] s fun v99 s =>
 J7 [] s) (
 J7 [] s))) fun J8 =>
 kNck t_0 fun v40 =>
 kFld 0 v40 fun v41 =>
 kLd s v41 fun v42 =>
 kIdx 3 v42 i_8 fun v44 =>
 kFld 0 v44 fun v45 =>
 kLd s v45 fun v46 =>
 kBin .eql v46 (.int .i64 0) fun v47 =>
 kGrd v47 false (fun k =>
 kNck t_0 fun v50 =>
 kFld 0 v50 fun v51 =>
 kLd s v51 fun v52 =>
 kIdx 3 v52 i_8 fun v54 =>
 kFld 1 v54 fun v55 =>
 kLd s v55 fun v56 =>
 kBin .neq v56 pid_1 fun v58 =>
 k [v58] s) [undef] s fun xs s =>
 un1 xs fun v58 =>
 kPick v47 (.bool true) v58 fun v59 =>
 kCond v59 (
 J7 [] s) (
 J8 [] s)) fun J6 =>
 kNck t_0 fun v32 =>
 kFld 0 v32 fun v33 =>
 kLd s v33 fun v34 =>
 kLen false v34 fun v35 =>
 kBin .lss i_8 v35 fun v36 =>
 kCond v36 (
 J6 [] s) (
 J3 [] s)) [(.int .i64 1)] s) fun J2 =>
 kBin .neq pid_1 (.int .i64 1) fun v15 =>
 kGrd v15 true (fun k =>
 kCall Try.prog 35 [t_0, (.int .i64 1)] s fun v18 s =>
 k [v18] s) [undef] s fun xs s =>
 un1 xs fun v18 =>
 kPick v15 v18 (.bool false) fun v19 =>
 kGrd v19 true (fun k =>
 kNck t_0 fun v22 =>
 kFld 0 v22 fun v23 =>
 kLd s v23 fun v24 =>
 kIdx 3 v24 (.int .i64 1) fun v25 =>
 kFld 1 v25 fun v26 =>
 kLd s v26 fun v27 =>
 kBin .eql v27 (.int .i64 0) fun v28 =>
 k [v28] s) [undef] s fun xs s =>
 un1 xs fun v28 =>
 kPick v19 v28 (.bool false) fun v29 =>
 kCond v29 (
 J2 [(.int .i64 1)] s) (
 J2 [(.int .i64 0)] s)) fun J1 =>
 kCall Try.prog 35 [t_0, pid_1] s fun v12 s =>
 kUn .not v12 fun v13 =>
 kCond v13 (
 k (.int .i64 23) s) (
 J1 [] s)
theorem F28_ok (t_0 pid_1 status_2 : Value) (s : AS) (k : Value → AS → Prop) : denFn Try.prog [] 28 [t_0, pid_1, status_2] s k = F28 t_0 pid_1 status_2 s k := by kernel_rfl
theorem f28 {t_0 pid_1 status_2 : Value} {s : AS} {k : Value → AS → Prop} (h : F28 t_0 pid_1 status_2 s k) : kCall Try.prog 28 [t_0, pid_1, status_2] s k := denFn_ok [] (cast (F28_ok t_0 pid_1 status_2 s k).symm h)
theorem k28_ok : okFn Try.prog 28 = true := by kernel_rfl

/- (*conch conchref17.Table).Wait -/
def F29 (t_0 pid_1 child_2 : Value) (s : AS) (k : Value → AS → Prop) : Prop :=
 kJoin (fun _ s =>
 kJoin (fun _ s =>
 kJoin (fun xs s =>
 un1 xs fun e_9 =>
 k (.tuple #[(.int .i64 0), (.int .i64 0), e_9]) s) fun J3 =>
 kLoop (fun again4 xs s =>
 un2 xs fun e_9 i_10 =>
 kJoin (fun _ s =>
 kJoin (fun xs s =>
 un1 xs fun e_9 =>
 kBin .add i_10 (.int .i64 1) fun v26 =>
 again4 [e_9, v26] s) fun J6 =>
 kJoin (fun _ s =>
 kNck t_0 fun v58 =>
 kFld 0 v58 fun v59 =>
 kLd s v59 fun v60 =>
 kIdx 3 v60 i_10 fun v62 =>
 kFld 0 v62 fun v63 =>
 kLd s v63 fun v64 =>
 kBin .eql v64 (.int .i64 3) fun v65 =>
 kCond v65 (
 kNck t_0 fun v67 =>
 kFld 0 v67 fun v68 =>
 kLd s v68 fun v69 =>
 kIdx 3 v69 i_10 fun v71 =>
 kFld 2 v71 fun v72 =>
 kLd s v72 fun v73 =>
 kNck t_0 fun v75 =>
 kFld 0 v75 fun v76 =>
 kLd s v76 fun v77 =>
 kBuild [(.int .i64 0), (.int .i64 0), (.int .i64 0)] [] fun v79 =>
 kIdx 3 v77 i_10 fun v80 =>
 kSt s 3 v80 v79 fun s =>
 k (.tuple #[i_10, v73, (.int .i64 0)]) s) (
 J6 [(.int .i64 30)] s)) fun J7 =>
 kNck t_0 fun v28 =>
 kFld 0 v28 fun v29 =>
 kLd s v29 fun v30 =>
 kIdx 3 v30 i_10 fun v32 =>
 kFld 0 v32 fun v33 =>
 kLd s v33 fun v34 =>
 kBin .eql v34 (.int .i64 0) fun v35 =>
 kGrd v35 false (fun k =>
 kNck t_0 fun v38 =>
 kFld 0 v38 fun v39 =>
 kLd s v39 fun v40 =>
 kIdx 3 v40 i_10 fun v42 =>
 kFld 1 v42 fun v43 =>
 kLd s v43 fun v44 =>
 kBin .neq v44 pid_1 fun v46 =>
 k [v46] s) [undef] s fun xs s =>
 un1 xs fun v46 =>
 kPick v35 (.bool true) v46 fun v47 =>
 kGrd v47 false (fun k =>
 kBin .neq child_2 (.int .i64 0) fun v50 =>
 k [v50] s) [undef] s fun xs s =>
 un1 xs fun v51 =>
 kGrd v51 true (fun k =>
 kBin .neq child_2 i_10 fun v54 =>
 k [v54] s) [undef] s fun xs s =>
 un1 xs fun v54 =>
 kGrd v47 false (fun k =>
 kPick v51 v54 (.bool false) fun v55 =>
 k [v55] s) [undef] s fun xs s =>
 un1 xs fun v55 =>
 kPick v47 (.bool true) v55 fun v56 =>
 kCond v56 (
 J6 [e_9] s) (
 J7 [] s)) fun J5 =>
 kNck t_0 fun v20 =>
 kFld 0 v20 fun v21 =>
 kLd s v21 fun v22 =>
 kLen false v22 fun v23 =>
 kBin .lss i_10 v23 fun v24 =>
 kCond v24 (
 J5 [] s) (
 J3 [e_9] s)) [(.int .i64 31), (.int .i64 1)] s) fun J2 =>
 kBin .lss child_2 (.int .i64 0) fun v17 =>
 kCond v17 (
 k (.tuple #[(.int .i64 0), (.int .i64 0), (.int .i64 1)]) s) (
 J2 [] s)) fun J1 =>
 kCall Try.prog 35 [t_0, pid_1] s fun v14 s =>
 kUn .not v14 fun v15 =>
 kCond v15 (
 k (.tuple #[(.int .i64 0), (.int .i64 0), (.int .i64 23)]) s) (
 J1 [] s)
theorem F29_ok (t_0 pid_1 child_2 : Value) (s : AS) (k : Value → AS → Prop) : denFn Try.prog [] 29 [t_0, pid_1, child_2] s k = F29 t_0 pid_1 child_2 s k := by kernel_rfl
theorem f29 {t_0 pid_1 child_2 : Value} {s : AS} {k : Value → AS → Prop} (h : F29 t_0 pid_1 child_2 s k) : kCall Try.prog 29 [t_0, pid_1, child_2] s k := denFn_ok [] (cast (F29_ok t_0 pid_1 child_2 s k).symm h)
theorem k29_ok : okFn Try.prog 29 = true := by kernel_rfl

/- slices.Sort[[]int,int] -/
def F30 (x_0 : Value) (s : AS) (k : Value → AS → Prop) : Prop :=
 kLen false x_0 fun v4 =>
 kCvi .u64 v4 fun v8 =>
 kCall Try.prog 38 [v8] s fun v9 s =>
 kCall Try.prog 37 [x_0, (.int .i64 0), v4, v9] s fun v10 s =>
 k undef s
theorem F30_ok (x_0 : Value) (s : AS) (k : Value → AS → Prop) : denFn Try.prog [] 30 [x_0] s k = F30 x_0 s k := by kernel_rfl
theorem f30 {x_0 : Value} {s : AS} {k : Value → AS → Prop} (h : F30 x_0 s k) : kCall Try.prog 30 [x_0] s k := denFn_ok [] (cast (F30_ok x_0 s k).symm h)
theorem k30_ok : okFn Try.prog 30 = true := by kernel_rfl

/- (*conch procs.Table).alive -/
def F31 (t_0 pid_1 : Value) (s : AS) (k : Value → AS → Prop) : Prop :=
 kJoin (fun _ s =>
 kNck t_0 fun v19 =>
 kFld 1 v19 fun v20 =>
 kLd s v20 fun v21 =>
 kGen Try.prog (.lk 54 false) [v21, pid_1] s fun v23 s =>
 k (.tuple #[v23, (.int .i64 0)]) s) fun J1 =>
 kEq 0 false t_0 (.pointer none) fun v8 =>
 kCond v8 (
 k (.tuple #[(.pointer none), (.int .i64 2)]) s) (
 kNck t_0 fun v11 =>
 kFld 1 v11 fun v12 =>
 kLd s v12 fun v13 =>
 kGen Try.prog (.lk 54 false) [v13, pid_1] s fun v15 s =>
 kCall Try.prog 33 [v15] s fun v16 s =>
 kUn .not v16 fun v17 =>
 kCond v17 (
 k (.tuple #[(.pointer none), (.int .i64 23)]) s) (
 J1 [] s))
theorem F31_ok (t_0 pid_1 : Value) (s : AS) (k : Value → AS → Prop) : denFn Try.prog [] 31 [t_0, pid_1] s k = F31 t_0 pid_1 s k := by kernel_rfl
theorem f31 {t_0 pid_1 : Value} {s : AS} {k : Value → AS → Prop} (h : F31 t_0 pid_1 s k) : kCall Try.prog 31 [t_0, pid_1] s k := denFn_ok [] (cast (F31_ok t_0 pid_1 s k).symm h)
theorem k31_ok : okFn Try.prog 31 = true := by kernel_rfl

/- (*conch procs.Table).turn -/
def F32 (t_0 pid_1 state_2 : Value) (s : AS) (k : Value → AS → Prop) : Prop :=
 kCall Try.prog 31 [t_0, pid_1] s fun v12 s =>
 kExt 0 v12 fun v13 =>
 kExt 1 v12 fun v14 =>
 kJoin (fun _ s =>
 k v14 s) fun J1 =>
 kBin .eql v14 (.int .i64 0) fun v16 =>
 kCond v16 (
 kNck v13 fun v19 =>
 kFld 0 v19 fun v20 =>
 kSt s 1 v20 state_2 fun s =>
 J1 [] s) (
 J1 [] s)
theorem F32_ok (t_0 pid_1 state_2 : Value) (s : AS) (k : Value → AS → Prop) : denFn Try.prog [] 32 [t_0, pid_1, state_2] s k = F32 t_0 pid_1 state_2 s k := by kernel_rfl
theorem f32 {t_0 pid_1 state_2 : Value} {s : AS} {k : Value → AS → Prop} (h : F32 t_0 pid_1 state_2 s k) : kCall Try.prog 32 [t_0, pid_1, state_2] s k := denFn_ok [] (cast (F32_ok t_0 pid_1 state_2 s k).symm h)
theorem k32_ok : okFn Try.prog 32 = true := by kernel_rfl

/- (*conch procs.proc).lives -/
def F33 (p_0 : Value) (s : AS) (k : Value → AS → Prop) : Prop :=
 kEq 0 true p_0 (.pointer none) fun v4 =>
 kGrd v4 true (fun k =>
 kNck p_0 fun v7 =>
 kFld 0 v7 fun v8 =>
 kLd s v8 fun v9 =>
 kBin .neq v9 (.int .i64 3) fun v10 =>
 k [v10] s) [undef] s fun xs s =>
 un1 xs fun v10 =>
 kPick v4 v10 (.bool false) fun v11 =>
 k v11 s
theorem F33_ok (p_0 : Value) (s : AS) (k : Value → AS → Prop) : denFn Try.prog [] 33 [p_0] s k = F33 p_0 s k := by kernel_rfl
theorem f33 {p_0 : Value} {s : AS} {k : Value → AS → Prop} (h : F33 p_0 s k) : kCall Try.prog 33 [p_0] s k := denFn_ok [] (cast (F33_ok p_0 s k).symm h)
theorem k33_ok : okFn Try.prog 33 = true := by kernel_rfl

/- (*conch procs.Table).leave -/
def F34 (t_0 pid_1 parent_2 : Value) (s : AS) (k : Value → AS → Prop) : Prop :=
 kJoin (fun _ s =>
 kNck t_0 fun v14 =>
 kFld 1 v14 fun v15 =>
 kLd s v15 fun v16 =>
 kGen Try.prog (.lk 54 false) [v16, pid_1] s fun v18 s =>
 kNck v18 fun v20 =>
 kFld 1 v20 fun v21 =>
 kSt s 1 v21 parent_2 fun s =>
 kCall Try.prog 23 [t_0, parent_2] s fun v24 s =>
 k undef s) fun J1 =>
 kBin .eql parent_2 (.int .i64 0) fun v7 =>
 kCond v7 (
 kNck t_0 fun v9 =>
 kFld 1 v9 fun v10 =>
 kLd s v10 fun v11 =>
 kGen Try.prog (.blt .delete [54, 3] 0) [v11, pid_1] s fun _ s =>
 k undef s) (
 J1 [] s)
theorem F34_ok (t_0 pid_1 parent_2 : Value) (s : AS) (k : Value → AS → Prop) : denFn Try.prog [] 34 [t_0, pid_1, parent_2] s k = F34 t_0 pid_1 parent_2 s k := by kernel_rfl
theorem f34 {t_0 pid_1 parent_2 : Value} {s : AS} {k : Value → AS → Prop} (h : F34 t_0 pid_1 parent_2 s k) : kCall Try.prog 34 [t_0, pid_1, parent_2] s k := denFn_ok [] (cast (F34_ok t_0 pid_1 parent_2 s k).symm h)
theorem k34_ok : okFn Try.prog 34 = true := by kernel_rfl

/- (*conch conchref17.Table).Lives -/
def F35 (t_0 pid_1 : Value) (s : AS) (k : Value → AS → Prop) : Prop :=
 kBin .geq pid_1 (.int .i64 1) fun v6 =>
 kGrd v6 true (fun k =>
 kNck t_0 fun v10 =>
 kFld 0 v10 fun v11 =>
 kLd s v11 fun v12 =>
 kLen false v12 fun v13 =>
 kBin .lss pid_1 v13 fun v14 =>
 k [v14] s) [undef] s fun xs s =>
 un1 xs fun v14 =>
 kPick v6 v14 (.bool false) fun v15 =>
 kGrd v15 true (fun k =>
 kNck t_0 fun v18 =>
 kFld 0 v18 fun v19 =>
 kLd s v19 fun v20 =>
 kIdx 3 v20 pid_1 fun v22 =>
 kFld 0 v22 fun v23 =>
 kLd s v23 fun v24 =>
 kBin .eql v24 (.int .i64 1) fun v25 =>
 k [v25] s) [undef] s fun xs s =>
 un1 xs fun v26 =>
 kGrd v26 false (fun k =>
 kNck t_0 fun v28 =>
 kFld 0 v28 fun v29 =>
 kLd s v29 fun v30 =>
 kIdx 3 v30 pid_1 fun v32 =>
 kFld 0 v32 fun v33 =>
 kLd s v33 fun v34 =>
 kBin .eql v34 (.int .i64 2) fun v35 =>
 k [v35] s) [undef] s fun xs s =>
 un1 xs fun v35 =>
 kGrd v15 true (fun k =>
 kPick v26 (.bool true) v35 fun v36 =>
 k [v36] s) [undef] s fun xs s =>
 un1 xs fun v36 =>
 kPick v15 v36 (.bool false) fun v37 =>
 k v37 s
theorem F35_ok (t_0 pid_1 : Value) (s : AS) (k : Value → AS → Prop) : denFn Try.prog [] 35 [t_0, pid_1] s k = F35 t_0 pid_1 s k := by kernel_rfl
theorem f35 {t_0 pid_1 : Value} {s : AS} {k : Value → AS → Prop} (h : F35 t_0 pid_1 s k) : kCall Try.prog 35 [t_0, pid_1] s k := denFn_ok [] (cast (F35_ok t_0 pid_1 s k).symm h)
theorem k35_ok : okFn Try.prog 35 = true := by kernel_rfl

/- (*conch conchref17.Table).told -/
def F36 (t_0 pid_1 : Value) (s : AS) (k : Value → AS → Prop) : Prop :=
 kCall Try.prog 35 [t_0, pid_1] s fun v6 s =>
 kCond v6 (
 kNck t_0 fun v8 =>
 kFld 0 v8 fun v9 =>
 kLd s v9 fun v10 =>
 kIdx 3 v10 pid_1 fun v12 =>
 kFld 0 v12 fun v13 =>
 kSt s 1 v13 (.int .i64 1) fun s =>
 k undef s) (
 k undef s)
theorem F36_ok (t_0 pid_1 : Value) (s : AS) (k : Value → AS → Prop) : denFn Try.prog [] 36 [t_0, pid_1] s k = F36 t_0 pid_1 s k := by kernel_rfl
theorem f36 {t_0 pid_1 : Value} {s : AS} {k : Value → AS → Prop} (h : F36 t_0 pid_1 s k) : kCall Try.prog 36 [t_0, pid_1] s k := denFn_ok [] (cast (F36_ok t_0 pid_1 s k).symm h)
theorem k36_ok : okFn Try.prog 36 = true := by kernel_rfl

end Go.Proofs.Ytkponloccimdlaa
