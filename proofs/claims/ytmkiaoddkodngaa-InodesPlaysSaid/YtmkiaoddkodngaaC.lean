/- The walks of the functions, printed by a program of this proof, each held against the loaded program by the kernel. Conditions: none. -/
import Derived.Test.YtmkiaoddkodngaaProg
import Derived.Test.YtmkiaoddkodngaaF6
namespace Go.Proofs.Ytmkiaoddkodngaa
open E
set_option maxRecDepth 100000
set_option linter.unusedVariables false

/- conch conchlaw12.InodesKeeps -/
def F3 (was_0 at_1 data_2 : Value) (s : AS) (k : Value → AS → Prop) : Prop :=
 kJoin (fun _ s =>
 kCall Try.prog 10 [(.int .i64 3), (.int .i64 200)] s fun v43 s =>
 kExt 0 v43 fun v44 =>
 kExt 1 v43 fun v45 =>
 kJoin (fun _ s =>
 kCall Try.prog 11 [v44, (.int .i64 1)] s fun v54 s =>
 kExt 0 v54 fun v55 =>
 kExt 1 v54 fun v56 =>
 kCall Try.prog 11 [v44, (.int .i64 1)] s fun v59 s =>
 kExt 0 v59 fun v60 =>
 kExt 1 v59 fun v61 =>
 kCall Try.prog 12 [v44, v55, (.int .i64 0), was_0] s fun v66 s =>
 kExt 0 v66 fun v67 =>
 kExt 1 v66 fun v68 =>
 kCall Try.prog 12 [v44, v60, (.int .i64 0), was_0] s fun v73 s =>
 kExt 0 v73 fun v74 =>
 kExt 1 v73 fun v75 =>
 kCall Try.prog 12 [v44, v55, at_1, data_2] s fun v81 s =>
 kExt 0 v81 fun v82 =>
 kExt 1 v81 fun v83 =>
 kJoin (fun _ s =>
 kCall Try.prog 13 [v44, v55, (.int .i64 0), (.int .i64 9999)] s fun v103 s =>
 kExt 0 v103 fun v104 =>
 kExt 1 v103 fun v105 =>
 kCall Try.prog 13 [v44, v60, (.int .i64 0), (.int .i64 9999)] s fun v109 s =>
 kExt 0 v109 fun v110 =>
 kExt 1 v109 fun v111 =>
 kJoin (fun xs s =>
 un1 xs fun want_23 =>
 kBin .eql v104 want_23 fun v145 =>
 kGrd v145 true (fun k =>
 kCall Try.prog 14 [v44, v55] s fun v149 s =>
 kLen true want_23 fun v151 =>
 kBin .eql v149 v151 fun v152 =>
 k [v152] s) [undef] s fun xs s =>
 un1 xs fun v152 =>
 kPick v145 v152 (.bool false) fun v153 =>
 kGrd v153 true (fun k =>
 kBin .eql v110 was_0 fun v157 =>
 k [v157] s) [undef] s fun xs s =>
 un1 xs fun v157 =>
 kPick v153 v157 (.bool false) fun v158 =>
 kGrd v158 true (fun k =>
 kCall Try.prog 9 [] s fun v160 s =>
 k [v160] s) [undef] s fun xs s =>
 un1 xs fun v160 =>
 kPick v158 v160 (.bool false) fun v161 =>
 k v161 s) fun J4 =>
 kBin .neq data_2 (.string (bs [])) fun v114 =>
 kCond v114 (
 kJoin (fun xs s =>
 un1 xs fun want_23 =>
 kLen true data_2 fun v129 =>
 kBin .add at_1 v129 fun v130 =>
 kLen true want_23 fun v132 =>
 kMin v130 v132 fun v133 =>
 kSubS want_23 none (some at_1) fun v136 =>
 kBin .add v136 data_2 fun v138 =>
 kSubS want_23 (some v133) none fun v141 =>
 kBin .add v138 v141 fun v142 =>
 J4 [v142] s) fun J5 =>
 kLen true was_0 fun v117 =>
 kBin .gtr at_1 v117 fun v118 =>
 kCond v118 (
 kLen true was_0 fun v122 =>
 kBin .sub at_1 v122 fun v123 =>
 kMks s 1 1 [(.int .u8 0)] v123 v123 fun v124 s =>
 kCvBS s v124 fun v125 =>
 kBin .add was_0 v125 fun v126 =>
 J5 [v126] s) (
 J5 [was_0] s)) (
 J4 [was_0] s)) fun J3 =>
 kBin .neq v68 (.int .i64 0) fun v85 =>
 kGrd v85 false (fun k =>
 kBin .neq v75 (.int .i64 0) fun v88 =>
 k [v88] s) [undef] s fun xs s =>
 un1 xs fun v88 =>
 kPick v85 (.bool true) v88 fun v89 =>
 kGrd v89 false (fun k =>
 kBin .neq v83 (.int .i64 0) fun v92 =>
 k [v92] s) [undef] s fun xs s =>
 un1 xs fun v92 =>
 kPick v89 (.bool true) v92 fun v93 =>
 kGrd v93 false (fun k =>
 kLen true data_2 fun v97 =>
 kBin .neq v82 v97 fun v98 =>
 k [v98] s) [undef] s fun xs s =>
 un1 xs fun v98 =>
 kPick v93 (.bool true) v98 fun v99 =>
 kCond v99 (
 k (.bool false) s) (
 J3 [] s)) fun J2 =>
 kBin .neq v45 (.int .i64 0) fun v47 =>
 kGrd v47 false (fun k =>
 kEq 0 false v44 (.pointer none) fun v50 =>
 k [v50] s) [undef] s fun xs s =>
 un1 xs fun v50 =>
 kPick v47 (.bool true) v50 fun v51 =>
 kCond v51 (
 k (.bool false) s) (
 J2 [] s)) fun J1 =>
 kLen true was_0 fun v26 =>
 kBin .gtr v26 (.int .i64 1000) fun v27 =>
 kGrd v27 false (fun k =>
 kBin .lss at_1 (.int .i64 0) fun v30 =>
 k [v30] s) [undef] s fun xs s =>
 un1 xs fun v30 =>
 kPick v27 (.bool true) v30 fun v31 =>
 kGrd v31 false (fun k =>
 kBin .gtr at_1 (.int .i64 2000) fun v34 =>
 k [v34] s) [undef] s fun xs s =>
 un1 xs fun v34 =>
 kPick v31 (.bool true) v34 fun v35 =>
 kGrd v35 false (fun k =>
 kLen true data_2 fun v38 =>
 kBin .gtr v38 (.int .i64 1000) fun v39 =>
 k [v39] s) [undef] s fun xs s =>
 un1 xs fun v39 =>
 kPick v35 (.bool true) v39 fun v40 =>
 kCond v40 (
 kCall Try.prog 9 [] s fun v41 s =>
 k v41 s) (
 J1 [] s)
theorem F3_ok (was_0 at_1 data_2 : Value) (s : AS) (k : Value → AS → Prop) : denFn Try.prog [(20, (.go 0 (.go 1 (.go 2 (.go 3 (.go 4 (.go 5 (.go 6 (.go 7 (.go 8 (.go 9 .done)))))))))))] 3 [was_0, at_1, data_2] s k = F3 was_0 at_1 data_2 s k := by kernel_rfl
theorem f3 {was_0 at_1 data_2 : Value} {s : AS} {k : Value → AS → Prop} (h : F3 was_0 at_1 data_2 s k) : kCall Try.prog 3 [was_0, at_1, data_2] s k := denFn_ok [(20, (.go 0 (.go 1 (.go 2 (.go 3 (.go 4 (.go 5 (.go 6 (.go 7 (.go 8 (.go 9 .done)))))))))))] (cast (F3_ok was_0 at_1 data_2 s k).symm h)
theorem k3_ok : okFn Try.prog 3 = true := by kernel_rfl

/- conch conchlaw12.InodesFull -/
def F4 (blocks_0 at_1 data_2 : Value) (s : AS) (k : Value → AS → Prop) : Prop :=
 kJoin (fun _ s =>
 kCall Try.prog 10 [(.int .i64 2), blocks_0] s fun v47 s =>
 kExt 0 v47 fun v48 =>
 kExt 1 v47 fun v49 =>
 kJoin (fun _ s =>
 kCall Try.prog 11 [v48, (.int .i64 1)] s fun v58 s =>
 kExt 0 v58 fun v59 =>
 kExt 1 v58 fun v60 =>
 kCall Try.prog 11 [v48, (.int .i64 1)] s fun v63 s =>
 kExt 0 v63 fun v64 =>
 kExt 1 v63 fun v65 =>
 kCall Try.prog 12 [v48, v59, at_1, data_2] s fun v71 s =>
 kExt 0 v71 fun v72 =>
 kExt 1 v71 fun v73 =>
 kJoin (fun _ s =>
 kCall Try.prog 13 [v48, v59, at_1, v72] s fun v92 s =>
 kExt 0 v92 fun v93 =>
 kExt 1 v92 fun v94 =>
 kCall Try.prog 15 [v48] s fun v97 s =>
 kExt 0 v97 fun v98 =>
 kExt 1 v97 fun v99 =>
 kCall Try.prog 12 [v48, v64, (.int .i64 0), (.string (bs [120]))] s fun v103 s =>
 kExt 0 v103 fun v104 =>
 kExt 1 v103 fun v105 =>
 kSubS data_2 none (some v72) fun v109 =>
 kBin .eql v93 v109 fun v110 =>
 kGrd v110 true (fun k =>
 kBin .eql v99 (.int .i64 0) fun v113 =>
 kBin .eql v105 (.int .i64 20) fun v115 =>
 kEq 4 false v113 v115 fun v116 =>
 k [v116] s) [undef] s fun xs s =>
 un1 xs fun v116 =>
 kPick v110 v116 (.bool false) fun v117 =>
 kGrd v117 true (fun k =>
 kBin .eql v104 (.int .i64 1) fun v120 =>
 kBin .eql v105 (.int .i64 0) fun v122 =>
 kEq 4 false v120 v122 fun v123 =>
 k [v123] s) [undef] s fun xs s =>
 un1 xs fun v123 =>
 kPick v117 v123 (.bool false) fun v124 =>
 kGrd v124 true (fun k =>
 kCall Try.prog 14 [v48, v59] s fun v128 s =>
 kBin .add at_1 v72 fun v131 =>
 kBin .eql v128 v131 fun v132 =>
 k [v132] s) [undef] s fun xs s =>
 un1 xs fun v132 =>
 kPick v124 v132 (.bool false) fun v133 =>
 kGrd v133 true (fun k =>
 kCall Try.prog 9 [] s fun v135 s =>
 k [v135] s) [undef] s fun xs s =>
 un1 xs fun v135 =>
 kPick v133 v135 (.bool false) fun v136 =>
 k v136 s) fun J3 =>
 kBin .neq v73 (.int .i64 0) fun v75 =>
 kGrd v75 false (fun k =>
 kLen true data_2 fun v79 =>
 kBin .mul (.int .i64 64) blocks_0 fun v81 =>
 kBin .sub v81 at_1 fun v83 =>
 kMin v79 v83 fun v84 =>
 kBin .neq v72 v84 fun v85 =>
 k [v85] s) [undef] s fun xs s =>
 un1 xs fun v85 =>
 kPick v75 (.bool true) v85 fun v86 =>
 kCond v86 (
 k (.bool false) s) (
 J3 [] s)) fun J2 =>
 kBin .neq v49 (.int .i64 0) fun v51 =>
 kGrd v51 false (fun k =>
 kEq 0 false v48 (.pointer none) fun v54 =>
 k [v54] s) [undef] s fun xs s =>
 un1 xs fun v54 =>
 kPick v51 (.bool true) v54 fun v55 =>
 kCond v55 (
 k (.bool false) s) (
 J2 [] s)) fun J1 =>
 kBin .lss blocks_0 (.int .i64 1) fun v22 =>
 kGrd v22 false (fun k =>
 kBin .gtr blocks_0 (.int .i64 20) fun v25 =>
 k [v25] s) [undef] s fun xs s =>
 un1 xs fun v25 =>
 kPick v22 (.bool true) v25 fun v26 =>
 kGrd v26 false (fun k =>
 kBin .lss at_1 (.int .i64 0) fun v29 =>
 k [v29] s) [undef] s fun xs s =>
 un1 xs fun v29 =>
 kPick v26 (.bool true) v29 fun v30 =>
 kGrd v30 false (fun k =>
 kBin .gtr at_1 (.int .i64 63) fun v33 =>
 k [v33] s) [undef] s fun xs s =>
 un1 xs fun v33 =>
 kPick v30 (.bool true) v33 fun v34 =>
 kGrd v34 false (fun k =>
 kLen true data_2 fun v37 =>
 kBin .gtr v37 (.int .i64 2000) fun v38 =>
 k [v38] s) [undef] s fun xs s =>
 un1 xs fun v38 =>
 kPick v34 (.bool true) v38 fun v39 =>
 kGrd v39 false (fun k =>
 kBin .eql data_2 (.string (bs [])) fun v42 =>
 k [v42] s) [undef] s fun xs s =>
 un1 xs fun v42 =>
 kPick v39 (.bool true) v42 fun v43 =>
 kCond v43 (
 kCall Try.prog 9 [] s fun v44 s =>
 k v44 s) (
 J1 [] s)
theorem F4_ok (blocks_0 at_1 data_2 : Value) (s : AS) (k : Value → AS → Prop) : denFn Try.prog [] 4 [blocks_0, at_1, data_2] s k = F4 blocks_0 at_1 data_2 s k := by kernel_rfl
theorem f4 {blocks_0 at_1 data_2 : Value} {s : AS} {k : Value → AS → Prop} (h : F4 blocks_0 at_1 data_2 s k) : kCall Try.prog 4 [blocks_0, at_1, data_2] s k := denFn_ok [] (cast (F4_ok blocks_0 at_1 data_2 s k).symm h)
theorem k4_ok : okFn Try.prog 4 = true := by kernel_rfl

/- conch conchlaw12.InodesCuts -/
def F5 (data_0 sizes_1 : Value) (s : AS) (k : Value → AS → Prop) : Prop :=
 kNew s (cellsV sizes_1) fun sizes_3 s =>
 kJoin (fun _ s =>
 kCall Try.prog 10 [(.int .i64 1), (.int .i64 64)] s fun v39 s =>
 kExt 0 v39 fun v40 =>
 kExt 1 v39 fun v41 =>
 kJoin (fun _ s =>
 kCall Try.prog 11 [v40, (.int .i64 1)] s fun v50 s =>
 kExt 0 v50 fun v51 =>
 kExt 1 v50 fun v52 =>
 kCall Try.prog 12 [v40, v51, (.int .i64 0), data_0] s fun v57 s =>
 kExt 0 v57 fun v58 =>
 kExt 1 v57 fun v59 =>
 kJoin (fun _ s =>
 kLen true data_0 fun v79 =>
 kIdxA 2 1 sizes_3 (.int .i64 0) fun v80 =>
 kLd s v80 fun v81 =>
 kIdxA 2 1 sizes_3 (.int .i64 1) fun v82 =>
 kLd s v82 fun v83 =>
 kGen Try.prog (.blt .min [3, 3, 3] 3) [v79, v81, v83] s fun v84 s =>
 kCall Try.prog 13 [v40, v51, (.int .i64 0), (.int .i64 5000)] s fun v88 s =>
 kExt 0 v88 fun v89 =>
 kExt 1 v88 fun v90 =>
 kBin .eql v90 (.int .i64 0) fun v92 =>
 kGrd v92 true (fun k =>
 kSubS data_0 none (some v84) fun v97 =>
 kIdxA 2 1 sizes_3 (.int .i64 1) fun v98 =>
 kLd s v98 fun v99 =>
 kBin .sub v99 v84 fun v101 =>
 kMks s 1 1 [(.int .u8 0)] v101 v101 fun v102 s =>
 kCvBS s v102 fun v103 =>
 kBin .add v97 v103 fun v104 =>
 kBin .eql v89 v104 fun v105 =>
 k [v105] s) [undef] s fun xs s =>
 un1 xs fun v105 =>
 kPick v92 v105 (.bool false) fun v106 =>
 kGrd v106 true (fun k =>
 kCall Try.prog 9 [] s fun v108 s =>
 k [v108] s) [undef] s fun xs s =>
 un1 xs fun v108 =>
 kPick v106 v108 (.bool false) fun v109 =>
 k v109 s) fun J3 =>
 kBin .neq v59 (.int .i64 0) fun v61 =>
 kGrd v61 false (fun k =>
 kIdxA 2 1 sizes_3 (.int .i64 0) fun v65 =>
 kLd s v65 fun v66 =>
 kCall Try.prog 16 [v40, v51, v66] s fun v67 s =>
 kBin .neq v67 (.int .i64 0) fun v68 =>
 k [v68] s) [undef] s fun xs s =>
 un1 xs fun v68 =>
 kPick v61 (.bool true) v68 fun v69 =>
 kGrd v69 false (fun k =>
 kIdxA 2 1 sizes_3 (.int .i64 1) fun v73 =>
 kLd s v73 fun v74 =>
 kCall Try.prog 16 [v40, v51, v74] s fun v75 s =>
 kBin .neq v75 (.int .i64 0) fun v76 =>
 k [v76] s) [undef] s fun xs s =>
 un1 xs fun v76 =>
 kPick v69 (.bool true) v76 fun v77 =>
 kCond v77 (
 k (.bool false) s) (
 J3 [] s)) fun J2 =>
 kBin .neq v41 (.int .i64 0) fun v43 =>
 kGrd v43 false (fun k =>
 kEq 0 false v40 (.pointer none) fun v46 =>
 k [v46] s) [undef] s fun xs s =>
 un1 xs fun v46 =>
 kPick v43 (.bool true) v46 fun v47 =>
 kCond v47 (
 k (.bool false) s) (
 J2 [] s)) fun J1 =>
 kLen true data_0 fun v15 =>
 kBin .gtr v15 (.int .i64 2000) fun v16 =>
 kGrd v16 false (fun k =>
 kIdxA 2 1 sizes_3 (.int .i64 0) fun v18 =>
 kLd s v18 fun v19 =>
 kBin .lss v19 (.int .i64 0) fun v20 =>
 k [v20] s) [undef] s fun xs s =>
 un1 xs fun v20 =>
 kPick v16 (.bool true) v20 fun v21 =>
 kGrd v21 false (fun k =>
 kIdxA 2 1 sizes_3 (.int .i64 0) fun v23 =>
 kLd s v23 fun v24 =>
 kBin .gtr v24 (.int .i64 4096) fun v25 =>
 k [v25] s) [undef] s fun xs s =>
 un1 xs fun v25 =>
 kPick v21 (.bool true) v25 fun v26 =>
 kGrd v26 false (fun k =>
 kIdxA 2 1 sizes_3 (.int .i64 1) fun v28 =>
 kLd s v28 fun v29 =>
 kBin .lss v29 (.int .i64 0) fun v30 =>
 k [v30] s) [undef] s fun xs s =>
 un1 xs fun v30 =>
 kPick v26 (.bool true) v30 fun v31 =>
 kGrd v31 false (fun k =>
 kIdxA 2 1 sizes_3 (.int .i64 1) fun v33 =>
 kLd s v33 fun v34 =>
 kBin .gtr v34 (.int .i64 4096) fun v35 =>
 k [v35] s) [undef] s fun xs s =>
 un1 xs fun v35 =>
 kPick v31 (.bool true) v35 fun v36 =>
 kCond v36 (
 kCall Try.prog 9 [] s fun v37 s =>
 k v37 s) (
 J1 [] s)
theorem F5_ok (data_0 sizes_1 : Value) (s : AS) (k : Value → AS → Prop) : denFn Try.prog [(12, (.go 0 (.go 1 (.go 2 (.go 3 (.go 4 (.go 5 (.go 6 (.go 7 (.go 9 (.go 8 (.go 10 (.go 11 (.go 12 (.go 13 (.go 14 (.go 15 (.go 16 (.go 17 (.go 18 (.go 19 .done)))))))))))))))))))))] 5 [data_0, sizes_1] s k = F5 data_0 sizes_1 s k := by kernel_rfl
theorem f5 {data_0 sizes_1 : Value} {s : AS} {k : Value → AS → Prop} (h : F5 data_0 sizes_1 s k) : kCall Try.prog 5 [data_0, sizes_1] s k := denFn_ok [(12, (.go 0 (.go 1 (.go 2 (.go 3 (.go 4 (.go 5 (.go 6 (.go 7 (.go 9 (.go 8 (.go 10 (.go 11 (.go 12 (.go 13 (.go 14 (.go 15 (.go 16 (.go 17 (.go 18 (.go 19 .done)))))))))))))))))))))] (cast (F5_ok data_0 sizes_1 s k).symm h)
theorem k5_ok : okFn Try.prog 5 = true := by kernel_rfl

/- conch conchlaw12.InodesLeaks -/
def F6 (ops_0 : Value) (s : AS) (k : Value → AS → Prop) : Prop :=
 kCall Try.prog 10 [(.int .i64 5), (.int .i64 100)] s fun v20 s =>
 kExt 0 v20 fun v21 =>
 kExt 1 v20 fun v22 =>
 kJoin (fun _ s =>
 kNew s [(.int .i64 0), (.int .i64 0), (.int .i64 0), (.int .i64 0), (.int .i64 0), (.int .i64 0)] fun names_5 s =>
 kNew s [(.int .i64 0), (.int .i64 0), (.int .i64 0), (.int .i64 0), (.int .i64 0), (.int .i64 0)] fun users_6 s =>
 kJoin (fun _ s =>
 kJoin (fun _ s =>
 kCall Try.prog 15 [v21] s fun v198 s =>
 kExt 0 v198 fun v199 =>
 kExt 1 v198 fun v200 =>
 kBin .eql v199 (.int .i64 5) fun v202 =>
 kGrd v202 true (fun k =>
 kBin .eql v200 (.int .i64 100) fun v205 =>
 k [v205] s) [undef] s fun xs s =>
 un1 xs fun v205 =>
 kPick v202 v205 (.bool false) fun v206 =>
 kGrd v206 true (fun k =>
 kCall Try.prog 9 [] s fun v208 s =>
 k [v208] s) [undef] s fun xs s =>
 un1 xs fun v208 =>
 kPick v206 v208 (.bool false) fun v209 =>
 k v209 s) fun J3 =>
 kLoop (fun again4 xs s =>
 un1 xs fun k_16 =>
 kJoin (fun _ s =>
 kJoin (fun _ s =>
 kBin .add k_16 (.int .i64 1) fun v131 =>
 again4 [v131] s) fun J6 =>
 kJoin (fun _ s =>
 kJoin (fun _ s =>
 kJoin (fun _ s =>
 kJoin (fun _ s =>
 kCall Try.prog 19 [v21, k_16] s fun v182 s =>
 kBin .neq v182 (.int .i64 0) fun v183 =>
 kGrd v183 false (fun k =>
 kCall Try.prog 14 [v21, k_16] s fun v187 s =>
 kBin .neq v187 (.int .i64 0) fun v188 =>
 k [v188] s) [undef] s fun xs s =>
 un1 xs fun v188 =>
 kPick v183 (.bool true) v188 fun v189 =>
 kGrd v189 false (fun k =>
 kCall Try.prog 22 [v21, k_16] s fun v193 s =>
 kBin .neq v193 (.int .i64 23) fun v194 =>
 k [v194] s) [undef] s fun xs s =>
 un1 xs fun v194 =>
 kPick v189 (.bool true) v194 fun v195 =>
 kCond v195 (
 k (.bool false) s) (
 J6 [] s)) fun J10 =>
 kLoop (fun again11 _ s =>
 kJoin (fun _ s =>
 kIdxA 6 1 users_6 k_16 fun v172 =>
 kLd s v172 fun v173 =>
 kBin .sub v173 (.int .i64 1) fun v174 =>
 kIdxA 6 1 users_6 k_16 fun v175 =>
 kSt s 1 v175 v174 fun s =>
 kCall Try.prog 22 [v21, k_16] s fun v178 s =>
 kBin .neq v178 (.int .i64 0) fun v179 =>
 kCond v179 (
 k (.bool false) s) (
 again11 [] s)) fun J12 =>
 kIdxA 6 1 users_6 k_16 fun v168 =>
 kLd s v168 fun v169 =>
 kBin .gtr v169 (.int .i64 0) fun v170 =>
 kCond v170 (
 J12 [] s) (
 J10 [] s)) [] s) fun J9 =>
 kLoop (fun again13 _ s =>
 kJoin (fun _ s =>
 kIdxA 6 1 names_5 k_16 fun v159 =>
 kLd s v159 fun v160 =>
 kBin .sub v160 (.int .i64 1) fun v161 =>
 kIdxA 6 1 names_5 k_16 fun v162 =>
 kSt s 1 v162 v161 fun s =>
 kCall Try.prog 21 [v21, k_16] s fun v165 s =>
 kBin .neq v165 (.int .i64 0) fun v166 =>
 kCond v166 (
 k (.bool false) s) (
 again13 [] s)) fun J14 =>
 kIdxA 6 1 names_5 k_16 fun v155 =>
 kLd s v155 fun v156 =>
 kBin .gtr v156 (.int .i64 0) fun v157 =>
 kCond v157 (
 J14 [] s) (
 J9 [] s)) [] s) fun J8 =>
 kCall Try.prog 19 [v21, k_16] s fun v141 s =>
 kBin .gtr v141 (.int .i64 0) fun v142 =>
 kGrd v142 true (fun k =>
 kCall Try.prog 20 [v21, k_16] s fun v146 s =>
 kBin .eql v146 (.int .i64 0) fun v147 =>
 k [v147] s) [undef] s fun xs s =>
 un1 xs fun v147 =>
 kPick v142 v147 (.bool false) fun v148 =>
 kCond v148 (
 kIdxA 6 1 users_6 k_16 fun v150 =>
 kLd s v150 fun v151 =>
 kBin .add v151 (.int .i64 1) fun v152 =>
 kIdxA 6 1 users_6 k_16 fun v153 =>
 kSt s 1 v153 v152 fun s =>
 J8 [] s) (
 J8 [] s)) fun J7 =>
 kIdxA 6 1 names_5 k_16 fun v136 =>
 kLd s v136 fun v137 =>
 kCall Try.prog 18 [v21, k_16] s fun v134 s =>
 kChk s v136 v137 (
 kBin .neq v134 v137 fun v138 =>
 kCond v138 (
 k (.bool false) s) (
 J7 [] s))) fun J5 =>
 kBin .leq k_16 (.int .i64 5) fun v129 =>
 kCond v129 (
 J5 [] s) (
 J3 [] s)) [(.int .i64 1)] s) fun J2 =>
 kLoop (fun again15 xs s =>
 un1 xs fun i_7 =>
 kJoin (fun _ s =>
 kJoin (fun _ s =>
 kBin .add i_7 (.int .i64 1) fun v38 =>
 again15 [v38] s) fun J17 =>
 kIdx 5 ops_0 i_7 fun v41 =>
 kLdN s 5 v41 fun v42 =>
 kNew s [(.int .i64 0), (.int .i64 0), (.int .i64 0), (.int .i64 0), (.string (bs []))] fun o_8 s =>
 kSt s 5 o_8 v42 fun s =>
 kJoin (fun _ s =>
 kJoin (fun _ s =>
 kLdN s 5 o_8 fun v53 =>
 kCall Try.prog 17 [v21, v53] s fun v54 s =>
 kExt 0 v54 fun v55 =>
 kExt 1 v54 fun v56 =>
 kExt 2 v54 fun v57 =>
 kJoin (fun _ s =>
 kCall Try.prog 15 [v21] s fun v106 s =>
 kExt 0 v106 fun v107 =>
 kExt 1 v106 fun v108 =>
 kJoin (fun xs s =>
 un1 xs fun need_14 =>
 kBin .sub (.int .i64 100) need_14 fun v122 =>
 kBin .lss v108 v122 fun v123 =>
 kGrd v123 false (fun k =>
 kBin .gtr v108 (.int .i64 100) fun v126 =>
 k [v126] s) [undef] s fun xs s =>
 un1 xs fun v126 =>
 kPick v123 (.bool true) v126 fun v127 =>
 kCond v127 (
 k (.bool false) s) (
 J17 [] s)) fun J21 =>
 kLoop (fun again22 xs s =>
 un2 xs fun need_14 k_15 =>
 kJoin (fun _ s =>
 kJoin (fun xs s =>
 un1 xs fun need_14 =>
 kBin .add k_15 (.int .i64 1) fun v112 =>
 again22 [need_14, v112] s) fun J24 =>
 kCall Try.prog 14 [v21, k_15] s fun v116 s =>
 kBin .add v116 (.int .i64 63) fun v117 =>
 kBin .quo v117 (.int .i64 64) fun v118 =>
 kBin .add need_14 v118 fun v119 =>
 J24 [v119] s) fun J23 =>
 kBin .leq k_15 (.int .i64 5) fun v110 =>
 kCond v110 (
 J23 [] s) (
 J21 [need_14] s)) [(.int .i64 0), (.int .i64 1)] s) fun J20 =>
 kBin .eql v57 (.int .i64 0) fun v59 =>
 kGrd v59 true (fun k =>
 kFld 1 o_8 fun v61 =>
 kLd s v61 fun v62 =>
 kBin .geq v62 (.int .i64 1) fun v63 =>
 k [v63] s) [undef] s fun xs s =>
 un1 xs fun v63 =>
 kPick v59 v63 (.bool false) fun v64 =>
 kGrd v64 true (fun k =>
 kFld 1 o_8 fun v66 =>
 kLd s v66 fun v67 =>
 kBin .leq v67 (.int .i64 5) fun v68 =>
 k [v68] s) [undef] s fun xs s =>
 un1 xs fun v68 =>
 kPick v64 v68 (.bool false) fun v69 =>
 kCond v69 (
 kFld 0 o_8 fun v70 =>
 kLd s v70 fun v71 =>
 kBin .eql v71 (.int .i64 1) fun v73 =>
 kCond v73 (
 kFld 1 o_8 fun v74 =>
 kLd s v74 fun v75 =>
 kIdxA 6 1 names_5 v75 fun v76 =>
 kLd s v76 fun v77 =>
 kBin .add v77 (.int .i64 1) fun v78 =>
 kIdxA 6 1 names_5 v75 fun v79 =>
 kSt s 1 v79 v78 fun s =>
 J20 [] s) (
 kBin .eql v71 (.int .i64 2) fun v81 =>
 kCond v81 (
 kFld 1 o_8 fun v82 =>
 kLd s v82 fun v83 =>
 kIdxA 6 1 names_5 v83 fun v84 =>
 kLd s v84 fun v85 =>
 kBin .sub v85 (.int .i64 1) fun v86 =>
 kIdxA 6 1 names_5 v83 fun v87 =>
 kSt s 1 v87 v86 fun s =>
 J20 [] s) (
 kBin .eql v71 (.int .i64 3) fun v89 =>
 kCond v89 (
 kFld 1 o_8 fun v90 =>
 kLd s v90 fun v91 =>
 kIdxA 6 1 users_6 v91 fun v92 =>
 kLd s v92 fun v93 =>
 kBin .add v93 (.int .i64 1) fun v94 =>
 kIdxA 6 1 users_6 v91 fun v95 =>
 kSt s 1 v95 v94 fun s =>
 J20 [] s) (
 kBin .eql v71 (.int .i64 4) fun v97 =>
 kCond v97 (
 kFld 1 o_8 fun v98 =>
 kLd s v98 fun v99 =>
 kIdxA 6 1 users_6 v99 fun v100 =>
 kLd s v100 fun v101 =>
 kBin .sub v101 (.int .i64 1) fun v102 =>
 kIdxA 6 1 users_6 v99 fun v103 =>
 kSt s 1 v103 v102 fun s =>
 J20 [] s) (
 J20 [] s))))) (
 J20 [] s)) fun J19 =>
 kFld 0 o_8 fun v48 =>
 kLd s v48 fun v49 =>
 kBin .eql v49 (.int .i64 8) fun v50 =>
 kCond v50 (
 J17 [] s) (
 J19 [] s)) fun J18 =>
 kFld 4 o_8 fun v43 =>
 kLd s v43 fun v44 =>
 kLen true v44 fun v45 =>
 kBin .gtr v45 (.int .i64 5000) fun v46 =>
 kCond v46 (
 kCall Try.prog 9 [] s fun v47 s =>
 k v47 s) (
 J18 [] s)) fun J16 =>
 kLen false ops_0 fun v31 =>
 kBin .lss i_7 v31 fun v32 =>
 kGrd v32 true (fun k =>
 kBin .lss i_7 (.int .i64 80) fun v35 =>
 k [v35] s) [undef] s fun xs s =>
 un1 xs fun v35 =>
 kPick v32 v35 (.bool false) fun v36 =>
 kCond v36 (
 J16 [] s) (
 J2 [] s)) [(.int .i64 0)] s) fun J1 =>
 kBin .neq v22 (.int .i64 0) fun v24 =>
 kGrd v24 false (fun k =>
 kEq 0 false v21 (.pointer none) fun v27 =>
 k [v27] s) [undef] s fun xs s =>
 un1 xs fun v27 =>
 kPick v24 (.bool true) v27 fun v28 =>
 kCond v28 (
 k (.bool false) s) (
 J1 [] s)
theorem F6_ok (ops_0 : Value) (s : AS) (k : Value → AS → Prop) : denFn Try.prog [(34, (.go 0 (.go 1 (.go 3 (.go 4 (.go 5 (.go 2 (.go 6 .done))))))))] 6 [ops_0] s k = F6 ops_0 s k := by kernel_rfl
theorem f6 {ops_0 : Value} {s : AS} {k : Value → AS → Prop} (h : F6 ops_0 s k) : kCall Try.prog 6 [ops_0] s k := denFn_ok [(34, (.go 0 (.go 1 (.go 3 (.go 4 (.go 5 (.go 2 (.go 6 .done))))))))] (cast (F6_ok ops_0 s k).symm h)
theorem k6_ok : okFn Try.prog 6 = true := by kernel_rfl

/- conch conchlaw12.InodesPlays -/
def F7 (sizes_0 ops_1 : Value) (s : AS) (k : Value → AS → Prop) : Prop :=
 kNew s (cellsV sizes_0) fun sizes_2 s =>
 kIdxA 2 1 sizes_2 (.int .i64 0) fun v25 =>
 kLd s v25 fun v26 =>
 kIdxA 2 1 sizes_2 (.int .i64 1) fun v27 =>
 kLd s v27 fun v28 =>
 kCall Try.prog 10 [v26, v28] s fun v29 s =>
 kExt 0 v29 fun v30 =>
 kExt 1 v29 fun v31 =>
 kIdxA 2 1 sizes_2 (.int .i64 0) fun v33 =>
 kLd s v33 fun v34 =>
 kIdxA 2 1 sizes_2 (.int .i64 1) fun v35 =>
 kLd s v35 fun v36 =>
 kCall Try.prog 23 [v34, v36] s fun v37 s =>
 kExt 0 v37 fun v38 =>
 kExt 1 v37 fun v39 =>
 kJoin (fun _ s =>
 kJoin (fun _ s =>
 kJoin (fun _ s =>
 kCall Try.prog 9 [] s fun v181 s =>
 k v181 s) fun J3 =>
 kLoop (fun again4 xs s =>
 un3 xs fun t_5 r_7 i_9 =>
 kJoin (fun _ s =>
 kJoin (fun xs s =>
 un2 xs fun t_5 r_7 =>
 kBin .add i_9 (.int .i64 1) fun v62 =>
 again4 [t_5, r_7, v62] s) fun J6 =>
 kIdx 5 ops_1 i_9 fun v65 =>
 kLdN s 5 v65 fun v66 =>
 kNew s [(.int .i64 0), (.int .i64 0), (.int .i64 0), (.int .i64 0), (.string (bs []))] fun o_10 s =>
 kSt s 5 o_10 v66 fun s =>
 kJoin (fun _ s =>
 kJoin (fun xs s =>
 un2 xs fun t_5 r_7 =>
 kLdN s 5 o_10 fun v93 =>
 kCall Try.prog 17 [t_5, v93] s fun v94 s =>
 kExt 0 v94 fun v95 =>
 kExt 1 v94 fun v96 =>
 kExt 2 v94 fun v97 =>
 kLdN s 5 o_10 fun v100 =>
 kCall Try.prog 27 [r_7, v100] s fun v101 s =>
 kExt 0 v101 fun v102 =>
 kExt 1 v101 fun v103 =>
 kExt 2 v101 fun v104 =>
 kFld 1 o_10 fun v106 =>
 kLd s v106 fun v107 =>
 kCall Try.prog 28 [r_7, v107] s fun v108 s =>
 kNew s [(.int .i64 0), (.int .i64 0), (.int .i64 0), (.string (bs [])), (.slice none 0 0)] fun x_19 s =>
 kSt s 5 x_19 v108 fun s =>
 kCall Try.prog 15 [t_5] s fun v111 s =>
 kExt 0 v111 fun v112 =>
 kExt 1 v111 fun v113 =>
 kCall Try.prog 29 [r_7] s fun v116 s =>
 kExt 0 v116 fun v117 =>
 kExt 1 v116 fun v118 =>
 kJoin (fun _ s =>
 kFld 1 o_10 fun v172 =>
 kLd s v172 fun v173 =>
 kCall Try.prog 13 [t_5, v173, (.int .i64 0), (.int .i64 4096)] s fun v174 s =>
 kExt 0 v174 fun v175 =>
 kExt 1 v174 fun v176 =>
 kFld 3 x_19 fun v178 =>
 kLd s v178 fun v179 =>
 kBin .neq v175 v179 fun v180 =>
 kCond v180 (
 k (.bool false) s) (
 J6 [t_5, r_7] s)) fun J9 =>
 kBin .neq v95 v102 fun v121 =>
 kGrd v121 false (fun k =>
 kBin .neq v96 v103 fun v125 =>
 k [v125] s) [undef] s fun xs s =>
 un1 xs fun v125 =>
 kPick v121 (.bool true) v125 fun v126 =>
 kGrd v126 false (fun k =>
 kBin .neq v97 v104 fun v130 =>
 k [v130] s) [undef] s fun xs s =>
 un1 xs fun v130 =>
 kPick v126 (.bool true) v130 fun v131 =>
 kGrd v131 false (fun k =>
 kFld 1 o_10 fun v134 =>
 kFld 0 x_19 fun v137 =>
 kLd s v134 fun v135 =>
 kLd s v137 fun v138 =>
 kCall Try.prog 19 [t_5, v135] s fun v136 s =>
 kChk s v137 v138 (
 kBin .neq v136 v138 fun v139 =>
 k [v139] s)) [undef] s fun xs s =>
 un1 xs fun v139 =>
 kPick v131 (.bool true) v139 fun v140 =>
 kGrd v140 false (fun k =>
 kFld 1 o_10 fun v143 =>
 kFld 3 x_19 fun v146 =>
 kLd s v143 fun v144 =>
 kLd s v146 fun v147 =>
 kLen true v147 fun v148 =>
 kCall Try.prog 14 [t_5, v144] s fun v145 s =>
 kChk s v146 v147 (
 kBin .neq v145 v148 fun v149 =>
 k [v149] s)) [undef] s fun xs s =>
 un1 xs fun v149 =>
 kPick v140 (.bool true) v149 fun v150 =>
 kGrd v150 false (fun k =>
 kFld 1 o_10 fun v153 =>
 kFld 1 x_19 fun v156 =>
 kLd s v153 fun v154 =>
 kLd s v156 fun v157 =>
 kCall Try.prog 18 [t_5, v154] s fun v155 s =>
 kChk s v156 v157 (
 kBin .neq v155 v157 fun v158 =>
 k [v158] s)) [undef] s fun xs s =>
 un1 xs fun v158 =>
 kPick v150 (.bool true) v158 fun v159 =>
 kGrd v159 false (fun k =>
 kBin .neq v112 v117 fun v163 =>
 k [v163] s) [undef] s fun xs s =>
 un1 xs fun v163 =>
 kPick v159 (.bool true) v163 fun v164 =>
 kGrd v164 false (fun k =>
 kBin .neq v113 v118 fun v168 =>
 k [v168] s) [undef] s fun xs s =>
 un1 xs fun v168 =>
 kPick v164 (.bool true) v168 fun v169 =>
 kCond v169 (
 k (.bool false) s) (
 J9 [] s)) fun J8 =>
 kFld 0 o_10 fun v72 =>
 kLd s v72 fun v73 =>
 kBin .eql v73 (.int .i64 8) fun v74 =>
 kCond v74 (
 kCall Try.prog 24 [t_5] s fun v76 s =>
 kCall Try.prog 25 [r_7] s fun v78 s =>
 kFld 1 o_10 fun v80 =>
 kLd s v80 fun v81 =>
 kCall Try.prog 12 [t_5, v81, (.int .i64 0), (.string (bs [99, 104, 97, 110, 103, 101, 100]))] s fun v82 s =>
 kFld 1 o_10 fun v84 =>
 kLd s v84 fun v85 =>
 kCall Try.prog 26 [t_5, v85] s fun v86 s =>
 kEq 0 false v76 (.pointer none) fun v90 =>
 kCond v90 (
 k (.bool false) s) (
 J6 [v76, v78] s)) (
 J8 [t_5, r_7] s)) fun J7 =>
 kFld 4 o_10 fun v67 =>
 kLd s v67 fun v68 =>
 kLen true v68 fun v69 =>
 kBin .gtr v69 (.int .i64 5000) fun v70 =>
 kCond v70 (
 kCall Try.prog 9 [] s fun v71 s =>
 k v71 s) (
 J7 [] s)) fun J5 =>
 kLen false ops_1 fun v55 =>
 kBin .lss i_9 v55 fun v56 =>
 kGrd v56 true (fun k =>
 kBin .lss i_9 (.int .i64 80) fun v59 =>
 k [v59] s) [undef] s fun xs s =>
 un1 xs fun v59 =>
 kPick v56 v59 (.bool false) fun v60 =>
 kCond v60 (
 J5 [] s) (
 J3 [] s)) [v30, v38, (.int .i64 0)] s) fun J2 =>
 kEq 0 false v38 (.pointer none) fun v51 =>
 kCond v51 (
 kCall Try.prog 9 [] s fun v52 s =>
 k v52 s) (
 J2 [] s)) fun J1 =>
 kBin .neq v31 v39 fun v42 =>
 kGrd v42 false (fun k =>
 kEq 0 false v30 (.pointer none) fun v45 =>
 kEq 0 false v38 (.pointer none) fun v47 =>
 kEq 4 true v45 v47 fun v48 =>
 k [v48] s) [undef] s fun xs s =>
 un1 xs fun v48 =>
 kPick v42 (.bool true) v48 fun v49 =>
 kCond v49 (
 k (.bool false) s) (
 J1 [] s)
theorem F7_ok (sizes_0 ops_1 : Value) (s : AS) (k : Value → AS → Prop) : denFn Try.prog [(27, (.go 0 (.go 1 (.go 2 (.go 3 (.go 4 (.go 5 (.go 6 (.go 7 (.go 8 (.go 9 (.go 10 (.go 11 (.go 12 (.go 13 (.go 14 (.go 15 (.go 18 (.go 16 (.go 19 (.go 17 (.go 20 (.go 21 (.go 22 (.go 23 (.go 24 (.go 27 (.go 25 (.go 28 (.go 29 (.go 26 (.go 30 (.go 31 (.go 32 (.go 33 (.go 34 (.go 37 (.go 35 (.go 38 (.go 36 (.go 39 (.go 40 (.go 41 (.go 42 (.go 43 (.go 44 (.go 45 (.go 46 (.go 47 (.go 48 (.go 49 (.go 50 .done))))))))))))))))))))))))))))))))))))))))))))))))))))] 7 [sizes_0, ops_1] s k = F7 sizes_0 ops_1 s k := by kernel_rfl
theorem f7 {sizes_0 ops_1 : Value} {s : AS} {k : Value → AS → Prop} (h : F7 sizes_0 ops_1 s k) : kCall Try.prog 7 [sizes_0, ops_1] s k := denFn_ok [(27, (.go 0 (.go 1 (.go 2 (.go 3 (.go 4 (.go 5 (.go 6 (.go 7 (.go 8 (.go 9 (.go 10 (.go 11 (.go 12 (.go 13 (.go 14 (.go 15 (.go 18 (.go 16 (.go 19 (.go 17 (.go 20 (.go 21 (.go 22 (.go 23 (.go 24 (.go 27 (.go 25 (.go 28 (.go 29 (.go 26 (.go 30 (.go 31 (.go 32 (.go 33 (.go 34 (.go 37 (.go 35 (.go 38 (.go 36 (.go 39 (.go 40 (.go 41 (.go 42 (.go 43 (.go 44 (.go 45 (.go 46 (.go 47 (.go 48 (.go 49 (.go 50 .done))))))))))))))))))))))))))))))))))))))))))))))))))))] (cast (F7_ok sizes_0 ops_1 s k).symm h)
theorem k7_ok : okFn Try.prog 7 = true := by kernel_rfl

/- conch conchlaw12.InodesNil -/
def F8 (i_0 data_1 : Value) (s : AS) (k : Value → AS → Prop) : Prop :=
 kCall Try.prog 11 [(.pointer none), (.int .i64 1)] s fun v16 s =>
 kExt 0 v16 fun v17 =>
 kExt 1 v16 fun v18 =>
 kCall Try.prog 13 [(.pointer none), i_0, i_0, i_0] s fun v24 s =>
 kExt 0 v24 fun v25 =>
 kExt 1 v24 fun v26 =>
 kCall Try.prog 12 [(.pointer none), i_0, i_0, data_1] s fun v32 s =>
 kExt 0 v32 fun v33 =>
 kExt 1 v32 fun v34 =>
 kCall Try.prog 15 [(.pointer none)] s fun v37 s =>
 kExt 0 v37 fun v38 =>
 kExt 1 v37 fun v39 =>
 kBin .eql v18 (.int .i64 2) fun v41 =>
 kGrd v41 true (fun k =>
 kBin .eql v26 (.int .i64 2) fun v44 =>
 k [v44] s) [undef] s fun xs s =>
 un1 xs fun v44 =>
 kPick v41 v44 (.bool false) fun v45 =>
 kGrd v45 true (fun k =>
 kBin .eql v34 (.int .i64 2) fun v48 =>
 k [v48] s) [undef] s fun xs s =>
 un1 xs fun v48 =>
 kPick v45 v48 (.bool false) fun v49 =>
 kGrd v49 true (fun k =>
 kCall Try.prog 19 [(.pointer none), i_0] s fun v53 s =>
 kBin .eql v53 (.int .i64 0) fun v54 =>
 k [v54] s) [undef] s fun xs s =>
 un1 xs fun v54 =>
 kPick v49 v54 (.bool false) fun v55 =>
 kGrd v55 true (fun k =>
 kCall Try.prog 14 [(.pointer none), i_0] s fun v59 s =>
 kBin .eql v59 (.int .i64 0) fun v60 =>
 k [v60] s) [undef] s fun xs s =>
 un1 xs fun v60 =>
 kPick v55 v60 (.bool false) fun v61 =>
 kGrd v61 true (fun k =>
 kCall Try.prog 18 [(.pointer none), i_0] s fun v65 s =>
 kBin .eql v65 (.int .i64 0) fun v66 =>
 k [v66] s) [undef] s fun xs s =>
 un1 xs fun v66 =>
 kPick v61 v66 (.bool false) fun v67 =>
 kGrd v67 true (fun k =>
 kCall Try.prog 26 [(.pointer none), i_0] s fun v71 s =>
 kBin .eql v71 (.int .i64 2) fun v72 =>
 k [v72] s) [undef] s fun xs s =>
 un1 xs fun v72 =>
 kPick v67 v72 (.bool false) fun v73 =>
 kGrd v73 true (fun k =>
 kCall Try.prog 21 [(.pointer none), i_0] s fun v77 s =>
 kBin .eql v77 (.int .i64 2) fun v78 =>
 k [v78] s) [undef] s fun xs s =>
 un1 xs fun v78 =>
 kPick v73 v78 (.bool false) fun v79 =>
 kGrd v79 true (fun k =>
 kCall Try.prog 20 [(.pointer none), i_0] s fun v83 s =>
 kBin .eql v83 (.int .i64 2) fun v84 =>
 k [v84] s) [undef] s fun xs s =>
 un1 xs fun v84 =>
 kPick v79 v84 (.bool false) fun v85 =>
 kGrd v85 true (fun k =>
 kCall Try.prog 22 [(.pointer none), i_0] s fun v89 s =>
 kBin .eql v89 (.int .i64 2) fun v90 =>
 k [v90] s) [undef] s fun xs s =>
 un1 xs fun v90 =>
 kPick v85 v90 (.bool false) fun v91 =>
 kGrd v91 true (fun k =>
 kCall Try.prog 16 [(.pointer none), i_0, (.int .i64 0)] s fun v95 s =>
 kBin .eql v95 (.int .i64 2) fun v96 =>
 k [v96] s) [undef] s fun xs s =>
 un1 xs fun v96 =>
 kPick v91 v96 (.bool false) fun v97 =>
 kGrd v97 true (fun k =>
 kBin .eql v38 (.int .i64 0) fun v100 =>
 k [v100] s) [undef] s fun xs s =>
 un1 xs fun v100 =>
 kPick v97 v100 (.bool false) fun v101 =>
 kGrd v101 true (fun k =>
 kBin .eql v39 (.int .i64 0) fun v104 =>
 k [v104] s) [undef] s fun xs s =>
 un1 xs fun v104 =>
 kPick v101 v104 (.bool false) fun v105 =>
 kGrd v105 true (fun k =>
 kCall Try.prog 24 [(.pointer none)] s fun v108 s =>
 kEq 0 false v108 (.pointer none) fun v109 =>
 k [v109] s) [undef] s fun xs s =>
 un1 xs fun v109 =>
 kPick v105 v109 (.bool false) fun v110 =>
 kGrd v110 true (fun k =>
 kCall Try.prog 9 [] s fun v112 s =>
 k [v112] s) [undef] s fun xs s =>
 un1 xs fun v112 =>
 kPick v110 v112 (.bool false) fun v113 =>
 k v113 s
theorem F8_ok (i_0 data_1 : Value) (s : AS) (k : Value → AS → Prop) : denFn Try.prog [] 8 [i_0, data_1] s k = F8 i_0 data_1 s k := by kernel_rfl
theorem f8 {i_0 data_1 : Value} {s : AS} {k : Value → AS → Prop} (h : F8 i_0 data_1 s k) : kCall Try.prog 8 [i_0, data_1] s k := denFn_ok [] (cast (F8_ok i_0 data_1 s k).symm h)
theorem k8_ok : okFn Try.prog 8 = true := by kernel_rfl

/- conch conchlaw12.awake -/
def F9 (s : AS) (k : Value → AS → Prop) : Prop :=
 kCall Try.prog 10 [(.int .i64 2), (.int .i64 2)] s fun v13 s =>
 kExt 0 v13 fun v14 =>
 kExt 1 v13 fun v15 =>
 kJoin (fun _ s =>
 kCall Try.prog 11 [v14, (.int .i64 1)] s fun v24 s =>
 kExt 0 v24 fun v25 =>
 kExt 1 v24 fun v26 =>
 kCall Try.prog 12 [v14, (.int .i64 1), (.int .i64 100), (.string (bs [120]))] s fun v29 s =>
 kExt 0 v29 fun v30 =>
 kExt 1 v29 fun v31 =>
 kCall Try.prog 15 [v14] s fun v34 s =>
 kExt 0 v34 fun v35 =>
 kExt 1 v34 fun v36 =>
 kCall Try.prog 14 [v14, (.int .i64 1)] s fun v38 s =>
 kCall Try.prog 26 [v14, (.int .i64 1)] s fun v40 s =>
 kCall Try.prog 21 [v14, (.int .i64 1)] s fun v42 s =>
 kCall Try.prog 15 [v14] s fun v45 s =>
 kExt 0 v45 fun v46 =>
 kExt 1 v45 fun v47 =>
 kBin .eql v25 (.int .i64 1) fun v49 =>
 kGrd v49 true (fun k =>
 kBin .eql v30 (.int .i64 1) fun v52 =>
 k [v52] s) [undef] s fun xs s =>
 un1 xs fun v52 =>
 kPick v49 v52 (.bool false) fun v53 =>
 kGrd v53 true (fun k =>
 kBin .eql v31 (.int .i64 0) fun v56 =>
 k [v56] s) [undef] s fun xs s =>
 un1 xs fun v56 =>
 kPick v53 v56 (.bool false) fun v57 =>
 kGrd v57 true (fun k =>
 kBin .eql v38 (.int .i64 101) fun v60 =>
 k [v60] s) [undef] s fun xs s =>
 un1 xs fun v60 =>
 kPick v57 v60 (.bool false) fun v61 =>
 kGrd v61 true (fun k =>
 kBin .eql v36 (.int .i64 1) fun v64 =>
 k [v64] s) [undef] s fun xs s =>
 un1 xs fun v64 =>
 kPick v61 v64 (.bool false) fun v65 =>
 kGrd v65 true (fun k =>
 kBin .eql v47 (.int .i64 2) fun v68 =>
 k [v68] s) [undef] s fun xs s =>
 un1 xs fun v68 =>
 kPick v65 v68 (.bool false) fun v69 =>
 kGrd v69 true (fun k =>
 kCall Try.prog 19 [v14, (.int .i64 1)] s fun v72 s =>
 kBin .eql v72 (.int .i64 0) fun v73 =>
 k [v73] s) [undef] s fun xs s =>
 un1 xs fun v73 =>
 kPick v69 v73 (.bool false) fun v74 =>
 k v74 s) fun J1 =>
 kBin .neq v15 (.int .i64 0) fun v17 =>
 kGrd v17 false (fun k =>
 kEq 0 false v14 (.pointer none) fun v20 =>
 k [v20] s) [undef] s fun xs s =>
 un1 xs fun v20 =>
 kPick v17 (.bool true) v20 fun v21 =>
 kCond v21 (
 k (.bool false) s) (
 J1 [] s)
theorem F9_ok (s : AS) (k : Value → AS → Prop) : denFn Try.prog [] 9 [] s k = F9 s k := by kernel_rfl
theorem f9 {s : AS} {k : Value → AS → Prop} (h : F9 s k) : kCall Try.prog 9 [] s k := denFn_ok [] (cast (F9_ok s k).symm h)
theorem k9_ok : okFn Try.prog 9 = true := by kernel_rfl

/- conch inodes.New -/
def F10 (nodes_0 many_1 : Value) (s : AS) (k : Value → AS → Prop) : Prop :=
 kJoin (fun _ s =>
 kCall Try.prog 30 [many_1] s fun v16 s =>
 kExt 0 v16 fun v17 =>
 kExt 1 v16 fun v18 =>
 kJoin (fun _ s =>
 kMks s 1 8 [(.pointer none)] nodes_0 nodes_0 fun v23 s =>
 kBuild [(.slice none 0 0), (.pointer none)] [(0, 1, v23), (1, 1, v17)] fun v25 =>
 kNew s (cellsV v25) fun v26 s =>
 k (.tuple #[v26, (.int .i64 0)]) s) fun J2 =>
 kBin .neq v18 (.int .i64 0) fun v20 =>
 kCond v20 (
 k (.tuple #[(.pointer none), v18]) s) (
 J2 [] s)) fun J1 =>
 kBin .lss nodes_0 (.int .i64 1) fun v9 =>
 kGrd v9 false (fun k =>
 kBin .gtr nodes_0 (.int .i64 1024) fun v12 =>
 k [v12] s) [undef] s fun xs s =>
 un1 xs fun v12 =>
 kPick v9 (.bool true) v12 fun v13 =>
 kCond v13 (
 k (.tuple #[(.pointer none), (.int .i64 1)]) s) (
 J1 [] s)
theorem F10_ok (nodes_0 many_1 : Value) (s : AS) (k : Value → AS → Prop) : denFn Try.prog [] 10 [nodes_0, many_1] s k = F10 nodes_0 many_1 s k := by kernel_rfl
theorem f10 {nodes_0 many_1 : Value} {s : AS} {k : Value → AS → Prop} (h : F10 nodes_0 many_1 s k) : kCall Try.prog 10 [nodes_0, many_1] s k := denFn_ok [] (cast (F10_ok nodes_0 many_1 s k).symm h)
theorem k10_ok : okFn Try.prog 10 = true := by kernel_rfl

/- (*conch inodes.Table).Make -/
def F11 (t_0 kind_1 : Value) (s : AS) (k : Value → AS → Prop) : Prop :=
 kJoin (fun _ s =>
 kJoin (fun _ s =>
 k (.tuple #[(.int .i64 0), (.int .i64 21)]) s) fun J2 =>
 kNck t_0 fun v19 =>
 kFld 0 v19 fun v20 =>
 kLd s v20 fun v21 =>
 kLen false v21 fun v22 =>
 kLoop (fun again3 xs s =>
 un1 xs fun v23 =>
 kBin .lss v23 v22 fun v24 =>
 kJoin (fun _ s =>
 kJoin (fun _ s =>
 kBin .add v23 (.int .i64 1) fun v42 =>
 again3 [v42] s) fun J5 =>
 kIdx 1 v21 v23 fun v26 =>
 kLd s v26 fun v27 =>
 kEq 0 false v27 (.pointer none) fun v29 =>
 kCond v29 (
 kNck t_0 fun v31 =>
 kFld 0 v31 fun v32 =>
 kLd s v32 fun v33 =>
 kMkm s fun v36 s =>
 kBuild [(.int .i64 0), (.int .i64 0), (.int .i64 0), (.int .i64 0), (.map none)] [(2, 1, kind_1), (4, 1, v36)] fun v37 =>
 kNew s (cellsV v37) fun v38 s =>
 kIdx 1 v33 v23 fun v39 =>
 kSt s 1 v39 v38 fun s =>
 kBin .add v23 (.int .i64 1) fun v41 =>
 k (.tuple #[v41, (.int .i64 0)]) s) (
 J5 [] s)) fun J4 =>
 kCond v24 (
 J4 [] s) (
 J2 [] s)) [(.int .i64 0)] s) fun J1 =>
 kEq 0 false t_0 (.pointer none) fun v10 =>
 kCond v10 (
 k (.tuple #[(.int .i64 0), (.int .i64 2)]) s) (
 kBin .lss kind_1 (.int .i64 1) fun v13 =>
 kGrd v13 false (fun k =>
 kBin .gtr kind_1 (.int .i64 3) fun v16 =>
 k [v16] s) [undef] s fun xs s =>
 un1 xs fun v16 =>
 kPick v13 (.bool true) v16 fun v17 =>
 kCond v17 (
 k (.tuple #[(.int .i64 0), (.int .i64 1)]) s) (
 J1 [] s))
theorem F11_ok (t_0 kind_1 : Value) (s : AS) (k : Value → AS → Prop) : denFn Try.prog [] 11 [t_0, kind_1] s k = F11 t_0 kind_1 s k := by kernel_rfl
theorem f11 {t_0 kind_1 : Value} {s : AS} {k : Value → AS → Prop} (h : F11 t_0 kind_1 s k) : kCall Try.prog 11 [t_0, kind_1] s k := denFn_ok [] (cast (F11_ok t_0 kind_1 s k).symm h)
theorem k11_ok : okFn Try.prog 11 = true := by kernel_rfl

/- (*conch inodes.Table).Write -/
def F12 (t_0 i_1 at_2 data_3 : Value) (s : AS) (k : Value → AS → Prop) : Prop :=
 kCall Try.prog 31 [t_0, i_1] s fun v22 s =>
 kExt 0 v22 fun v23 =>
 kExt 1 v22 fun v24 =>
 kJoin (fun _ s =>
 kLen true data_3 fun v41 =>
 kBin .sub (.int .i64 4096) at_2 fun v43 =>
 kMax v43 (.int .i64 0) fun v44 =>
 kMin v41 v44 fun v45 =>
 kSubS data_3 none (some v45) fun v46 =>
 kJoin (fun xs s =>
 un1 xs fun done_13 =>
 kJoin (fun _ s =>
 k (.tuple #[done_13, (.int .i64 0)]) s) fun J3 =>
 kBin .gtr done_13 (.int .i64 0) fun v95 =>
 kCond v95 (
 kNck v23 fun v98 =>
 kFld 3 v98 fun v99 =>
 kLd s v99 fun v100 =>
 kBin .add at_2 done_13 fun v103 =>
 kMax v100 v103 fun v104 =>
 kNck v23 fun v105 =>
 kFld 3 v105 fun v106 =>
 kSt s 1 v106 v104 fun s =>
 J3 [] s) (
 J3 [] s)) fun J2 =>
 kLoop (fun again4 xs s =>
 un1 xs fun done_13 =>
 kJoin (fun _ s =>
 kBin .add at_2 done_13 fun v53 =>
 kBin .quo v53 (.int .i64 64) fun v54 =>
 kBin .add at_2 done_13 fun v57 =>
 kBin .rem v57 (.int .i64 64) fun v58 =>
 kCall Try.prog 32 [t_0, v23, v54] s fun v63 s =>
 kExt 0 v63 fun v64 =>
 kExt 1 v63 fun v65 =>
 kJoin (fun _ s =>
 kLen true v46 fun v72 =>
 kBin .sub v72 done_13 fun v74 =>
 kBin .sub (.int .i64 64) v58 fun v76 =>
 kMin v74 v76 fun v77 =>
 kNck t_0 fun v79 =>
 kFld 1 v79 fun v80 =>
 kBin .add done_13 v77 fun v88 =>
 kSubS v46 (some done_13) (some v88) fun v89 =>
 kLd s v80 fun v81 =>
 kCall Try.prog 33 [v81, v64, v58, v89] s fun v90 s =>
 kBin .add done_13 v77 fun v93 =>
 again4 [v93] s) fun J6 =>
 kBin .neq v65 (.int .i64 0) fun v67 =>
 kCond v67 (
 kBin .eql done_13 (.int .i64 0) fun v69 =>
 kCond v69 (
 k (.tuple #[(.int .i64 0), v65]) s) (
 J2 [done_13] s)) (
 J6 [] s)) fun J5 =>
 kLen true v46 fun v49 =>
 kBin .lss done_13 v49 fun v50 =>
 kCond v50 (
 J5 [] s) (
 J2 [done_13] s)) [(.int .i64 0)] s) fun J1 =>
 kBin .neq v24 (.int .i64 0) fun v27 =>
 kCond v27 (
 k (.tuple #[(.int .i64 0), v24]) s) (
 kBin .lss at_2 (.int .i64 0) fun v31 =>
 kCond v31 (
 k (.tuple #[(.int .i64 0), (.int .i64 1)]) s) (
 kBin .neq data_3 (.string (bs [])) fun v34 =>
 kGrd v34 true (fun k =>
 kBin .geq at_2 (.int .i64 4096) fun v37 =>
 k [v37] s) [undef] s fun xs s =>
 un1 xs fun v37 =>
 kPick v34 v37 (.bool false) fun v38 =>
 kCond v38 (
 k (.tuple #[(.int .i64 0), (.int .i64 3)]) s) (
 J1 [] s)))
theorem F12_ok (t_0 i_1 at_2 data_3 : Value) (s : AS) (k : Value → AS → Prop) : denFn Try.prog [(17, (.go 0 (.go 1 (.go 2 (.go 4 (.go 5 (.go 6 (.go 7 (.go 8 (.go 9 (.go 10 (.go 11 (.go 3 (.go 12 .done))))))))))))))] 12 [t_0, i_1, at_2, data_3] s k = F12 t_0 i_1 at_2 data_3 s k := by kernel_rfl
theorem f12 {t_0 i_1 at_2 data_3 : Value} {s : AS} {k : Value → AS → Prop} (h : F12 t_0 i_1 at_2 data_3 s k) : kCall Try.prog 12 [t_0, i_1, at_2, data_3] s k := denFn_ok [(17, (.go 0 (.go 1 (.go 2 (.go 4 (.go 5 (.go 6 (.go 7 (.go 8 (.go 9 (.go 10 (.go 11 (.go 3 (.go 12 .done))))))))))))))] (cast (F12_ok t_0 i_1 at_2 data_3 s k).symm h)
theorem k12_ok : okFn Try.prog 12 = true := by kernel_rfl

/- (*conch inodes.Table).Read -/
def F13 (t_0 i_1 at_2 n_3 : Value) (s : AS) (k : Value → AS → Prop) : Prop :=
 kCall Try.prog 31 [t_0, i_1] s fun v24 s =>
 kExt 0 v24 fun v25 =>
 kExt 1 v24 fun v26 =>
 kJoin (fun _ s =>
 kNck v25 fun v47 =>
 kFld 3 v47 fun v48 =>
 kLd s v48 fun v49 =>
 kBin .sub v49 at_2 fun v51 =>
 kMin n_3 v51 fun v52 =>
 kMks s 1 1 [(.int .u8 0)] v52 v52 fun v53 s =>
 kJoin (fun _ s =>
 kCvBS s v53 fun v103 =>
 k (.tuple #[v103, (.int .i64 0)]) s) fun J2 =>
 kLoop (fun again3 xs s =>
 un1 xs fun done_13 =>
 kJoin (fun _ s =>
 kBin .add at_2 done_13 fun v60 =>
 kBin .quo v60 (.int .i64 64) fun v61 =>
 kBin .add at_2 done_13 fun v64 =>
 kBin .rem v64 (.int .i64 64) fun v65 =>
 kLen false v53 fun v67 =>
 kBin .sub v67 done_13 fun v69 =>
 kBin .sub (.int .i64 64) v65 fun v71 =>
 kMin v69 v71 fun v72 =>
 kJoin (fun _ s =>
 kBin .add done_13 v72 fun v101 =>
 again3 [v101] s) fun J5 =>
 kNck v25 fun v75 =>
 kFld 4 v75 fun v76 =>
 kLd s v76 fun v77 =>
 kGen Try.prog (.lk 68 true) [v77, v61] s fun v79 s =>
 kExt 0 v79 fun v80 =>
 kExt 1 v79 fun v81 =>
 kCond v81 (
 kNck t_0 fun v85 =>
 kFld 1 v85 fun v86 =>
 kLd s v86 fun v87 =>
 kCall Try.prog 34 [v87, v80, v65, v72] s fun v91 s =>
 kExt 0 v91 fun v92 =>
 kExt 1 v91 fun v93 =>
 kSubL 1 v53 (some done_13) none fun v96 =>
 kCpy Try.prog 32 9 v96 v92 s fun v98 s =>
 J5 [] s) (
 J5 [] s)) fun J4 =>
 kLen false v53 fun v56 =>
 kBin .lss done_13 v56 fun v57 =>
 kCond v57 (
 J4 [] s) (
 J2 [] s)) [(.int .i64 0)] s) fun J1 =>
 kBin .neq v26 (.int .i64 0) fun v29 =>
 kCond v29 (
 k (.tuple #[(.string (bs [])), v26]) s) (
 kBin .lss at_2 (.int .i64 0) fun v33 =>
 kGrd v33 false (fun k =>
 kBin .lss n_3 (.int .i64 0) fun v36 =>
 k [v36] s) [undef] s fun xs s =>
 un1 xs fun v36 =>
 kPick v33 (.bool true) v36 fun v37 =>
 kCond v37 (
 k (.tuple #[(.string (bs [])), (.int .i64 1)]) s) (
 kNck v25 fun v41 =>
 kFld 3 v41 fun v42 =>
 kLd s v42 fun v43 =>
 kBin .geq at_2 v43 fun v44 =>
 kCond v44 (
 k (.tuple #[(.string (bs [])), (.int .i64 0)]) s) (
 J1 [] s)))
theorem F13_ok (t_0 i_1 at_2 n_3 : Value) (s : AS) (k : Value → AS → Prop) : denFn Try.prog [] 13 [t_0, i_1, at_2, n_3] s k = F13 t_0 i_1 at_2 n_3 s k := by kernel_rfl
theorem f13 {t_0 i_1 at_2 n_3 : Value} {s : AS} {k : Value → AS → Prop} (h : F13 t_0 i_1 at_2 n_3 s k) : kCall Try.prog 13 [t_0, i_1, at_2, n_3] s k := denFn_ok [] (cast (F13_ok t_0 i_1 at_2 n_3 s k).symm h)
theorem k13_ok : okFn Try.prog 13 = true := by kernel_rfl

/- (*conch inodes.Table).Size -/
def F14 (t_0 i_1 : Value) (s : AS) (k : Value → AS → Prop) : Prop :=
 kJoin (fun _ s =>
 k (.int .i64 0) s) fun J1 =>
 kCall Try.prog 35 [t_0, i_1] s fun v8 s =>
 kEq 0 true v8 (.pointer none) fun v10 =>
 kCond v10 (
 kNck v8 fun v12 =>
 kFld 3 v12 fun v13 =>
 kLd s v13 fun v14 =>
 k v14 s) (
 J1 [] s)
theorem F14_ok (t_0 i_1 : Value) (s : AS) (k : Value → AS → Prop) : denFn Try.prog [] 14 [t_0, i_1] s k = F14 t_0 i_1 s k := by kernel_rfl
theorem f14 {t_0 i_1 : Value} {s : AS} {k : Value → AS → Prop} (h : F14 t_0 i_1 s k) : kCall Try.prog 14 [t_0, i_1] s k := denFn_ok [] (cast (F14_ok t_0 i_1 s k).symm h)
theorem k14_ok : okFn Try.prog 14 = true := by kernel_rfl

/- (*conch inodes.Table).Free -/
def F15 (t_0 : Value) (s : AS) (k : Value → AS → Prop) : Prop :=
 kJoin (fun _ s =>
 kJoin (fun xs s =>
 un1 xs fun n_4 =>
 kNck t_0 fun v25 =>
 kFld 1 v25 fun v26 =>
 kLd s v26 fun v27 =>
 kCall Try.prog 36 [v27] s fun v28 s =>
 k (.tuple #[n_4, v28]) s) fun J2 =>
 kNck t_0 fun v10 =>
 kFld 0 v10 fun v11 =>
 kLd s v11 fun v12 =>
 kLen false v12 fun v13 =>
 kLoop (fun again3 xs s =>
 un2 xs fun n_4 v14 =>
 kBin .lss v14 v13 fun v15 =>
 kJoin (fun _ s =>
 kJoin (fun xs s =>
 un1 xs fun n_4 =>
 kBin .add v14 (.int .i64 1) fun v22 =>
 again3 [n_4, v22] s) fun J5 =>
 kIdx 1 v12 v14 fun v16 =>
 kLd s v16 fun v17 =>
 kEq 0 false v17 (.pointer none) fun v19 =>
 kCond v19 (
 kBin .add n_4 (.int .i64 1) fun v21 =>
 J5 [v21] s) (
 J5 [n_4] s)) fun J4 =>
 kCond v15 (
 J4 [] s) (
 J2 [n_4] s)) [(.int .i64 0), (.int .i64 0)] s) fun J1 =>
 kEq 0 false t_0 (.pointer none) fun v8 =>
 kCond v8 (
 k (.tuple #[(.int .i64 0), (.int .i64 0)]) s) (
 J1 [] s)
theorem F15_ok (t_0 : Value) (s : AS) (k : Value → AS → Prop) : denFn Try.prog [] 15 [t_0] s k = F15 t_0 s k := by kernel_rfl
theorem f15 {t_0 : Value} {s : AS} {k : Value → AS → Prop} (h : F15 t_0 s k) : kCall Try.prog 15 [t_0] s k := denFn_ok [] (cast (F15_ok t_0 s k).symm h)
theorem k15_ok : okFn Try.prog 15 = true := by kernel_rfl

/- (*conch inodes.Table).Cut -/
def F16 (t_0 i_1 size_2 : Value) (s : AS) (k : Value → AS → Prop) : Prop :=
 kCall Try.prog 31 [t_0, i_1] s fun v15 s =>
 kExt 0 v15 fun v16 =>
 kExt 1 v15 fun v17 =>
 kJoin (fun _ s =>
 kBin .add size_2 (.int .i64 64) fun v31 =>
 kBin .sub v31 (.int .i64 1) fun v32 =>
 kBin .quo v32 (.int .i64 64) fun v33 =>
 kCall Try.prog 37 [t_0, v16, v33] s fun v34 s =>
 kJoin (fun _ s =>
 kNck v16 fun v63 =>
 kFld 3 v63 fun v64 =>
 kSt s 1 v64 size_2 fun s =>
 k (.int .i64 0) s) fun J2 =>
 kBin .rem size_2 (.int .i64 64) fun v36 =>
 kBin .gtr v36 (.int .i64 0) fun v38 =>
 kCond v38 (
 kNck v16 fun v41 =>
 kFld 4 v41 fun v42 =>
 kLd s v42 fun v43 =>
 kBin .quo size_2 (.int .i64 64) fun v45 =>
 kGen Try.prog (.lk 68 true) [v43, v45] s fun v46 s =>
 kExt 0 v46 fun v47 =>
 kExt 1 v46 fun v48 =>
 kCond v48 (
 kNck t_0 fun v51 =>
 kFld 1 v51 fun v52 =>
 kBin .sub (.int .i64 64) v36 fun v57 =>
 kLd s v52 fun v53 =>
 kMks s 1 1 [(.int .u8 0)] v57 v57 fun v58 s =>
 kChk s v52 v53 (
 kCvBS s v58 fun v59 =>
 kChk s v52 v53 (
 kCall Try.prog 33 [v53, v47, v36, v59] s fun v60 s =>
 J2 [] s))) (
 J2 [] s)) (
 J2 [] s)) fun J1 =>
 kBin .neq v17 (.int .i64 0) fun v20 =>
 kCond v20 (
 k v17 s) (
 kBin .lss size_2 (.int .i64 0) fun v24 =>
 kCond v24 (
 k (.int .i64 1) s) (
 kBin .gtr size_2 (.int .i64 4096) fun v27 =>
 kCond v27 (
 k (.int .i64 3) s) (
 J1 [] s)))
theorem F16_ok (t_0 i_1 size_2 : Value) (s : AS) (k : Value → AS → Prop) : denFn Try.prog [(13, (.go 0 (.go 1 (.go 2 (.go 4 (.go 5 (.go 6 (.go 7 (.go 3 (.go 8 (.go 9 (.go 10 .done))))))))))))] 16 [t_0, i_1, size_2] s k = F16 t_0 i_1 size_2 s k := by kernel_rfl
theorem f16 {t_0 i_1 size_2 : Value} {s : AS} {k : Value → AS → Prop} (h : F16 t_0 i_1 size_2 s k) : kCall Try.prog 16 [t_0, i_1, size_2] s k := denFn_ok [(13, (.go 0 (.go 1 (.go 2 (.go 4 (.go 5 (.go 6 (.go 7 (.go 3 (.go 8 (.go 9 (.go 10 .done))))))))))))] (cast (F16_ok t_0 i_1 size_2 s k).symm h)
theorem k16_ok : okFn Try.prog 16 = true := by kernel_rfl

/- conch conchlaw12.do -/
def F17 (t_0 o_1 : Value) (s : AS) (k : Value → AS → Prop) : Prop :=
 kNew s (cellsV o_1) fun o_3 s =>
 kJoin (fun _ s =>
 kFld 1 o_3 fun v81 =>
 kLd s v81 fun v82 =>
 kFld 3 o_3 fun v83 =>
 kLd s v83 fun v84 =>
 kCall Try.prog 16 [t_0, v82, v84] s fun v85 s =>
 k (.tuple #[(.int .i64 0), (.string (bs [])), v85]) s) fun J1 =>
 kFld 0 o_3 fun v13 =>
 kLd s v13 fun v14 =>
 kBin .eql v14 (.int .i64 0) fun v16 =>
 kCond v16 (
 kFld 3 o_3 fun v19 =>
 kLd s v19 fun v20 =>
 kCall Try.prog 11 [t_0, v20] s fun v21 s =>
 kExt 0 v21 fun v22 =>
 kExt 1 v21 fun v23 =>
 k (.tuple #[v22, (.string (bs [])), v23]) s) (
 kBin .eql v14 (.int .i64 1) fun v27 =>
 kCond v27 (
 kFld 1 o_3 fun v29 =>
 kLd s v29 fun v30 =>
 kCall Try.prog 26 [t_0, v30] s fun v31 s =>
 k (.tuple #[(.int .i64 0), (.string (bs [])), v31]) s) (
 kBin .eql v14 (.int .i64 2) fun v33 =>
 kCond v33 (
 kFld 1 o_3 fun v35 =>
 kLd s v35 fun v36 =>
 kCall Try.prog 21 [t_0, v36] s fun v37 s =>
 k (.tuple #[(.int .i64 0), (.string (bs [])), v37]) s) (
 kBin .eql v14 (.int .i64 3) fun v39 =>
 kCond v39 (
 kFld 1 o_3 fun v41 =>
 kLd s v41 fun v42 =>
 kCall Try.prog 20 [t_0, v42] s fun v43 s =>
 k (.tuple #[(.int .i64 0), (.string (bs [])), v43]) s) (
 kBin .eql v14 (.int .i64 4) fun v45 =>
 kCond v45 (
 kFld 1 o_3 fun v47 =>
 kLd s v47 fun v48 =>
 kCall Try.prog 22 [t_0, v48] s fun v49 s =>
 k (.tuple #[(.int .i64 0), (.string (bs [])), v49]) s) (
 kBin .eql v14 (.int .i64 5) fun v51 =>
 kCond v51 (
 kFld 1 o_3 fun v54 =>
 kLd s v54 fun v55 =>
 kFld 2 o_3 fun v56 =>
 kLd s v56 fun v57 =>
 kFld 3 o_3 fun v58 =>
 kLd s v58 fun v59 =>
 kCall Try.prog 13 [t_0, v55, v57, v59] s fun v60 s =>
 kExt 0 v60 fun v61 =>
 kExt 1 v60 fun v62 =>
 k (.tuple #[(.int .i64 0), v61, v62]) s) (
 kBin .eql v14 (.int .i64 6) fun v66 =>
 kCond v66 (
 kFld 1 o_3 fun v69 =>
 kLd s v69 fun v70 =>
 kFld 2 o_3 fun v71 =>
 kLd s v71 fun v72 =>
 kFld 4 o_3 fun v73 =>
 kLd s v73 fun v74 =>
 kCall Try.prog 12 [t_0, v70, v72, v74] s fun v75 s =>
 kExt 0 v75 fun v76 =>
 kExt 1 v75 fun v77 =>
 k (.tuple #[v76, (.string (bs [])), v77]) s) (
 J1 [] s)))))))
theorem F17_ok (t_0 o_1 : Value) (s : AS) (k : Value → AS → Prop) : denFn Try.prog [] 17 [t_0, o_1] s k = F17 t_0 o_1 s k := by kernel_rfl
theorem f17 {t_0 o_1 : Value} {s : AS} {k : Value → AS → Prop} (h : F17 t_0 o_1 s k) : kCall Try.prog 17 [t_0, o_1] s k := denFn_ok [] (cast (F17_ok t_0 o_1 s k).symm h)
theorem k17_ok : okFn Try.prog 17 = true := by kernel_rfl

/- (*conch inodes.Table).Links -/
def F18 (t_0 i_1 : Value) (s : AS) (k : Value → AS → Prop) : Prop :=
 kJoin (fun _ s =>
 k (.int .i64 0) s) fun J1 =>
 kCall Try.prog 35 [t_0, i_1] s fun v8 s =>
 kEq 0 true v8 (.pointer none) fun v10 =>
 kCond v10 (
 kNck v8 fun v12 =>
 kFld 0 v12 fun v13 =>
 kFld 0 v13 fun v14 =>
 kLd s v14 fun v15 =>
 k v15 s) (
 J1 [] s)
theorem F18_ok (t_0 i_1 : Value) (s : AS) (k : Value → AS → Prop) : denFn Try.prog [] 18 [t_0, i_1] s k = F18 t_0 i_1 s k := by kernel_rfl
theorem f18 {t_0 i_1 : Value} {s : AS} {k : Value → AS → Prop} (h : F18 t_0 i_1 s k) : kCall Try.prog 18 [t_0, i_1] s k := denFn_ok [] (cast (F18_ok t_0 i_1 s k).symm h)
theorem k18_ok : okFn Try.prog 18 = true := by kernel_rfl

/- (*conch inodes.Table).Kind -/
def F19 (t_0 i_1 : Value) (s : AS) (k : Value → AS → Prop) : Prop :=
 kJoin (fun _ s =>
 k (.int .i64 0) s) fun J1 =>
 kCall Try.prog 35 [t_0, i_1] s fun v8 s =>
 kEq 0 true v8 (.pointer none) fun v10 =>
 kCond v10 (
 kNck v8 fun v12 =>
 kFld 2 v12 fun v13 =>
 kLd s v13 fun v14 =>
 k v14 s) (
 J1 [] s)
theorem F19_ok (t_0 i_1 : Value) (s : AS) (k : Value → AS → Prop) : denFn Try.prog [] 19 [t_0, i_1] s k = F19 t_0 i_1 s k := by kernel_rfl
theorem f19 {t_0 i_1 : Value} {s : AS} {k : Value → AS → Prop} (h : F19 t_0 i_1 s k) : kCall Try.prog 19 [t_0, i_1] s k := denFn_ok [] (cast (F19_ok t_0 i_1 s k).symm h)
theorem k19_ok : okFn Try.prog 19 = true := by kernel_rfl

/- (*conch inodes.Table).Hold -/
def F20 (t_0 i_1 : Value) (s : AS) (k : Value → AS → Prop) : Prop :=
 kCall Try.prog 31 [t_0, i_1] s fun v10 s =>
 kExt 0 v10 fun v11 =>
 kExt 1 v10 fun v12 =>
 kJoin (fun _ s =>
 k v12 s) fun J1 =>
 kBin .eql v12 (.int .i64 0) fun v14 =>
 kCond v14 (
 kNck v11 fun v16 =>
 kFld 0 v16 fun v17 =>
 kFld 1 v17 fun v18 =>
 kLd s v18 fun v19 =>
 kBin .add v19 (.int .i64 1) fun v20 =>
 kNck v11 fun v21 =>
 kFld 0 v21 fun v22 =>
 kFld 1 v22 fun v23 =>
 kSt s 1 v23 v20 fun s =>
 J1 [] s) (
 J1 [] s)
theorem F20_ok (t_0 i_1 : Value) (s : AS) (k : Value → AS → Prop) : denFn Try.prog [] 20 [t_0, i_1] s k = F20 t_0 i_1 s k := by kernel_rfl
theorem f20 {t_0 i_1 : Value} {s : AS} {k : Value → AS → Prop} (h : F20 t_0 i_1 s k) : kCall Try.prog 20 [t_0, i_1] s k := denFn_ok [] (cast (F20_ok t_0 i_1 s k).symm h)
theorem k20_ok : okFn Try.prog 20 = true := by kernel_rfl

/- (*conch inodes.Table).Untie -/
def F21 (t_0 i_1 : Value) (s : AS) (k : Value → AS → Prop) : Prop :=
 kCall Try.prog 31 [t_0, i_1] s fun v10 s =>
 kExt 0 v10 fun v11 =>
 kExt 1 v10 fun v12 =>
 kJoin (fun _ s =>
 kNck v11 fun v20 =>
 kFld 0 v20 fun v21 =>
 kFld 0 v21 fun v22 =>
 kCall Try.prog 38 [t_0, i_1, v11, v22] s fun v23 s =>
 k v23 s) fun J1 =>
 kBin .neq v12 (.int .i64 0) fun v14 =>
 kCond v14 (
 k v12 s) (
 J1 [] s)
theorem F21_ok (t_0 i_1 : Value) (s : AS) (k : Value → AS → Prop) : denFn Try.prog [] 21 [t_0, i_1] s k = F21 t_0 i_1 s k := by kernel_rfl
theorem f21 {t_0 i_1 : Value} {s : AS} {k : Value → AS → Prop} (h : F21 t_0 i_1 s k) : kCall Try.prog 21 [t_0, i_1] s k := denFn_ok [] (cast (F21_ok t_0 i_1 s k).symm h)
theorem k21_ok : okFn Try.prog 21 = true := by kernel_rfl

/- (*conch inodes.Table).Loose -/
def F22 (t_0 i_1 : Value) (s : AS) (k : Value → AS → Prop) : Prop :=
 kCall Try.prog 31 [t_0, i_1] s fun v10 s =>
 kExt 0 v10 fun v11 =>
 kExt 1 v10 fun v12 =>
 kJoin (fun _ s =>
 kNck v11 fun v20 =>
 kFld 0 v20 fun v21 =>
 kFld 1 v21 fun v22 =>
 kCall Try.prog 38 [t_0, i_1, v11, v22] s fun v23 s =>
 k v23 s) fun J1 =>
 kBin .neq v12 (.int .i64 0) fun v14 =>
 kCond v14 (
 k v12 s) (
 J1 [] s)
theorem F22_ok (t_0 i_1 : Value) (s : AS) (k : Value → AS → Prop) : denFn Try.prog [] 22 [t_0, i_1] s k = F22 t_0 i_1 s k := by kernel_rfl
theorem f22 {t_0 i_1 : Value} {s : AS} {k : Value → AS → Prop} (h : F22 t_0 i_1 s k) : kCall Try.prog 22 [t_0, i_1] s k := denFn_ok [] (cast (F22_ok t_0 i_1 s k).symm h)
theorem k22_ok : okFn Try.prog 22 = true := by kernel_rfl

/- conch conchref12.New -/
def F23 (nodes_0 blocks_1 : Value) (s : AS) (k : Value → AS → Prop) : Prop :=
 kJoin (fun _ s =>
 kBin .add nodes_0 (.int .i64 1) fun v21 =>
 kMks s 5 64 [(.int .i64 0), (.int .i64 0), (.int .i64 0), (.string (bs [])), (.slice none 0 0)] v21 v21 fun v22 s =>
 kBuild [(.slice none 0 0), (.int .i64 0)] [(0, 1, v22), (1, 1, blocks_1)] fun v24 =>
 kNew s (cellsV v24) fun v25 s =>
 k (.tuple #[v25, (.int .i64 0)]) s) fun J1 =>
 kBin .lss nodes_0 (.int .i64 1) fun v7 =>
 kGrd v7 false (fun k =>
 kBin .gtr nodes_0 (.int .i64 1024) fun v10 =>
 k [v10] s) [undef] s fun xs s =>
 un1 xs fun v10 =>
 kPick v7 (.bool true) v10 fun v11 =>
 kGrd v11 false (fun k =>
 kBin .lss blocks_1 (.int .i64 1) fun v14 =>
 k [v14] s) [undef] s fun xs s =>
 un1 xs fun v14 =>
 kPick v11 (.bool true) v14 fun v15 =>
 kGrd v15 false (fun k =>
 kBin .gtr blocks_1 (.int .i64 4096) fun v18 =>
 k [v18] s) [undef] s fun xs s =>
 un1 xs fun v18 =>
 kPick v15 (.bool true) v18 fun v19 =>
 kCond v19 (
 k (.tuple #[(.pointer none), (.int .i64 1)]) s) (
 J1 [] s)
theorem F23_ok (nodes_0 blocks_1 : Value) (s : AS) (k : Value → AS → Prop) : denFn Try.prog [] 23 [nodes_0, blocks_1] s k = F23 nodes_0 blocks_1 s k := by kernel_rfl
theorem f23 {nodes_0 blocks_1 : Value} {s : AS} {k : Value → AS → Prop} (h : F23 nodes_0 blocks_1 s k) : kCall Try.prog 23 [nodes_0, blocks_1] s k := denFn_ok [] (cast (F23_ok nodes_0 blocks_1 s k).symm h)
theorem k23_ok : okFn Try.prog 23 = true := by kernel_rfl

/- (*conch inodes.Table).Copy -/
def F24 (t_0 : Value) (s : AS) (k : Value → AS → Prop) : Prop :=
 kJoin (fun _ s =>
 kJoin (fun xs s =>
 un1 xs fun c_3 =>
 kJoin (fun _ s =>
 k c_3 s) fun J3 =>
 kNck t_0 fun v23 =>
 kFld 0 v23 fun v24 =>
 kLd s v24 fun v25 =>
 kLen false v25 fun v26 =>
 kLoop (fun again4 xs s =>
 un1 xs fun v27 =>
 kBin .lss v27 v26 fun v28 =>
 kJoin (fun _ s =>
 kJoin (fun _ s =>
 kBin .add v27 (.int .i64 1) fun v49 =>
 again4 [v49] s) fun J6 =>
 kIdx 1 v25 v27 fun v30 =>
 kLd s v30 fun v31 =>
 kEq 0 true v31 (.pointer none) fun v33 =>
 kCond v33 (
 kNck v31 fun v35 =>
 kLdN s 5 v35 fun v36 =>
 kNew s [(.int .i64 0), (.int .i64 0), (.int .i64 0), (.int .i64 0), (.map none)] fun y_6 s =>
 kSt s 5 y_6 v36 fun s =>
 kNck v31 fun v38 =>
 kFld 4 v38 fun v39 =>
 kLd s v39 fun v40 =>
 kCall Try.prog 40 [v40] s fun v41 s =>
 kFld 4 y_6 fun v42 =>
 kSt s 1 v42 v41 fun s =>
 kNck c_3 fun v44 =>
 kFld 0 v44 fun v45 =>
 kLd s v45 fun v46 =>
 kIdx 1 v46 v27 fun v48 =>
 kSt s 1 v48 y_6 fun s =>
 J6 [] s) (
 J6 [] s)) fun J5 =>
 kCond v28 (
 J5 [] s) (
 J3 [] s)) [(.int .i64 0)] s) fun J2 =>
 kNck t_0 fun v10 =>
 kFld 0 v10 fun v11 =>
 kNck t_0 fun v16 =>
 kFld 1 v16 fun v17 =>
 kLd s v11 fun v12 =>
 kLen false v12 fun v13 =>
 kLd s v17 fun v18 =>
 kAlt (
 kMks s 1 8 [(.pointer none)] v13 v13 fun v14 s =>
 kChk s v17 v18 (
 kCall Try.prog 39 [v18] s fun v19 s =>
 kChk s v11 v12 (
 kBuild [(.slice none 0 0), (.pointer none)] [(0, 1, v14), (1, 1, v19)] fun v20 =>
 kNew s (cellsV v20) fun v21 s =>
 J2 [v21] s))) (
 kCall Try.prog 39 [v18] s fun v19 s =>
 kChk s v11 v12 (
 kMks s 1 8 [(.pointer none)] v13 v13 fun v14 s =>
 kChk s v17 v18 (
 kBuild [(.slice none 0 0), (.pointer none)] [(0, 1, v14), (1, 1, v19)] fun v20 =>
 kNew s (cellsV v20) fun v21 s =>
 J2 [v21] s)))) fun J1 =>
 kEq 0 false t_0 (.pointer none) fun v8 =>
 kCond v8 (
 k (.pointer none) s) (
 J1 [] s)
theorem F24_ok (t_0 : Value) (s : AS) (k : Value → AS → Prop) : denFn Try.prog [(3, (.go 0 (.go 1 (.go 2 (.go 6 (.go 7 (.go 8 (.go 3 (.go 4 (.go 9 (.both 5 (.go 10 (.go 11 (.go 12 (.go 13 .done)))) (.go 10 (.go 5 (.go 11 (.go 12 (.go 13 .done))))))))))))))))] 24 [t_0] s k = F24 t_0 s k := by kernel_rfl
theorem f24 {t_0 : Value} {s : AS} {k : Value → AS → Prop} (h : F24 t_0 s k) : kCall Try.prog 24 [t_0] s k := denFn_ok [(3, (.go 0 (.go 1 (.go 2 (.go 6 (.go 7 (.go 8 (.go 3 (.go 4 (.go 9 (.both 5 (.go 10 (.go 11 (.go 12 (.go 13 .done)))) (.go 10 (.go 5 (.go 11 (.go 12 (.go 13 .done))))))))))))))))] (cast (F24_ok t_0 s k).symm h)
theorem k24_ok : okFn Try.prog 24 = true := by kernel_rfl

/- (*conch conchref12.Table).Copy -/
def F25 (t_0 : Value) (s : AS) (k : Value → AS → Prop) : Prop :=
 kJoin (fun xs s =>
 un1 xs fun l_3 =>
 kNck t_0 fun v34 =>
 kFld 1 v34 fun v35 =>
 kLd s v35 fun v36 =>
 kBuild [(.slice none 0 0), (.int .i64 0)] [(0, 1, l_3), (1, 1, v36)] fun v37 =>
 kNew s (cellsV v37) fun v38 s =>
 k v38 s) fun J1 =>
 kLoop (fun again2 xs s =>
 un2 xs fun l_3 i_4 =>
 kJoin (fun _ s =>
 kJoin (fun xs s =>
 un1 xs fun l_3 =>
 kBin .add i_4 (.int .i64 1) fun v15 =>
 again2 [l_3, v15] s) fun J4 =>
 kNck t_0 fun v17 =>
 kFld 0 v17 fun v18 =>
 kLd s v18 fun v19 =>
 kIdx 5 v19 i_4 fun v21 =>
 kLdN s 5 v21 fun v22 =>
 kNew s [(.int .i64 0), (.int .i64 0), (.int .i64 0), (.string (bs [])), (.slice none 0 0)] fun x_5 s =>
 kSt s 5 x_5 v22 fun s =>
 kFld 4 x_5 fun v24 =>
 kLd s v24 fun v25 =>
 kApp Try.prog 55 55 (.slice none 0 0) v25 s fun v26 s =>
 kFld 4 x_5 fun v27 =>
 kSt s 1 v27 v26 fun s =>
 kLdN s 5 x_5 fun v29 =>
 kBsl s 1 [(.int .i64 0), (.int .i64 0), (.int .i64 0), (.string (bs [])), (.slice none 0 0)] [(0, 5, v29)] fun v30 s =>
 kApp Try.prog 83 83 l_3 v30 s fun v31 s =>
 J4 [v31] s) fun J3 =>
 kNck t_0 fun v9 =>
 kFld 0 v9 fun v10 =>
 kLd s v10 fun v11 =>
 kLen false v11 fun v12 =>
 kBin .lss i_4 v12 fun v13 =>
 kCond v13 (
 J3 [] s) (
 J1 [l_3] s)) [(.slice none 0 0), (.int .i64 0)] s
theorem F25_ok (t_0 : Value) (s : AS) (k : Value → AS → Prop) : denFn Try.prog [] 25 [t_0] s k = F25 t_0 s k := by kernel_rfl
theorem f25 {t_0 : Value} {s : AS} {k : Value → AS → Prop} (h : F25 t_0 s k) : kCall Try.prog 25 [t_0] s k := denFn_ok [] (cast (F25_ok t_0 s k).symm h)
theorem k25_ok : okFn Try.prog 25 = true := by kernel_rfl

/- (*conch inodes.Table).Tie -/
def F26 (t_0 i_1 : Value) (s : AS) (k : Value → AS → Prop) : Prop :=
 kCall Try.prog 31 [t_0, i_1] s fun v10 s =>
 kExt 0 v10 fun v11 =>
 kExt 1 v10 fun v12 =>
 kJoin (fun _ s =>
 k v12 s) fun J1 =>
 kBin .eql v12 (.int .i64 0) fun v14 =>
 kCond v14 (
 kNck v11 fun v16 =>
 kFld 0 v16 fun v17 =>
 kFld 0 v17 fun v18 =>
 kLd s v18 fun v19 =>
 kBin .add v19 (.int .i64 1) fun v20 =>
 kNck v11 fun v21 =>
 kFld 0 v21 fun v22 =>
 kFld 0 v22 fun v23 =>
 kSt s 1 v23 v20 fun s =>
 J1 [] s) (
 J1 [] s)
theorem F26_ok (t_0 i_1 : Value) (s : AS) (k : Value → AS → Prop) : denFn Try.prog [] 26 [t_0, i_1] s k = F26 t_0 i_1 s k := by kernel_rfl
theorem f26 {t_0 i_1 : Value} {s : AS} {k : Value → AS → Prop} (h : F26 t_0 i_1 s k) : kCall Try.prog 26 [t_0, i_1] s k := denFn_ok [] (cast (F26_ok t_0 i_1 s k).symm h)
theorem k26_ok : okFn Try.prog 26 = true := by kernel_rfl

/- conch conchlaw12.plain -/
def F27 (t_0 o_1 : Value) (s : AS) (k : Value → AS → Prop) : Prop :=
 kNew s (cellsV o_1) fun o_3 s =>
 kJoin (fun _ s =>
 kFld 1 o_3 fun v81 =>
 kLd s v81 fun v82 =>
 kFld 3 o_3 fun v83 =>
 kLd s v83 fun v84 =>
 kCall Try.prog 48 [t_0, v82, v84] s fun v85 s =>
 k (.tuple #[(.int .i64 0), (.string (bs [])), v85]) s) fun J1 =>
 kFld 0 o_3 fun v13 =>
 kLd s v13 fun v14 =>
 kBin .eql v14 (.int .i64 0) fun v16 =>
 kCond v16 (
 kFld 3 o_3 fun v19 =>
 kLd s v19 fun v20 =>
 kCall Try.prog 41 [t_0, v20] s fun v21 s =>
 kExt 0 v21 fun v22 =>
 kExt 1 v21 fun v23 =>
 k (.tuple #[v22, (.string (bs [])), v23]) s) (
 kBin .eql v14 (.int .i64 1) fun v27 =>
 kCond v27 (
 kFld 1 o_3 fun v29 =>
 kLd s v29 fun v30 =>
 kCall Try.prog 42 [t_0, v30] s fun v31 s =>
 k (.tuple #[(.int .i64 0), (.string (bs [])), v31]) s) (
 kBin .eql v14 (.int .i64 2) fun v33 =>
 kCond v33 (
 kFld 1 o_3 fun v35 =>
 kLd s v35 fun v36 =>
 kCall Try.prog 43 [t_0, v36] s fun v37 s =>
 k (.tuple #[(.int .i64 0), (.string (bs [])), v37]) s) (
 kBin .eql v14 (.int .i64 3) fun v39 =>
 kCond v39 (
 kFld 1 o_3 fun v41 =>
 kLd s v41 fun v42 =>
 kCall Try.prog 44 [t_0, v42] s fun v43 s =>
 k (.tuple #[(.int .i64 0), (.string (bs [])), v43]) s) (
 kBin .eql v14 (.int .i64 4) fun v45 =>
 kCond v45 (
 kFld 1 o_3 fun v47 =>
 kLd s v47 fun v48 =>
 kCall Try.prog 45 [t_0, v48] s fun v49 s =>
 k (.tuple #[(.int .i64 0), (.string (bs [])), v49]) s) (
 kBin .eql v14 (.int .i64 5) fun v51 =>
 kCond v51 (
 kFld 1 o_3 fun v54 =>
 kLd s v54 fun v55 =>
 kFld 2 o_3 fun v56 =>
 kLd s v56 fun v57 =>
 kFld 3 o_3 fun v58 =>
 kLd s v58 fun v59 =>
 kCall Try.prog 46 [t_0, v55, v57, v59] s fun v60 s =>
 kExt 0 v60 fun v61 =>
 kExt 1 v60 fun v62 =>
 k (.tuple #[(.int .i64 0), v61, v62]) s) (
 kBin .eql v14 (.int .i64 6) fun v66 =>
 kCond v66 (
 kFld 1 o_3 fun v69 =>
 kLd s v69 fun v70 =>
 kFld 2 o_3 fun v71 =>
 kLd s v71 fun v72 =>
 kFld 4 o_3 fun v73 =>
 kLd s v73 fun v74 =>
 kCall Try.prog 47 [t_0, v70, v72, v74] s fun v75 s =>
 kExt 0 v75 fun v76 =>
 kExt 1 v75 fun v77 =>
 k (.tuple #[v76, (.string (bs [])), v77]) s) (
 J1 [] s)))))))
theorem F27_ok (t_0 o_1 : Value) (s : AS) (k : Value → AS → Prop) : denFn Try.prog [] 27 [t_0, o_1] s k = F27 t_0 o_1 s k := by kernel_rfl
theorem f27 {t_0 o_1 : Value} {s : AS} {k : Value → AS → Prop} (h : F27 t_0 o_1 s k) : kCall Try.prog 27 [t_0, o_1] s k := denFn_ok [] (cast (F27_ok t_0 o_1 s k).symm h)
theorem k27_ok : okFn Try.prog 27 = true := by kernel_rfl

/- (*conch conchref12.Table).Get -/
def F28 (t_0 i_1 : Value) (s : AS) (k : Value → AS → Prop) : Prop :=
 kNew s [(.int .i64 0), (.int .i64 0), (.int .i64 0), (.string (bs [])), (.slice none 0 0)] fun v4 s =>
 kJoin (fun _ s =>
 kNck t_0 fun v11 =>
 kFld 0 v11 fun v12 =>
 kLd s v12 fun v13 =>
 kIdx 5 v13 i_1 fun v15 =>
 kLdN s 5 v15 fun v16 =>
 kSt s 5 v4 v16 fun s =>
 kLdN s 5 v4 fun r0 =>
 k r0 s) fun J1 =>
 kCall Try.prog 49 [t_0, i_1] s fun v7 s =>
 kUn .not v7 fun v8 =>
 kCond v8 (
 kBuild [(.int .i64 0), (.int .i64 0), (.int .i64 0), (.string (bs [])), (.slice none 0 0)] [] fun v9 =>
 kSt s 5 v4 v9 fun s =>
 kLdN s 5 v4 fun r0 =>
 k r0 s) (
 J1 [] s)
theorem F28_ok (t_0 i_1 : Value) (s : AS) (k : Value → AS → Prop) : denFn Try.prog [] 28 [t_0, i_1] s k = F28 t_0 i_1 s k := by kernel_rfl
theorem f28 {t_0 i_1 : Value} {s : AS} {k : Value → AS → Prop} (h : F28 t_0 i_1 s k) : kCall Try.prog 28 [t_0, i_1] s k := denFn_ok [] (cast (F28_ok t_0 i_1 s k).symm h)
theorem k28_ok : okFn Try.prog 28 = true := by kernel_rfl

/- (*conch conchref12.Table).Free -/
def F29 (t_0 : Value) (s : AS) (k : Value → AS → Prop) : Prop :=
 kJoin (fun xs s =>
 un1 xs fun n_4 =>
 kNck t_0 fun v28 =>
 kFld 1 v28 fun v29 =>
 kLd s v29 fun v30 =>
 kCall Try.prog 50 [t_0] s fun v32 s =>
 kChk s v29 v30 (
 kBin .sub v30 v32 fun v33 =>
 k (.tuple #[n_4, v33]) s)) fun J1 =>
 kLoop (fun again2 xs s =>
 un2 xs fun n_4 i_5 =>
 kJoin (fun _ s =>
 kJoin (fun xs s =>
 un1 xs fun n_4 =>
 kBin .add i_5 (.int .i64 1) fun v14 =>
 again2 [n_4, v14] s) fun J4 =>
 kNck t_0 fun v16 =>
 kFld 0 v16 fun v17 =>
 kLd s v17 fun v18 =>
 kIdx 5 v18 i_5 fun v20 =>
 kFld 0 v20 fun v21 =>
 kLd s v21 fun v22 =>
 kBin .eql v22 (.int .i64 0) fun v23 =>
 kCond v23 (
 kBin .add n_4 (.int .i64 1) fun v25 =>
 J4 [v25] s) (
 J4 [n_4] s)) fun J3 =>
 kNck t_0 fun v8 =>
 kFld 0 v8 fun v9 =>
 kLd s v9 fun v10 =>
 kLen false v10 fun v11 =>
 kBin .lss i_5 v11 fun v12 =>
 kCond v12 (
 J3 [] s) (
 J1 [n_4] s)) [(.int .i64 0), (.int .i64 1)] s
theorem F29_ok (t_0 : Value) (s : AS) (k : Value → AS → Prop) : denFn Try.prog [(7, (.go 0 (.go 1 (.go 2 (.go 3 (.go 5 (.go 4 (.go 6 (.go 7 (.go 8 (.go 9 .done)))))))))))] 29 [t_0] s k = F29 t_0 s k := by kernel_rfl
theorem f29 {t_0 : Value} {s : AS} {k : Value → AS → Prop} (h : F29 t_0 s k) : kCall Try.prog 29 [t_0] s k := denFn_ok [(7, (.go 0 (.go 1 (.go 2 (.go 3 (.go 5 (.go 4 (.go 6 (.go 7 (.go 8 (.go 9 .done)))))))))))] (cast (F29_ok t_0 s k).symm h)
theorem k29_ok : okFn Try.prog 29 = true := by kernel_rfl

/- conch blocks.New -/
def F30 (blocks_0 : Value) (s : AS) (k : Value → AS → Prop) : Prop :=
 kJoin (fun _ s =>
 kMks s 65 65 ((.bool false) :: List.replicate 64 (.int .u8 0)) blocks_0 blocks_0 fun v11 s =>
 kBuild [(.slice none 0 0), (.int .i64 0)] [(0, 1, v11), (1, 1, blocks_0)] fun v13 =>
 kNew s (cellsV v13) fun v14 s =>
 k (.tuple #[v14, (.int .i64 0)]) s) fun J1 =>
 kBin .lss blocks_0 (.int .i64 1) fun v5 =>
 kGrd v5 false (fun k =>
 kBin .gtr blocks_0 (.int .i64 4096) fun v8 =>
 k [v8] s) [undef] s fun xs s =>
 un1 xs fun v8 =>
 kPick v5 (.bool true) v8 fun v9 =>
 kCond v9 (
 k (.tuple #[(.pointer none), (.int .i64 1)]) s) (
 J1 [] s)
theorem F30_ok (blocks_0 : Value) (s : AS) (k : Value → AS → Prop) : denFn Try.prog [] 30 [blocks_0] s k = F30 blocks_0 s k := by kernel_rfl
theorem f30 {blocks_0 : Value} {s : AS} {k : Value → AS → Prop} (h : F30 blocks_0 s k) : kCall Try.prog 30 [blocks_0] s k := denFn_ok [] (cast (F30_ok blocks_0 s k).symm h)
theorem k30_ok : okFn Try.prog 30 = true := by kernel_rfl

/- (*conch inodes.Table).find -/
def F31 (t_0 i_1 : Value) (s : AS) (k : Value → AS → Prop) : Prop :=
 kJoin (fun _ s =>
 kCall Try.prog 35 [t_0, i_1] s fun v11 s =>
 kJoin (fun _ s =>
 k (.tuple #[v11, (.int .i64 0)]) s) fun J2 =>
 kEq 0 false v11 (.pointer none) fun v13 =>
 kCond v13 (
 k (.tuple #[(.pointer none), (.int .i64 23)]) s) (
 J2 [] s)) fun J1 =>
 kEq 0 false t_0 (.pointer none) fun v8 =>
 kCond v8 (
 k (.tuple #[(.pointer none), (.int .i64 2)]) s) (
 J1 [] s)
theorem F31_ok (t_0 i_1 : Value) (s : AS) (k : Value → AS → Prop) : denFn Try.prog [] 31 [t_0, i_1] s k = F31 t_0 i_1 s k := by kernel_rfl
theorem f31 {t_0 i_1 : Value} {s : AS} {k : Value → AS → Prop} (h : F31 t_0 i_1 s k) : kCall Try.prog 31 [t_0, i_1] s k := denFn_ok [] (cast (F31_ok t_0 i_1 s k).symm h)
theorem k31_ok : okFn Try.prog 31 = true := by kernel_rfl

/- (*conch inodes.Table).block -/
def F32 (t_0 x_1 part_2 : Value) (s : AS) (k : Value → AS → Prop) : Prop :=
 kJoin (fun _ s =>
 kNck t_0 fun v25 =>
 kFld 1 v25 fun v26 =>
 kLd s v26 fun v27 =>
 kCall Try.prog 51 [v27] s fun v28 s =>
 kExt 0 v28 fun v29 =>
 kExt 1 v28 fun v30 =>
 kJoin (fun _ s =>
 k (.tuple #[v29, v30]) s) fun J2 =>
 kBin .eql v30 (.int .i64 0) fun v32 =>
 kCond v32 (
 kNck x_1 fun v34 =>
 kFld 4 v34 fun v35 =>
 kLd s v35 fun v36 =>
 kGen Try.prog (.mup 68) [v36, part_2, v29] s fun _ s =>
 J2 [] s) (
 J2 [] s)) fun J1 =>
 kNck x_1 fun v14 =>
 kFld 4 v14 fun v15 =>
 kLd s v15 fun v16 =>
 kGen Try.prog (.lk 68 true) [v16, part_2] s fun v18 s =>
 kExt 0 v18 fun v19 =>
 kExt 1 v18 fun v20 =>
 kCond v20 (
 k (.tuple #[v19, (.int .i64 0)]) s) (
 J1 [] s)
theorem F32_ok (t_0 x_1 part_2 : Value) (s : AS) (k : Value → AS → Prop) : denFn Try.prog [] 32 [t_0, x_1, part_2] s k = F32 t_0 x_1 part_2 s k := by kernel_rfl
theorem f32 {t_0 x_1 part_2 : Value} {s : AS} {k : Value → AS → Prop} (h : F32 t_0 x_1 part_2 s k) : kCall Try.prog 32 [t_0, x_1, part_2] s k := denFn_ok [] (cast (F32_ok t_0 x_1 part_2 s k).symm h)
theorem k32_ok : okFn Try.prog 32 = true := by kernel_rfl

/- (*conch blocks.Store).Write -/
def F33 (s_0 b_1 at_2 data_3 : Value) (s : AS) (k : Value → AS → Prop) : Prop :=
 kJoin (fun _ s =>
 kCall Try.prog 52 [s_0, b_1] s fun v14 s =>
 kJoin (fun _ s =>
 kNck v14 fun v33 =>
 kFld 1 v33 fun v34 =>
 kSubA 64 1 v34 (some at_2) none fun v36 =>
 kCpy Try.prog 32 9 v36 data_3 s fun v38 s =>
 k (.int .i64 0) s) fun J2 =>
 kEq 0 false v14 (.pointer none) fun v17 =>
 kCond v17 (
 k (.int .i64 23) s) (
 kBin .lss at_2 (.int .i64 0) fun v20 =>
 kGrd v20 false (fun k =>
 kBin .gtr at_2 (.int .i64 64) fun v23 =>
 k [v23] s) [undef] s fun xs s =>
 un1 xs fun v23 =>
 kPick v20 (.bool true) v23 fun v24 =>
 kGrd v24 false (fun k =>
 kLen true data_3 fun v27 =>
 kBin .sub (.int .i64 64) at_2 fun v29 =>
 kBin .gtr v27 v29 fun v30 =>
 k [v30] s) [undef] s fun xs s =>
 un1 xs fun v30 =>
 kPick v24 (.bool true) v30 fun v31 =>
 kCond v31 (
 k (.int .i64 1) s) (
 J2 [] s))) fun J1 =>
 kEq 0 false s_0 (.pointer none) fun v11 =>
 kCond v11 (
 k (.int .i64 2) s) (
 J1 [] s)
theorem F33_ok (s_0 b_1 at_2 data_3 : Value) (s : AS) (k : Value → AS → Prop) : denFn Try.prog [] 33 [s_0, b_1, at_2, data_3] s k = F33 s_0 b_1 at_2 data_3 s k := by kernel_rfl
theorem f33 {s_0 b_1 at_2 data_3 : Value} {s : AS} {k : Value → AS → Prop} (h : F33 s_0 b_1 at_2 data_3 s k) : kCall Try.prog 33 [s_0, b_1, at_2, data_3] s k := denFn_ok [] (cast (F33_ok s_0 b_1 at_2 data_3 s k).symm h)
theorem k33_ok : okFn Try.prog 33 = true := by kernel_rfl

/- (*conch blocks.Store).Read -/
def F34 (s_0 b_1 at_2 n_3 : Value) (s : AS) (k : Value → AS → Prop) : Prop :=
 kJoin (fun _ s =>
 kCall Try.prog 52 [s_0, b_1] s fun v15 s =>
 kJoin (fun _ s =>
 kNck v15 fun v37 =>
 kFld 1 v37 fun v38 =>
 kBin .add at_2 n_3 fun v42 =>
 kSubA 64 1 v38 (some at_2) (some v42) fun v43 =>
 kCvBS s v43 fun v44 =>
 k (.tuple #[v44, (.int .i64 0)]) s) fun J2 =>
 kEq 0 false v15 (.pointer none) fun v18 =>
 kCond v18 (
 k (.tuple #[(.string (bs [])), (.int .i64 23)]) s) (
 kBin .lss at_2 (.int .i64 0) fun v21 =>
 kGrd v21 false (fun k =>
 kBin .gtr at_2 (.int .i64 64) fun v24 =>
 k [v24] s) [undef] s fun xs s =>
 un1 xs fun v24 =>
 kPick v21 (.bool true) v24 fun v25 =>
 kGrd v25 false (fun k =>
 kBin .lss n_3 (.int .i64 0) fun v28 =>
 k [v28] s) [undef] s fun xs s =>
 un1 xs fun v28 =>
 kPick v25 (.bool true) v28 fun v29 =>
 kGrd v29 false (fun k =>
 kBin .sub (.int .i64 64) at_2 fun v33 =>
 kBin .gtr n_3 v33 fun v34 =>
 k [v34] s) [undef] s fun xs s =>
 un1 xs fun v34 =>
 kPick v29 (.bool true) v34 fun v35 =>
 kCond v35 (
 k (.tuple #[(.string (bs [])), (.int .i64 1)]) s) (
 J2 [] s))) fun J1 =>
 kEq 0 false s_0 (.pointer none) fun v12 =>
 kCond v12 (
 k (.tuple #[(.string (bs [])), (.int .i64 2)]) s) (
 J1 [] s)
theorem F34_ok (s_0 b_1 at_2 n_3 : Value) (s : AS) (k : Value → AS → Prop) : denFn Try.prog [] 34 [s_0, b_1, at_2, n_3] s k = F34 s_0 b_1 at_2 n_3 s k := by kernel_rfl
theorem f34 {s_0 b_1 at_2 n_3 : Value} {s : AS} {k : Value → AS → Prop} (h : F34 s_0 b_1 at_2 n_3 s k) : kCall Try.prog 34 [s_0, b_1, at_2, n_3] s k := denFn_ok [] (cast (F34_ok s_0 b_1 at_2 n_3 s k).symm h)
theorem k34_ok : okFn Try.prog 34 = true := by kernel_rfl

/- (*conch inodes.Table).at -/
def F35 (t_0 i_1 : Value) (s : AS) (k : Value → AS → Prop) : Prop :=
 kJoin (fun _ s =>
 kNck t_0 fun v21 =>
 kFld 0 v21 fun v22 =>
 kLd s v22 fun v23 =>
 kBin .sub i_1 (.int .i64 1) fun v25 =>
 kIdx 1 v23 v25 fun v26 =>
 kLd s v26 fun v27 =>
 k v27 s) fun J1 =>
 kEq 0 false t_0 (.pointer none) fun v6 =>
 kGrd v6 false (fun k =>
 kBin .lss i_1 (.int .i64 1) fun v9 =>
 k [v9] s) [undef] s fun xs s =>
 un1 xs fun v9 =>
 kPick v6 (.bool true) v9 fun v10 =>
 kGrd v10 false (fun k =>
 kNck t_0 fun v14 =>
 kFld 0 v14 fun v15 =>
 kLd s v15 fun v16 =>
 kLen false v16 fun v17 =>
 kBin .gtr i_1 v17 fun v18 =>
 k [v18] s) [undef] s fun xs s =>
 un1 xs fun v18 =>
 kPick v10 (.bool true) v18 fun v19 =>
 kCond v19 (
 k (.pointer none) s) (
 J1 [] s)
theorem F35_ok (t_0 i_1 : Value) (s : AS) (k : Value → AS → Prop) : denFn Try.prog [] 35 [t_0, i_1] s k = F35 t_0 i_1 s k := by kernel_rfl
theorem f35 {t_0 i_1 : Value} {s : AS} {k : Value → AS → Prop} (h : F35 t_0 i_1 s k) : kCall Try.prog 35 [t_0, i_1] s k := denFn_ok [] (cast (F35_ok t_0 i_1 s k).symm h)
theorem k35_ok : okFn Try.prog 35 = true := by kernel_rfl

/- (*conch blocks.Store).Free -/
def F36 (s_0 : Value) (s : AS) (k : Value → AS → Prop) : Prop :=
 kJoin (fun _ s =>
 kNck s_0 fun v6 =>
 kFld 1 v6 fun v7 =>
 kLd s v7 fun v8 =>
 k v8 s) fun J1 =>
 kEq 0 false s_0 (.pointer none) fun v4 =>
 kCond v4 (
 k (.int .i64 0) s) (
 J1 [] s)
theorem F36_ok (s_0 : Value) (s : AS) (k : Value → AS → Prop) : denFn Try.prog [] 36 [s_0] s k = F36 s_0 s k := by kernel_rfl
theorem f36 {s_0 : Value} {s : AS} {k : Value → AS → Prop} (h : F36 s_0 s k) : kCall Try.prog 36 [s_0] s k := denFn_ok [] (cast (F36_ok s_0 s k).symm h)
theorem k36_ok : okFn Try.prog 36 = true := by kernel_rfl

/- (*conch inodes.Table).drop -/
def F37 (t_0 x_1 from_2 : Value) (s : AS) (k : Value → AS → Prop) : Prop :=
 kNck x_1 fun v9 =>
 kFld 4 v9 fun v10 =>
 kLd s v10 fun v11 =>
 kGen Try.prog (.rng 68) [v11] s fun v12 s =>
 kLoop (fun again1 _ s =>
 kGen Try.prog (.nxt false 0) [v12] s fun v13 s =>
 kExt 0 v13 fun v14 =>
 kJoin (fun _ s =>
 kGen Try.prog .ent [v12] s fun v15 s =>
 kExt 0 v15 fun v16 =>
 kExt 1 v15 fun v17 =>
 kBin .geq v16 from_2 fun v20 =>
 kCond v20 (
 kNck t_0 fun v22 =>
 kFld 1 v22 fun v23 =>
 kLd s v23 fun v24 =>
 kCall Try.prog 53 [v24, v17] s fun v26 s =>
 kNck x_1 fun v28 =>
 kFld 4 v28 fun v29 =>
 kLd s v29 fun v30 =>
 kGen Try.prog (.blt .delete [68, 3] 0) [v30, v16] s fun _ s =>
 again1 [] s) (
 again1 [] s)) fun J2 =>
 kCond v14 (
 J2 [] s) (
 k undef s)) [] s
theorem F37_ok (t_0 x_1 from_2 : Value) (s : AS) (k : Value → AS → Prop) : denFn Try.prog [] 37 [t_0, x_1, from_2] s k = F37 t_0 x_1 from_2 s k := by kernel_rfl
theorem f37 {t_0 x_1 from_2 : Value} {s : AS} {k : Value → AS → Prop} (h : F37 t_0 x_1 from_2 s k) : kCall Try.prog 37 [t_0, x_1, from_2] s k := denFn_ok [] (cast (F37_ok t_0 x_1 from_2 s k).symm h)
theorem k37_ok : okFn Try.prog 37 = true := by kernel_rfl

/- (*conch inodes.Table).less -/
def F38 (t_0 i_1 x_2 n_3 : Value) (s : AS) (k : Value → AS → Prop) : Prop :=
 kJoin (fun _ s =>
 kNck n_3 fun v14 =>
 kLd s v14 fun v15 =>
 kBin .sub v15 (.int .i64 1) fun v16 =>
 kNck n_3 fun v17 =>
 kSt s 1 v17 v16 fun s =>
 kJoin (fun _ s =>
 k (.int .i64 0) s) fun J2 =>
 kNck x_2 fun v19 =>
 kFld 0 v19 fun v20 =>
 kLdN s 2 v20 fun v21 =>
 kCall Try.prog 54 [v21] s fun v22 s =>
 kCond v22 (
 kCall Try.prog 37 [t_0, x_2, (.int .i64 0)] s fun v25 s =>
 kNck t_0 fun v27 =>
 kFld 0 v27 fun v28 =>
 kLd s v28 fun v29 =>
 kBin .sub i_1 (.int .i64 1) fun v31 =>
 kIdx 1 v29 v31 fun v32 =>
 kSt s 1 v32 (.pointer none) fun s =>
 J2 [] s) (
 J2 [] s)) fun J1 =>
 kNck n_3 fun v10 =>
 kLd s v10 fun v11 =>
 kBin .eql v11 (.int .i64 0) fun v12 =>
 kCond v12 (
 k (.int .i64 23) s) (
 J1 [] s)
theorem F38_ok (t_0 i_1 x_2 n_3 : Value) (s : AS) (k : Value → AS → Prop) : denFn Try.prog [] 38 [t_0, i_1, x_2, n_3] s k = F38 t_0 i_1 x_2 n_3 s k := by kernel_rfl
theorem f38 {t_0 i_1 x_2 n_3 : Value} {s : AS} {k : Value → AS → Prop} (h : F38 t_0 i_1 x_2 n_3 s k) : kCall Try.prog 38 [t_0, i_1, x_2, n_3] s k := denFn_ok [] (cast (F38_ok t_0 i_1 x_2 n_3 s k).symm h)
theorem k38_ok : okFn Try.prog 38 = true := by kernel_rfl

/- (*conch blocks.Store).Copy -/
def F39 (s_0 : Value) (s : AS) (k : Value → AS → Prop) : Prop :=
 kJoin (fun _ s =>
 kNck s_0 fun v6 =>
 kFld 0 v6 fun v7 =>
 kNck s_0 fun v11 =>
 kFld 1 v11 fun v12 =>
 kLd s v7 fun v8 =>
 kLd s v12 fun v13 =>
 kCall Try.prog 55 [v8] s fun v9 s =>
 kChk s v12 v13 (
 kBuild [(.slice none 0 0), (.int .i64 0)] [(0, 1, v9), (1, 1, v13)] fun v14 =>
 kNew s (cellsV v14) fun v15 s =>
 k v15 s)) fun J1 =>
 kEq 0 false s_0 (.pointer none) fun v4 =>
 kCond v4 (
 k (.pointer none) s) (
 J1 [] s)
theorem F39_ok (s_0 : Value) (s : AS) (k : Value → AS → Prop) : denFn Try.prog [(3, (.go 0 (.go 1 (.go 2 (.go 5 (.go 6 (.go 7 (.go 3 (.go 8 (.go 4 (.go 9 (.go 10 (.go 11 .done)))))))))))))] 39 [s_0] s k = F39 s_0 s k := by kernel_rfl
theorem f39 {s_0 : Value} {s : AS} {k : Value → AS → Prop} (h : F39 s_0 s k) : kCall Try.prog 39 [s_0] s k := denFn_ok [(3, (.go 0 (.go 1 (.go 2 (.go 5 (.go 6 (.go 7 (.go 3 (.go 8 (.go 4 (.go 9 (.go 10 (.go 11 .done)))))))))))))] (cast (F39_ok s_0 s k).symm h)
theorem k39_ok : okFn Try.prog 39 = true := by kernel_rfl

/- maps.Clone[map[int]int,int,int] -/
def F40 (m_0 : Value) (s : AS) (k : Value → AS → Prop) : Prop :=
 kJoin (fun _ s =>
 kGen Try.prog (.mki 68) [m_0] s fun v6 s =>
 kGen Try.prog (.ext 56) [v6] s fun v7 s =>
 kGen Try.prog (.tas 20 68 false) [v7] s fun v8 s =>
 k v8 s) fun J1 =>
 kEq 2 false m_0 (.map none) fun v4 =>
 kCond v4 (
 k (.map none) s) (
 J1 [] s)
theorem F40_ok (m_0 : Value) (s : AS) (k : Value → AS → Prop) : denFn Try.prog [] 40 [m_0] s k = F40 m_0 s k := by kernel_rfl
theorem f40 {m_0 : Value} {s : AS} {k : Value → AS → Prop} (h : F40 m_0 s k) : kCall Try.prog 40 [m_0] s k := denFn_ok [] (cast (F40_ok m_0 s k).symm h)
theorem k40_ok : okFn Try.prog 40 = true := by kernel_rfl

/- (*conch conchref12.Table).Make -/
def F41 (t_0 kind_1 : Value) (s : AS) (k : Value → AS → Prop) : Prop :=
 kJoin (fun _ s =>
 kJoin (fun _ s =>
 k (.tuple #[(.int .i64 0), (.int .i64 21)]) s) fun J2 =>
 kLoop (fun again3 xs s =>
 un1 xs fun i_6 =>
 kJoin (fun _ s =>
 kJoin (fun _ s =>
 kBin .add i_6 (.int .i64 1) fun v21 =>
 again3 [v21] s) fun J5 =>
 kNck t_0 fun v23 =>
 kFld 0 v23 fun v24 =>
 kLd s v24 fun v25 =>
 kIdx 5 v25 i_6 fun v27 =>
 kFld 0 v27 fun v28 =>
 kLd s v28 fun v29 =>
 kBin .eql v29 (.int .i64 0) fun v30 =>
 kCond v30 (
 kNck t_0 fun v32 =>
 kFld 0 v32 fun v33 =>
 kLd s v33 fun v34 =>
 kMks s 1 1 [(.bool false)] (.int .i64 64) (.int .i64 64) fun v37 s =>
 kChk s v33 v34 (
 kBuild [(.int .i64 0), (.int .i64 0), (.int .i64 0), (.string (bs [])), (.slice none 0 0)] [(0, 1, kind_1), (4, 1, v37)] fun v38 =>
 kIdx 5 v34 i_6 fun v39 =>
 kSt s 5 v39 v38 fun s =>
 k (.tuple #[i_6, (.int .i64 0)]) s)) (
 J5 [] s)) fun J4 =>
 kNck t_0 fun v15 =>
 kFld 0 v15 fun v16 =>
 kLd s v16 fun v17 =>
 kLen false v17 fun v18 =>
 kBin .lss i_6 v18 fun v19 =>
 kCond v19 (
 J4 [] s) (
 J2 [] s)) [(.int .i64 1)] s) fun J1 =>
 kBin .lss kind_1 (.int .i64 1) fun v8 =>
 kGrd v8 false (fun k =>
 kBin .gtr kind_1 (.int .i64 3) fun v11 =>
 k [v11] s) [undef] s fun xs s =>
 un1 xs fun v11 =>
 kPick v8 (.bool true) v11 fun v12 =>
 kCond v12 (
 k (.tuple #[(.int .i64 0), (.int .i64 1)]) s) (
 J1 [] s)
theorem F41_ok (t_0 kind_1 : Value) (s : AS) (k : Value → AS → Prop) : denFn Try.prog [(7, (.go 0 (.go 1 (.go 2 (.go 4 (.go 5 (.go 3 (.go 6 (.go 7 (.go 8 (.go 9 .done)))))))))))] 41 [t_0, kind_1] s k = F41 t_0 kind_1 s k := by kernel_rfl
theorem f41 {t_0 kind_1 : Value} {s : AS} {k : Value → AS → Prop} (h : F41 t_0 kind_1 s k) : kCall Try.prog 41 [t_0, kind_1] s k := denFn_ok [(7, (.go 0 (.go 1 (.go 2 (.go 4 (.go 5 (.go 3 (.go 6 (.go 7 (.go 8 (.go 9 .done)))))))))))] (cast (F41_ok t_0 kind_1 s k).symm h)
theorem k41_ok : okFn Try.prog 41 = true := by kernel_rfl

/- (*conch conchref12.Table).Tie -/
def F42 (t_0 i_1 : Value) (s : AS) (k : Value → AS → Prop) : Prop :=
 kJoin (fun _ s =>
 kNck t_0 fun v10 =>
 kFld 0 v10 fun v11 =>
 kNck t_0 fun v15 =>
 kFld 0 v15 fun v16 =>
 kLd s v11 fun v12 =>
 kLd s v16 fun v17 =>
 kIdx 5 v17 i_1 fun v19 =>
 kFld 1 v19 fun v20 =>
 kLd s v20 fun v21 =>
 kBin .add v21 (.int .i64 1) fun v22 =>
 kIdx 5 v12 i_1 fun v23 =>
 kFld 1 v23 fun v24 =>
 kSt s 1 v24 v22 fun s =>
 k (.int .i64 0) s) fun J1 =>
 kCall Try.prog 49 [t_0, i_1] s fun v7 s =>
 kUn .not v7 fun v8 =>
 kCond v8 (
 k (.int .i64 23) s) (
 J1 [] s)
theorem F42_ok (t_0 i_1 : Value) (s : AS) (k : Value → AS → Prop) : denFn Try.prog [(3, (.go 0 (.go 1 (.go 2 (.go 4 (.go 5 (.go 6 (.go 7 (.go 9 (.go 3 (.go 8 (.go 10 (.go 11 (.go 12 (.go 13 (.go 14 (.go 15 (.go 16 .done))))))))))))))))))] 42 [t_0, i_1] s k = F42 t_0 i_1 s k := by kernel_rfl
theorem f42 {t_0 i_1 : Value} {s : AS} {k : Value → AS → Prop} (h : F42 t_0 i_1 s k) : kCall Try.prog 42 [t_0, i_1] s k := denFn_ok [(3, (.go 0 (.go 1 (.go 2 (.go 4 (.go 5 (.go 6 (.go 7 (.go 9 (.go 3 (.go 8 (.go 10 (.go 11 (.go 12 (.go 13 (.go 14 (.go 15 (.go 16 .done))))))))))))))))))] (cast (F42_ok t_0 i_1 s k).symm h)
theorem k42_ok : okFn Try.prog 42 = true := by kernel_rfl

/- (*conch conchref12.Table).Untie -/
def F43 (t_0 i_1 : Value) (s : AS) (k : Value → AS → Prop) : Prop :=
 kJoin (fun _ s =>
 kNck t_0 fun v21 =>
 kFld 0 v21 fun v22 =>
 kNck t_0 fun v26 =>
 kFld 0 v26 fun v27 =>
 kLd s v22 fun v23 =>
 kLd s v27 fun v28 =>
 kIdx 5 v28 i_1 fun v30 =>
 kFld 1 v30 fun v31 =>
 kLd s v31 fun v32 =>
 kBin .sub v32 (.int .i64 1) fun v33 =>
 kIdx 5 v23 i_1 fun v34 =>
 kFld 1 v34 fun v35 =>
 kSt s 1 v35 v33 fun s =>
 kCall Try.prog 57 [t_0, i_1] s fun v38 s =>
 k (.int .i64 0) s) fun J1 =>
 kCall Try.prog 49 [t_0, i_1] s fun v7 s =>
 kUn .not v7 fun v8 =>
 kGrd v8 false (fun k =>
 kNck t_0 fun v11 =>
 kFld 0 v11 fun v12 =>
 kLd s v12 fun v13 =>
 kIdx 5 v13 i_1 fun v15 =>
 kFld 1 v15 fun v16 =>
 kLd s v16 fun v17 =>
 kBin .eql v17 (.int .i64 0) fun v18 =>
 k [v18] s) [undef] s fun xs s =>
 un1 xs fun v18 =>
 kPick v8 (.bool true) v18 fun v19 =>
 kCond v19 (
 k (.int .i64 23) s) (
 J1 [] s)
theorem F43_ok (t_0 i_1 : Value) (s : AS) (k : Value → AS → Prop) : denFn Try.prog [(3, (.go 0 (.go 1 (.go 2 (.go 4 (.go 5 (.go 6 (.go 7 (.go 9 (.go 3 (.go 8 (.go 10 (.go 11 (.go 12 (.go 13 (.go 14 (.go 15 (.go 16 .done))))))))))))))))))] 43 [t_0, i_1] s k = F43 t_0 i_1 s k := by kernel_rfl
theorem f43 {t_0 i_1 : Value} {s : AS} {k : Value → AS → Prop} (h : F43 t_0 i_1 s k) : kCall Try.prog 43 [t_0, i_1] s k := denFn_ok [(3, (.go 0 (.go 1 (.go 2 (.go 4 (.go 5 (.go 6 (.go 7 (.go 9 (.go 3 (.go 8 (.go 10 (.go 11 (.go 12 (.go 13 (.go 14 (.go 15 (.go 16 .done))))))))))))))))))] (cast (F43_ok t_0 i_1 s k).symm h)
theorem k43_ok : okFn Try.prog 43 = true := by kernel_rfl

/- (*conch conchref12.Table).Hold -/
def F44 (t_0 i_1 : Value) (s : AS) (k : Value → AS → Prop) : Prop :=
 kJoin (fun _ s =>
 kNck t_0 fun v10 =>
 kFld 0 v10 fun v11 =>
 kNck t_0 fun v15 =>
 kFld 0 v15 fun v16 =>
 kLd s v11 fun v12 =>
 kLd s v16 fun v17 =>
 kIdx 5 v17 i_1 fun v19 =>
 kFld 2 v19 fun v20 =>
 kLd s v20 fun v21 =>
 kBin .add v21 (.int .i64 1) fun v22 =>
 kIdx 5 v12 i_1 fun v23 =>
 kFld 2 v23 fun v24 =>
 kSt s 1 v24 v22 fun s =>
 k (.int .i64 0) s) fun J1 =>
 kCall Try.prog 49 [t_0, i_1] s fun v7 s =>
 kUn .not v7 fun v8 =>
 kCond v8 (
 k (.int .i64 23) s) (
 J1 [] s)
theorem F44_ok (t_0 i_1 : Value) (s : AS) (k : Value → AS → Prop) : denFn Try.prog [(3, (.go 0 (.go 1 (.go 2 (.go 4 (.go 5 (.go 6 (.go 7 (.go 9 (.go 3 (.go 8 (.go 10 (.go 11 (.go 12 (.go 13 (.go 14 (.go 15 (.go 16 .done))))))))))))))))))] 44 [t_0, i_1] s k = F44 t_0 i_1 s k := by kernel_rfl
theorem f44 {t_0 i_1 : Value} {s : AS} {k : Value → AS → Prop} (h : F44 t_0 i_1 s k) : kCall Try.prog 44 [t_0, i_1] s k := denFn_ok [(3, (.go 0 (.go 1 (.go 2 (.go 4 (.go 5 (.go 6 (.go 7 (.go 9 (.go 3 (.go 8 (.go 10 (.go 11 (.go 12 (.go 13 (.go 14 (.go 15 (.go 16 .done))))))))))))))))))] (cast (F44_ok t_0 i_1 s k).symm h)
theorem k44_ok : okFn Try.prog 44 = true := by kernel_rfl

/- (*conch conchref12.Table).Loose -/
def F45 (t_0 i_1 : Value) (s : AS) (k : Value → AS → Prop) : Prop :=
 kJoin (fun _ s =>
 kNck t_0 fun v21 =>
 kFld 0 v21 fun v22 =>
 kNck t_0 fun v26 =>
 kFld 0 v26 fun v27 =>
 kLd s v22 fun v23 =>
 kLd s v27 fun v28 =>
 kIdx 5 v28 i_1 fun v30 =>
 kFld 2 v30 fun v31 =>
 kLd s v31 fun v32 =>
 kBin .sub v32 (.int .i64 1) fun v33 =>
 kIdx 5 v23 i_1 fun v34 =>
 kFld 2 v34 fun v35 =>
 kSt s 1 v35 v33 fun s =>
 kCall Try.prog 57 [t_0, i_1] s fun v38 s =>
 k (.int .i64 0) s) fun J1 =>
 kCall Try.prog 49 [t_0, i_1] s fun v7 s =>
 kUn .not v7 fun v8 =>
 kGrd v8 false (fun k =>
 kNck t_0 fun v11 =>
 kFld 0 v11 fun v12 =>
 kLd s v12 fun v13 =>
 kIdx 5 v13 i_1 fun v15 =>
 kFld 2 v15 fun v16 =>
 kLd s v16 fun v17 =>
 kBin .eql v17 (.int .i64 0) fun v18 =>
 k [v18] s) [undef] s fun xs s =>
 un1 xs fun v18 =>
 kPick v8 (.bool true) v18 fun v19 =>
 kCond v19 (
 k (.int .i64 23) s) (
 J1 [] s)
theorem F45_ok (t_0 i_1 : Value) (s : AS) (k : Value → AS → Prop) : denFn Try.prog [(3, (.go 0 (.go 1 (.go 2 (.go 4 (.go 5 (.go 6 (.go 7 (.go 9 (.go 3 (.go 8 (.go 10 (.go 11 (.go 12 (.go 13 (.go 14 (.go 15 (.go 16 .done))))))))))))))))))] 45 [t_0, i_1] s k = F45 t_0 i_1 s k := by kernel_rfl
theorem f45 {t_0 i_1 : Value} {s : AS} {k : Value → AS → Prop} (h : F45 t_0 i_1 s k) : kCall Try.prog 45 [t_0, i_1] s k := denFn_ok [(3, (.go 0 (.go 1 (.go 2 (.go 4 (.go 5 (.go 6 (.go 7 (.go 9 (.go 3 (.go 8 (.go 10 (.go 11 (.go 12 (.go 13 (.go 14 (.go 15 (.go 16 .done))))))))))))))))))] (cast (F45_ok t_0 i_1 s k).symm h)
theorem k45_ok : okFn Try.prog 45 = true := by kernel_rfl

/- (*conch conchref12.Table).Read -/
def F46 (t_0 i_1 at_2 n_3 : Value) (s : AS) (k : Value → AS → Prop) : Prop :=
 kJoin (fun _ s =>
 kJoin (fun _ s =>
 kNck t_0 fun v22 =>
 kFld 0 v22 fun v23 =>
 kLd s v23 fun v24 =>
 kIdx 5 v24 i_1 fun v26 =>
 kFld 3 v26 fun v27 =>
 kLd s v27 fun v28 =>
 kJoin (fun _ s =>
 kLen true v28 fun v38 =>
 kBin .sub v38 at_2 fun v40 =>
 kMin n_3 v40 fun v41 =>
 kBin .add at_2 v41 fun v42 =>
 kSubS v28 (some at_2) (some v42) fun v43 =>
 k (.tuple #[v43, (.int .i64 0)]) s) fun J3 =>
 kLen true v28 fun v31 =>
 kBin .gtr at_2 v31 fun v32 =>
 kCond v32 (
 k (.tuple #[(.string (bs [])), (.int .i64 0)]) s) (
 J3 [] s)) fun J2 =>
 kBin .lss at_2 (.int .i64 0) fun v16 =>
 kGrd v16 false (fun k =>
 kBin .lss n_3 (.int .i64 0) fun v19 =>
 k [v19] s) [undef] s fun xs s =>
 un1 xs fun v19 =>
 kPick v16 (.bool true) v19 fun v20 =>
 kCond v20 (
 k (.tuple #[(.string (bs [])), (.int .i64 1)]) s) (
 J2 [] s)) fun J1 =>
 kCall Try.prog 49 [t_0, i_1] s fun v13 s =>
 kUn .not v13 fun v14 =>
 kCond v14 (
 k (.tuple #[(.string (bs [])), (.int .i64 23)]) s) (
 J1 [] s)
theorem F46_ok (t_0 i_1 at_2 n_3 : Value) (s : AS) (k : Value → AS → Prop) : denFn Try.prog [] 46 [t_0, i_1, at_2, n_3] s k = F46 t_0 i_1 at_2 n_3 s k := by kernel_rfl
theorem f46 {t_0 i_1 at_2 n_3 : Value} {s : AS} {k : Value → AS → Prop} (h : F46 t_0 i_1 at_2 n_3 s k) : kCall Try.prog 46 [t_0, i_1, at_2, n_3] s k := denFn_ok [] (cast (F46_ok t_0 i_1 at_2 n_3 s k).symm h)
theorem k46_ok : okFn Try.prog 46 = true := by kernel_rfl

/- (*conch conchref12.Table).Write -/
def F47 (t_0 i_1 at_2 data_3 : Value) (s : AS) (k : Value → AS → Prop) : Prop :=
 kJoin (fun _ s =>
 kJoin (fun _ s =>
 kNck t_0 fun v21 =>
 kFld 1 v21 fun v22 =>
 kLd s v22 fun v23 =>
 kCall Try.prog 50 [t_0] s fun v25 s =>
 kChk s v22 v23 (
 kBin .sub v23 v25 fun v26 =>
 kJoin (fun xs s =>
 un2 xs fun many_11 why_12 =>
 kJoin (fun _ s =>
 kNck t_0 fun v94 =>
 kFld 0 v94 fun v95 =>
 kLd s v95 fun v96 =>
 kIdx 5 v96 i_1 fun v98 =>
 kFld 3 v98 fun v99 =>
 kLd s v99 fun v100 =>
 kJoin (fun xs s =>
 un1 xs fun s_13 =>
 kNck t_0 fun v118 =>
 kFld 0 v118 fun v119 =>
 kSubS s_13 none (some at_2) fun v124 =>
 kSubS data_3 none (some many_11) fun v127 =>
 kBin .add v124 v127 fun v128 =>
 kBin .add at_2 many_11 fun v132 =>
 kSubS s_13 (some v132) none fun v133 =>
 kBin .add v128 v133 fun v134 =>
 kLd s v119 fun v120 =>
 kIdx 5 v120 i_1 fun v135 =>
 kFld 3 v135 fun v136 =>
 kSt s 1 v136 v134 fun s =>
 k (.tuple #[many_11, (.int .i64 0)]) s) fun J5 =>
 kBin .add at_2 many_11 fun v103 =>
 kLen true v100 fun v105 =>
 kBin .gtr v103 v105 fun v106 =>
 kCond v106 (
 kBin .add at_2 many_11 fun v110 =>
 kLen true v100 fun v112 =>
 kBin .sub v110 v112 fun v113 =>
 kMks s 1 1 [(.int .u8 0)] v113 v113 fun v114 s =>
 kCvBS s v114 fun v115 =>
 kBin .add v100 v115 fun v116 =>
 J5 [v116] s) (
 J5 [v100] s)) fun J4 =>
 kBin .eql many_11 (.int .i64 0) fun v91 =>
 kCond v91 (
 k (.tuple #[(.int .i64 0), why_12]) s) (
 J4 [] s)) fun J3 =>
 kLoop (fun again6 xs s =>
 un3 xs fun free_10 many_11 why_12 =>
 kJoin (fun _ s =>
 kBin .sub (.int .i64 4096) many_11 fun v37 =>
 kBin .geq at_2 v37 fun v38 =>
 kCond v38 (
 again6 [free_10, many_11, (.int .i64 3)] s) (
 kNck t_0 fun v40 =>
 kFld 0 v40 fun v41 =>
 kLd s v41 fun v42 =>
 kIdx 5 v42 i_1 fun v44 =>
 kFld 4 v44 fun v45 =>
 kLd s v45 fun v46 =>
 kBin .add at_2 many_11 fun v49 =>
 kBin .quo v49 (.int .i64 64) fun v50 =>
 kIdx 1 v46 v50 fun v51 =>
 kLd s v51 fun v52 =>
 kUn .not v52 fun v53 =>
 kGrd v53 true (fun k =>
 kBin .eql free_10 (.int .i64 0) fun v56 =>
 k [v56] s) [undef] s fun xs s =>
 un1 xs fun v56 =>
 kPick v53 v56 (.bool false) fun v57 =>
 kCond v57 (
 again6 [free_10, many_11, (.int .i64 20)] s) (
 kJoin (fun xs s =>
 un1 xs fun free_10 =>
 kBin .add many_11 (.int .i64 1) fun v89 =>
 again6 [free_10, v89, why_12] s) fun J8 =>
 kNck t_0 fun v59 =>
 kFld 0 v59 fun v60 =>
 kLd s v60 fun v61 =>
 kIdx 5 v61 i_1 fun v63 =>
 kFld 4 v63 fun v64 =>
 kLd s v64 fun v65 =>
 kBin .add at_2 many_11 fun v68 =>
 kBin .quo v68 (.int .i64 64) fun v69 =>
 kIdx 1 v65 v69 fun v70 =>
 kLd s v70 fun v71 =>
 kUn .not v71 fun v72 =>
 kCond v72 (
 kNck t_0 fun v74 =>
 kFld 0 v74 fun v75 =>
 kLd s v75 fun v76 =>
 kIdx 5 v76 i_1 fun v78 =>
 kFld 4 v78 fun v79 =>
 kLd s v79 fun v80 =>
 kBin .add at_2 many_11 fun v83 =>
 kBin .quo v83 (.int .i64 64) fun v84 =>
 kIdx 1 v80 v84 fun v85 =>
 kSt s 1 v85 (.bool true) fun s =>
 kBin .sub free_10 (.int .i64 1) fun v87 =>
 J8 [v87] s) (
 J8 [free_10] s)))) fun J7 =>
 kLen true data_3 fun v29 =>
 kBin .lss many_11 v29 fun v30 =>
 kGrd v30 true (fun k =>
 kBin .eql why_12 (.int .i64 0) fun v33 =>
 k [v33] s) [undef] s fun xs s =>
 un1 xs fun v33 =>
 kPick v30 v33 (.bool false) fun v34 =>
 kCond v34 (
 J7 [] s) (
 J3 [many_11, why_12] s)) [v26, (.int .i64 0), (.int .i64 0)] s)) fun J2 =>
 kBin .lss at_2 (.int .i64 0) fun v19 =>
 kCond v19 (
 k (.tuple #[(.int .i64 0), (.int .i64 1)]) s) (
 J2 [] s)) fun J1 =>
 kCall Try.prog 49 [t_0, i_1] s fun v16 s =>
 kUn .not v16 fun v17 =>
 kCond v17 (
 k (.tuple #[(.int .i64 0), (.int .i64 23)]) s) (
 J1 [] s)
theorem F47_ok (t_0 i_1 at_2 data_3 : Value) (s : AS) (k : Value → AS → Prop) : denFn Try.prog [(5, (.go 0 (.go 1 (.go 2 (.go 4 (.go 3 (.go 5 (.go 6 (.go 7 .done))))))))), (22, (.go 0 (.go 1 (.go 2 (.go 4 (.go 5 (.go 6 (.go 7 (.go 8 (.go 9 (.go 10 (.go 11 (.go 12 (.go 13 (.go 14 (.go 15 (.go 16 (.go 17 (.go 3 (.go 18 (.go 19 (.go 20 .done))))))))))))))))))))))] 47 [t_0, i_1, at_2, data_3] s k = F47 t_0 i_1 at_2 data_3 s k := by kernel_rfl
theorem f47 {t_0 i_1 at_2 data_3 : Value} {s : AS} {k : Value → AS → Prop} (h : F47 t_0 i_1 at_2 data_3 s k) : kCall Try.prog 47 [t_0, i_1, at_2, data_3] s k := denFn_ok [(5, (.go 0 (.go 1 (.go 2 (.go 4 (.go 3 (.go 5 (.go 6 (.go 7 .done))))))))), (22, (.go 0 (.go 1 (.go 2 (.go 4 (.go 5 (.go 6 (.go 7 (.go 8 (.go 9 (.go 10 (.go 11 (.go 12 (.go 13 (.go 14 (.go 15 (.go 16 (.go 17 (.go 3 (.go 18 (.go 19 (.go 20 .done))))))))))))))))))))))] (cast (F47_ok t_0 i_1 at_2 data_3 s k).symm h)
theorem k47_ok : okFn Try.prog 47 = true := by kernel_rfl

/- (*conch conchref12.Table).Cut -/
def F48 (t_0 i_1 size_2 : Value) (s : AS) (k : Value → AS → Prop) : Prop :=
 kJoin (fun _ s =>
 kJoin (fun _ s =>
 kJoin (fun _ s =>
 kNck t_0 fun v18 =>
 kFld 0 v18 fun v19 =>
 kLd s v19 fun v20 =>
 kIdx 5 v20 i_1 fun v22 =>
 kFld 3 v22 fun v23 =>
 kLd s v23 fun v24 =>
 kJoin (fun xs s =>
 un1 xs fun s_7 =>
 kNck t_0 fun v38 =>
 kFld 0 v38 fun v39 =>
 kSubS s_7 none (some size_2) fun v44 =>
 kLd s v39 fun v40 =>
 kIdx 5 v40 i_1 fun v45 =>
 kFld 3 v45 fun v46 =>
 kSt s 1 v46 v44 fun s =>
 kJoin (fun _ s =>
 k (.int .i64 0) s) fun J5 =>
 kLoop (fun again6 xs s =>
 un1 xs fun k_8 =>
 kJoin (fun _ s =>
 kJoin (fun _ s =>
 kBin .add k_8 (.int .i64 1) fun v50 =>
 again6 [v50] s) fun J8 =>
 kBin .mul (.int .i64 64) k_8 fun v52 =>
 kBin .geq v52 size_2 fun v54 =>
 kCond v54 (
 kNck t_0 fun v56 =>
 kFld 0 v56 fun v57 =>
 kLd s v57 fun v58 =>
 kIdx 5 v58 i_1 fun v60 =>
 kFld 4 v60 fun v61 =>
 kLd s v61 fun v62 =>
 kIdx 1 v62 k_8 fun v64 =>
 kSt s 1 v64 (.bool false) fun s =>
 J8 [] s) (
 J8 [] s)) fun J7 =>
 kBin .lss k_8 (.int .i64 64) fun v48 =>
 kCond v48 (
 J7 [] s) (
 J5 [] s)) [(.int .i64 0)] s) fun J4 =>
 kLen true v24 fun v27 =>
 kBin .gtr size_2 v27 fun v28 =>
 kCond v28 (
 kLen true v24 fun v32 =>
 kBin .sub size_2 v32 fun v33 =>
 kMks s 1 1 [(.int .u8 0)] v33 v33 fun v34 s =>
 kCvBS s v34 fun v35 =>
 kBin .add v24 v35 fun v36 =>
 J4 [v36] s) (
 J4 [v24] s)) fun J3 =>
 kBin .gtr size_2 (.int .i64 4096) fun v16 =>
 kCond v16 (
 k (.int .i64 3) s) (
 J3 [] s)) fun J2 =>
 kBin .lss size_2 (.int .i64 0) fun v14 =>
 kCond v14 (
 k (.int .i64 1) s) (
 J2 [] s)) fun J1 =>
 kCall Try.prog 49 [t_0, i_1] s fun v11 s =>
 kUn .not v11 fun v12 =>
 kCond v12 (
 k (.int .i64 23) s) (
 J1 [] s)
theorem F48_ok (t_0 i_1 size_2 : Value) (s : AS) (k : Value → AS → Prop) : denFn Try.prog [(10, (.go 0 (.go 1 (.go 2 (.go 4 (.go 5 (.go 6 (.go 7 (.go 3 (.go 8 (.go 9 (.go 10 .done))))))))))))] 48 [t_0, i_1, size_2] s k = F48 t_0 i_1 size_2 s k := by kernel_rfl
theorem f48 {t_0 i_1 size_2 : Value} {s : AS} {k : Value → AS → Prop} (h : F48 t_0 i_1 size_2 s k) : kCall Try.prog 48 [t_0, i_1, size_2] s k := denFn_ok [(10, (.go 0 (.go 1 (.go 2 (.go 4 (.go 5 (.go 6 (.go 7 (.go 3 (.go 8 (.go 9 (.go 10 .done))))))))))))] (cast (F48_ok t_0 i_1 size_2 s k).symm h)
theorem k48_ok : okFn Try.prog 48 = true := by kernel_rfl

/- (*conch conchref12.Table).Is -/
def F49 (t_0 i_1 : Value) (s : AS) (k : Value → AS → Prop) : Prop :=
 kBin .geq i_1 (.int .i64 1) fun v6 =>
 kGrd v6 true (fun k =>
 kNck t_0 fun v10 =>
 kFld 0 v10 fun v11 =>
 kLd s v11 fun v12 =>
 kLen false v12 fun v13 =>
 kBin .lss i_1 v13 fun v14 =>
 k [v14] s) [undef] s fun xs s =>
 un1 xs fun v14 =>
 kPick v6 v14 (.bool false) fun v15 =>
 kGrd v15 true (fun k =>
 kNck t_0 fun v18 =>
 kFld 0 v18 fun v19 =>
 kLd s v19 fun v20 =>
 kIdx 5 v20 i_1 fun v22 =>
 kFld 0 v22 fun v23 =>
 kLd s v23 fun v24 =>
 kBin .gtr v24 (.int .i64 0) fun v25 =>
 k [v25] s) [undef] s fun xs s =>
 un1 xs fun v25 =>
 kPick v15 v25 (.bool false) fun v26 =>
 k v26 s
theorem F49_ok (t_0 i_1 : Value) (s : AS) (k : Value → AS → Prop) : denFn Try.prog [] 49 [t_0, i_1] s k = F49 t_0 i_1 s k := by kernel_rfl
theorem f49 {t_0 i_1 : Value} {s : AS} {k : Value → AS → Prop} (h : F49 t_0 i_1 s k) : kCall Try.prog 49 [t_0, i_1] s k := denFn_ok [] (cast (F49_ok t_0 i_1 s k).symm h)
theorem k49_ok : okFn Try.prog 49 = true := by kernel_rfl

/- (*conch conchref12.Table).used -/
def F50 (t_0 : Value) (s : AS) (k : Value → AS → Prop) : Prop :=
 kJoin (fun xs s =>
 un1 xs fun n_3 =>
 k n_3 s) fun J1 =>
 kLoop (fun again2 xs s =>
 un2 xs fun n_3 i_4 =>
 kJoin (fun _ s =>
 kJoin (fun xs s =>
 un1 xs fun n_3 =>
 kBin .add i_4 (.int .i64 1) fun v14 =>
 again2 [n_3, v14] s) fun J4 =>
 kLoop (fun again5 xs s =>
 un2 xs fun n_3 k_5 =>
 kJoin (fun _ s =>
 kJoin (fun xs s =>
 un1 xs fun n_3 =>
 kBin .add k_5 (.int .i64 1) fun v27 =>
 again5 [n_3, v27] s) fun J7 =>
 kNck t_0 fun v29 =>
 kFld 0 v29 fun v30 =>
 kLd s v30 fun v31 =>
 kIdx 5 v31 i_4 fun v33 =>
 kFld 4 v33 fun v34 =>
 kLd s v34 fun v35 =>
 kIdx 1 v35 k_5 fun v37 =>
 kLd s v37 fun v38 =>
 kCond v38 (
 kBin .add n_3 (.int .i64 1) fun v40 =>
 J7 [v40] s) (
 J7 [n_3] s)) fun J6 =>
 kNck t_0 fun v17 =>
 kFld 0 v17 fun v18 =>
 kLd s v18 fun v19 =>
 kIdx 5 v19 i_4 fun v21 =>
 kFld 4 v21 fun v22 =>
 kLd s v22 fun v23 =>
 kLen false v23 fun v24 =>
 kBin .lss k_5 v24 fun v25 =>
 kCond v25 (
 J6 [] s) (
 J4 [n_3] s)) [n_3, (.int .i64 0)] s) fun J3 =>
 kNck t_0 fun v8 =>
 kFld 0 v8 fun v9 =>
 kLd s v9 fun v10 =>
 kLen false v10 fun v11 =>
 kBin .lss i_4 v11 fun v12 =>
 kCond v12 (
 J3 [] s) (
 J1 [n_3] s)) [(.int .i64 0), (.int .i64 0)] s
theorem F50_ok (t_0 : Value) (s : AS) (k : Value → AS → Prop) : denFn Try.prog [] 50 [t_0] s k = F50 t_0 s k := by kernel_rfl
theorem f50 {t_0 : Value} {s : AS} {k : Value → AS → Prop} (h : F50 t_0 s k) : kCall Try.prog 50 [t_0] s k := denFn_ok [] (cast (F50_ok t_0 s k).symm h)
theorem k50_ok : okFn Try.prog 50 = true := by kernel_rfl

/- (*conch blocks.Store).Take -/
def F51 (s_0 : Value) (s : AS) (k : Value → AS → Prop) : Prop :=
 kJoin (fun _ s =>
 kNck s_0 fun v8 =>
 kFld 0 v8 fun v9 =>
 kLd s v9 fun v10 =>
 kCall Try.prog 58 [v10, (.func (.func 59) #[] #[])] s fun v11 s =>
 kJoin (fun _ s =>
 kNck s_0 fun v15 =>
 kFld 0 v15 fun v16 =>
 kLd s v16 fun v17 =>
 kBuild ((.bool false) :: List.replicate 64 (.int .u8 0)) [(0, 1, (.bool true))] fun v19 =>
 kIdx 65 v17 v11 fun v20 =>
 kSt s 65 v20 v19 fun s =>
 kNck s_0 fun v22 =>
 kFld 1 v22 fun v23 =>
 kLd s v23 fun v24 =>
 kBin .sub v24 (.int .i64 1) fun v25 =>
 kNck s_0 fun v26 =>
 kFld 1 v26 fun v27 =>
 kSt s 1 v27 v25 fun s =>
 kBin .add v11 (.int .i64 1) fun v29 =>
 k (.tuple #[v29, (.int .i64 0)]) s) fun J2 =>
 kBin .lss v11 (.int .i64 0) fun v13 =>
 kCond v13 (
 k (.tuple #[(.int .i64 0), (.int .i64 20)]) s) (
 J2 [] s)) fun J1 =>
 kEq 0 false s_0 (.pointer none) fun v6 =>
 kCond v6 (
 k (.tuple #[(.int .i64 0), (.int .i64 2)]) s) (
 J1 [] s)
theorem F51_ok (s_0 : Value) (s : AS) (k : Value → AS → Prop) : denFn Try.prog [] 51 [s_0] s k = F51 s_0 s k := by kernel_rfl
theorem f51 {s_0 : Value} {s : AS} {k : Value → AS → Prop} (h : F51 s_0 s k) : kCall Try.prog 51 [s_0] s k := denFn_ok [] (cast (F51_ok s_0 s k).symm h)
theorem k51_ok : okFn Try.prog 51 = true := by kernel_rfl

/- (*conch blocks.Store).at -/
def F52 (s_0 b_1 : Value) (s : AS) (k : Value → AS → Prop) : Prop :=
 kJoin (fun _ s =>
 kNck s_0 fun v29 =>
 kFld 0 v29 fun v30 =>
 kLd s v30 fun v31 =>
 kBin .sub b_1 (.int .i64 1) fun v33 =>
 kIdx 65 v31 v33 fun v34 =>
 k v34 s) fun J1 =>
 kBin .lss b_1 (.int .i64 1) fun v6 =>
 kGrd v6 false (fun k =>
 kNck s_0 fun v10 =>
 kFld 0 v10 fun v11 =>
 kLd s v11 fun v12 =>
 kLen false v12 fun v13 =>
 kBin .gtr b_1 v13 fun v14 =>
 k [v14] s) [undef] s fun xs s =>
 un1 xs fun v14 =>
 kPick v6 (.bool true) v14 fun v15 =>
 kGrd v15 false (fun k =>
 kNck s_0 fun v18 =>
 kFld 0 v18 fun v19 =>
 kLd s v19 fun v20 =>
 kBin .sub b_1 (.int .i64 1) fun v22 =>
 kIdx 65 v20 v22 fun v23 =>
 kFld 0 v23 fun v24 =>
 kLd s v24 fun v25 =>
 kUn .not v25 fun v26 =>
 k [v26] s) [undef] s fun xs s =>
 un1 xs fun v26 =>
 kPick v15 (.bool true) v26 fun v27 =>
 kCond v27 (
 k (.pointer none) s) (
 J1 [] s)
theorem F52_ok (s_0 b_1 : Value) (s : AS) (k : Value → AS → Prop) : denFn Try.prog [] 52 [s_0, b_1] s k = F52 s_0 b_1 s k := by kernel_rfl
theorem f52 {s_0 b_1 : Value} {s : AS} {k : Value → AS → Prop} (h : F52 s_0 b_1 s k) : kCall Try.prog 52 [s_0, b_1] s k := denFn_ok [] (cast (F52_ok s_0 b_1 s k).symm h)
theorem k52_ok : okFn Try.prog 52 = true := by kernel_rfl

/- (*conch blocks.Store).Give -/
def F53 (s_0 b_1 : Value) (s : AS) (k : Value → AS → Prop) : Prop :=
 kJoin (fun _ s =>
 kCall Try.prog 52 [s_0, b_1] s fun v10 s =>
 kJoin (fun _ s =>
 kNck v10 fun v14 =>
 kFld 0 v14 fun v15 =>
 kSt s 1 v15 (.bool false) fun s =>
 kNck s_0 fun v17 =>
 kFld 1 v17 fun v18 =>
 kLd s v18 fun v19 =>
 kBin .add v19 (.int .i64 1) fun v20 =>
 kNck s_0 fun v21 =>
 kFld 1 v21 fun v22 =>
 kSt s 1 v22 v20 fun s =>
 k (.int .i64 0) s) fun J2 =>
 kEq 0 false v10 (.pointer none) fun v12 =>
 kCond v12 (
 k (.int .i64 23) s) (
 J2 [] s)) fun J1 =>
 kEq 0 false s_0 (.pointer none) fun v7 =>
 kCond v7 (
 k (.int .i64 2) s) (
 J1 [] s)
theorem F53_ok (s_0 b_1 : Value) (s : AS) (k : Value → AS → Prop) : denFn Try.prog [] 53 [s_0, b_1] s k = F53 s_0 b_1 s k := by kernel_rfl
theorem f53 {s_0 b_1 : Value} {s : AS} {k : Value → AS → Prop} (h : F53 s_0 b_1 s k) : kCall Try.prog 53 [s_0, b_1] s k := denFn_ok [] (cast (F53_ok s_0 b_1 s k).symm h)
theorem k53_ok : okFn Try.prog 53 = true := by kernel_rfl

/- (conch inodes.counts).idle -/
def F54 (c_0 : Value) (s : AS) (k : Value → AS → Prop) : Prop :=
 kNew s (cellsV c_0) fun c_1 s =>
 kLdN s 2 c_1 fun v3 =>
 kBuild [(.int .i64 0), (.int .i64 0)] [] fun v4 =>
 kGen Try.prog (.bop .eql 70 (.tmp 3) (.tmp 4)) [v3, v4] s fun v5 s =>
 k v5 s
theorem F54_ok (c_0 : Value) (s : AS) (k : Value → AS → Prop) : denFn Try.prog [] 54 [c_0] s k = F54 c_0 s k := by kernel_rfl
theorem f54 {c_0 : Value} {s : AS} {k : Value → AS → Prop} (h : F54 c_0 s k) : kCall Try.prog 54 [c_0] s k := denFn_ok [] (cast (F54_ok c_0 s k).symm h)
theorem k54_ok : okFn Try.prog 54 = true := by kernel_rfl

/- slices.Clone[[]conch blocks.block,conch blocks.block] -/
def F55 (s_0 : Value) (s : AS) (k : Value → AS → Prop) : Prop :=
 kJoin (fun _ s =>
 kBsl s 0 [] [] fun v5 s =>
 kApp Try.prog 89 89 v5 s_0 s fun v7 s =>
 k v7 s) fun J1 =>
 kEq 1 false s_0 (.slice none 0 0) fun v4 =>
 kCond v4 (
 k (.slice none 0 0) s) (
 J1 [] s)
theorem F55_ok (s_0 : Value) (s : AS) (k : Value → AS → Prop) : denFn Try.prog [] 55 [s_0] s k = F55 s_0 s k := by kernel_rfl
theorem f55 {s_0 : Value} {s : AS} {k : Value → AS → Prop} (h : F55 s_0 s k) : kCall Try.prog 55 [s_0] s k := denFn_ok [] (cast (F55_ok s_0 s k).symm h)
theorem k55_ok : okFn Try.prog 55 = true := by kernel_rfl

/- (*conch conchref12.Table).left -/
def F57 (t_0 i_1 : Value) (s : AS) (k : Value → AS → Prop) : Prop :=
 kNck t_0 fun v5 =>
 kFld 0 v5 fun v6 =>
 kLd s v6 fun v7 =>
 kIdx 5 v7 i_1 fun v9 =>
 kFld 1 v9 fun v10 =>
 kLd s v10 fun v11 =>
 kBin .eql v11 (.int .i64 0) fun v12 =>
 kGrd v12 true (fun k =>
 kNck t_0 fun v15 =>
 kFld 0 v15 fun v16 =>
 kLd s v16 fun v17 =>
 kIdx 5 v17 i_1 fun v19 =>
 kFld 2 v19 fun v20 =>
 kLd s v20 fun v21 =>
 kBin .eql v21 (.int .i64 0) fun v22 =>
 k [v22] s) [undef] s fun xs s =>
 un1 xs fun v22 =>
 kPick v12 v22 (.bool false) fun v23 =>
 kCond v23 (
 kNck t_0 fun v25 =>
 kFld 0 v25 fun v26 =>
 kLd s v26 fun v27 =>
 kBuild [(.int .i64 0), (.int .i64 0), (.int .i64 0), (.string (bs [])), (.slice none 0 0)] [] fun v29 =>
 kIdx 5 v27 i_1 fun v30 =>
 kSt s 5 v30 v29 fun s =>
 k undef s) (
 k undef s)
theorem F57_ok (t_0 i_1 : Value) (s : AS) (k : Value → AS → Prop) : denFn Try.prog [] 57 [t_0, i_1] s k = F57 t_0 i_1 s k := by kernel_rfl
theorem f57 {t_0 i_1 : Value} {s : AS} {k : Value → AS → Prop} (h : F57 t_0 i_1 s k) : kCall Try.prog 57 [t_0, i_1] s k := denFn_ok [] (cast (F57_ok t_0 i_1 s k).symm h)
theorem k57_ok : okFn Try.prog 57 = true := by kernel_rfl

/- slices.IndexFunc[[]conch blocks.block,conch blocks.block] -/
def F58 (s_0 f_1 : Value) (s : AS) (k : Value → AS → Prop) : Prop :=
 kJoin (fun _ s =>
 k (.int .i64 (-1)) s) fun J1 =>
 kLen false s_0 fun v7 =>
 kLoop (fun again2 xs s =>
 un1 xs fun v8 =>
 kBin .lss v8 v7 fun v9 =>
 kJoin (fun _ s =>
 kJoin (fun _ s =>
 kBin .add v8 (.int .i64 1) fun v18 =>
 again2 [v18] s) fun J4 =>
 kIdx 65 s_0 v8 fun v14 =>
 kLdN s 65 v14 fun v15 =>
 kCallv Try.prog f_1 [v15] s fun v16 s =>
 kCond v16 (
 k v8 s) (
 J4 [] s)) fun J3 =>
 kCond v9 (
 J3 [] s) (
 J1 [] s)) [(.int .i64 0)] s
theorem F58_ok (s_0 f_1 : Value) (s : AS) (k : Value → AS → Prop) : denFn Try.prog [] 58 [s_0, f_1] s k = F58 s_0 f_1 s k := by kernel_rfl
theorem f58 {s_0 f_1 : Value} {s : AS} {k : Value → AS → Prop} (h : F58 s_0 f_1 s k) : kCall Try.prog 58 [s_0, f_1] s k := denFn_ok [] (cast (F58_ok s_0 f_1 s k).symm h)
theorem k58_ok : okFn Try.prog 58 = true := by kernel_rfl

/- (*conch blocks.Store).Take$1 -/
def F59 (b_0 : Value) (s : AS) (k : Value → AS → Prop) : Prop :=
 kNew s (cellsV b_0) fun b_1 s =>
 kFld 0 b_1 fun v3 =>
 kLd s v3 fun v4 =>
 kUn .not v4 fun v5 =>
 k v5 s
theorem F59_ok (b_0 : Value) (s : AS) (k : Value → AS → Prop) : denFn Try.prog [] 59 [b_0] s k = F59 b_0 s k := by kernel_rfl
theorem f59 {b_0 : Value} {s : AS} {k : Value → AS → Prop} (h : F59 b_0 s k) : kCall Try.prog 59 [b_0] s k := denFn_ok [] (cast (F59_ok b_0 s k).symm h)
theorem k59_ok : okFn Try.prog 59 = true := by kernel_rfl

end Go.Proofs.Ytmkiaoddkodngaa
