/- The walks of the functions, printed by a program of this proof, each held against the loaded program by the kernel. Conditions: none. -/
import Derived.Test.YtmlceloabmkjmaaDoorProg
import Derived.Test.YtmlceloabmkjmaaDoorF6
namespace Go.Proofs.YtmlceloabmkjmaaDoor
open E
set_option maxRecDepth 100000
set_option linter.unusedVariables false

/- conch conchlaw14.FilesPass -/
def F3 (l_0 reads_1 end_2 : Value) (s : AS) (k : Value → AS → Prop) : Prop :=
 kCall Tryd.prog 7 [(.int .i64 3), (.int .i64 64)] s fun v23 s =>
 kExt 0 v23 fun v24 =>
 kExt 1 v23 fun v25 =>
 kJoin (fun _ s =>
 kJoin (fun xs s =>
 un1 xs fun flags_9 =>
 kCall Tryd.prog 9 [v24, (.int .i64 1), (.string (bs [97])), flags_9] s fun v57 s =>
 kExt 0 v57 fun v58 =>
 kExt 1 v57 fun v59 =>
 kCall Tryd.prog 9 [v24, (.int .i64 1), (.string (bs [97])), (.int .i64 1)] s fun v62 s =>
 kExt 0 v62 fun v63 =>
 kExt 1 v62 fun v64 =>
 kJoin (fun _ s =>
 kJoin (fun xs s =>
 un1 xs fun all_14 =>
 kJoin (fun xs s =>
 un1 xs fun got_18 =>
 kLen true got_18 fun v159 =>
 kSubS all_14 none (some v159) fun v160 =>
 kBin .eql got_18 v160 fun v161 =>
 kGrd v161 true (fun k =>
 kCall Tryd.prog 12 [v58] s fun v164 s =>
 kLen true all_14 fun v166 =>
 kBin .eql v164 v166 fun v167 =>
 k [v167] s) [undef] s fun xs s =>
 un1 xs fun v167 =>
 kPick v161 v167 (.bool false) fun v168 =>
 kGrd v168 true (fun k =>
 kCall Tryd.prog 12 [v63] s fun v171 s =>
 kLen true got_18 fun v173 =>
 kBin .eql v171 v173 fun v174 =>
 k [v174] s) [undef] s fun xs s =>
 un1 xs fun v174 =>
 kPick v168 v174 (.bool false) fun v175 =>
 kGrd v175 true (fun k =>
 kCall Tryd.prog 8 [] s fun v177 s =>
 k [v177] s) [undef] s fun xs s =>
 un1 xs fun v177 =>
 kPick v175 v177 (.bool false) fun v178 =>
 k v178 s) fun J5 =>
 kLoop (fun again6 xs s =>
 un2 xs fun got_18 i_19 =>
 kJoin (fun _ s =>
 kJoin (fun xs s =>
 un1 xs fun got_18 =>
 kBin .add i_19 (.int .i64 1) fun v115 =>
 again6 [got_18, v115] s) fun J8 =>
 kIdx 1 reads_1 i_19 fun v120 =>
 kLd s v120 fun v121 =>
 kCall Tryd.prog 11 [v63, v121] s fun v122 s =>
 kExt 0 v122 fun v123 =>
 kExt 1 v122 fun v124 =>
 kJoin (fun _ s =>
 kJoin (fun _ s =>
 kBin .add got_18 v123 fun v155 =>
 J8 [v155] s) fun J10 =>
 kBin .neq v124 (.int .i64 0) fun v137 =>
 kGrd v137 false (fun k =>
 kLen true v123 fun v140 =>
 kIdx 1 reads_1 i_19 fun v143 =>
 kLd s v143 fun v144 =>
 kLen true all_14 fun v146 =>
 kLen true got_18 fun v148 =>
 kBin .sub v146 v148 fun v149 =>
 kMin v144 v149 fun v150 =>
 kBin .neq v140 v150 fun v151 =>
 k [v151] s) [undef] s fun xs s =>
 un1 xs fun v151 =>
 kPick v137 (.bool true) v151 fun v152 =>
 kCond v152 (
 k (.bool false) s) (
 J10 [] s)) fun J9 =>
 kIdx 1 reads_1 i_19 fun v127 =>
 kLd s v127 fun v128 =>
 kBin .lss v128 (.int .i64 0) fun v129 =>
 kCond v129 (
 kBin .neq v123 (.string (bs [])) fun v131 =>
 kGrd v131 false (fun k =>
 kBin .neq v124 (.int .i64 1) fun v134 =>
 k [v134] s) [undef] s fun xs s =>
 un1 xs fun v134 =>
 kPick v131 (.bool true) v134 fun v135 =>
 kCond v135 (
 k (.bool false) s) (
 J8 [got_18] s)) (
 J9 [] s)) fun J7 =>
 kLen false reads_1 fun v112 =>
 kBin .lss i_19 v112 fun v113 =>
 kCond v113 (
 J7 [] s) (
 J5 [got_18] s)) [(.string (bs [])), (.int .i64 0)] s) fun J4 =>
 kLoop (fun again11 xs s =>
 un2 xs fun all_14 i_15 =>
 kJoin (fun _ s =>
 kJoin (fun xs s =>
 un1 xs fun all_14 =>
 kBin .add i_15 (.int .i64 1) fun v76 =>
 again11 [all_14, v76] s) fun J13 =>
 kJoin (fun _ s =>
 kIdx 1 l_0 i_15 fun v88 =>
 kLd s v88 fun v89 =>
 kCall Tryd.prog 10 [v58, v89] s fun v90 s =>
 kExt 0 v90 fun v91 =>
 kExt 1 v90 fun v92 =>
 kJoin (fun _ s =>
 kIdx 1 l_0 i_15 fun v107 =>
 kLd s v107 fun v108 =>
 kBin .add all_14 v108 fun v109 =>
 J13 [v109] s) fun J15 =>
 kIdx 1 l_0 i_15 fun v96 =>
 kLd s v96 fun v97 =>
 kLen true v97 fun v98 =>
 kBin .neq v91 v98 fun v99 =>
 kGrd v99 false (fun k =>
 kBin .neq v92 (.int .i64 0) fun v102 =>
 k [v102] s) [undef] s fun xs s =>
 un1 xs fun v102 =>
 kPick v99 (.bool true) v102 fun v103 =>
 kCond v103 (
 k (.bool false) s) (
 J15 [] s)) fun J14 =>
 kIdx 1 l_0 i_15 fun v79 =>
 kLd s v79 fun v80 =>
 kLen true v80 fun v81 =>
 kBin .gtr v81 (.int .i64 100) fun v82 =>
 kCond v82 (
 kCall Tryd.prog 8 [] s fun v83 s =>
 k v83 s) (
 J14 [] s)) fun J12 =>
 kLen false l_0 fun v73 =>
 kBin .lss i_15 v73 fun v74 =>
 kCond v74 (
 J12 [] s) (
 J4 [all_14] s)) [(.string (bs [])), (.int .i64 0)] s) fun J3 =>
 kBin .neq v59 (.int .i64 0) fun v66 =>
 kGrd v66 false (fun k =>
 kBin .neq v64 (.int .i64 0) fun v69 =>
 k [v69] s) [undef] s fun xs s =>
 un1 xs fun v69 =>
 kPick v66 (.bool true) v69 fun v70 =>
 kCond v70 (
 k (.bool false) s) (
 J3 [] s)) fun J2 =>
 kCond end_2 (
 kBin .or (.int .i64 10) (.int .i64 4) fun v53 =>
 J2 [v53] s) (
 J2 [(.int .i64 10)] s)) fun J1 =>
 kBin .neq v25 (.int .i64 0) fun v27 =>
 kGrd v27 false (fun k =>
 kEq 0 false v24 (.pointer none) fun v30 =>
 k [v30] s) [undef] s fun xs s =>
 un1 xs fun v30 =>
 kPick v27 (.bool true) v30 fun v31 =>
 kGrd v31 false (fun k =>
 kLen false l_0 fun v34 =>
 kBin .gtr v34 (.int .i64 30) fun v35 =>
 k [v35] s) [undef] s fun xs s =>
 un1 xs fun v35 =>
 kPick v31 (.bool true) v35 fun v36 =>
 kGrd v36 false (fun k =>
 kLen false reads_1 fun v39 =>
 kBin .gtr v39 (.int .i64 100) fun v40 =>
 k [v40] s) [undef] s fun xs s =>
 un1 xs fun v40 =>
 kPick v36 (.bool true) v40 fun v41 =>
 kCond v41 (
 kBin .eql v25 (.int .i64 0) fun v43 =>
 kGrd v43 true (fun k =>
 kEq 0 true v24 (.pointer none) fun v46 =>
 k [v46] s) [undef] s fun xs s =>
 un1 xs fun v46 =>
 kPick v43 v46 (.bool false) fun v47 =>
 kGrd v47 true (fun k =>
 kCall Tryd.prog 8 [] s fun v49 s =>
 k [v49] s) [undef] s fun xs s =>
 un1 xs fun v49 =>
 kPick v47 v49 (.bool false) fun v50 =>
 k v50 s) (
 J1 [] s)
theorem F3_ok (l_0 reads_1 end_2 : Value) (s : AS) (k : Value → AS → Prop) : denFn Tryd.prog [] 3 [l_0, reads_1, end_2] s k = F3 l_0 reads_1 end_2 s k := by kernel_rfl
theorem f3 {l_0 reads_1 end_2 : Value} {s : AS} {k : Value → AS → Prop} (h : F3 l_0 reads_1 end_2 s k) : kCall Tryd.prog 3 [l_0, reads_1, end_2] s k := denFn_ok [] (cast (F3_ok l_0 reads_1 end_2 s k).symm h)
theorem k3_ok : okFn Tryd.prog 3 = true := by kernel_rfl

/- conch conchlaw14.FilesEnds -/
def F4 (l_0 who_1 : Value) (s : AS) (k : Value → AS → Prop) : Prop :=
 kCall Tryd.prog 7 [(.int .i64 3), (.int .i64 64)] s fun v19 s =>
 kExt 0 v19 fun v20 =>
 kExt 1 v19 fun v21 =>
 kJoin (fun _ s =>
 kCall Tryd.prog 9 [v20, (.int .i64 1), (.string (bs [97])), (.int .i64 14)] s fun v44 s =>
 kExt 0 v44 fun v45 =>
 kExt 1 v44 fun v46 =>
 kCall Tryd.prog 9 [v20, (.int .i64 1), (.string (bs [97])), (.int .i64 6)] s fun v49 s =>
 kExt 0 v49 fun v50 =>
 kExt 1 v49 fun v51 =>
 kJoin (fun _ s =>
 kJoin (fun xs s =>
 un1 xs fun all_11 =>
 kCall Tryd.prog 14 [v45] s fun v112 s =>
 kCall Tryd.prog 13 [v20, v112, (.int .i64 0), (.int .i64 4096)] s fun v113 s =>
 kExt 0 v113 fun v114 =>
 kExt 1 v113 fun v115 =>
 kBin .eql v114 all_11 fun v118 =>
 kGrd v118 true (fun k =>
 kBin .eql v115 (.int .i64 0) fun v121 =>
 k [v121] s) [undef] s fun xs s =>
 un1 xs fun v121 =>
 kPick v118 v121 (.bool false) fun v122 =>
 kGrd v122 true (fun k =>
 kCall Tryd.prog 8 [] s fun v124 s =>
 k [v124] s) [undef] s fun xs s =>
 un1 xs fun v124 =>
 kPick v122 v124 (.bool false) fun v125 =>
 k v125 s) fun J3 =>
 kLoop (fun again4 xs s =>
 un2 xs fun all_11 i_12 =>
 kJoin (fun _ s =>
 kJoin (fun xs s =>
 un1 xs fun all_11 =>
 kBin .add i_12 (.int .i64 1) fun v63 =>
 again4 [all_11, v63] s) fun J6 =>
 kJoin (fun _ s =>
 kJoin (fun xs s =>
 un1 xs fun x_13 =>
 kIdx 1 l_0 i_12 fun v87 =>
 kLd s v87 fun v88 =>
 kCall Tryd.prog 10 [x_13, v88] s fun v89 s =>
 kExt 0 v89 fun v90 =>
 kExt 1 v89 fun v91 =>
 kJoin (fun _ s =>
 kIdx 1 l_0 i_12 fun v106 =>
 kLd s v106 fun v107 =>
 kBin .add all_11 v107 fun v108 =>
 J6 [v108] s) fun J9 =>
 kIdx 1 l_0 i_12 fun v95 =>
 kLd s v95 fun v96 =>
 kLen true v96 fun v97 =>
 kBin .neq v90 v97 fun v98 =>
 kGrd v98 false (fun k =>
 kBin .neq v91 (.int .i64 0) fun v101 =>
 k [v101] s) [undef] s fun xs s =>
 un1 xs fun v101 =>
 kPick v98 (.bool true) v101 fun v102 =>
 kCond v102 (
 k (.bool false) s) (
 J9 [] s)) fun J8 =>
 kLen false who_1 fun v74 =>
 kBin .lss i_12 v74 fun v75 =>
 kGrd v75 true (fun k =>
 kIdx 1 who_1 i_12 fun v79 =>
 kLd s v79 fun v80 =>
 k [v80] s) [undef] s fun xs s =>
 un1 xs fun v80 =>
 kPick v75 v80 (.bool false) fun v81 =>
 kCond v81 (
 J8 [v50] s) (
 J8 [v45] s)) fun J7 =>
 kIdx 1 l_0 i_12 fun v66 =>
 kLd s v66 fun v67 =>
 kLen true v67 fun v68 =>
 kBin .gtr v68 (.int .i64 100) fun v69 =>
 kCond v69 (
 kCall Tryd.prog 8 [] s fun v70 s =>
 k v70 s) (
 J7 [] s)) fun J5 =>
 kLen false l_0 fun v60 =>
 kBin .lss i_12 v60 fun v61 =>
 kCond v61 (
 J5 [] s) (
 J3 [all_11] s)) [(.string (bs [])), (.int .i64 0)] s) fun J2 =>
 kBin .neq v46 (.int .i64 0) fun v53 =>
 kGrd v53 false (fun k =>
 kBin .neq v51 (.int .i64 0) fun v56 =>
 k [v56] s) [undef] s fun xs s =>
 un1 xs fun v56 =>
 kPick v53 (.bool true) v56 fun v57 =>
 kCond v57 (
 k (.bool false) s) (
 J2 [] s)) fun J1 =>
 kBin .neq v21 (.int .i64 0) fun v23 =>
 kGrd v23 false (fun k =>
 kEq 0 false v20 (.pointer none) fun v26 =>
 k [v26] s) [undef] s fun xs s =>
 un1 xs fun v26 =>
 kPick v23 (.bool true) v26 fun v27 =>
 kGrd v27 false (fun k =>
 kLen false l_0 fun v30 =>
 kBin .gtr v30 (.int .i64 20) fun v31 =>
 k [v31] s) [undef] s fun xs s =>
 un1 xs fun v31 =>
 kPick v27 (.bool true) v31 fun v32 =>
 kCond v32 (
 kBin .eql v21 (.int .i64 0) fun v34 =>
 kGrd v34 true (fun k =>
 kEq 0 true v20 (.pointer none) fun v37 =>
 k [v37] s) [undef] s fun xs s =>
 un1 xs fun v37 =>
 kPick v34 v37 (.bool false) fun v38 =>
 kGrd v38 true (fun k =>
 kCall Tryd.prog 8 [] s fun v40 s =>
 k [v40] s) [undef] s fun xs s =>
 un1 xs fun v40 =>
 kPick v38 v40 (.bool false) fun v41 =>
 k v41 s) (
 J1 [] s)
theorem F4_ok (l_0 who_1 : Value) (s : AS) (k : Value → AS → Prop) : denFn Tryd.prog [] 4 [l_0, who_1] s k = F4 l_0 who_1 s k := by kernel_rfl
theorem f4 {l_0 who_1 : Value} {s : AS} {k : Value → AS → Prop} (h : F4 l_0 who_1 s k) : kCall Tryd.prog 4 [l_0, who_1] s k := denFn_ok [] (cast (F4_ok l_0 who_1 s k).symm h)
theorem k4_ok : okFn Tryd.prog 4 = true := by kernel_rfl

/- conch conchlaw14.FilesNil -/
def F5 (path_0 n_1 : Value) (s : AS) (k : Value → AS → Prop) : Prop :=
 kCall Tryd.prog 9 [(.pointer none), n_1, path_0, n_1] s fun v16 s =>
 kExt 0 v16 fun v17 =>
 kExt 1 v16 fun v18 =>
 kCall Tryd.prog 11 [(.pointer none), n_1] s fun v22 s =>
 kExt 0 v22 fun v23 =>
 kExt 1 v22 fun v24 =>
 kCall Tryd.prog 10 [(.pointer none), path_0] s fun v28 s =>
 kExt 0 v28 fun v29 =>
 kExt 1 v28 fun v30 =>
 kEq 0 false v17 (.pointer none) fun v32 =>
 kGrd v32 true (fun k =>
 kBin .eql v18 (.int .i64 2) fun v35 =>
 k [v35] s) [undef] s fun xs s =>
 un1 xs fun v35 =>
 kPick v32 v35 (.bool false) fun v36 =>
 kGrd v36 true (fun k =>
 kBin .eql v24 (.int .i64 2) fun v39 =>
 k [v39] s) [undef] s fun xs s =>
 un1 xs fun v39 =>
 kPick v36 v39 (.bool false) fun v40 =>
 kGrd v40 true (fun k =>
 kBin .eql v30 (.int .i64 2) fun v43 =>
 k [v43] s) [undef] s fun xs s =>
 un1 xs fun v43 =>
 kPick v40 v43 (.bool false) fun v44 =>
 kGrd v44 true (fun k =>
 kCall Tryd.prog 12 [(.pointer none)] s fun v47 s =>
 kBin .eql v47 (.int .i64 0) fun v48 =>
 k [v48] s) [undef] s fun xs s =>
 un1 xs fun v48 =>
 kPick v44 v48 (.bool false) fun v49 =>
 kGrd v49 true (fun k =>
 kCall Tryd.prog 14 [(.pointer none)] s fun v52 s =>
 kBin .eql v52 (.int .i64 0) fun v53 =>
 k [v53] s) [undef] s fun xs s =>
 un1 xs fun v53 =>
 kPick v49 v53 (.bool false) fun v54 =>
 kGrd v54 true (fun k =>
 kCall Tryd.prog 15 [(.pointer none)] s fun v57 s =>
 kBin .eql v57 (.int .i64 2) fun v58 =>
 k [v58] s) [undef] s fun xs s =>
 un1 xs fun v58 =>
 kPick v54 v58 (.bool false) fun v59 =>
 kGrd v59 true (fun k =>
 kCall Tryd.prog 8 [] s fun v61 s =>
 k [v61] s) [undef] s fun xs s =>
 un1 xs fun v61 =>
 kPick v59 v61 (.bool false) fun v62 =>
 k v62 s
theorem F5_ok (path_0 n_1 : Value) (s : AS) (k : Value → AS → Prop) : denFn Tryd.prog [] 5 [path_0, n_1] s k = F5 path_0 n_1 s k := by kernel_rfl
theorem f5 {path_0 n_1 : Value} {s : AS} {k : Value → AS → Prop} (h : F5 path_0 n_1 s k) : kCall Tryd.prog 5 [path_0, n_1] s k := denFn_ok [] (cast (F5_ok path_0 n_1 s k).symm h)
theorem k5_ok : okFn Tryd.prog 5 = true := by kernel_rfl

/- conch conchlaw14.FilesStays -/
def F6 (data_0 : Value) (s : AS) (k : Value → AS → Prop) : Prop :=
 kJoin (fun _ s =>
 kCall Tryd.prog 7 [(.int .i64 3), (.int .i64 64)] s fun v22 s =>
 kExt 0 v22 fun v23 =>
 kExt 1 v22 fun v24 =>
 kJoin (fun _ s =>
 kCall Tryd.prog 16 [v23] s fun v33 s =>
 kExt 0 v33 fun v34 =>
 kExt 1 v33 fun v35 =>
 kCall Tryd.prog 9 [v23, (.int .i64 1), (.string (bs [97])), (.int .i64 11)] s fun v38 s =>
 kExt 0 v38 fun v39 =>
 kExt 1 v38 fun v40 =>
 kJoin (fun _ s =>
 kCall Tryd.prog 10 [v39, data_0] s fun v51 s =>
 kExt 0 v51 fun v52 =>
 kExt 1 v51 fun v53 =>
 kCall Tryd.prog 14 [v39] s fun v57 s =>
 kCall Tryd.prog 13 [v23, v57, (.int .i64 0), (.int .i64 2000)] s fun v58 s =>
 kExt 0 v58 fun v59 =>
 kExt 1 v58 fun v60 =>
 kJoin (fun _ s =>
 kCall Tryd.prog 16 [v23] s fun v90 s =>
 kExt 0 v90 fun v91 =>
 kExt 1 v90 fun v92 =>
 kCall Tryd.prog 11 [v39, (.int .i64 1)] s fun v95 s =>
 kExt 0 v95 fun v96 =>
 kExt 1 v95 fun v97 =>
 kBin .eql v91 v34 fun v100 =>
 kGrd v100 true (fun k =>
 kBin .eql v92 v35 fun v104 =>
 k [v104] s) [undef] s fun xs s =>
 un1 xs fun v104 =>
 kPick v100 v104 (.bool false) fun v105 =>
 kGrd v105 true (fun k =>
 kBin .eql v97 (.int .i64 28) fun v108 =>
 k [v108] s) [undef] s fun xs s =>
 un1 xs fun v108 =>
 kPick v105 v108 (.bool false) fun v109 =>
 kGrd v109 true (fun k =>
 kCall Tryd.prog 8 [] s fun v111 s =>
 k [v111] s) [undef] s fun xs s =>
 un1 xs fun v111 =>
 kPick v109 v111 (.bool false) fun v112 =>
 k v112 s) fun J4 =>
 kLen true data_0 fun v63 =>
 kBin .neq v52 v63 fun v64 =>
 kGrd v64 false (fun k =>
 kBin .neq v53 (.int .i64 0) fun v67 =>
 k [v67] s) [undef] s fun xs s =>
 un1 xs fun v67 =>
 kPick v64 (.bool true) v67 fun v68 =>
 kGrd v68 false (fun k =>
 kBin .neq v59 data_0 fun v72 =>
 k [v72] s) [undef] s fun xs s =>
 un1 xs fun v72 =>
 kPick v68 (.bool true) v72 fun v73 =>
 kGrd v73 false (fun k =>
 kBin .neq v60 (.int .i64 0) fun v76 =>
 k [v76] s) [undef] s fun xs s =>
 un1 xs fun v76 =>
 kPick v73 (.bool true) v76 fun v77 =>
 kGrd v77 false (fun k =>
 kCall Tryd.prog 15 [v39] s fun v80 s =>
 kBin .neq v80 (.int .i64 0) fun v81 =>
 k [v81] s) [undef] s fun xs s =>
 un1 xs fun v81 =>
 kPick v77 (.bool true) v81 fun v82 =>
 kGrd v82 false (fun k =>
 kCall Tryd.prog 15 [v39] s fun v85 s =>
 kBin .neq v85 (.int .i64 28) fun v86 =>
 k [v86] s) [undef] s fun xs s =>
 un1 xs fun v86 =>
 kPick v82 (.bool true) v86 fun v87 =>
 kCond v87 (
 k (.bool false) s) (
 J4 [] s)) fun J3 =>
 kBin .neq v40 (.int .i64 0) fun v42 =>
 kGrd v42 false (fun k =>
 kCall Tryd.prog 17 [v23, (.int .i64 1), (.string (bs [97]))] s fun v45 s =>
 kBin .neq v45 (.int .i64 0) fun v46 =>
 k [v46] s) [undef] s fun xs s =>
 un1 xs fun v46 =>
 kPick v42 (.bool true) v46 fun v47 =>
 kCond v47 (
 k (.bool false) s) (
 J3 [] s)) fun J2 =>
 kBin .neq v24 (.int .i64 0) fun v26 =>
 kGrd v26 false (fun k =>
 kEq 0 false v23 (.pointer none) fun v29 =>
 k [v29] s) [undef] s fun xs s =>
 un1 xs fun v29 =>
 kPick v26 (.bool true) v29 fun v30 =>
 kCond v30 (
 k (.bool false) s) (
 J2 [] s)) fun J1 =>
 kLen true data_0 fun v18 =>
 kBin .gtr v18 (.int .i64 1000) fun v19 =>
 kCond v19 (
 kCall Tryd.prog 8 [] s fun v20 s =>
 k v20 s) (
 J1 [] s)
theorem F6_ok (data_0 : Value) (s : AS) (k : Value → AS → Prop) : denFn Tryd.prog [] 6 [data_0] s k = F6 data_0 s k := by kernel_rfl
theorem f6 {data_0 : Value} {s : AS} {k : Value → AS → Prop} (h : F6 data_0 s k) : kCall Tryd.prog 6 [data_0] s k := denFn_ok [] (cast (F6_ok data_0 s k).symm h)
theorem k6_ok : okFn Tryd.prog 6 = true := by kernel_rfl

/- conch names.New -/
def F7 (nodes_0 blocks_1 : Value) (s : AS) (k : Value → AS → Prop) : Prop :=
 kCall Tryd.prog 18 [nodes_0, blocks_1] s fun v12 s =>
 kExt 0 v12 fun v13 =>
 kExt 1 v12 fun v14 =>
 kJoin (fun _ s =>
 kMkm s fun v19 s =>
 kBuild [(.pointer none), (.map none)] [(0, 1, v13), (1, 1, v19)] fun v20 =>
 kNew s (cellsV v20) fun v21 s =>
 kCall Tryd.prog 19 [v13, (.int .i64 2)] s fun v23 s =>
 kCall Tryd.prog 20 [v13, (.int .i64 1)] s fun v25 s =>
 kNck v21 fun v27 =>
 kFld 1 v27 fun v28 =>
 kLd s v28 fun v29 =>
 kMkm s fun v30 s =>
 kBuild [(.map none), (.int .i64 0)] [(0, 1, v30), (1, 1, (.int .i64 1))] fun v31 =>
 kNew s (cellsV v31) fun v32 s =>
 kGen Tryd.prog (.mup 50) [v29, (.int .i64 1), v32] s fun _ s =>
 k (.tuple #[v21, (.int .i64 0)]) s) fun J1 =>
 kBin .neq v14 (.int .i64 0) fun v16 =>
 kCond v16 (
 k (.tuple #[(.pointer none), v14]) s) (
 J1 [] s)
theorem F7_ok (nodes_0 blocks_1 : Value) (s : AS) (k : Value → AS → Prop) : denFn Tryd.prog [] 7 [nodes_0, blocks_1] s k = F7 nodes_0 blocks_1 s k := by kernel_rfl
theorem f7 {nodes_0 blocks_1 : Value} {s : AS} {k : Value → AS → Prop} (h : F7 nodes_0 blocks_1 s k) : kCall Tryd.prog 7 [nodes_0, blocks_1] s k := denFn_ok [] (cast (F7_ok nodes_0 blocks_1 s k).symm h)
theorem k7_ok : okFn Tryd.prog 7 = true := by kernel_rfl

/- conch conchlaw14.awake -/
def F8 (s : AS) (k : Value → AS → Prop) : Prop :=
 kCall Tryd.prog 7 [(.int .i64 9), (.int .i64 9)] s fun v16 s =>
 kExt 0 v16 fun v17 =>
 kExt 1 v16 fun v18 =>
 kCall Tryd.prog 9 [v17, (.int .i64 1), (.string (bs [97])), (.int .i64 10)] s fun v21 s =>
 kExt 0 v21 fun v22 =>
 kExt 1 v21 fun v23 =>
 kCall Tryd.prog 10 [v22, (.string (bs [104, 101, 108, 108, 111]))] s fun v26 s =>
 kExt 0 v26 fun v27 =>
 kExt 1 v26 fun v28 =>
 kCall Tryd.prog 9 [v17, (.int .i64 1), (.string (bs [97])), (.int .i64 1)] s fun v31 s =>
 kExt 0 v31 fun v32 =>
 kExt 1 v31 fun v33 =>
 kCall Tryd.prog 11 [v32, (.int .i64 2)] s fun v36 s =>
 kExt 0 v36 fun v37 =>
 kExt 1 v36 fun v38 =>
 kCall Tryd.prog 11 [v32, (.int .i64 9)] s fun v41 s =>
 kExt 0 v41 fun v42 =>
 kExt 1 v41 fun v43 =>
 kCall Tryd.prog 9 [v17, (.int .i64 1), (.string (bs [97])), (.int .i64 42)] s fun v46 s =>
 kExt 0 v46 fun v47 =>
 kExt 1 v46 fun v48 =>
 kBin .eql v23 (.int .i64 0) fun v50 =>
 kGrd v50 true (fun k =>
 kBin .eql v27 (.int .i64 5) fun v53 =>
 k [v53] s) [undef] s fun xs s =>
 un1 xs fun v53 =>
 kPick v50 v53 (.bool false) fun v54 =>
 kGrd v54 true (fun k =>
 kBin .eql v28 (.int .i64 0) fun v57 =>
 k [v57] s) [undef] s fun xs s =>
 un1 xs fun v57 =>
 kPick v54 v57 (.bool false) fun v58 =>
 kGrd v58 true (fun k =>
 kBin .eql v33 (.int .i64 0) fun v61 =>
 k [v61] s) [undef] s fun xs s =>
 un1 xs fun v61 =>
 kPick v58 v61 (.bool false) fun v62 =>
 kGrd v62 true (fun k =>
 kBin .eql v37 (.string (bs [104, 101])) fun v65 =>
 k [v65] s) [undef] s fun xs s =>
 un1 xs fun v65 =>
 kPick v62 v65 (.bool false) fun v66 =>
 kGrd v66 true (fun k =>
 kBin .eql v42 (.string (bs [108, 108, 111])) fun v69 =>
 k [v69] s) [undef] s fun xs s =>
 un1 xs fun v69 =>
 kPick v66 v69 (.bool false) fun v70 =>
 kGrd v70 true (fun k =>
 kBin .eql v48 (.int .i64 22) fun v73 =>
 k [v73] s) [undef] s fun xs s =>
 un1 xs fun v73 =>
 kPick v70 v73 (.bool false) fun v74 =>
 k v74 s
theorem F8_ok (s : AS) (k : Value → AS → Prop) : denFn Tryd.prog [] 8 [] s k = F8 s k := by kernel_rfl
theorem f8 {s : AS} {k : Value → AS → Prop} (h : F8 s k) : kCall Tryd.prog 8 [] s k := denFn_ok [] (cast (F8_ok s k).symm h)
theorem k8_ok : okFn Tryd.prog 8 = true := by kernel_rfl

/- conch files.Open -/
def F9 (f_0 dir_1 path_2 flags_3 : Value) (s : AS) (k : Value → AS → Prop) : Prop :=
 kJoin (fun _ s =>
 kCall Tryd.prog 21 [f_0, dir_1, path_2, flags_3] s fun v32 s =>
 kExt 0 v32 fun v33 =>
 kExt 1 v32 fun v34 =>
 kJoin (fun _ s =>
 kJoin (fun _ s =>
 kCall Tryd.prog 24 [f_0, v33] s fun v60 s =>
 kBuild [(.pointer none), (.int .i64 0), (.int .i64 0), (.int .i64 0), (.bool false)] [(0, 1, f_0), (1, 1, v33), (3, 1, flags_3)] fun v64 =>
 kNew s (cellsV v64) fun v65 s =>
 k (.tuple #[v65, (.int .i64 0)]) s) fun J3 =>
 kBin .and flags_3 (.int .i64 16) fun v48 =>
 kBin .neq v48 (.int .i64 0) fun v49 =>
 kGrd v49 true (fun k =>
 kBin .and flags_3 (.int .i64 2) fun v52 =>
 kBin .neq v52 (.int .i64 0) fun v53 =>
 k [v53] s) [undef] s fun xs s =>
 un1 xs fun v53 =>
 kPick v49 v53 (.bool false) fun v54 =>
 kCond v54 (
 kCall Tryd.prog 23 [f_0, v33, (.int .i64 0)] s fun v57 s =>
 J3 [] s) (
 J3 [] s)) fun J2 =>
 kBin .neq v34 (.int .i64 0) fun v37 =>
 kCond v37 (
 k (.tuple #[(.pointer none), v34]) s) (
 kNck f_0 fun v41 =>
 kFld 0 v41 fun v42 =>
 kLd s v42 fun v43 =>
 kCall Tryd.prog 22 [v43, v33] s fun v45 s =>
 kBin .eql v45 (.int .i64 2) fun v46 =>
 kCond v46 (
 k (.tuple #[(.pointer none), (.int .i64 24)]) s) (
 J2 [] s))) fun J1 =>
 kEq 0 false f_0 (.pointer none) fun v14 =>
 kCond v14 (
 k (.tuple #[(.pointer none), (.int .i64 2)]) s) (
 kBin .lss flags_3 (.int .i64 0) fun v17 =>
 kGrd v17 false (fun k =>
 kBin .geq flags_3 (.int .i64 64) fun v20 =>
 k [v20] s) [undef] s fun xs s =>
 un1 xs fun v20 =>
 kPick v17 (.bool true) v20 fun v21 =>
 kGrd v21 false (fun k =>
 kBin .and flags_3 (.int .i64 3) fun v24 =>
 kBin .eql v24 (.int .i64 0) fun v25 =>
 k [v25] s) [undef] s fun xs s =>
 un1 xs fun v25 =>
 kPick v21 (.bool true) v25 fun v26 =>
 kCond v26 (
 k (.tuple #[(.pointer none), (.int .i64 1)]) s) (
 J1 [] s))
theorem F9_ok (f_0 dir_1 path_2 flags_3 : Value) (s : AS) (k : Value → AS → Prop) : denFn Tryd.prog [] 9 [f_0, dir_1, path_2, flags_3] s k = F9 f_0 dir_1 path_2 flags_3 s k := by kernel_rfl
theorem f9 {f_0 dir_1 path_2 flags_3 : Value} {s : AS} {k : Value → AS → Prop} (h : F9 f_0 dir_1 path_2 flags_3 s k) : kCall Tryd.prog 9 [f_0, dir_1, path_2, flags_3] s k := denFn_ok [] (cast (F9_ok f_0 dir_1 path_2 flags_3 s k).symm h)
theorem k9_ok : okFn Tryd.prog 9 = true := by kernel_rfl

/- (*conch files.File).Write -/
def F10 (x_0 data_1 : Value) (s : AS) (k : Value → AS → Prop) : Prop :=
 kJoin (fun _ s =>
 kJoin (fun _ s =>
 kNck x_0 fun v37 =>
 kFld 0 v37 fun v38 =>
 kNck x_0 fun v41 =>
 kFld 1 v41 fun v42 =>
 kNck x_0 fun v45 =>
 kFld 2 v45 fun v46 =>
 kLd s v38 fun v39 =>
 kLd s v42 fun v43 =>
 kLd s v46 fun v47 =>
 kCall Tryd.prog 27 [v39, v43, v47, data_1] s fun v49 s =>
 kExt 0 v49 fun v50 =>
 kExt 1 v49 fun v51 =>
 kNck x_0 fun v53 =>
 kFld 2 v53 fun v54 =>
 kLd s v54 fun v55 =>
 kBin .add v55 v50 fun v57 =>
 kNck x_0 fun v58 =>
 kFld 2 v58 fun v59 =>
 kSt s 1 v59 v57 fun s =>
 k (.tuple #[v50, v51]) s) fun J2 =>
 kNck x_0 fun v15 =>
 kFld 3 v15 fun v16 =>
 kLd s v16 fun v17 =>
 kBin .and v17 (.int .i64 4) fun v18 =>
 kBin .neq v18 (.int .i64 0) fun v19 =>
 kCond v19 (
 kNck x_0 fun v22 =>
 kFld 0 v22 fun v23 =>
 kNck x_0 fun v29 =>
 kFld 1 v29 fun v30 =>
 kLd s v23 fun v24 =>
 kNck v24 fun v25 =>
 kFld 0 v25 fun v26 =>
 kLd s v26 fun v27 =>
 kLd s v30 fun v31 =>
 kCall Tryd.prog 26 [v27, v31] s fun v32 s =>
 kNck x_0 fun v33 =>
 kFld 2 v33 fun v34 =>
 kSt s 1 v34 v32 fun s =>
 J2 [] s) (
 J2 [] s)) fun J1 =>
 kCall Tryd.prog 25 [x_0, (.int .i64 2)] s fun v10 s =>
 kBin .neq v10 (.int .i64 0) fun v12 =>
 kCond v12 (
 k (.tuple #[(.int .i64 0), v10]) s) (
 J1 [] s)
theorem F10_ok (x_0 data_1 : Value) (s : AS) (k : Value → AS → Prop) : denFn Tryd.prog [(5, (.go 0 (.go 1 (.go 2 (.go 3 (.go 8 (.go 9 (.go 10 (.go 4 (.go 5 (.go 6 (.go 7 (.go 11 (.go 12 (.go 13 (.go 14 (.go 15 .done))))))))))))))))), (6, (.go 0 (.go 1 (.go 2 (.go 4 (.go 5 (.go 6 (.go 8 (.go 9 (.go 10 (.go 12 (.go 3 (.go 7 (.go 11 (.go 13 (.go 14 (.go 15 (.go 16 (.go 17 (.go 18 .done))))))))))))))))))))] 10 [x_0, data_1] s k = F10 x_0 data_1 s k := by kernel_rfl
theorem f10 {x_0 data_1 : Value} {s : AS} {k : Value → AS → Prop} (h : F10 x_0 data_1 s k) : kCall Tryd.prog 10 [x_0, data_1] s k := denFn_ok [(5, (.go 0 (.go 1 (.go 2 (.go 3 (.go 8 (.go 9 (.go 10 (.go 4 (.go 5 (.go 6 (.go 7 (.go 11 (.go 12 (.go 13 (.go 14 (.go 15 .done))))))))))))))))), (6, (.go 0 (.go 1 (.go 2 (.go 4 (.go 5 (.go 6 (.go 8 (.go 9 (.go 10 (.go 12 (.go 3 (.go 7 (.go 11 (.go 13 (.go 14 (.go 15 (.go 16 (.go 17 (.go 18 .done))))))))))))))))))))] (cast (F10_ok x_0 data_1 s k).symm h)
theorem k10_ok : okFn Tryd.prog 10 = true := by kernel_rfl

/- (*conch files.File).Read -/
def F11 (x_0 n_1 : Value) (s : AS) (k : Value → AS → Prop) : Prop :=
 kJoin (fun _ s =>
 kNck x_0 fun v16 =>
 kFld 0 v16 fun v17 =>
 kNck x_0 fun v20 =>
 kFld 1 v20 fun v21 =>
 kNck x_0 fun v24 =>
 kFld 2 v24 fun v25 =>
 kLd s v17 fun v18 =>
 kLd s v21 fun v22 =>
 kLd s v25 fun v26 =>
 kCall Tryd.prog 13 [v18, v22, v26, n_1] s fun v28 s =>
 kExt 0 v28 fun v29 =>
 kExt 1 v28 fun v30 =>
 kNck x_0 fun v32 =>
 kFld 2 v32 fun v33 =>
 kLd s v33 fun v34 =>
 kLen true v29 fun v36 =>
 kBin .add v34 v36 fun v37 =>
 kNck x_0 fun v38 =>
 kFld 2 v38 fun v39 =>
 kSt s 1 v39 v37 fun s =>
 k (.tuple #[v29, v30]) s) fun J1 =>
 kCall Tryd.prog 25 [x_0, (.int .i64 1)] s fun v10 s =>
 kBin .neq v10 (.int .i64 0) fun v12 =>
 kCond v12 (
 k (.tuple #[(.string (bs [])), v10]) s) (
 J1 [] s)
theorem F11_ok (x_0 n_1 : Value) (s : AS) (k : Value → AS → Prop) : denFn Tryd.prog [(4, (.go 0 (.go 1 (.go 2 (.go 4 (.go 5 (.go 6 (.go 8 (.go 9 (.go 10 (.go 12 (.go 3 (.go 7 (.go 11 (.go 13 (.go 14 (.go 15 (.go 16 (.go 17 (.go 18 .done))))))))))))))))))))] 11 [x_0, n_1] s k = F11 x_0 n_1 s k := by kernel_rfl
theorem f11 {x_0 n_1 : Value} {s : AS} {k : Value → AS → Prop} (h : F11 x_0 n_1 s k) : kCall Tryd.prog 11 [x_0, n_1] s k := denFn_ok [(4, (.go 0 (.go 1 (.go 2 (.go 4 (.go 5 (.go 6 (.go 8 (.go 9 (.go 10 (.go 12 (.go 3 (.go 7 (.go 11 (.go 13 (.go 14 (.go 15 (.go 16 (.go 17 (.go 18 .done))))))))))))))))))))] (cast (F11_ok x_0 n_1 s k).symm h)
theorem k11_ok : okFn Tryd.prog 11 = true := by kernel_rfl

/- (*conch files.File).At -/
def F12 (x_0 : Value) (s : AS) (k : Value → AS → Prop) : Prop :=
 kJoin (fun _ s =>
 kNck x_0 fun v6 =>
 kFld 2 v6 fun v7 =>
 kLd s v7 fun v8 =>
 k v8 s) fun J1 =>
 kEq 0 false x_0 (.pointer none) fun v4 =>
 kCond v4 (
 k (.int .i64 0) s) (
 J1 [] s)
theorem F12_ok (x_0 : Value) (s : AS) (k : Value → AS → Prop) : denFn Tryd.prog [] 12 [x_0] s k = F12 x_0 s k := by kernel_rfl
theorem f12 {x_0 : Value} {s : AS} {k : Value → AS → Prop} (h : F12 x_0 s k) : kCall Tryd.prog 12 [x_0] s k := denFn_ok [] (cast (F12_ok x_0 s k).symm h)
theorem k12_ok : okFn Tryd.prog 12 = true := by kernel_rfl

/- (*conch names.FS).Read -/
def F13 (f_0 node_1 at_2 n_3 : Value) (s : AS) (k : Value → AS → Prop) : Prop :=
 kJoin (fun _ s =>
 kNck f_0 fun v18 =>
 kFld 0 v18 fun v19 =>
 kLd s v19 fun v20 =>
 kCall Tryd.prog 29 [v20, node_1, at_2, n_3] s fun v24 s =>
 kExt 0 v24 fun v25 =>
 kExt 1 v24 fun v26 =>
 k (.tuple #[v25, v26]) s) fun J1 =>
 kCall Tryd.prog 28 [f_0, node_1] s fun v13 s =>
 kBin .neq v13 (.int .i64 0) fun v15 =>
 kCond v15 (
 k (.tuple #[(.string (bs [])), v13]) s) (
 J1 [] s)
theorem F13_ok (f_0 node_1 at_2 n_3 : Value) (s : AS) (k : Value → AS → Prop) : denFn Tryd.prog [] 13 [f_0, node_1, at_2, n_3] s k = F13 f_0 node_1 at_2 n_3 s k := by kernel_rfl
theorem f13 {f_0 node_1 at_2 n_3 : Value} {s : AS} {k : Value → AS → Prop} (h : F13 f_0 node_1 at_2 n_3 s k) : kCall Tryd.prog 13 [f_0, node_1, at_2, n_3] s k := denFn_ok [] (cast (F13_ok f_0 node_1 at_2 n_3 s k).symm h)
theorem k13_ok : okFn Tryd.prog 13 = true := by kernel_rfl

/- (*conch files.File).Node -/
def F14 (x_0 : Value) (s : AS) (k : Value → AS → Prop) : Prop :=
 kJoin (fun _ s =>
 kNck x_0 fun v6 =>
 kFld 1 v6 fun v7 =>
 kLd s v7 fun v8 =>
 k v8 s) fun J1 =>
 kEq 0 false x_0 (.pointer none) fun v4 =>
 kCond v4 (
 k (.int .i64 0) s) (
 J1 [] s)
theorem F14_ok (x_0 : Value) (s : AS) (k : Value → AS → Prop) : denFn Tryd.prog [] 14 [x_0] s k = F14 x_0 s k := by kernel_rfl
theorem f14 {x_0 : Value} {s : AS} {k : Value → AS → Prop} (h : F14 x_0 s k) : kCall Tryd.prog 14 [x_0] s k := denFn_ok [] (cast (F14_ok x_0 s k).symm h)
theorem k14_ok : okFn Tryd.prog 14 = true := by kernel_rfl

/- (*conch files.File).Close -/
def F15 (x_0 : Value) (s : AS) (k : Value → AS → Prop) : Prop :=
 kJoin (fun _ s =>
 kNck x_0 fun v12 =>
 kFld 4 v12 fun v13 =>
 kSt s 1 v13 (.bool true) fun s =>
 kNck x_0 fun v15 =>
 kFld 0 v15 fun v16 =>
 kNck x_0 fun v19 =>
 kFld 1 v19 fun v20 =>
 kLd s v16 fun v17 =>
 kLd s v20 fun v21 =>
 kCall Tryd.prog 30 [v17, v21] s fun v22 s =>
 k v22 s) fun J1 =>
 kEq 0 false x_0 (.pointer none) fun v5 =>
 kCond v5 (
 k (.int .i64 2) s) (
 kNck x_0 fun v8 =>
 kFld 4 v8 fun v9 =>
 kLd s v9 fun v10 =>
 kCond v10 (
 k (.int .i64 28) s) (
 J1 [] s))
theorem F15_ok (x_0 : Value) (s : AS) (k : Value → AS → Prop) : denFn Tryd.prog [(6, (.go 0 (.go 1 (.go 2 (.go 4 (.go 5 (.go 6 (.go 3 (.go 7 (.go 8 (.go 9 .done)))))))))))] 15 [x_0] s k = F15 x_0 s k := by kernel_rfl
theorem f15 {x_0 : Value} {s : AS} {k : Value → AS → Prop} (h : F15 x_0 s k) : kCall Tryd.prog 15 [x_0] s k := denFn_ok [(6, (.go 0 (.go 1 (.go 2 (.go 4 (.go 5 (.go 6 (.go 3 (.go 7 (.go 8 (.go 9 .done)))))))))))] (cast (F15_ok x_0 s k).symm h)
theorem k15_ok : okFn Tryd.prog 15 = true := by kernel_rfl

/- (*conch names.FS).Free -/
def F16 (f_0 : Value) (s : AS) (k : Value → AS → Prop) : Prop :=
 kJoin (fun _ s =>
 kNck f_0 fun v7 =>
 kFld 0 v7 fun v8 =>
 kLd s v8 fun v9 =>
 kCall Tryd.prog 31 [v9] s fun v10 s =>
 kExt 0 v10 fun v11 =>
 kExt 1 v10 fun v12 =>
 k (.tuple #[v11, v12]) s) fun J1 =>
 kEq 0 false f_0 (.pointer none) fun v5 =>
 kCond v5 (
 k (.tuple #[(.int .i64 0), (.int .i64 0)]) s) (
 J1 [] s)
theorem F16_ok (f_0 : Value) (s : AS) (k : Value → AS → Prop) : denFn Tryd.prog [] 16 [f_0] s k = F16 f_0 s k := by kernel_rfl
theorem f16 {f_0 : Value} {s : AS} {k : Value → AS → Prop} (h : F16 f_0 s k) : kCall Tryd.prog 16 [f_0] s k := denFn_ok [] (cast (F16_ok f_0 s k).symm h)
theorem k16_ok : okFn Tryd.prog 16 = true := by kernel_rfl

/- (*conch names.FS).Unlink -/
def F17 (f_0 dir_1 path_2 : Value) (s : AS) (k : Value → AS → Prop) : Prop :=
 kCall Tryd.prog 32 [f_0, dir_1, path_2] s fun v14 s =>
 kExt 0 v14 fun v15 =>
 kExt 1 v14 fun v16 =>
 kExt 2 v14 fun v17 =>
 kNew s [(.int .i64 0), (.pointer none), (.string (bs []))] fun p_7 s =>
 kSt s 3 p_7 v15 fun s =>
 kJoin (fun _ s =>
 kLdN s 3 p_7 fun v28 =>
 kCall Tryd.prog 34 [f_0, v28, v16] s fun v30 s =>
 k (.int .i64 0) s) fun J1 =>
 kBin .neq v17 (.int .i64 0) fun v20 =>
 kCond v20 (
 k v17 s) (
 kCall Tryd.prog 33 [f_0, v16] s fun v25 s =>
 kEq 0 true v25 (.pointer none) fun v26 =>
 kCond v26 (
 k (.int .i64 24) s) (
 J1 [] s))
theorem F17_ok (f_0 dir_1 path_2 : Value) (s : AS) (k : Value → AS → Prop) : denFn Tryd.prog [] 17 [f_0, dir_1, path_2] s k = F17 f_0 dir_1 path_2 s k := by kernel_rfl
theorem f17 {f_0 dir_1 path_2 : Value} {s : AS} {k : Value → AS → Prop} (h : F17 f_0 dir_1 path_2 s k) : kCall Tryd.prog 17 [f_0, dir_1, path_2] s k := denFn_ok [] (cast (F17_ok f_0 dir_1 path_2 s k).symm h)
theorem k17_ok : okFn Tryd.prog 17 = true := by kernel_rfl

/- conch inodes.New -/
def F18 (nodes_0 many_1 : Value) (s : AS) (k : Value → AS → Prop) : Prop :=
 kJoin (fun _ s =>
 kCall Tryd.prog 35 [many_1] s fun v16 s =>
 kExt 0 v16 fun v17 =>
 kExt 1 v16 fun v18 =>
 kJoin (fun _ s =>
 kMks s 1 8 [(.pointer none)] nodes_0 nodes_0 fun v23 s =>
 kBuild [(.slice none 0 0), (.pointer none)] [(0, 1, v23), (1, 1, v17)] fun v25 =>
 kNew s (cellsV v25) fun v26 s =>
 k (.tuple #[v26, (.int .i64 0)]) s) fun J2 =>
 kBin .neq v18 (.int .i64 0) fun v20 =>
 kCond v20 (
 k (.tuple #[(.pointer none), v18]) s) (
 J2 [] s)) fun J1 =>
 kBin .lss nodes_0 (.int .i64 1) fun v9 =>
 kGrd v9 false (fun k =>
 kBin .gtr nodes_0 (.int .i64 1024) fun v12 =>
 k [v12] s) [undef] s fun xs s =>
 un1 xs fun v12 =>
 kPick v9 (.bool true) v12 fun v13 =>
 kCond v13 (
 k (.tuple #[(.pointer none), (.int .i64 1)]) s) (
 J1 [] s)
theorem F18_ok (nodes_0 many_1 : Value) (s : AS) (k : Value → AS → Prop) : denFn Tryd.prog [] 18 [nodes_0, many_1] s k = F18 nodes_0 many_1 s k := by kernel_rfl
theorem f18 {nodes_0 many_1 : Value} {s : AS} {k : Value → AS → Prop} (h : F18 nodes_0 many_1 s k) : kCall Tryd.prog 18 [nodes_0, many_1] s k := denFn_ok [] (cast (F18_ok nodes_0 many_1 s k).symm h)
theorem k18_ok : okFn Tryd.prog 18 = true := by kernel_rfl

/- (*conch inodes.Table).Make -/
def F19 (t_0 kind_1 : Value) (s : AS) (k : Value → AS → Prop) : Prop :=
 kJoin (fun _ s =>
 kJoin (fun _ s =>
 k (.tuple #[(.int .i64 0), (.int .i64 21)]) s) fun J2 =>
 kNck t_0 fun v19 =>
 kFld 0 v19 fun v20 =>
 kLd s v20 fun v21 =>
 kLen false v21 fun v22 =>
 kLoop (fun again3 xs s =>
 un1 xs fun v23 =>
 kBin .lss v23 v22 fun v24 =>
 kJoin (fun _ s =>
 kJoin (fun _ s =>
 kBin .add v23 (.int .i64 1) fun v42 =>
 again3 [v42] s) fun J5 =>
 kIdx 1 v21 v23 fun v26 =>
 kLd s v26 fun v27 =>
 kEq 0 false v27 (.pointer none) fun v29 =>
 kCond v29 (
 kNck t_0 fun v31 =>
 kFld 0 v31 fun v32 =>
 kLd s v32 fun v33 =>
 kMkm s fun v36 s =>
 kBuild [(.int .i64 0), (.int .i64 0), (.int .i64 0), (.int .i64 0), (.map none)] [(2, 1, kind_1), (4, 1, v36)] fun v37 =>
 kNew s (cellsV v37) fun v38 s =>
 kIdx 1 v33 v23 fun v39 =>
 kSt s 1 v39 v38 fun s =>
 kBin .add v23 (.int .i64 1) fun v41 =>
 k (.tuple #[v41, (.int .i64 0)]) s) (
 J5 [] s)) fun J4 =>
 kCond v24 (
 J4 [] s) (
 J2 [] s)) [(.int .i64 0)] s) fun J1 =>
 kEq 0 false t_0 (.pointer none) fun v10 =>
 kCond v10 (
 k (.tuple #[(.int .i64 0), (.int .i64 2)]) s) (
 kBin .lss kind_1 (.int .i64 1) fun v13 =>
 kGrd v13 false (fun k =>
 kBin .gtr kind_1 (.int .i64 3) fun v16 =>
 k [v16] s) [undef] s fun xs s =>
 un1 xs fun v16 =>
 kPick v13 (.bool true) v16 fun v17 =>
 kCond v17 (
 k (.tuple #[(.int .i64 0), (.int .i64 1)]) s) (
 J1 [] s))
theorem F19_ok (t_0 kind_1 : Value) (s : AS) (k : Value → AS → Prop) : denFn Tryd.prog [] 19 [t_0, kind_1] s k = F19 t_0 kind_1 s k := by kernel_rfl
theorem f19 {t_0 kind_1 : Value} {s : AS} {k : Value → AS → Prop} (h : F19 t_0 kind_1 s k) : kCall Tryd.prog 19 [t_0, kind_1] s k := denFn_ok [] (cast (F19_ok t_0 kind_1 s k).symm h)
theorem k19_ok : okFn Tryd.prog 19 = true := by kernel_rfl

/- (*conch inodes.Table).Tie -/
def F20 (t_0 i_1 : Value) (s : AS) (k : Value → AS → Prop) : Prop :=
 kCall Tryd.prog 36 [t_0, i_1] s fun v10 s =>
 kExt 0 v10 fun v11 =>
 kExt 1 v10 fun v12 =>
 kJoin (fun _ s =>
 k v12 s) fun J1 =>
 kBin .eql v12 (.int .i64 0) fun v14 =>
 kCond v14 (
 kNck v11 fun v16 =>
 kFld 0 v16 fun v17 =>
 kFld 0 v17 fun v18 =>
 kLd s v18 fun v19 =>
 kBin .add v19 (.int .i64 1) fun v20 =>
 kNck v11 fun v21 =>
 kFld 0 v21 fun v22 =>
 kFld 0 v22 fun v23 =>
 kSt s 1 v23 v20 fun s =>
 J1 [] s) (
 J1 [] s)
theorem F20_ok (t_0 i_1 : Value) (s : AS) (k : Value → AS → Prop) : denFn Tryd.prog [] 20 [t_0, i_1] s k = F20 t_0 i_1 s k := by kernel_rfl
theorem f20 {t_0 i_1 : Value} {s : AS} {k : Value → AS → Prop} (h : F20 t_0 i_1 s k) : kCall Tryd.prog 20 [t_0, i_1] s k := denFn_ok [] (cast (F20_ok t_0 i_1 s k).symm h)
theorem k20_ok : okFn Tryd.prog 20 = true := by kernel_rfl

/- conch files.find -/
def F21 (f_0 dir_1 path_2 flags_3 : Value) (s : AS) (k : Value → AS → Prop) : Prop :=
 kCall Tryd.prog 37 [f_0, dir_1, path_2, (.bool true)] s fun v16 s =>
 kExt 0 v16 fun v17 =>
 kExt 1 v16 fun v18 =>
 kJoin (fun xs s =>
 un2 xs fun i_10 e_11 =>
 k (.tuple #[i_10, e_11]) s) fun J1 =>
 kBin .eql v18 (.int .i64 23) fun v21 =>
 kGrd v21 true (fun k =>
 kBin .and flags_3 (.int .i64 8) fun v24 =>
 kBin .neq v24 (.int .i64 0) fun v25 =>
 k [v25] s) [undef] s fun xs s =>
 un1 xs fun v25 =>
 kPick v21 v25 (.bool false) fun v26 =>
 kCond v26 (
 kCall Tryd.prog 38 [f_0, dir_1, path_2] s fun v31 s =>
 kExt 0 v31 fun v32 =>
 kExt 1 v31 fun v33 =>
 kJoin (fun _ s =>
 k (.tuple #[v32, v33]) s) fun J2 =>
 kBin .eql v33 (.int .i64 22) fun v35 =>
 kCond v35 (
 k (.tuple #[(.int .i64 0), (.int .i64 23)]) s) (
 J2 [] s)) (
 kBin .eql v18 (.int .i64 0) fun v40 =>
 kGrd v40 true (fun k =>
 kBin .and flags_3 (.int .i64 8) fun v43 =>
 kBin .neq v43 (.int .i64 0) fun v44 =>
 k [v44] s) [undef] s fun xs s =>
 un1 xs fun v44 =>
 kPick v40 v44 (.bool false) fun v45 =>
 kGrd v45 true (fun k =>
 kBin .and flags_3 (.int .i64 32) fun v48 =>
 kBin .neq v48 (.int .i64 0) fun v49 =>
 k [v49] s) [undef] s fun xs s =>
 un1 xs fun v49 =>
 kPick v45 v49 (.bool false) fun v50 =>
 kCond v50 (
 k (.tuple #[(.int .i64 0), (.int .i64 22)]) s) (
 J1 [v17, v18] s))
theorem F21_ok (f_0 dir_1 path_2 flags_3 : Value) (s : AS) (k : Value → AS → Prop) : denFn Tryd.prog [] 21 [f_0, dir_1, path_2, flags_3] s k = F21 f_0 dir_1 path_2 flags_3 s k := by kernel_rfl
theorem f21 {f_0 dir_1 path_2 flags_3 : Value} {s : AS} {k : Value → AS → Prop} (h : F21 f_0 dir_1 path_2 flags_3 s k) : kCall Tryd.prog 21 [f_0, dir_1, path_2, flags_3] s k := denFn_ok [] (cast (F21_ok f_0 dir_1 path_2 flags_3 s k).symm h)
theorem k21_ok : okFn Tryd.prog 21 = true := by kernel_rfl

/- (*conch inodes.Table).Kind -/
def F22 (t_0 i_1 : Value) (s : AS) (k : Value → AS → Prop) : Prop :=
 kJoin (fun _ s =>
 k (.int .i64 0) s) fun J1 =>
 kCall Tryd.prog 39 [t_0, i_1] s fun v8 s =>
 kEq 0 true v8 (.pointer none) fun v10 =>
 kCond v10 (
 kNck v8 fun v12 =>
 kFld 2 v12 fun v13 =>
 kLd s v13 fun v14 =>
 k v14 s) (
 J1 [] s)
theorem F22_ok (t_0 i_1 : Value) (s : AS) (k : Value → AS → Prop) : denFn Tryd.prog [] 22 [t_0, i_1] s k = F22 t_0 i_1 s k := by kernel_rfl
theorem f22 {t_0 i_1 : Value} {s : AS} {k : Value → AS → Prop} (h : F22 t_0 i_1 s k) : kCall Tryd.prog 22 [t_0, i_1] s k := denFn_ok [] (cast (F22_ok t_0 i_1 s k).symm h)
theorem k22_ok : okFn Tryd.prog 22 = true := by kernel_rfl

/- (*conch names.FS).Cut -/
def F23 (f_0 node_1 size_2 : Value) (s : AS) (k : Value → AS → Prop) : Prop :=
 kJoin (fun _ s =>
 kNck f_0 fun v15 =>
 kFld 0 v15 fun v16 =>
 kLd s v16 fun v17 =>
 kCall Tryd.prog 40 [v17, node_1, size_2] s fun v20 s =>
 k v20 s) fun J1 =>
 kCall Tryd.prog 28 [f_0, node_1] s fun v10 s =>
 kBin .neq v10 (.int .i64 0) fun v12 =>
 kCond v12 (
 k v10 s) (
 J1 [] s)
theorem F23_ok (f_0 node_1 size_2 : Value) (s : AS) (k : Value → AS → Prop) : denFn Tryd.prog [] 23 [f_0, node_1, size_2] s k = F23 f_0 node_1 size_2 s k := by kernel_rfl
theorem f23 {f_0 node_1 size_2 : Value} {s : AS} {k : Value → AS → Prop} (h : F23 f_0 node_1 size_2 s k) : kCall Tryd.prog 23 [f_0, node_1, size_2] s k := denFn_ok [] (cast (F23_ok f_0 node_1 size_2 s k).symm h)
theorem k23_ok : okFn Tryd.prog 23 = true := by kernel_rfl

/- (*conch names.FS).Hold -/
def F24 (f_0 node_1 : Value) (s : AS) (k : Value → AS → Prop) : Prop :=
 kJoin (fun _ s =>
 kNck f_0 fun v8 =>
 kFld 0 v8 fun v9 =>
 kLd s v9 fun v10 =>
 kCall Tryd.prog 41 [v10, node_1] s fun v12 s =>
 k v12 s) fun J1 =>
 kEq 0 false f_0 (.pointer none) fun v6 =>
 kCond v6 (
 k (.int .i64 2) s) (
 J1 [] s)
theorem F24_ok (f_0 node_1 : Value) (s : AS) (k : Value → AS → Prop) : denFn Tryd.prog [] 24 [f_0, node_1] s k = F24 f_0 node_1 s k := by kernel_rfl
theorem f24 {f_0 node_1 : Value} {s : AS} {k : Value → AS → Prop} (h : F24 f_0 node_1 s k) : kCall Tryd.prog 24 [f_0, node_1] s k := denFn_ok [] (cast (F24_ok f_0 node_1 s k).symm h)
theorem k24_ok : okFn Tryd.prog 24 = true := by kernel_rfl

/- (*conch files.File).may -/
def F25 (x_0 flag_1 : Value) (s : AS) (k : Value → AS → Prop) : Prop :=
 kJoin (fun _ s =>
 k (.int .i64 0) s) fun J1 =>
 kEq 0 false x_0 (.pointer none) fun v7 =>
 kCond v7 (
 k (.int .i64 2) s) (
 kNck x_0 fun v10 =>
 kFld 4 v10 fun v11 =>
 kLd s v11 fun v12 =>
 kCond v12 (
 k (.int .i64 28) s) (
 kNck x_0 fun v15 =>
 kFld 3 v15 fun v16 =>
 kLd s v16 fun v17 =>
 kBin .and v17 flag_1 fun v19 =>
 kBin .eql v19 (.int .i64 0) fun v20 =>
 kCond v20 (
 k (.int .i64 33) s) (
 J1 [] s)))
theorem F25_ok (x_0 flag_1 : Value) (s : AS) (k : Value → AS → Prop) : denFn Tryd.prog [] 25 [x_0, flag_1] s k = F25 x_0 flag_1 s k := by kernel_rfl
theorem f25 {x_0 flag_1 : Value} {s : AS} {k : Value → AS → Prop} (h : F25 x_0 flag_1 s k) : kCall Tryd.prog 25 [x_0, flag_1] s k := denFn_ok [] (cast (F25_ok x_0 flag_1 s k).symm h)
theorem k25_ok : okFn Tryd.prog 25 = true := by kernel_rfl

/- (*conch inodes.Table).Size -/
def F26 (t_0 i_1 : Value) (s : AS) (k : Value → AS → Prop) : Prop :=
 kJoin (fun _ s =>
 k (.int .i64 0) s) fun J1 =>
 kCall Tryd.prog 39 [t_0, i_1] s fun v8 s =>
 kEq 0 true v8 (.pointer none) fun v10 =>
 kCond v10 (
 kNck v8 fun v12 =>
 kFld 3 v12 fun v13 =>
 kLd s v13 fun v14 =>
 k v14 s) (
 J1 [] s)
theorem F26_ok (t_0 i_1 : Value) (s : AS) (k : Value → AS → Prop) : denFn Tryd.prog [] 26 [t_0, i_1] s k = F26 t_0 i_1 s k := by kernel_rfl
theorem f26 {t_0 i_1 : Value} {s : AS} {k : Value → AS → Prop} (h : F26 t_0 i_1 s k) : kCall Tryd.prog 26 [t_0, i_1] s k := denFn_ok [] (cast (F26_ok t_0 i_1 s k).symm h)
theorem k26_ok : okFn Tryd.prog 26 = true := by kernel_rfl

/- (*conch names.FS).Write -/
def F27 (f_0 node_1 at_2 data_3 : Value) (s : AS) (k : Value → AS → Prop) : Prop :=
 kJoin (fun _ s =>
 kNck f_0 fun v18 =>
 kFld 0 v18 fun v19 =>
 kLd s v19 fun v20 =>
 kCall Tryd.prog 42 [v20, node_1, at_2, data_3] s fun v24 s =>
 kExt 0 v24 fun v25 =>
 kExt 1 v24 fun v26 =>
 k (.tuple #[v25, v26]) s) fun J1 =>
 kCall Tryd.prog 28 [f_0, node_1] s fun v13 s =>
 kBin .neq v13 (.int .i64 0) fun v15 =>
 kCond v15 (
 k (.tuple #[(.int .i64 0), v13]) s) (
 J1 [] s)
theorem F27_ok (f_0 node_1 at_2 data_3 : Value) (s : AS) (k : Value → AS → Prop) : denFn Tryd.prog [] 27 [f_0, node_1, at_2, data_3] s k = F27 f_0 node_1 at_2 data_3 s k := by kernel_rfl
theorem f27 {f_0 node_1 at_2 data_3 : Value} {s : AS} {k : Value → AS → Prop} (h : F27 f_0 node_1 at_2 data_3 s k) : kCall Tryd.prog 27 [f_0, node_1, at_2, data_3] s k := denFn_ok [] (cast (F27_ok f_0 node_1 at_2 data_3 s k).symm h)
theorem k27_ok : okFn Tryd.prog 27 = true := by kernel_rfl

/- (*conch names.FS).file -/
def F28 (f_0 node_1 : Value) (s : AS) (k : Value → AS → Prop) : Prop :=
 kCall Tryd.prog 43 [f_0, node_1] s fun v10 s =>
 kExt 0 v10 fun v11 =>
 kExt 1 v10 fun v12 =>
 kJoin (fun _ s =>
 k (.int .i64 0) s) fun J1 =>
 kBin .neq v12 (.int .i64 0) fun v15 =>
 kCond v15 (
 k v12 s) (
 kBin .eql v11 (.int .i64 2) fun v19 =>
 kCond v19 (
 k (.int .i64 24) s) (
 kBin .eql v11 (.int .i64 3) fun v22 =>
 kCond v22 (
 k (.int .i64 1) s) (
 J1 [] s)))
theorem F28_ok (f_0 node_1 : Value) (s : AS) (k : Value → AS → Prop) : denFn Tryd.prog [] 28 [f_0, node_1] s k = F28 f_0 node_1 s k := by kernel_rfl
theorem f28 {f_0 node_1 : Value} {s : AS} {k : Value → AS → Prop} (h : F28 f_0 node_1 s k) : kCall Tryd.prog 28 [f_0, node_1] s k := denFn_ok [] (cast (F28_ok f_0 node_1 s k).symm h)
theorem k28_ok : okFn Tryd.prog 28 = true := by kernel_rfl

/- (*conch inodes.Table).Read -/
def F29 (t_0 i_1 at_2 n_3 : Value) (s : AS) (k : Value → AS → Prop) : Prop :=
 kCall Tryd.prog 36 [t_0, i_1] s fun v24 s =>
 kExt 0 v24 fun v25 =>
 kExt 1 v24 fun v26 =>
 kJoin (fun _ s =>
 kNck v25 fun v47 =>
 kFld 3 v47 fun v48 =>
 kLd s v48 fun v49 =>
 kBin .sub v49 at_2 fun v51 =>
 kMin n_3 v51 fun v52 =>
 kMks s 1 1 [(.int .u8 0)] v52 v52 fun v53 s =>
 kJoin (fun _ s =>
 kCvBS s v53 fun v103 =>
 k (.tuple #[v103, (.int .i64 0)]) s) fun J2 =>
 kLoop (fun again3 xs s =>
 un1 xs fun done_13 =>
 kJoin (fun _ s =>
 kBin .add at_2 done_13 fun v60 =>
 kBin .quo v60 (.int .i64 64) fun v61 =>
 kBin .add at_2 done_13 fun v64 =>
 kBin .rem v64 (.int .i64 64) fun v65 =>
 kLen false v53 fun v67 =>
 kBin .sub v67 done_13 fun v69 =>
 kBin .sub (.int .i64 64) v65 fun v71 =>
 kMin v69 v71 fun v72 =>
 kJoin (fun _ s =>
 kBin .add done_13 v72 fun v101 =>
 again3 [v101] s) fun J5 =>
 kNck v25 fun v75 =>
 kFld 4 v75 fun v76 =>
 kLd s v76 fun v77 =>
 kGen Tryd.prog (.lk 78 true) [v77, v61] s fun v79 s =>
 kExt 0 v79 fun v80 =>
 kExt 1 v79 fun v81 =>
 kCond v81 (
 kNck t_0 fun v85 =>
 kFld 1 v85 fun v86 =>
 kLd s v86 fun v87 =>
 kCall Tryd.prog 44 [v87, v80, v65, v72] s fun v91 s =>
 kExt 0 v91 fun v92 =>
 kExt 1 v91 fun v93 =>
 kSubL 1 v53 (some done_13) none fun v96 =>
 kCpy Tryd.prog 88 9 v96 v92 s fun v98 s =>
 J5 [] s) (
 J5 [] s)) fun J4 =>
 kLen false v53 fun v56 =>
 kBin .lss done_13 v56 fun v57 =>
 kCond v57 (
 J4 [] s) (
 J2 [] s)) [(.int .i64 0)] s) fun J1 =>
 kBin .neq v26 (.int .i64 0) fun v29 =>
 kCond v29 (
 k (.tuple #[(.string (bs [])), v26]) s) (
 kBin .lss at_2 (.int .i64 0) fun v33 =>
 kGrd v33 false (fun k =>
 kBin .lss n_3 (.int .i64 0) fun v36 =>
 k [v36] s) [undef] s fun xs s =>
 un1 xs fun v36 =>
 kPick v33 (.bool true) v36 fun v37 =>
 kCond v37 (
 k (.tuple #[(.string (bs [])), (.int .i64 1)]) s) (
 kNck v25 fun v41 =>
 kFld 3 v41 fun v42 =>
 kLd s v42 fun v43 =>
 kBin .geq at_2 v43 fun v44 =>
 kCond v44 (
 k (.tuple #[(.string (bs [])), (.int .i64 0)]) s) (
 J1 [] s)))
theorem F29_ok (t_0 i_1 at_2 n_3 : Value) (s : AS) (k : Value → AS → Prop) : denFn Tryd.prog [] 29 [t_0, i_1, at_2, n_3] s k = F29 t_0 i_1 at_2 n_3 s k := by kernel_rfl
theorem f29 {t_0 i_1 at_2 n_3 : Value} {s : AS} {k : Value → AS → Prop} (h : F29 t_0 i_1 at_2 n_3 s k) : kCall Tryd.prog 29 [t_0, i_1, at_2, n_3] s k := denFn_ok [] (cast (F29_ok t_0 i_1 at_2 n_3 s k).symm h)
theorem k29_ok : okFn Tryd.prog 29 = true := by kernel_rfl

/- (*conch names.FS).Loose -/
def F30 (f_0 node_1 : Value) (s : AS) (k : Value → AS → Prop) : Prop :=
 kJoin (fun _ s =>
 kNck f_0 fun v8 =>
 kFld 0 v8 fun v9 =>
 kLd s v9 fun v10 =>
 kCall Tryd.prog 45 [v10, node_1] s fun v12 s =>
 k v12 s) fun J1 =>
 kEq 0 false f_0 (.pointer none) fun v6 =>
 kCond v6 (
 k (.int .i64 2) s) (
 J1 [] s)
theorem F30_ok (f_0 node_1 : Value) (s : AS) (k : Value → AS → Prop) : denFn Tryd.prog [] 30 [f_0, node_1] s k = F30 f_0 node_1 s k := by kernel_rfl
theorem f30 {f_0 node_1 : Value} {s : AS} {k : Value → AS → Prop} (h : F30 f_0 node_1 s k) : kCall Tryd.prog 30 [f_0, node_1] s k := denFn_ok [] (cast (F30_ok f_0 node_1 s k).symm h)
theorem k30_ok : okFn Tryd.prog 30 = true := by kernel_rfl

/- (*conch inodes.Table).Free -/
def F31 (t_0 : Value) (s : AS) (k : Value → AS → Prop) : Prop :=
 kJoin (fun _ s =>
 kJoin (fun xs s =>
 un1 xs fun n_4 =>
 kNck t_0 fun v25 =>
 kFld 1 v25 fun v26 =>
 kLd s v26 fun v27 =>
 kCall Tryd.prog 46 [v27] s fun v28 s =>
 k (.tuple #[n_4, v28]) s) fun J2 =>
 kNck t_0 fun v10 =>
 kFld 0 v10 fun v11 =>
 kLd s v11 fun v12 =>
 kLen false v12 fun v13 =>
 kLoop (fun again3 xs s =>
 un2 xs fun n_4 v14 =>
 kBin .lss v14 v13 fun v15 =>
 kJoin (fun _ s =>
 kJoin (fun xs s =>
 un1 xs fun n_4 =>
 kBin .add v14 (.int .i64 1) fun v22 =>
 again3 [n_4, v22] s) fun J5 =>
 kIdx 1 v12 v14 fun v16 =>
 kLd s v16 fun v17 =>
 kEq 0 false v17 (.pointer none) fun v19 =>
 kCond v19 (
 kBin .add n_4 (.int .i64 1) fun v21 =>
 J5 [v21] s) (
 J5 [n_4] s)) fun J4 =>
 kCond v15 (
 J4 [] s) (
 J2 [n_4] s)) [(.int .i64 0), (.int .i64 0)] s) fun J1 =>
 kEq 0 false t_0 (.pointer none) fun v8 =>
 kCond v8 (
 k (.tuple #[(.int .i64 0), (.int .i64 0)]) s) (
 J1 [] s)
theorem F31_ok (t_0 : Value) (s : AS) (k : Value → AS → Prop) : denFn Tryd.prog [] 31 [t_0] s k = F31 t_0 s k := by kernel_rfl
theorem f31 {t_0 : Value} {s : AS} {k : Value → AS → Prop} (h : F31 t_0 s k) : kCall Tryd.prog 31 [t_0] s k := denFn_ok [] (cast (F31_ok t_0 s k).symm h)
theorem k31_ok : okFn Tryd.prog 31 = true := by kernel_rfl

/- (*conch names.FS).there -/
def F32 (f_0 dir_1 path_2 : Value) (s : AS) (k : Value → AS → Prop) : Prop :=
 kNew s [(.int .i64 0), (.pointer none), (.string (bs []))] fun v6 s =>
 kCall Tryd.prog 47 [f_0, dir_1, path_2] s fun v17 s =>
 kExt 0 v17 fun v18 =>
 kExt 1 v17 fun v19 =>
 kNew s [(.int .i64 0), (.pointer none), (.string (bs []))] fun p_9 s =>
 kSt s 3 p_9 v18 fun s =>
 kJoin (fun _ s =>
 kFld 1 p_9 fun v25 =>
 kFld 2 p_9 fun v30 =>
 kLd s v25 fun v26 =>
 kNck v26 fun v27 =>
 kFld 0 v27 fun v28 =>
 kLd s v28 fun v29 =>
 kLd s v30 fun v31 =>
 kGen Tryd.prog (.lk 56 true) [v29, v31] s fun v32 s =>
 kExt 0 v32 fun v33 =>
 kExt 1 v32 fun v34 =>
 kJoin (fun _ s =>
 kLdN s 3 p_9 fun v38 =>
 kSt s 3 v6 v38 fun s =>
 kLdN s 3 v6 fun r0 =>
 k (.tuple #[r0, v33, (.int .i64 0)]) s) fun J2 =>
 kUn .not v34 fun v36 =>
 kCond v36 (
 kLdN s 3 p_9 fun v37 =>
 kSt s 3 v6 v37 fun s =>
 kLdN s 3 v6 fun r0 =>
 k (.tuple #[r0, (.int .i64 0), (.int .i64 23)]) s) (
 J2 [] s)) fun J1 =>
 kBin .neq v19 (.int .i64 0) fun v21 =>
 kCond v21 (
 kLdN s 3 p_9 fun v22 =>
 kSt s 3 v6 v22 fun s =>
 kLdN s 3 v6 fun r0 =>
 k (.tuple #[r0, (.int .i64 0), v19]) s) (
 J1 [] s)
theorem F32_ok (f_0 dir_1 path_2 : Value) (s : AS) (k : Value → AS → Prop) : denFn Tryd.prog [(4, (.go 0 (.go 5 (.go 1 (.go 2 (.go 3 (.go 4 (.go 6 (.go 7 (.go 8 (.go 9 (.go 10 (.go 11 (.go 12 .done))))))))))))))] 32 [f_0, dir_1, path_2] s k = F32 f_0 dir_1 path_2 s k := by kernel_rfl
theorem f32 {f_0 dir_1 path_2 : Value} {s : AS} {k : Value → AS → Prop} (h : F32 f_0 dir_1 path_2 s k) : kCall Tryd.prog 32 [f_0, dir_1, path_2] s k := denFn_ok [(4, (.go 0 (.go 5 (.go 1 (.go 2 (.go 3 (.go 4 (.go 6 (.go 7 (.go 8 (.go 9 (.go 10 (.go 11 (.go 12 .done))))))))))))))] (cast (F32_ok f_0 dir_1 path_2 s k).symm h)
theorem k32_ok : okFn Tryd.prog 32 = true := by kernel_rfl

/- (*conch names.FS).dir -/
def F33 (f_0 node_1 : Value) (s : AS) (k : Value → AS → Prop) : Prop :=
 kJoin (fun _ s =>
 kNck f_0 fun v13 =>
 kFld 1 v13 fun v14 =>
 kLd s v14 fun v15 =>
 kGen Tryd.prog (.lk 50 false) [v15, node_1] s fun v17 s =>
 k v17 s) fun J1 =>
 kNck f_0 fun v6 =>
 kFld 0 v6 fun v7 =>
 kLd s v7 fun v8 =>
 kCall Tryd.prog 22 [v8, node_1] s fun v10 s =>
 kBin .neq v10 (.int .i64 2) fun v11 =>
 kCond v11 (
 k (.pointer none) s) (
 J1 [] s)
theorem F33_ok (f_0 node_1 : Value) (s : AS) (k : Value → AS → Prop) : denFn Tryd.prog [] 33 [f_0, node_1] s k = F33 f_0 node_1 s k := by kernel_rfl
theorem f33 {f_0 node_1 : Value} {s : AS} {k : Value → AS → Prop} (h : F33 f_0 node_1 s k) : kCall Tryd.prog 33 [f_0, node_1] s k := denFn_ok [] (cast (F33_ok f_0 node_1 s k).symm h)
theorem k33_ok : okFn Tryd.prog 33 = true := by kernel_rfl

/- (*conch names.FS).drop -/
def F34 (f_0 p_1 node_2 : Value) (s : AS) (k : Value → AS → Prop) : Prop :=
 kNew s (cellsV p_1) fun p_4 s =>
 kFld 1 p_4 fun v6 =>
 kFld 2 p_4 fun v11 =>
 kLd s v6 fun v7 =>
 kNck v7 fun v8 =>
 kFld 0 v8 fun v9 =>
 kLd s v9 fun v10 =>
 kLd s v11 fun v12 =>
 kGen Tryd.prog (.blt .delete [56, 9] 0) [v10, v12] s fun _ s =>
 kNck f_0 fun v14 =>
 kFld 0 v14 fun v15 =>
 kLd s v15 fun v16 =>
 kCall Tryd.prog 48 [v16, node_2] s fun v18 s =>
 k undef s
theorem F34_ok (f_0 p_1 node_2 : Value) (s : AS) (k : Value → AS → Prop) : denFn Tryd.prog [(1, (.go 0 (.go 5 (.go 1 (.go 2 (.go 3 (.go 4 (.go 6 (.go 7 .done)))))))))] 34 [f_0, p_1, node_2] s k = F34 f_0 p_1 node_2 s k := by kernel_rfl
theorem f34 {f_0 p_1 node_2 : Value} {s : AS} {k : Value → AS → Prop} (h : F34 f_0 p_1 node_2 s k) : kCall Tryd.prog 34 [f_0, p_1, node_2] s k := denFn_ok [(1, (.go 0 (.go 5 (.go 1 (.go 2 (.go 3 (.go 4 (.go 6 (.go 7 .done)))))))))] (cast (F34_ok f_0 p_1 node_2 s k).symm h)
theorem k34_ok : okFn Tryd.prog 34 = true := by kernel_rfl

/- conch blocks.New -/
def F35 (blocks_0 : Value) (s : AS) (k : Value → AS → Prop) : Prop :=
 kJoin (fun _ s =>
 kMks s 65 65 ((.bool false) :: List.replicate 64 (.int .u8 0)) blocks_0 blocks_0 fun v11 s =>
 kBuild [(.slice none 0 0), (.int .i64 0)] [(0, 1, v11), (1, 1, blocks_0)] fun v13 =>
 kNew s (cellsV v13) fun v14 s =>
 k (.tuple #[v14, (.int .i64 0)]) s) fun J1 =>
 kBin .lss blocks_0 (.int .i64 1) fun v5 =>
 kGrd v5 false (fun k =>
 kBin .gtr blocks_0 (.int .i64 4096) fun v8 =>
 k [v8] s) [undef] s fun xs s =>
 un1 xs fun v8 =>
 kPick v5 (.bool true) v8 fun v9 =>
 kCond v9 (
 k (.tuple #[(.pointer none), (.int .i64 1)]) s) (
 J1 [] s)
theorem F35_ok (blocks_0 : Value) (s : AS) (k : Value → AS → Prop) : denFn Tryd.prog [] 35 [blocks_0] s k = F35 blocks_0 s k := by kernel_rfl
theorem f35 {blocks_0 : Value} {s : AS} {k : Value → AS → Prop} (h : F35 blocks_0 s k) : kCall Tryd.prog 35 [blocks_0] s k := denFn_ok [] (cast (F35_ok blocks_0 s k).symm h)
theorem k35_ok : okFn Tryd.prog 35 = true := by kernel_rfl

/- (*conch inodes.Table).find -/
def F36 (t_0 i_1 : Value) (s : AS) (k : Value → AS → Prop) : Prop :=
 kJoin (fun _ s =>
 kCall Tryd.prog 39 [t_0, i_1] s fun v11 s =>
 kJoin (fun _ s =>
 k (.tuple #[v11, (.int .i64 0)]) s) fun J2 =>
 kEq 0 false v11 (.pointer none) fun v13 =>
 kCond v13 (
 k (.tuple #[(.pointer none), (.int .i64 23)]) s) (
 J2 [] s)) fun J1 =>
 kEq 0 false t_0 (.pointer none) fun v8 =>
 kCond v8 (
 k (.tuple #[(.pointer none), (.int .i64 2)]) s) (
 J1 [] s)
theorem F36_ok (t_0 i_1 : Value) (s : AS) (k : Value → AS → Prop) : denFn Tryd.prog [] 36 [t_0, i_1] s k = F36 t_0 i_1 s k := by kernel_rfl
theorem f36 {t_0 i_1 : Value} {s : AS} {k : Value → AS → Prop} (h : F36 t_0 i_1 s k) : kCall Tryd.prog 36 [t_0, i_1] s k := denFn_ok [] (cast (F36_ok t_0 i_1 s k).symm h)
theorem k36_ok : okFn Tryd.prog 36 = true := by kernel_rfl

/- (*conch names.FS).Walk -/
def F37 (f_0 dir_1 path_2 follow_3 : Value) (s : AS) (k : Value → AS → Prop) : Prop :=
 kJoin (fun _ s =>
 kBuild [(.pointer none), (.int .i64 0)] [(0, 1, f_0)] fun v19 =>
 kNew s (cellsV v19) fun v20 s =>
 kCall Tryd.prog 49 [v20, dir_1, path_2, follow_3] s fun v24 s =>
 kExt 0 v24 fun v25 =>
 kExt 1 v24 fun v26 =>
 k (.tuple #[v25, v26]) s) fun J1 =>
 kEq 0 false f_0 (.pointer none) fun v12 =>
 kCond v12 (
 k (.tuple #[(.int .i64 0), (.int .i64 2)]) s) (
 kCall Tryd.prog 33 [f_0, dir_1] s fun v16 s =>
 kEq 0 false v16 (.pointer none) fun v17 =>
 kCond v17 (
 k (.tuple #[(.int .i64 0), (.int .i64 25)]) s) (
 J1 [] s))
theorem F37_ok (f_0 dir_1 path_2 follow_3 : Value) (s : AS) (k : Value → AS → Prop) : denFn Tryd.prog [] 37 [f_0, dir_1, path_2, follow_3] s k = F37 f_0 dir_1 path_2 follow_3 s k := by kernel_rfl
theorem f37 {f_0 dir_1 path_2 follow_3 : Value} {s : AS} {k : Value → AS → Prop} (h : F37 f_0 dir_1 path_2 follow_3 s k) : kCall Tryd.prog 37 [f_0, dir_1, path_2, follow_3] s k := denFn_ok [] (cast (F37_ok f_0 dir_1 path_2 follow_3 s k).symm h)
theorem k37_ok : okFn Tryd.prog 37 = true := by kernel_rfl

/- (*conch names.FS).Make -/
def F38 (f_0 dir_1 path_2 : Value) (s : AS) (k : Value → AS → Prop) : Prop :=
 kCall Tryd.prog 50 [f_0, dir_1, path_2, (.int .i64 1), (.string (bs []))] s fun v11 s =>
 kExt 0 v11 fun v12 =>
 kExt 1 v11 fun v13 =>
 k (.tuple #[v12, v13]) s
theorem F38_ok (f_0 dir_1 path_2 : Value) (s : AS) (k : Value → AS → Prop) : denFn Tryd.prog [] 38 [f_0, dir_1, path_2] s k = F38 f_0 dir_1 path_2 s k := by kernel_rfl
theorem f38 {f_0 dir_1 path_2 : Value} {s : AS} {k : Value → AS → Prop} (h : F38 f_0 dir_1 path_2 s k) : kCall Tryd.prog 38 [f_0, dir_1, path_2] s k := denFn_ok [] (cast (F38_ok f_0 dir_1 path_2 s k).symm h)
theorem k38_ok : okFn Tryd.prog 38 = true := by kernel_rfl

/- (*conch inodes.Table).at -/
def F39 (t_0 i_1 : Value) (s : AS) (k : Value → AS → Prop) : Prop :=
 kJoin (fun _ s =>
 kNck t_0 fun v21 =>
 kFld 0 v21 fun v22 =>
 kLd s v22 fun v23 =>
 kBin .sub i_1 (.int .i64 1) fun v25 =>
 kIdx 1 v23 v25 fun v26 =>
 kLd s v26 fun v27 =>
 k v27 s) fun J1 =>
 kEq 0 false t_0 (.pointer none) fun v6 =>
 kGrd v6 false (fun k =>
 kBin .lss i_1 (.int .i64 1) fun v9 =>
 k [v9] s) [undef] s fun xs s =>
 un1 xs fun v9 =>
 kPick v6 (.bool true) v9 fun v10 =>
 kGrd v10 false (fun k =>
 kNck t_0 fun v14 =>
 kFld 0 v14 fun v15 =>
 kLd s v15 fun v16 =>
 kLen false v16 fun v17 =>
 kBin .gtr i_1 v17 fun v18 =>
 k [v18] s) [undef] s fun xs s =>
 un1 xs fun v18 =>
 kPick v10 (.bool true) v18 fun v19 =>
 kCond v19 (
 k (.pointer none) s) (
 J1 [] s)
theorem F39_ok (t_0 i_1 : Value) (s : AS) (k : Value → AS → Prop) : denFn Tryd.prog [] 39 [t_0, i_1] s k = F39 t_0 i_1 s k := by kernel_rfl
theorem f39 {t_0 i_1 : Value} {s : AS} {k : Value → AS → Prop} (h : F39 t_0 i_1 s k) : kCall Tryd.prog 39 [t_0, i_1] s k := denFn_ok [] (cast (F39_ok t_0 i_1 s k).symm h)
theorem k39_ok : okFn Tryd.prog 39 = true := by kernel_rfl

/- (*conch inodes.Table).Cut -/
def F40 (t_0 i_1 size_2 : Value) (s : AS) (k : Value → AS → Prop) : Prop :=
 kCall Tryd.prog 36 [t_0, i_1] s fun v15 s =>
 kExt 0 v15 fun v16 =>
 kExt 1 v15 fun v17 =>
 kJoin (fun _ s =>
 kBin .add size_2 (.int .i64 64) fun v31 =>
 kBin .sub v31 (.int .i64 1) fun v32 =>
 kBin .quo v32 (.int .i64 64) fun v33 =>
 kCall Tryd.prog 51 [t_0, v16, v33] s fun v34 s =>
 kJoin (fun _ s =>
 kNck v16 fun v63 =>
 kFld 3 v63 fun v64 =>
 kSt s 1 v64 size_2 fun s =>
 k (.int .i64 0) s) fun J2 =>
 kBin .rem size_2 (.int .i64 64) fun v36 =>
 kBin .gtr v36 (.int .i64 0) fun v38 =>
 kCond v38 (
 kNck v16 fun v41 =>
 kFld 4 v41 fun v42 =>
 kLd s v42 fun v43 =>
 kBin .quo size_2 (.int .i64 64) fun v45 =>
 kGen Tryd.prog (.lk 78 true) [v43, v45] s fun v46 s =>
 kExt 0 v46 fun v47 =>
 kExt 1 v46 fun v48 =>
 kCond v48 (
 kNck t_0 fun v51 =>
 kFld 1 v51 fun v52 =>
 kBin .sub (.int .i64 64) v36 fun v57 =>
 kLd s v52 fun v53 =>
 kMks s 1 1 [(.int .u8 0)] v57 v57 fun v58 s =>
 kChk s v52 v53 (
 kCvBS s v58 fun v59 =>
 kChk s v52 v53 (
 kCall Tryd.prog 52 [v53, v47, v36, v59] s fun v60 s =>
 J2 [] s))) (
 J2 [] s)) (
 J2 [] s)) fun J1 =>
 kBin .neq v17 (.int .i64 0) fun v20 =>
 kCond v20 (
 k v17 s) (
 kBin .lss size_2 (.int .i64 0) fun v24 =>
 kCond v24 (
 k (.int .i64 1) s) (
 kBin .gtr size_2 (.int .i64 4096) fun v27 =>
 kCond v27 (
 k (.int .i64 3) s) (
 J1 [] s)))
theorem F40_ok (t_0 i_1 size_2 : Value) (s : AS) (k : Value → AS → Prop) : denFn Tryd.prog [(13, (.go 0 (.go 1 (.go 2 (.go 4 (.go 5 (.go 6 (.go 7 (.go 3 (.go 8 (.go 9 (.go 10 .done))))))))))))] 40 [t_0, i_1, size_2] s k = F40 t_0 i_1 size_2 s k := by kernel_rfl
theorem f40 {t_0 i_1 size_2 : Value} {s : AS} {k : Value → AS → Prop} (h : F40 t_0 i_1 size_2 s k) : kCall Tryd.prog 40 [t_0, i_1, size_2] s k := denFn_ok [(13, (.go 0 (.go 1 (.go 2 (.go 4 (.go 5 (.go 6 (.go 7 (.go 3 (.go 8 (.go 9 (.go 10 .done))))))))))))] (cast (F40_ok t_0 i_1 size_2 s k).symm h)
theorem k40_ok : okFn Tryd.prog 40 = true := by kernel_rfl

/- (*conch inodes.Table).Hold -/
def F41 (t_0 i_1 : Value) (s : AS) (k : Value → AS → Prop) : Prop :=
 kCall Tryd.prog 36 [t_0, i_1] s fun v10 s =>
 kExt 0 v10 fun v11 =>
 kExt 1 v10 fun v12 =>
 kJoin (fun _ s =>
 k v12 s) fun J1 =>
 kBin .eql v12 (.int .i64 0) fun v14 =>
 kCond v14 (
 kNck v11 fun v16 =>
 kFld 0 v16 fun v17 =>
 kFld 1 v17 fun v18 =>
 kLd s v18 fun v19 =>
 kBin .add v19 (.int .i64 1) fun v20 =>
 kNck v11 fun v21 =>
 kFld 0 v21 fun v22 =>
 kFld 1 v22 fun v23 =>
 kSt s 1 v23 v20 fun s =>
 J1 [] s) (
 J1 [] s)
theorem F41_ok (t_0 i_1 : Value) (s : AS) (k : Value → AS → Prop) : denFn Tryd.prog [] 41 [t_0, i_1] s k = F41 t_0 i_1 s k := by kernel_rfl
theorem f41 {t_0 i_1 : Value} {s : AS} {k : Value → AS → Prop} (h : F41 t_0 i_1 s k) : kCall Tryd.prog 41 [t_0, i_1] s k := denFn_ok [] (cast (F41_ok t_0 i_1 s k).symm h)
theorem k41_ok : okFn Tryd.prog 41 = true := by kernel_rfl

/- (*conch inodes.Table).Write -/
def F42 (t_0 i_1 at_2 data_3 : Value) (s : AS) (k : Value → AS → Prop) : Prop :=
 kCall Tryd.prog 36 [t_0, i_1] s fun v22 s =>
 kExt 0 v22 fun v23 =>
 kExt 1 v22 fun v24 =>
 kJoin (fun _ s =>
 kLen true data_3 fun v41 =>
 kBin .sub (.int .i64 4096) at_2 fun v43 =>
 kMax v43 (.int .i64 0) fun v44 =>
 kMin v41 v44 fun v45 =>
 kSubS data_3 none (some v45) fun v46 =>
 kJoin (fun xs s =>
 un1 xs fun done_13 =>
 kJoin (fun _ s =>
 k (.tuple #[done_13, (.int .i64 0)]) s) fun J3 =>
 kBin .gtr done_13 (.int .i64 0) fun v95 =>
 kCond v95 (
 kNck v23 fun v98 =>
 kFld 3 v98 fun v99 =>
 kLd s v99 fun v100 =>
 kBin .add at_2 done_13 fun v103 =>
 kMax v100 v103 fun v104 =>
 kNck v23 fun v105 =>
 kFld 3 v105 fun v106 =>
 kSt s 1 v106 v104 fun s =>
 J3 [] s) (
 J3 [] s)) fun J2 =>
 kLoop (fun again4 xs s =>
 un1 xs fun done_13 =>
 kJoin (fun _ s =>
 kBin .add at_2 done_13 fun v53 =>
 kBin .quo v53 (.int .i64 64) fun v54 =>
 kBin .add at_2 done_13 fun v57 =>
 kBin .rem v57 (.int .i64 64) fun v58 =>
 kCall Tryd.prog 53 [t_0, v23, v54] s fun v63 s =>
 kExt 0 v63 fun v64 =>
 kExt 1 v63 fun v65 =>
 kJoin (fun _ s =>
 kLen true v46 fun v72 =>
 kBin .sub v72 done_13 fun v74 =>
 kBin .sub (.int .i64 64) v58 fun v76 =>
 kMin v74 v76 fun v77 =>
 kNck t_0 fun v79 =>
 kFld 1 v79 fun v80 =>
 kBin .add done_13 v77 fun v88 =>
 kSubS v46 (some done_13) (some v88) fun v89 =>
 kLd s v80 fun v81 =>
 kCall Tryd.prog 52 [v81, v64, v58, v89] s fun v90 s =>
 kBin .add done_13 v77 fun v93 =>
 again4 [v93] s) fun J6 =>
 kBin .neq v65 (.int .i64 0) fun v67 =>
 kCond v67 (
 kBin .eql done_13 (.int .i64 0) fun v69 =>
 kCond v69 (
 k (.tuple #[(.int .i64 0), v65]) s) (
 J2 [done_13] s)) (
 J6 [] s)) fun J5 =>
 kLen true v46 fun v49 =>
 kBin .lss done_13 v49 fun v50 =>
 kCond v50 (
 J5 [] s) (
 J2 [done_13] s)) [(.int .i64 0)] s) fun J1 =>
 kBin .neq v24 (.int .i64 0) fun v27 =>
 kCond v27 (
 k (.tuple #[(.int .i64 0), v24]) s) (
 kBin .lss at_2 (.int .i64 0) fun v31 =>
 kCond v31 (
 k (.tuple #[(.int .i64 0), (.int .i64 1)]) s) (
 kBin .neq data_3 (.string (bs [])) fun v34 =>
 kGrd v34 true (fun k =>
 kBin .geq at_2 (.int .i64 4096) fun v37 =>
 k [v37] s) [undef] s fun xs s =>
 un1 xs fun v37 =>
 kPick v34 v37 (.bool false) fun v38 =>
 kCond v38 (
 k (.tuple #[(.int .i64 0), (.int .i64 3)]) s) (
 J1 [] s)))
theorem F42_ok (t_0 i_1 at_2 data_3 : Value) (s : AS) (k : Value → AS → Prop) : denFn Tryd.prog [(17, (.go 0 (.go 1 (.go 2 (.go 4 (.go 5 (.go 6 (.go 7 (.go 8 (.go 9 (.go 10 (.go 11 (.go 3 (.go 12 .done))))))))))))))] 42 [t_0, i_1, at_2, data_3] s k = F42 t_0 i_1 at_2 data_3 s k := by kernel_rfl
theorem f42 {t_0 i_1 at_2 data_3 : Value} {s : AS} {k : Value → AS → Prop} (h : F42 t_0 i_1 at_2 data_3 s k) : kCall Tryd.prog 42 [t_0, i_1, at_2, data_3] s k := denFn_ok [(17, (.go 0 (.go 1 (.go 2 (.go 4 (.go 5 (.go 6 (.go 7 (.go 8 (.go 9 (.go 10 (.go 11 (.go 3 (.go 12 .done))))))))))))))] (cast (F42_ok t_0 i_1 at_2 data_3 s k).symm h)
theorem k42_ok : okFn Tryd.prog 42 = true := by kernel_rfl

/- (*conch names.FS).kind -/
def F43 (f_0 node_1 : Value) (s : AS) (k : Value → AS → Prop) : Prop :=
 kJoin (fun _ s =>
 kNck f_0 fun v10 =>
 kFld 0 v10 fun v11 =>
 kLd s v11 fun v12 =>
 kCall Tryd.prog 22 [v12, node_1] s fun v14 s =>
 kJoin (fun _ s =>
 k (.tuple #[v14, (.int .i64 0)]) s) fun J2 =>
 kBin .eql v14 (.int .i64 0) fun v16 =>
 kCond v16 (
 k (.tuple #[(.int .i64 0), (.int .i64 23)]) s) (
 J2 [] s)) fun J1 =>
 kEq 0 false f_0 (.pointer none) fun v8 =>
 kCond v8 (
 k (.tuple #[(.int .i64 0), (.int .i64 2)]) s) (
 J1 [] s)
theorem F43_ok (f_0 node_1 : Value) (s : AS) (k : Value → AS → Prop) : denFn Tryd.prog [] 43 [f_0, node_1] s k = F43 f_0 node_1 s k := by kernel_rfl
theorem f43 {f_0 node_1 : Value} {s : AS} {k : Value → AS → Prop} (h : F43 f_0 node_1 s k) : kCall Tryd.prog 43 [f_0, node_1] s k := denFn_ok [] (cast (F43_ok f_0 node_1 s k).symm h)
theorem k43_ok : okFn Tryd.prog 43 = true := by kernel_rfl

/- (*conch blocks.Store).Read -/
def F44 (s_0 b_1 at_2 n_3 : Value) (s : AS) (k : Value → AS → Prop) : Prop :=
 kJoin (fun _ s =>
 kCall Tryd.prog 54 [s_0, b_1] s fun v15 s =>
 kJoin (fun _ s =>
 kNck v15 fun v37 =>
 kFld 1 v37 fun v38 =>
 kBin .add at_2 n_3 fun v42 =>
 kSubA 64 1 v38 (some at_2) (some v42) fun v43 =>
 kCvBS s v43 fun v44 =>
 k (.tuple #[v44, (.int .i64 0)]) s) fun J2 =>
 kEq 0 false v15 (.pointer none) fun v18 =>
 kCond v18 (
 k (.tuple #[(.string (bs [])), (.int .i64 23)]) s) (
 kBin .lss at_2 (.int .i64 0) fun v21 =>
 kGrd v21 false (fun k =>
 kBin .gtr at_2 (.int .i64 64) fun v24 =>
 k [v24] s) [undef] s fun xs s =>
 un1 xs fun v24 =>
 kPick v21 (.bool true) v24 fun v25 =>
 kGrd v25 false (fun k =>
 kBin .lss n_3 (.int .i64 0) fun v28 =>
 k [v28] s) [undef] s fun xs s =>
 un1 xs fun v28 =>
 kPick v25 (.bool true) v28 fun v29 =>
 kGrd v29 false (fun k =>
 kBin .sub (.int .i64 64) at_2 fun v33 =>
 kBin .gtr n_3 v33 fun v34 =>
 k [v34] s) [undef] s fun xs s =>
 un1 xs fun v34 =>
 kPick v29 (.bool true) v34 fun v35 =>
 kCond v35 (
 k (.tuple #[(.string (bs [])), (.int .i64 1)]) s) (
 J2 [] s))) fun J1 =>
 kEq 0 false s_0 (.pointer none) fun v12 =>
 kCond v12 (
 k (.tuple #[(.string (bs [])), (.int .i64 2)]) s) (
 J1 [] s)
theorem F44_ok (s_0 b_1 at_2 n_3 : Value) (s : AS) (k : Value → AS → Prop) : denFn Tryd.prog [] 44 [s_0, b_1, at_2, n_3] s k = F44 s_0 b_1 at_2 n_3 s k := by kernel_rfl
theorem f44 {s_0 b_1 at_2 n_3 : Value} {s : AS} {k : Value → AS → Prop} (h : F44 s_0 b_1 at_2 n_3 s k) : kCall Tryd.prog 44 [s_0, b_1, at_2, n_3] s k := denFn_ok [] (cast (F44_ok s_0 b_1 at_2 n_3 s k).symm h)
theorem k44_ok : okFn Tryd.prog 44 = true := by kernel_rfl

/- (*conch inodes.Table).Loose -/
def F45 (t_0 i_1 : Value) (s : AS) (k : Value → AS → Prop) : Prop :=
 kCall Tryd.prog 36 [t_0, i_1] s fun v10 s =>
 kExt 0 v10 fun v11 =>
 kExt 1 v10 fun v12 =>
 kJoin (fun _ s =>
 kNck v11 fun v20 =>
 kFld 0 v20 fun v21 =>
 kFld 1 v21 fun v22 =>
 kCall Tryd.prog 55 [t_0, i_1, v11, v22] s fun v23 s =>
 k v23 s) fun J1 =>
 kBin .neq v12 (.int .i64 0) fun v14 =>
 kCond v14 (
 k v12 s) (
 J1 [] s)
theorem F45_ok (t_0 i_1 : Value) (s : AS) (k : Value → AS → Prop) : denFn Tryd.prog [] 45 [t_0, i_1] s k = F45 t_0 i_1 s k := by kernel_rfl
theorem f45 {t_0 i_1 : Value} {s : AS} {k : Value → AS → Prop} (h : F45 t_0 i_1 s k) : kCall Tryd.prog 45 [t_0, i_1] s k := denFn_ok [] (cast (F45_ok t_0 i_1 s k).symm h)
theorem k45_ok : okFn Tryd.prog 45 = true := by kernel_rfl

/- (*conch blocks.Store).Free -/
def F46 (s_0 : Value) (s : AS) (k : Value → AS → Prop) : Prop :=
 kJoin (fun _ s =>
 kNck s_0 fun v6 =>
 kFld 1 v6 fun v7 =>
 kLd s v7 fun v8 =>
 k v8 s) fun J1 =>
 kEq 0 false s_0 (.pointer none) fun v4 =>
 kCond v4 (
 k (.int .i64 0) s) (
 J1 [] s)
theorem F46_ok (s_0 : Value) (s : AS) (k : Value → AS → Prop) : denFn Tryd.prog [] 46 [s_0] s k = F46 s_0 s k := by kernel_rfl
theorem f46 {s_0 : Value} {s : AS} {k : Value → AS → Prop} (h : F46 s_0 s k) : kCall Tryd.prog 46 [s_0] s k := denFn_ok [] (cast (F46_ok s_0 s k).symm h)
theorem k46_ok : okFn Tryd.prog 46 = true := by kernel_rfl

/- (*conch names.FS).place -/
def F47 (f_0 dir_1 path_2 : Value) (s : AS) (k : Value → AS → Prop) : Prop :=
 kNew s [(.int .i64 0), (.pointer none), (.string (bs []))] fun v6 s =>
 kJoin (fun _ s =>
 kCall Tryd.prog 56 [path_2, (.string (bs [47]))] s fun v28 s =>
 kCall Tryd.prog 57 [v28, (.int .u8 47)] s fun v30 s =>
 kBin .add v30 (.int .i64 1) fun v31 =>
 kSubS v28 (some v31) none fun v34 =>
 kJoin (fun _ s =>
 kJoin (fun xs s =>
 un1 xs fun dir_1 =>
 kCall Tryd.prog 33 [f_0, dir_1] s fun v74 s =>
 kJoin (fun _ s =>
 kBuild [(.int .i64 0), (.pointer none), (.string (bs []))] [(0, 1, dir_1), (1, 1, v74), (2, 1, v34)] fun v81 =>
 kSt s 3 v6 v81 fun s =>
 kLdN s 3 v6 fun r0 =>
 k (.tuple #[r0, (.int .i64 0)]) s) fun J4 =>
 kEq 0 false v74 (.pointer none) fun v76 =>
 kCond v76 (
 kBuild [(.int .i64 0), (.pointer none), (.string (bs []))] [] fun v77 =>
 kSt s 3 v6 v77 fun s =>
 kLdN s 3 v6 fun r0 =>
 k (.tuple #[r0, (.int .i64 25)]) s) (
 J4 [] s)) fun J3 =>
 kBin .gtr v31 (.int .i64 0) fun v58 =>
 kCond v58 (
 kSubS v28 none (some v31) fun v64 =>
 kCall Tryd.prog 37 [f_0, dir_1, v64, (.bool true)] s fun v65 s =>
 kExt 0 v65 fun v66 =>
 kExt 1 v65 fun v67 =>
 kBin .neq v67 (.int .i64 0) fun v69 =>
 kCond v69 (
 kBuild [(.int .i64 0), (.pointer none), (.string (bs []))] [] fun v70 =>
 kSt s 3 v6 v70 fun s =>
 kLdN s 3 v6 fun r0 =>
 k (.tuple #[r0, v67]) s) (
 J3 [v66] s)) (
 J3 [dir_1] s)) fun J2 =>
 kBin .eql v34 (.string (bs [])) fun v37 =>
 kGrd v37 false (fun k =>
 kBin .eql v34 (.string (bs [46])) fun v40 =>
 k [v40] s) [undef] s fun xs s =>
 un1 xs fun v40 =>
 kPick v37 (.bool true) v40 fun v41 =>
 kGrd v41 false (fun k =>
 kBin .eql v34 (.string (bs [46, 46])) fun v44 =>
 k [v44] s) [undef] s fun xs s =>
 un1 xs fun v44 =>
 kPick v41 (.bool true) v44 fun v45 =>
 kCond v45 (
 kBuild [(.int .i64 0), (.pointer none), (.string (bs []))] [] fun v46 =>
 kSt s 3 v6 v46 fun s =>
 kLdN s 3 v6 fun r0 =>
 k (.tuple #[r0, (.int .i64 1)]) s) (
 kLen true path_2 fun v49 =>
 kBin .gtr v49 (.int .i64 256) fun v50 =>
 kGrd v50 false (fun k =>
 kLen true v34 fun v53 =>
 kBin .gtr v53 (.int .i64 32) fun v54 =>
 k [v54] s) [undef] s fun xs s =>
 un1 xs fun v54 =>
 kPick v50 (.bool true) v54 fun v55 =>
 kCond v55 (
 kBuild [(.int .i64 0), (.pointer none), (.string (bs []))] [] fun v56 =>
 kSt s 3 v6 v56 fun s =>
 kLdN s 3 v6 fun r0 =>
 k (.tuple #[r0, (.int .i64 3)]) s) (
 J2 [] s))) fun J1 =>
 kEq 0 false f_0 (.pointer none) fun v15 =>
 kCond v15 (
 kBuild [(.int .i64 0), (.pointer none), (.string (bs []))] [] fun v16 =>
 kSt s 3 v6 v16 fun s =>
 kLdN s 3 v6 fun r0 =>
 k (.tuple #[r0, (.int .i64 2)]) s) (
 kCall Tryd.prog 33 [f_0, dir_1] s fun v20 s =>
 kEq 0 false v20 (.pointer none) fun v21 =>
 kCond v21 (
 kBuild [(.int .i64 0), (.pointer none), (.string (bs []))] [] fun v22 =>
 kSt s 3 v6 v22 fun s =>
 kLdN s 3 v6 fun r0 =>
 k (.tuple #[r0, (.int .i64 25)]) s) (
 kBin .eql path_2 (.string (bs [])) fun v25 =>
 kCond v25 (
 kBuild [(.int .i64 0), (.pointer none), (.string (bs []))] [] fun v26 =>
 kSt s 3 v6 v26 fun s =>
 kLdN s 3 v6 fun r0 =>
 k (.tuple #[r0, (.int .i64 23)]) s) (
 J1 [] s)))
theorem F47_ok (f_0 dir_1 path_2 : Value) (s : AS) (k : Value → AS → Prop) : denFn Tryd.prog [] 47 [f_0, dir_1, path_2] s k = F47 f_0 dir_1 path_2 s k := by kernel_rfl
theorem f47 {f_0 dir_1 path_2 : Value} {s : AS} {k : Value → AS → Prop} (h : F47 f_0 dir_1 path_2 s k) : kCall Tryd.prog 47 [f_0, dir_1, path_2] s k := denFn_ok [] (cast (F47_ok f_0 dir_1 path_2 s k).symm h)
theorem k47_ok : okFn Tryd.prog 47 = true := by kernel_rfl

/- (*conch inodes.Table).Untie -/
def F48 (t_0 i_1 : Value) (s : AS) (k : Value → AS → Prop) : Prop :=
 kCall Tryd.prog 36 [t_0, i_1] s fun v10 s =>
 kExt 0 v10 fun v11 =>
 kExt 1 v10 fun v12 =>
 kJoin (fun _ s =>
 kNck v11 fun v20 =>
 kFld 0 v20 fun v21 =>
 kFld 0 v21 fun v22 =>
 kCall Tryd.prog 55 [t_0, i_1, v11, v22] s fun v23 s =>
 k v23 s) fun J1 =>
 kBin .neq v12 (.int .i64 0) fun v14 =>
 kCond v14 (
 k v12 s) (
 J1 [] s)
theorem F48_ok (t_0 i_1 : Value) (s : AS) (k : Value → AS → Prop) : denFn Tryd.prog [] 48 [t_0, i_1] s k = F48 t_0 i_1 s k := by kernel_rfl
theorem f48 {t_0 i_1 : Value} {s : AS} {k : Value → AS → Prop} (h : F48 t_0 i_1 s k) : kCall Tryd.prog 48 [t_0, i_1] s k := denFn_ok [] (cast (F48_ok t_0 i_1 s k).symm h)
theorem k48_ok : okFn Tryd.prog 48 = true := by kernel_rfl

/- (*conch names.walk).goes -/
def F49 (w_0 at_1 path_2 follow_3 : Value) (s : AS) (k : Value → AS → Prop) : Prop :=
 kJoin (fun _ s =>
 kJoin (fun xs s =>
 un2 xs fun at_1 path_2 =>
 kCall Tryd.prog 59 [path_2, (.string (bs [47]))] s fun v31 s =>
 kJoin (fun xs s =>
 un1 xs fun at_1 =>
 k (.tuple #[at_1, (.int .i64 0)]) s) fun J3 =>
 kLen false v31 fun v33 =>
 kLoop (fun again4 xs s =>
 un2 xs fun at_1 v34 =>
 kBin .lss v34 v33 fun v35 =>
 kJoin (fun _ s =>
 kJoin (fun xs s =>
 un1 xs fun at_1 =>
 kBin .add v34 (.int .i64 1) fun v57 =>
 again4 [at_1, v57] s) fun J6 =>
 kIdx 1 v31 v34 fun v37 =>
 kLd s v37 fun v38 =>
 kGrd follow_3 false (fun k =>
 kLen false v31 fun v47 =>
 kBin .sub v47 (.int .i64 1) fun v48 =>
 kBin .lss v34 v48 fun v49 =>
 k [v49] s) [undef] s fun xs s =>
 un1 xs fun v49 =>
 kPick follow_3 (.bool true) v49 fun v50 =>
 kCall Tryd.prog 60 [w_0, at_1, v38, v50] s fun v51 s =>
 kExt 0 v51 fun v52 =>
 kExt 1 v51 fun v53 =>
 kBin .neq v53 (.int .i64 0) fun v55 =>
 kCond v55 (
 k (.tuple #[(.int .i64 0), v53]) s) (
 J6 [v52] s)) fun J5 =>
 kCond v35 (
 J5 [] s) (
 J3 [at_1] s)) [at_1, (.int .i64 0)] s) fun J2 =>
 kCall Tryd.prog 58 [path_2, (.string (bs [47]))] s fun v25 s =>
 kExt 0 v25 fun v26 =>
 kExt 1 v25 fun v27 =>
 kCond v27 (
 J2 [(.int .i64 1), v26] s) (
 J2 [at_1, path_2] s)) fun J1 =>
 kBin .eql path_2 (.string (bs [])) fun v18 =>
 kCond v18 (
 k (.tuple #[(.int .i64 0), (.int .i64 23)]) s) (
 kLen true path_2 fun v21 =>
 kBin .gtr v21 (.int .i64 256) fun v22 =>
 kCond v22 (
 k (.tuple #[(.int .i64 0), (.int .i64 3)]) s) (
 J1 [] s))
theorem F49_ok (w_0 at_1 path_2 follow_3 : Value) (s : AS) (k : Value → AS → Prop) : denFn Tryd.prog [] 49 [w_0, at_1, path_2, follow_3] s k = F49 w_0 at_1 path_2 follow_3 s k := by kernel_rfl
theorem f49 {w_0 at_1 path_2 follow_3 : Value} {s : AS} {k : Value → AS → Prop} (h : F49 w_0 at_1 path_2 follow_3 s k) : kCall Tryd.prog 49 [w_0, at_1, path_2, follow_3] s k := denFn_ok [] (cast (F49_ok w_0 at_1 path_2 follow_3 s k).symm h)
theorem k49_ok : okFn Tryd.prog 49 = true := by kernel_rfl

/- (*conch names.FS).made -/
def F50 (f_0 dir_1 path_2 kind_3 text_4 : Value) (s : AS) (k : Value → AS → Prop) : Prop :=
 kCall Tryd.prog 61 [f_0, dir_1, path_2] s fun v21 s =>
 kExt 0 v21 fun v22 =>
 kExt 1 v21 fun v23 =>
 kNew s [(.int .i64 0), (.pointer none), (.string (bs []))] fun p_12 s =>
 kSt s 3 p_12 v22 fun s =>
 kJoin (fun _ s =>
 kNck f_0 fun v29 =>
 kFld 0 v29 fun v30 =>
 kLd s v30 fun v31 =>
 kCall Tryd.prog 19 [v31, kind_3] s fun v33 s =>
 kExt 0 v33 fun v34 =>
 kExt 1 v33 fun v35 =>
 kJoin (fun _ s =>
 kNck f_0 fun v40 =>
 kFld 0 v40 fun v41 =>
 kLd s v41 fun v42 =>
 kCall Tryd.prog 20 [v42, v34] s fun v44 s =>
 kJoin (fun _ s =>
 kJoin (fun _ s =>
 kFld 1 p_12 fun v77 =>
 kFld 2 p_12 fun v82 =>
 kLd s v77 fun v78 =>
 kNck v78 fun v79 =>
 kFld 0 v79 fun v80 =>
 kLd s v80 fun v81 =>
 kLd s v82 fun v83 =>
 kGen Tryd.prog (.mup 56) [v81, v83, v34] s fun _ s =>
 k (.tuple #[v34, (.int .i64 0)]) s) fun J4 =>
 kBin .eql kind_3 (.int .i64 2) fun v66 =>
 kCond v66 (
 kNck f_0 fun v68 =>
 kFld 1 v68 fun v69 =>
 kFld 0 p_12 fun v73 =>
 kLd s v69 fun v70 =>
 kLd s v73 fun v74 =>
 kMkm s fun v72 s =>
 kChk s v73 v74 (
 kChk s v69 v70 (
 kBuild [(.map none), (.int .i64 0)] [(0, 1, v72), (1, 1, v74)] fun v75 =>
 kNew s (cellsV v75) fun v76 s =>
 kChk s v69 v70 (
 kGen Tryd.prog (.mup 50) [v70, v34, v76] s fun _ s =>
 J4 [] s)))) (
 J4 [] s)) fun J3 =>
 kNck f_0 fun v47 =>
 kFld 0 v47 fun v48 =>
 kLd s v48 fun v49 =>
 kCall Tryd.prog 42 [v49, v34, (.int .i64 0), text_4] s fun v52 s =>
 kExt 0 v52 fun v53 =>
 kExt 1 v52 fun v54 =>
 kLen true text_4 fun v57 =>
 kBin .lss v53 v57 fun v58 =>
 kCond v58 (
 kNck f_0 fun v60 =>
 kFld 0 v60 fun v61 =>
 kLd s v61 fun v62 =>
 kCall Tryd.prog 48 [v62, v34] s fun v64 s =>
 k (.tuple #[(.int .i64 0), (.int .i64 20)]) s) (
 J3 [] s)) fun J2 =>
 kBin .neq v35 (.int .i64 0) fun v37 =>
 kCond v37 (
 k (.tuple #[(.int .i64 0), v35]) s) (
 J2 [] s)) fun J1 =>
 kBin .neq v23 (.int .i64 0) fun v25 =>
 kCond v25 (
 k (.tuple #[(.int .i64 0), v23]) s) (
 J1 [] s)
theorem F50_ok (f_0 dir_1 path_2 kind_3 text_4 : Value) (s : AS) (k : Value → AS → Prop) : denFn Tryd.prog [(13, (.go 0 (.go 1 (.go 2 (.go 4 (.go 6 (.go 3 (.go 7 (.go 5 (.go 8 (.go 9 (.go 10 .done)))))))))))), (14, (.go 0 (.go 5 (.go 7 (.go 1 (.go 2 (.go 3 (.go 4 (.go 6 (.go 8 .done))))))))))] 50 [f_0, dir_1, path_2, kind_3, text_4] s k = F50 f_0 dir_1 path_2 kind_3 text_4 s k := by kernel_rfl
theorem f50 {f_0 dir_1 path_2 kind_3 text_4 : Value} {s : AS} {k : Value → AS → Prop} (h : F50 f_0 dir_1 path_2 kind_3 text_4 s k) : kCall Tryd.prog 50 [f_0, dir_1, path_2, kind_3, text_4] s k := denFn_ok [(13, (.go 0 (.go 1 (.go 2 (.go 4 (.go 6 (.go 3 (.go 7 (.go 5 (.go 8 (.go 9 (.go 10 .done)))))))))))), (14, (.go 0 (.go 5 (.go 7 (.go 1 (.go 2 (.go 3 (.go 4 (.go 6 (.go 8 .done))))))))))] (cast (F50_ok f_0 dir_1 path_2 kind_3 text_4 s k).symm h)
theorem k50_ok : okFn Tryd.prog 50 = true := by kernel_rfl

/- (*conch inodes.Table).drop -/
def F51 (t_0 x_1 from_2 : Value) (s : AS) (k : Value → AS → Prop) : Prop :=
 kNck x_1 fun v9 =>
 kFld 4 v9 fun v10 =>
 kLd s v10 fun v11 =>
 kGen Tryd.prog (.rng 78) [v11] s fun v12 s =>
 kLoop (fun again1 _ s =>
 kGen Tryd.prog (.nxt false 0) [v12] s fun v13 s =>
 kExt 0 v13 fun v14 =>
 kJoin (fun _ s =>
 kGen Tryd.prog .ent [v12] s fun v15 s =>
 kExt 0 v15 fun v16 =>
 kExt 1 v15 fun v17 =>
 kBin .geq v16 from_2 fun v20 =>
 kCond v20 (
 kNck t_0 fun v22 =>
 kFld 1 v22 fun v23 =>
 kLd s v23 fun v24 =>
 kCall Tryd.prog 62 [v24, v17] s fun v26 s =>
 kNck x_1 fun v28 =>
 kFld 4 v28 fun v29 =>
 kLd s v29 fun v30 =>
 kGen Tryd.prog (.blt .delete [78, 3] 0) [v30, v16] s fun _ s =>
 again1 [] s) (
 again1 [] s)) fun J2 =>
 kCond v14 (
 J2 [] s) (
 k undef s)) [] s
theorem F51_ok (t_0 x_1 from_2 : Value) (s : AS) (k : Value → AS → Prop) : denFn Tryd.prog [] 51 [t_0, x_1, from_2] s k = F51 t_0 x_1 from_2 s k := by kernel_rfl
theorem f51 {t_0 x_1 from_2 : Value} {s : AS} {k : Value → AS → Prop} (h : F51 t_0 x_1 from_2 s k) : kCall Tryd.prog 51 [t_0, x_1, from_2] s k := denFn_ok [] (cast (F51_ok t_0 x_1 from_2 s k).symm h)
theorem k51_ok : okFn Tryd.prog 51 = true := by kernel_rfl

/- (*conch blocks.Store).Write -/
def F52 (s_0 b_1 at_2 data_3 : Value) (s : AS) (k : Value → AS → Prop) : Prop :=
 kJoin (fun _ s =>
 kCall Tryd.prog 54 [s_0, b_1] s fun v14 s =>
 kJoin (fun _ s =>
 kNck v14 fun v33 =>
 kFld 1 v33 fun v34 =>
 kSubA 64 1 v34 (some at_2) none fun v36 =>
 kCpy Tryd.prog 88 9 v36 data_3 s fun v38 s =>
 k (.int .i64 0) s) fun J2 =>
 kEq 0 false v14 (.pointer none) fun v17 =>
 kCond v17 (
 k (.int .i64 23) s) (
 kBin .lss at_2 (.int .i64 0) fun v20 =>
 kGrd v20 false (fun k =>
 kBin .gtr at_2 (.int .i64 64) fun v23 =>
 k [v23] s) [undef] s fun xs s =>
 un1 xs fun v23 =>
 kPick v20 (.bool true) v23 fun v24 =>
 kGrd v24 false (fun k =>
 kLen true data_3 fun v27 =>
 kBin .sub (.int .i64 64) at_2 fun v29 =>
 kBin .gtr v27 v29 fun v30 =>
 k [v30] s) [undef] s fun xs s =>
 un1 xs fun v30 =>
 kPick v24 (.bool true) v30 fun v31 =>
 kCond v31 (
 k (.int .i64 1) s) (
 J2 [] s))) fun J1 =>
 kEq 0 false s_0 (.pointer none) fun v11 =>
 kCond v11 (
 k (.int .i64 2) s) (
 J1 [] s)
theorem F52_ok (s_0 b_1 at_2 data_3 : Value) (s : AS) (k : Value → AS → Prop) : denFn Tryd.prog [] 52 [s_0, b_1, at_2, data_3] s k = F52 s_0 b_1 at_2 data_3 s k := by kernel_rfl
theorem f52 {s_0 b_1 at_2 data_3 : Value} {s : AS} {k : Value → AS → Prop} (h : F52 s_0 b_1 at_2 data_3 s k) : kCall Tryd.prog 52 [s_0, b_1, at_2, data_3] s k := denFn_ok [] (cast (F52_ok s_0 b_1 at_2 data_3 s k).symm h)
theorem k52_ok : okFn Tryd.prog 52 = true := by kernel_rfl

/- (*conch inodes.Table).block -/
def F53 (t_0 x_1 part_2 : Value) (s : AS) (k : Value → AS → Prop) : Prop :=
 kJoin (fun _ s =>
 kNck t_0 fun v25 =>
 kFld 1 v25 fun v26 =>
 kLd s v26 fun v27 =>
 kCall Tryd.prog 63 [v27] s fun v28 s =>
 kExt 0 v28 fun v29 =>
 kExt 1 v28 fun v30 =>
 kJoin (fun _ s =>
 k (.tuple #[v29, v30]) s) fun J2 =>
 kBin .eql v30 (.int .i64 0) fun v32 =>
 kCond v32 (
 kNck x_1 fun v34 =>
 kFld 4 v34 fun v35 =>
 kLd s v35 fun v36 =>
 kGen Tryd.prog (.mup 78) [v36, part_2, v29] s fun _ s =>
 J2 [] s) (
 J2 [] s)) fun J1 =>
 kNck x_1 fun v14 =>
 kFld 4 v14 fun v15 =>
 kLd s v15 fun v16 =>
 kGen Tryd.prog (.lk 78 true) [v16, part_2] s fun v18 s =>
 kExt 0 v18 fun v19 =>
 kExt 1 v18 fun v20 =>
 kCond v20 (
 k (.tuple #[v19, (.int .i64 0)]) s) (
 J1 [] s)
theorem F53_ok (t_0 x_1 part_2 : Value) (s : AS) (k : Value → AS → Prop) : denFn Tryd.prog [] 53 [t_0, x_1, part_2] s k = F53 t_0 x_1 part_2 s k := by kernel_rfl
theorem f53 {t_0 x_1 part_2 : Value} {s : AS} {k : Value → AS → Prop} (h : F53 t_0 x_1 part_2 s k) : kCall Tryd.prog 53 [t_0, x_1, part_2] s k := denFn_ok [] (cast (F53_ok t_0 x_1 part_2 s k).symm h)
theorem k53_ok : okFn Tryd.prog 53 = true := by kernel_rfl

/- (*conch blocks.Store).at -/
def F54 (s_0 b_1 : Value) (s : AS) (k : Value → AS → Prop) : Prop :=
 kJoin (fun _ s =>
 kNck s_0 fun v29 =>
 kFld 0 v29 fun v30 =>
 kLd s v30 fun v31 =>
 kBin .sub b_1 (.int .i64 1) fun v33 =>
 kIdx 65 v31 v33 fun v34 =>
 k v34 s) fun J1 =>
 kBin .lss b_1 (.int .i64 1) fun v6 =>
 kGrd v6 false (fun k =>
 kNck s_0 fun v10 =>
 kFld 0 v10 fun v11 =>
 kLd s v11 fun v12 =>
 kLen false v12 fun v13 =>
 kBin .gtr b_1 v13 fun v14 =>
 k [v14] s) [undef] s fun xs s =>
 un1 xs fun v14 =>
 kPick v6 (.bool true) v14 fun v15 =>
 kGrd v15 false (fun k =>
 kNck s_0 fun v18 =>
 kFld 0 v18 fun v19 =>
 kLd s v19 fun v20 =>
 kBin .sub b_1 (.int .i64 1) fun v22 =>
 kIdx 65 v20 v22 fun v23 =>
 kFld 0 v23 fun v24 =>
 kLd s v24 fun v25 =>
 kUn .not v25 fun v26 =>
 k [v26] s) [undef] s fun xs s =>
 un1 xs fun v26 =>
 kPick v15 (.bool true) v26 fun v27 =>
 kCond v27 (
 k (.pointer none) s) (
 J1 [] s)
theorem F54_ok (s_0 b_1 : Value) (s : AS) (k : Value → AS → Prop) : denFn Tryd.prog [] 54 [s_0, b_1] s k = F54 s_0 b_1 s k := by kernel_rfl
theorem f54 {s_0 b_1 : Value} {s : AS} {k : Value → AS → Prop} (h : F54 s_0 b_1 s k) : kCall Tryd.prog 54 [s_0, b_1] s k := denFn_ok [] (cast (F54_ok s_0 b_1 s k).symm h)
theorem k54_ok : okFn Tryd.prog 54 = true := by kernel_rfl

/- (*conch inodes.Table).less -/
def F55 (t_0 i_1 x_2 n_3 : Value) (s : AS) (k : Value → AS → Prop) : Prop :=
 kJoin (fun _ s =>
 kNck n_3 fun v14 =>
 kLd s v14 fun v15 =>
 kBin .sub v15 (.int .i64 1) fun v16 =>
 kNck n_3 fun v17 =>
 kSt s 1 v17 v16 fun s =>
 kJoin (fun _ s =>
 k (.int .i64 0) s) fun J2 =>
 kNck x_2 fun v19 =>
 kFld 0 v19 fun v20 =>
 kLdN s 2 v20 fun v21 =>
 kCall Tryd.prog 64 [v21] s fun v22 s =>
 kCond v22 (
 kCall Tryd.prog 51 [t_0, x_2, (.int .i64 0)] s fun v25 s =>
 kNck t_0 fun v27 =>
 kFld 0 v27 fun v28 =>
 kLd s v28 fun v29 =>
 kBin .sub i_1 (.int .i64 1) fun v31 =>
 kIdx 1 v29 v31 fun v32 =>
 kSt s 1 v32 (.pointer none) fun s =>
 J2 [] s) (
 J2 [] s)) fun J1 =>
 kNck n_3 fun v10 =>
 kLd s v10 fun v11 =>
 kBin .eql v11 (.int .i64 0) fun v12 =>
 kCond v12 (
 k (.int .i64 23) s) (
 J1 [] s)
theorem F55_ok (t_0 i_1 x_2 n_3 : Value) (s : AS) (k : Value → AS → Prop) : denFn Tryd.prog [] 55 [t_0, i_1, x_2, n_3] s k = F55 t_0 i_1 x_2 n_3 s k := by kernel_rfl
theorem f55 {t_0 i_1 x_2 n_3 : Value} {s : AS} {k : Value → AS → Prop} (h : F55 t_0 i_1 x_2 n_3 s k) : kCall Tryd.prog 55 [t_0, i_1, x_2, n_3] s k := denFn_ok [] (cast (F55_ok t_0 i_1 x_2 n_3 s k).symm h)
theorem k55_ok : okFn Tryd.prog 55 = true := by kernel_rfl

/- strings.TrimRight -/
def F56 (s_0 cutset_1 : Value) (s : AS) (k : Value → AS → Prop) : Prop :=
 kJoin (fun _ s =>
 kJoin (fun _ s =>
 kJoin (fun _ s =>
 kCall Tryd.prog 68 [s_0, cutset_1] s fun v36 s =>
 k v36 s) fun J3 =>
 kCall Tryd.prog 66 [cutset_1] s fun v28 s =>
 kExt 0 v28 fun v29 =>
 kExt 1 v28 fun v30 =>
 kNew s (List.replicate 256 (.bool false)) fun as_5 s =>
 kSt s 256 as_5 v29 fun s =>
 kCond v30 (
 kCall Tryd.prog 67 [s_0, as_5] s fun v33 s =>
 k v33 s) (
 J3 [] s)) fun J2 =>
 kLen true cutset_1 fun v15 =>
 kBin .eql v15 (.int .i64 1) fun v16 =>
 kGrd v16 true (fun k =>
 kIxS cutset_1 (.int .i64 0) fun v19 =>
 kBin .lss v19 (.int .u8 128) fun v20 =>
 k [v20] s) [undef] s fun xs s =>
 un1 xs fun v20 =>
 kPick v16 v20 (.bool false) fun v21 =>
 kCond v21 (
 kIxS cutset_1 (.int .i64 0) fun v24 =>
 kCall Tryd.prog 65 [s_0, v24] s fun v25 s =>
 k v25 s) (
 J2 [] s)) fun J1 =>
 kBin .eql s_0 (.string (bs [])) fun v8 =>
 kGrd v8 false (fun k =>
 kBin .eql cutset_1 (.string (bs [])) fun v11 =>
 k [v11] s) [undef] s fun xs s =>
 un1 xs fun v11 =>
 kPick v8 (.bool true) v11 fun v12 =>
 kCond v12 (
 k s_0 s) (
 J1 [] s)
theorem F56_ok (s_0 cutset_1 : Value) (s : AS) (k : Value → AS → Prop) : denFn Tryd.prog [] 56 [s_0, cutset_1] s k = F56 s_0 cutset_1 s k := by kernel_rfl
theorem f56 {s_0 cutset_1 : Value} {s : AS} {k : Value → AS → Prop} (h : F56 s_0 cutset_1 s k) : kCall Tryd.prog 56 [s_0, cutset_1] s k := denFn_ok [] (cast (F56_ok s_0 cutset_1 s k).symm h)
theorem k56_ok : okFn Tryd.prog 56 = true := by kernel_rfl

/- strings.LastIndexByte -/
def F57 (s_0 c_1 : Value) (s : AS) (k : Value → AS → Prop) : Prop :=
 kCall Tryd.prog 69 [s_0, c_1] s fun v7 s =>
 k v7 s
theorem F57_ok (s_0 c_1 : Value) (s : AS) (k : Value → AS → Prop) : denFn Tryd.prog [] 57 [s_0, c_1] s k = F57 s_0 c_1 s k := by kernel_rfl
theorem f57 {s_0 c_1 : Value} {s : AS} {k : Value → AS → Prop} (h : F57 s_0 c_1 s k) : kCall Tryd.prog 57 [s_0, c_1] s k := denFn_ok [] (cast (F57_ok s_0 c_1 s k).symm h)
theorem k57_ok : okFn Tryd.prog 57 = true := by kernel_rfl

/- strings.CutPrefix -/
def F58 (s_0 prefix_1 : Value) (s : AS) (k : Value → AS → Prop) : Prop :=
 kCall Tryd.prog 70 [s_0, prefix_1] s fun v8 s =>
 kExt 0 v8 fun v9 =>
 kExt 1 v8 fun v10 =>
 k (.tuple #[v9, v10]) s
theorem F58_ok (s_0 prefix_1 : Value) (s : AS) (k : Value → AS → Prop) : denFn Tryd.prog [] 58 [s_0, prefix_1] s k = F58 s_0 prefix_1 s k := by kernel_rfl
theorem f58 {s_0 prefix_1 : Value} {s : AS} {k : Value → AS → Prop} (h : F58 s_0 prefix_1 s k) : kCall Tryd.prog 58 [s_0, prefix_1] s k := denFn_ok [] (cast (F58_ok s_0 prefix_1 s k).symm h)
theorem k58_ok : okFn Tryd.prog 58 = true := by kernel_rfl

/- strings.Split -/
def F59 (s_0 sep_1 : Value) (s : AS) (k : Value → AS → Prop) : Prop :=
 kCall Tryd.prog 71 [s_0, sep_1, (.int .i64 0), (.int .i64 (-1))] s fun v7 s =>
 k v7 s
theorem F59_ok (s_0 sep_1 : Value) (s : AS) (k : Value → AS → Prop) : denFn Tryd.prog [] 59 [s_0, sep_1] s k = F59 s_0 sep_1 s k := by kernel_rfl
theorem f59 {s_0 sep_1 : Value} {s : AS} {k : Value → AS → Prop} (h : F59 s_0 sep_1 s k) : kCall Tryd.prog 59 [s_0, sep_1] s k := denFn_ok [] (cast (F59_ok s_0 sep_1 s k).symm h)
theorem k59_ok : okFn Tryd.prog 59 = true := by kernel_rfl

/- (*conch names.walk).part -/
def F60 (w_0 at_1 part_2 follow_3 : Value) (s : AS) (k : Value → AS → Prop) : Prop :=
 kNck w_0 fun v16 =>
 kFld 0 v16 fun v17 =>
 kLd s v17 fun v18 =>
 kCall Tryd.prog 33 [v18, at_1] s fun v20 s =>
 kJoin (fun _ s =>
 kJoin (fun _ s =>
 kNck v20 fun v62 =>
 kFld 0 v62 fun v63 =>
 kLd s v63 fun v64 =>
 kGen Tryd.prog (.lk 56 true) [v64, part_2] s fun v66 s =>
 kExt 0 v66 fun v67 =>
 kExt 1 v66 fun v68 =>
 kJoin (fun _ s =>
 kNck w_0 fun v95 =>
 kFld 1 v95 fun v96 =>
 kLd s v96 fun v97 =>
 kBin .add v97 (.int .i64 1) fun v98 =>
 kNck w_0 fun v99 =>
 kFld 1 v99 fun v100 =>
 kSt s 1 v100 v98 fun s =>
 kNck w_0 fun v103 =>
 kFld 0 v103 fun v104 =>
 kLd s v104 fun v105 =>
 kNck v105 fun v106 =>
 kFld 0 v106 fun v107 =>
 kLd s v107 fun v108 =>
 kCall Tryd.prog 29 [v108, v67, (.int .i64 0), (.int .i64 256)] s fun v110 s =>
 kExt 0 v110 fun v111 =>
 kExt 1 v110 fun v112 =>
 kCall Tryd.prog 49 [w_0, at_1, v111, (.bool true)] s fun v116 s =>
 kExt 0 v116 fun v117 =>
 kExt 1 v116 fun v118 =>
 k (.tuple #[v117, v118]) s) fun J3 =>
 kUn .not v68 fun v71 =>
 kCond v71 (
 k (.tuple #[(.int .i64 0), (.int .i64 23)]) s) (
 kNck w_0 fun v74 =>
 kFld 0 v74 fun v75 =>
 kLd s v75 fun v76 =>
 kNck v76 fun v77 =>
 kFld 0 v77 fun v78 =>
 kLd s v78 fun v79 =>
 kCall Tryd.prog 22 [v79, v67] s fun v81 s =>
 kBin .neq v81 (.int .i64 3) fun v82 =>
 kGrd v82 false (fun k =>
 kUn .not follow_3 fun v85 =>
 k [v85] s) [undef] s fun xs s =>
 un1 xs fun v85 =>
 kPick v82 (.bool true) v85 fun v86 =>
 kCond v86 (
 k (.tuple #[v67, (.int .i64 0)]) s) (
 kNck w_0 fun v90 =>
 kFld 1 v90 fun v91 =>
 kLd s v91 fun v92 =>
 kBin .eql v92 (.int .i64 8) fun v93 =>
 kCond v93 (
 k (.tuple #[(.int .i64 0), (.int .i64 27)]) s) (
 J3 [] s)))) fun J2 =>
 kBin .eql part_2 (.string (bs [])) fun v25 =>
 kGrd v25 false (fun k =>
 kBin .eql part_2 (.string (bs [46])) fun v28 =>
 k [v28] s) [undef] s fun xs s =>
 un1 xs fun v28 =>
 kPick v25 (.bool true) v28 fun v29 =>
 kCond v29 (
 k (.tuple #[at_1, (.int .i64 0)]) s) (
 kBin .eql part_2 (.string (bs [46, 46])) fun v33 =>
 kGrd v33 true (fun k =>
 kNck w_0 fun v36 =>
 kFld 0 v36 fun v37 =>
 kNck v20 fun v43 =>
 kFld 1 v43 fun v44 =>
 kLd s v37 fun v38 =>
 kNck v38 fun v39 =>
 kFld 0 v39 fun v40 =>
 kLd s v40 fun v41 =>
 kLd s v44 fun v45 =>
 kCall Tryd.prog 22 [v41, v45] s fun v46 s =>
 kBin .eql v46 (.int .i64 0) fun v47 =>
 k [v47] s) [undef] s fun xs s =>
 un1 xs fun v47 =>
 kPick v33 v47 (.bool false) fun v48 =>
 kCond v48 (
 k (.tuple #[(.int .i64 0), (.int .i64 23)]) s) (
 kBin .eql part_2 (.string (bs [46, 46])) fun v51 =>
 kCond v51 (
 kNck v20 fun v53 =>
 kFld 1 v53 fun v54 =>
 kLd s v54 fun v55 =>
 k (.tuple #[v55, (.int .i64 0)]) s) (
 kLen true part_2 fun v58 =>
 kBin .gtr v58 (.int .i64 32) fun v59 =>
 kCond v59 (
 k (.tuple #[(.int .i64 0), (.int .i64 3)]) s) (
 J2 [] s))))) fun J1 =>
 kEq 0 false v20 (.pointer none) fun v22 =>
 kCond v22 (
 k (.tuple #[(.int .i64 0), (.int .i64 25)]) s) (
 J1 [] s)
theorem F60_ok (w_0 at_1 part_2 follow_3 : Value) (s : AS) (k : Value → AS → Prop) : denFn Tryd.prog [(6, (.go 0 (.go 1 (.go 2 (.go 3 (.go 4 (.go 5 (.go 10 (.go 11 (.go 12 (.go 6 (.go 7 (.go 8 (.go 9 (.go 13 (.go 14 (.go 15 (.go 16 (.go 17 .done)))))))))))))))))))] 60 [w_0, at_1, part_2, follow_3] s k = F60 w_0 at_1 part_2 follow_3 s k := by kernel_rfl
theorem f60 {w_0 at_1 part_2 follow_3 : Value} {s : AS} {k : Value → AS → Prop} (h : F60 w_0 at_1 part_2 follow_3 s k) : kCall Tryd.prog 60 [w_0, at_1, part_2, follow_3] s k := denFn_ok [(6, (.go 0 (.go 1 (.go 2 (.go 3 (.go 4 (.go 5 (.go 10 (.go 11 (.go 12 (.go 6 (.go 7 (.go 8 (.go 9 (.go 13 (.go 14 (.go 15 (.go 16 (.go 17 .done)))))))))))))))))))] (cast (F60_ok w_0 at_1 part_2 follow_3 s k).symm h)
theorem k60_ok : okFn Tryd.prog 60 = true := by kernel_rfl

/- (*conch names.FS).free -/
def F61 (f_0 dir_1 path_2 : Value) (s : AS) (k : Value → AS → Prop) : Prop :=
 kNew s [(.int .i64 0), (.pointer none), (.string (bs []))] fun v6 s =>
 kCall Tryd.prog 47 [f_0, dir_1, path_2] s fun v16 s =>
 kExt 0 v16 fun v17 =>
 kExt 1 v16 fun v18 =>
 kNew s [(.int .i64 0), (.pointer none), (.string (bs []))] fun p_8 s =>
 kSt s 3 p_8 v17 fun s =>
 kJoin (fun _ s =>
 kJoin (fun _ s =>
 kJoin (fun _ s =>
 kLdN s 3 p_8 fun v45 =>
 kSt s 3 v6 v45 fun s =>
 kLdN s 3 v6 fun r0 =>
 k (.tuple #[r0, (.int .i64 0)]) s) fun J3 =>
 kNck f_0 fun v37 =>
 kFld 0 v37 fun v38 =>
 kFld 0 p_8 fun v40 =>
 kLd s v38 fun v39 =>
 kLd s v40 fun v41 =>
 kCall Tryd.prog 72 [v39, v41] s fun v42 s =>
 kBin .eql v42 (.int .i64 0) fun v43 =>
 kCond v43 (
 kLdN s 3 p_8 fun v44 =>
 kSt s 3 v6 v44 fun s =>
 kLdN s 3 v6 fun r0 =>
 k (.tuple #[r0, (.int .i64 23)]) s) (
 J3 [] s)) fun J2 =>
 kFld 1 p_8 fun v24 =>
 kFld 2 p_8 fun v29 =>
 kLd s v24 fun v25 =>
 kNck v25 fun v26 =>
 kFld 0 v26 fun v27 =>
 kLd s v27 fun v28 =>
 kLd s v29 fun v30 =>
 kGen Tryd.prog (.lk 56 true) [v28, v30] s fun v31 s =>
 kExt 0 v31 fun v32 =>
 kExt 1 v31 fun v33 =>
 kCond v33 (
 kLdN s 3 p_8 fun v35 =>
 kSt s 3 v6 v35 fun s =>
 kLdN s 3 v6 fun r0 =>
 k (.tuple #[r0, (.int .i64 22)]) s) (
 J2 [] s)) fun J1 =>
 kBin .neq v18 (.int .i64 0) fun v20 =>
 kCond v20 (
 kLdN s 3 p_8 fun v21 =>
 kSt s 3 v6 v21 fun s =>
 kLdN s 3 v6 fun r0 =>
 k (.tuple #[r0, v18]) s) (
 J1 [] s)
theorem F61_ok (f_0 dir_1 path_2 : Value) (s : AS) (k : Value → AS → Prop) : denFn Tryd.prog [(4, (.go 0 (.go 5 (.go 1 (.go 2 (.go 3 (.go 4 (.go 6 (.go 7 (.go 8 (.go 9 (.go 10 (.go 11 (.go 12 .done)))))))))))))), (7, (.go 0 (.go 1 (.go 2 (.go 4 (.go 3 (.go 5 (.go 6 (.go 7 .done)))))))))] 61 [f_0, dir_1, path_2] s k = F61 f_0 dir_1 path_2 s k := by kernel_rfl
theorem f61 {f_0 dir_1 path_2 : Value} {s : AS} {k : Value → AS → Prop} (h : F61 f_0 dir_1 path_2 s k) : kCall Tryd.prog 61 [f_0, dir_1, path_2] s k := denFn_ok [(4, (.go 0 (.go 5 (.go 1 (.go 2 (.go 3 (.go 4 (.go 6 (.go 7 (.go 8 (.go 9 (.go 10 (.go 11 (.go 12 .done)))))))))))))), (7, (.go 0 (.go 1 (.go 2 (.go 4 (.go 3 (.go 5 (.go 6 (.go 7 .done)))))))))] (cast (F61_ok f_0 dir_1 path_2 s k).symm h)
theorem k61_ok : okFn Tryd.prog 61 = true := by kernel_rfl

/- (*conch blocks.Store).Give -/
def F62 (s_0 b_1 : Value) (s : AS) (k : Value → AS → Prop) : Prop :=
 kJoin (fun _ s =>
 kCall Tryd.prog 54 [s_0, b_1] s fun v10 s =>
 kJoin (fun _ s =>
 kNck v10 fun v14 =>
 kFld 0 v14 fun v15 =>
 kSt s 1 v15 (.bool false) fun s =>
 kNck s_0 fun v17 =>
 kFld 1 v17 fun v18 =>
 kLd s v18 fun v19 =>
 kBin .add v19 (.int .i64 1) fun v20 =>
 kNck s_0 fun v21 =>
 kFld 1 v21 fun v22 =>
 kSt s 1 v22 v20 fun s =>
 k (.int .i64 0) s) fun J2 =>
 kEq 0 false v10 (.pointer none) fun v12 =>
 kCond v12 (
 k (.int .i64 23) s) (
 J2 [] s)) fun J1 =>
 kEq 0 false s_0 (.pointer none) fun v7 =>
 kCond v7 (
 k (.int .i64 2) s) (
 J1 [] s)
theorem F62_ok (s_0 b_1 : Value) (s : AS) (k : Value → AS → Prop) : denFn Tryd.prog [] 62 [s_0, b_1] s k = F62 s_0 b_1 s k := by kernel_rfl
theorem f62 {s_0 b_1 : Value} {s : AS} {k : Value → AS → Prop} (h : F62 s_0 b_1 s k) : kCall Tryd.prog 62 [s_0, b_1] s k := denFn_ok [] (cast (F62_ok s_0 b_1 s k).symm h)
theorem k62_ok : okFn Tryd.prog 62 = true := by kernel_rfl

/- (*conch blocks.Store).Take -/
def F63 (s_0 : Value) (s : AS) (k : Value → AS → Prop) : Prop :=
 kJoin (fun _ s =>
 kNck s_0 fun v8 =>
 kFld 0 v8 fun v9 =>
 kLd s v9 fun v10 =>
 kCall Tryd.prog 73 [v10, (.func (.func 74) #[] #[])] s fun v11 s =>
 kJoin (fun _ s =>
 kNck s_0 fun v15 =>
 kFld 0 v15 fun v16 =>
 kLd s v16 fun v17 =>
 kBuild ((.bool false) :: List.replicate 64 (.int .u8 0)) [(0, 1, (.bool true))] fun v19 =>
 kIdx 65 v17 v11 fun v20 =>
 kSt s 65 v20 v19 fun s =>
 kNck s_0 fun v22 =>
 kFld 1 v22 fun v23 =>
 kLd s v23 fun v24 =>
 kBin .sub v24 (.int .i64 1) fun v25 =>
 kNck s_0 fun v26 =>
 kFld 1 v26 fun v27 =>
 kSt s 1 v27 v25 fun s =>
 kBin .add v11 (.int .i64 1) fun v29 =>
 k (.tuple #[v29, (.int .i64 0)]) s) fun J2 =>
 kBin .lss v11 (.int .i64 0) fun v13 =>
 kCond v13 (
 k (.tuple #[(.int .i64 0), (.int .i64 20)]) s) (
 J2 [] s)) fun J1 =>
 kEq 0 false s_0 (.pointer none) fun v6 =>
 kCond v6 (
 k (.tuple #[(.int .i64 0), (.int .i64 2)]) s) (
 J1 [] s)
theorem F63_ok (s_0 : Value) (s : AS) (k : Value → AS → Prop) : denFn Tryd.prog [] 63 [s_0] s k = F63 s_0 s k := by kernel_rfl
theorem f63 {s_0 : Value} {s : AS} {k : Value → AS → Prop} (h : F63 s_0 s k) : kCall Tryd.prog 63 [s_0] s k := denFn_ok [] (cast (F63_ok s_0 s k).symm h)
theorem k63_ok : okFn Tryd.prog 63 = true := by kernel_rfl

/- (conch inodes.counts).idle -/
def F64 (c_0 : Value) (s : AS) (k : Value → AS → Prop) : Prop :=
 kNew s (cellsV c_0) fun c_1 s =>
 kLdN s 2 c_1 fun v3 =>
 kBuild [(.int .i64 0), (.int .i64 0)] [] fun v4 =>
 kGen Tryd.prog (.bop .eql 80 (.tmp 3) (.tmp 4)) [v3, v4] s fun v5 s =>
 k v5 s
theorem F64_ok (c_0 : Value) (s : AS) (k : Value → AS → Prop) : denFn Tryd.prog [] 64 [c_0] s k = F64 c_0 s k := by kernel_rfl
theorem f64 {c_0 : Value} {s : AS} {k : Value → AS → Prop} (h : F64 c_0 s k) : kCall Tryd.prog 64 [c_0] s k := denFn_ok [] (cast (F64_ok c_0 s k).symm h)
theorem k64_ok : okFn Tryd.prog 64 = true := by kernel_rfl

/- strings.trimRightByte -/
def F65 (s_0 c_1 : Value) (s : AS) (k : Value → AS → Prop) : Prop :=
 kJoin (fun xs s =>
 un1 xs fun s_0 =>
 k s_0 s) fun J1 =>
 kLoop (fun again2 xs s =>
 un1 xs fun s_0 =>
 kJoin (fun _ s =>
 kLen true s_0 fun v19 =>
 kBin .sub v19 (.int .i64 1) fun v20 =>
 kSubS s_0 none (some v20) fun v21 =>
 again2 [v21] s) fun J3 =>
 kLen true s_0 fun v6 =>
 kBin .gtr v6 (.int .i64 0) fun v7 =>
 kGrd v7 true (fun k =>
 kLen true s_0 fun v11 =>
 kBin .sub v11 (.int .i64 1) fun v12 =>
 kIxS s_0 v12 fun v13 =>
 kBin .eql v13 c_1 fun v15 =>
 k [v15] s) [undef] s fun xs s =>
 un1 xs fun v15 =>
 kPick v7 v15 (.bool false) fun v16 =>
 kCond v16 (
 J3 [] s) (
 J1 [s_0] s)) [s_0] s
theorem F65_ok (s_0 c_1 : Value) (s : AS) (k : Value → AS → Prop) : denFn Tryd.prog [] 65 [s_0, c_1] s k = F65 s_0 c_1 s k := by kernel_rfl
theorem f65 {s_0 c_1 : Value} {s : AS} {k : Value → AS → Prop} (h : F65 s_0 c_1 s k) : kCall Tryd.prog 65 [s_0, c_1] s k := denFn_ok [] (cast (F65_ok s_0 c_1 s k).symm h)
theorem k65_ok : okFn Tryd.prog 65 = true := by kernel_rfl

/- internal bytealg.LastIndexByteString -/
def F69 (s_0 c_1 : Value) (s : AS) (k : Value → AS → Prop) : Prop :=
 kJoin (fun _ s =>
 k (.int .i64 (-1)) s) fun J1 =>
 kLen true s_0 fun v7 =>
 kBin .sub v7 (.int .i64 1) fun v8 =>
 kLoop (fun again2 xs s =>
 un1 xs fun i_5 =>
 kJoin (fun _ s =>
 kJoin (fun _ s =>
 kBin .sub i_5 (.int .i64 1) fun v12 =>
 again2 [v12] s) fun J4 =>
 kIxS s_0 i_5 fun v15 =>
 kBin .eql v15 c_1 fun v17 =>
 kCond v17 (
 k i_5 s) (
 J4 [] s)) fun J3 =>
 kBin .geq i_5 (.int .i64 0) fun v10 =>
 kCond v10 (
 J3 [] s) (
 J1 [] s)) [v8] s
theorem F69_ok (s_0 c_1 : Value) (s : AS) (k : Value → AS → Prop) : denFn Tryd.prog [] 69 [s_0, c_1] s k = F69 s_0 c_1 s k := by kernel_rfl
theorem f69 {s_0 c_1 : Value} {s : AS} {k : Value → AS → Prop} (h : F69 s_0 c_1 s k) : kCall Tryd.prog 69 [s_0, c_1] s k := denFn_ok [] (cast (F69_ok s_0 c_1 s k).symm h)
theorem k69_ok : okFn Tryd.prog 69 = true := by kernel_rfl

/- internal stringslite.CutPrefix -/
def F70 (s_0 prefix_1 : Value) (s : AS) (k : Value → AS → Prop) : Prop :=
 kJoin (fun _ s =>
 kLen true prefix_1 fun v13 =>
 kSubS s_0 (some v13) none fun v14 =>
 k (.tuple #[v14, (.bool true)]) s) fun J1 =>
 kCall Tryd.prog 78 [s_0, prefix_1] s fun v8 s =>
 kUn .not v8 fun v9 =>
 kCond v9 (
 k (.tuple #[s_0, (.bool false)]) s) (
 J1 [] s)
theorem F70_ok (s_0 prefix_1 : Value) (s : AS) (k : Value → AS → Prop) : denFn Tryd.prog [] 70 [s_0, prefix_1] s k = F70 s_0 prefix_1 s k := by kernel_rfl
theorem f70 {s_0 prefix_1 : Value} {s : AS} {k : Value → AS → Prop} (h : F70 s_0 prefix_1 s k) : kCall Tryd.prog 70 [s_0, prefix_1] s k := denFn_ok [] (cast (F70_ok s_0 prefix_1 s k).symm h)
theorem k70_ok : okFn Tryd.prog 70 = true := by kernel_rfl

/- strings.genSplit -/
def F71 (s_0 sep_1 sepSave_2 n_3 : Value) (s : AS) (k : Value → AS → Prop) : Prop :=
 kJoin (fun _ s =>
 kJoin (fun _ s =>
 kJoin (fun xs s =>
 un1 xs fun n_3 =>
 kLen true s_0 fun v27 =>
 kBin .add v27 (.int .i64 1) fun v28 =>
 kMin n_3 v28 fun v29 =>
 kMks s 1 16 [(.string (bs []))] v29 v29 fun v31 s =>
 kBin .sub v29 (.int .i64 1) fun v33 =>
 kJoin (fun xs s =>
 un2 xs fun s_0 i_10 =>
 kIdx 1 v31 i_10 fun v61 =>
 kSt s 1 v61 s_0 fun s =>
 kBin .add i_10 (.int .i64 1) fun v64 =>
 kSubL 1 v31 none (some v64) fun v65 =>
 k v65 s) fun J4 =>
 kLoop (fun again5 xs s =>
 un2 xs fun s_0 i_10 =>
 kJoin (fun _ s =>
 kCall Tryd.prog 81 [s_0, sep_1] s fun v39 s =>
 kJoin (fun _ s =>
 kBin .add v39 sepSave_2 fun v47 =>
 kSubS s_0 none (some v47) fun v48 =>
 kIdx 1 v31 i_10 fun v49 =>
 kSt s 1 v49 v48 fun s =>
 kLen true sep_1 fun v53 =>
 kBin .add v39 v53 fun v54 =>
 kSubS s_0 (some v54) none fun v55 =>
 kBin .add i_10 (.int .i64 1) fun v57 =>
 again5 [v55, v57] s) fun J7 =>
 kBin .lss v39 (.int .i64 0) fun v41 =>
 kCond v41 (
 J4 [s_0, i_10] s) (
 J7 [] s)) fun J6 =>
 kBin .lss i_10 v33 fun v36 =>
 kCond v36 (
 J6 [] s) (
 J4 [s_0, i_10] s)) [s_0, (.int .i64 0)] s) fun J3 =>
 kBin .lss n_3 (.int .i64 0) fun v20 =>
 kCond v20 (
 kCall Tryd.prog 80 [s_0, sep_1] s fun v23 s =>
 kBin .add v23 (.int .i64 1) fun v24 =>
 J3 [v24] s) (
 J3 [n_3] s)) fun J2 =>
 kBin .eql sep_1 (.string (bs [])) fun v15 =>
 kCond v15 (
 kCall Tryd.prog 79 [s_0, n_3] s fun v18 s =>
 k v18 s) (
 J2 [] s)) fun J1 =>
 kBin .eql n_3 (.int .i64 0) fun v13 =>
 kCond v13 (
 k (.slice none 0 0) s) (
 J1 [] s)
theorem F71_ok (s_0 sep_1 sepSave_2 n_3 : Value) (s : AS) (k : Value → AS → Prop) : denFn Tryd.prog [] 71 [s_0, sep_1, sepSave_2, n_3] s k = F71 s_0 sep_1 sepSave_2 n_3 s k := by kernel_rfl
theorem f71 {s_0 sep_1 sepSave_2 n_3 : Value} {s : AS} {k : Value → AS → Prop} (h : F71 s_0 sep_1 sepSave_2 n_3 s k) : kCall Tryd.prog 71 [s_0, sep_1, sepSave_2, n_3] s k := denFn_ok [] (cast (F71_ok s_0 sep_1 sepSave_2 n_3 s k).symm h)
theorem k71_ok : okFn Tryd.prog 71 = true := by kernel_rfl

/- (*conch inodes.Table).Links -/
def F72 (t_0 i_1 : Value) (s : AS) (k : Value → AS → Prop) : Prop :=
 kJoin (fun _ s =>
 k (.int .i64 0) s) fun J1 =>
 kCall Tryd.prog 39 [t_0, i_1] s fun v8 s =>
 kEq 0 true v8 (.pointer none) fun v10 =>
 kCond v10 (
 kNck v8 fun v12 =>
 kFld 0 v12 fun v13 =>
 kFld 0 v13 fun v14 =>
 kLd s v14 fun v15 =>
 k v15 s) (
 J1 [] s)
theorem F72_ok (t_0 i_1 : Value) (s : AS) (k : Value → AS → Prop) : denFn Tryd.prog [] 72 [t_0, i_1] s k = F72 t_0 i_1 s k := by kernel_rfl
theorem f72 {t_0 i_1 : Value} {s : AS} {k : Value → AS → Prop} (h : F72 t_0 i_1 s k) : kCall Tryd.prog 72 [t_0, i_1] s k := denFn_ok [] (cast (F72_ok t_0 i_1 s k).symm h)
theorem k72_ok : okFn Tryd.prog 72 = true := by kernel_rfl

/- slices.IndexFunc[[]conch blocks.block,conch blocks.block] -/
def F73 (s_0 f_1 : Value) (s : AS) (k : Value → AS → Prop) : Prop :=
 kJoin (fun _ s =>
 k (.int .i64 (-1)) s) fun J1 =>
 kLen false s_0 fun v7 =>
 kLoop (fun again2 xs s =>
 un1 xs fun v8 =>
 kBin .lss v8 v7 fun v9 =>
 kJoin (fun _ s =>
 kJoin (fun _ s =>
 kBin .add v8 (.int .i64 1) fun v18 =>
 again2 [v18] s) fun J4 =>
 kIdx 65 s_0 v8 fun v14 =>
 kLdN s 65 v14 fun v15 =>
 kCallv Tryd.prog f_1 [v15] s fun v16 s =>
 kCond v16 (
 k v8 s) (
 J4 [] s)) fun J3 =>
 kCond v9 (
 J3 [] s) (
 J1 [] s)) [(.int .i64 0)] s
theorem F73_ok (s_0 f_1 : Value) (s : AS) (k : Value → AS → Prop) : denFn Tryd.prog [] 73 [s_0, f_1] s k = F73 s_0 f_1 s k := by kernel_rfl
theorem f73 {s_0 f_1 : Value} {s : AS} {k : Value → AS → Prop} (h : F73 s_0 f_1 s k) : kCall Tryd.prog 73 [s_0, f_1] s k := denFn_ok [] (cast (F73_ok s_0 f_1 s k).symm h)
theorem k73_ok : okFn Tryd.prog 73 = true := by kernel_rfl

/- (*conch blocks.Store).Take$1 -/
def F74 (b_0 : Value) (s : AS) (k : Value → AS → Prop) : Prop :=
 kNew s (cellsV b_0) fun b_1 s =>
 kFld 0 b_1 fun v3 =>
 kLd s v3 fun v4 =>
 kUn .not v4 fun v5 =>
 k v5 s
theorem F74_ok (b_0 : Value) (s : AS) (k : Value → AS → Prop) : denFn Tryd.prog [] 74 [b_0] s k = F74 b_0 s k := by kernel_rfl
theorem f74 {b_0 : Value} {s : AS} {k : Value → AS → Prop} (h : F74 b_0 s k) : kCall Tryd.prog 74 [b_0] s k := denFn_ok [] (cast (F74_ok b_0 s k).symm h)
theorem k74_ok : okFn Tryd.prog 74 = true := by kernel_rfl

/- (*strings.asciiSet).contains -/
def F75 (as_0 c_1 : Value) (s : AS) (k : Value → AS → Prop) : Prop :=
 kNck as_0 fun v7 =>
 kIdxA 256 1 v7 c_1 fun v8 =>
 kLd s v8 fun v9 =>
 k v9 s
theorem F75_ok (as_0 c_1 : Value) (s : AS) (k : Value → AS → Prop) : denFn Tryd.prog [] 75 [as_0, c_1] s k = F75 as_0 c_1 s k := by kernel_rfl
theorem f75 {as_0 c_1 : Value} {s : AS} {k : Value → AS → Prop} (h : F75 as_0 c_1 s k) : kCall Tryd.prog 75 [as_0, c_1] s k := denFn_ok [] (cast (F75_ok as_0 c_1 s k).symm h)
theorem k75_ok : okFn Tryd.prog 75 = true := by kernel_rfl

/- strings.ContainsRune -/
def F77 (s_0 r_1 : Value) (s : AS) (k : Value → AS → Prop) : Prop :=
 kCall Tryd.prog 84 [s_0, r_1] s fun v7 s =>
 kBin .geq v7 (.int .i64 0) fun v8 =>
 k v8 s
theorem F77_ok (s_0 r_1 : Value) (s : AS) (k : Value → AS → Prop) : denFn Tryd.prog [] 77 [s_0, r_1] s k = F77 s_0 r_1 s k := by kernel_rfl
theorem f77 {s_0 r_1 : Value} {s : AS} {k : Value → AS → Prop} (h : F77 s_0 r_1 s k) : kCall Tryd.prog 77 [s_0, r_1] s k := denFn_ok [] (cast (F77_ok s_0 r_1 s k).symm h)
theorem k77_ok : okFn Tryd.prog 77 = true := by kernel_rfl

/- internal stringslite.HasPrefix -/
def F78 (s_0 prefix_1 : Value) (s : AS) (k : Value → AS → Prop) : Prop :=
 kLen true s_0 fun v6 =>
 kLen true prefix_1 fun v8 =>
 kBin .geq v6 v8 fun v9 =>
 kGrd v9 true (fun k =>
 kLen true prefix_1 fun v13 =>
 kSubS s_0 none (some v13) fun v14 =>
 kBin .eql v14 prefix_1 fun v16 =>
 k [v16] s) [undef] s fun xs s =>
 un1 xs fun v16 =>
 kPick v9 v16 (.bool false) fun v17 =>
 k v17 s
theorem F78_ok (s_0 prefix_1 : Value) (s : AS) (k : Value → AS → Prop) : denFn Tryd.prog [] 78 [s_0, prefix_1] s k = F78 s_0 prefix_1 s k := by kernel_rfl
theorem f78 {s_0 prefix_1 : Value} {s : AS} {k : Value → AS → Prop} (h : F78 s_0 prefix_1 s k) : kCall Tryd.prog 78 [s_0, prefix_1] s k := denFn_ok [] (cast (F78_ok s_0 prefix_1 s k).symm h)
theorem k78_ok : okFn Tryd.prog 78 = true := by kernel_rfl

/- strings.Count -/
def F80 (s_0 substr_1 : Value) (s : AS) (k : Value → AS → Prop) : Prop :=
 kJoin (fun _ s =>
 kJoin (fun _ s =>
 kLoop (fun again3 xs s =>
 un2 xs fun s_0 n_5 =>
 kCall Tryd.prog 81 [s_0, substr_1] s fun v22 s =>
 kJoin (fun _ s =>
 kBin .add n_5 (.int .i64 1) fun v27 =>
 kLen true substr_1 fun v31 =>
 kBin .add v22 v31 fun v32 =>
 kSubS s_0 (some v32) none fun v33 =>
 again3 [v33, v27] s) fun J4 =>
 kBin .eql v22 (.int .i64 (-1)) fun v24 =>
 kCond v24 (
 k n_5 s) (
 J4 [] s)) [s_0, (.int .i64 0)] s) fun J2 =>
 kLen true substr_1 fun v14 =>
 kBin .eql v14 (.int .i64 1) fun v15 =>
 kCond v15 (
 kIxS substr_1 (.int .i64 0) fun v18 =>
 kGen Tryd.prog (.ext 86) [s_0, v18] s fun v19 s =>
 k v19 s) (
 J2 [] s)) fun J1 =>
 kLen true substr_1 fun v8 =>
 kBin .eql v8 (.int .i64 0) fun v9 =>
 kCond v9 (
 kCall Tryd.prog 85 [s_0] s fun v11 s =>
 kBin .add v11 (.int .i64 1) fun v12 =>
 k v12 s) (
 J1 [] s)
theorem F80_ok (s_0 substr_1 : Value) (s : AS) (k : Value → AS → Prop) : denFn Tryd.prog [] 80 [s_0, substr_1] s k = F80 s_0 substr_1 s k := by kernel_rfl
theorem f80 {s_0 substr_1 : Value} {s : AS} {k : Value → AS → Prop} (h : F80 s_0 substr_1 s k) : kCall Tryd.prog 80 [s_0, substr_1] s k := denFn_ok [] (cast (F80_ok s_0 substr_1 s k).symm h)
theorem k80_ok : okFn Tryd.prog 80 = true := by kernel_rfl

/- strings.Index -/
def F81 (s_0 substr_1 : Value) (s : AS) (k : Value → AS → Prop) : Prop :=
 kCall Tryd.prog 87 [s_0, substr_1] s fun v7 s =>
 k v7 s
theorem F81_ok (s_0 substr_1 : Value) (s : AS) (k : Value → AS → Prop) : denFn Tryd.prog [] 81 [s_0, substr_1] s k = F81 s_0 substr_1 s k := by kernel_rfl
theorem f81 {s_0 substr_1 : Value} {s : AS} {k : Value → AS → Prop} (h : F81 s_0 substr_1 s k) : kCall Tryd.prog 81 [s_0, substr_1] s k := denFn_ok [] (cast (F81_ok s_0 substr_1 s k).symm h)
theorem k81_ok : okFn Tryd.prog 81 = true := by kernel_rfl

/- internal stringslite.Index -/
def F87 (s_0 substr_1 : Value) (s : AS) (k : Value → AS → Prop) : Prop :=
 kLen true substr_1 fun v15 =>
 kJoin (fun _ s =>
 kIxS substr_1 (.int .i64 0) fun v49 =>
 kIxS substr_1 (.int .i64 1) fun v51 =>
 kLen true s_0 fun v53 =>
 kBin .sub v53 v15 fun v55 =>
 kBin .add v55 (.int .i64 1) fun v56 =>
 kJoin (fun _ s =>
 k (.int .i64 (-1)) s) fun J2 =>
 kLoop (fun again3 xs s =>
 un2 xs fun i_8 fails_10 =>
 kJoin (fun _ s =>
 kJoin (fun xs s =>
 un1 xs fun i_8 =>
 kJoin (fun _ s =>
 kBin .add i_8 (.int .i64 1) fun v96 =>
 kBin .add fails_10 (.int .i64 1) fun v98 =>
 kLd s (.pointer (some ⟨0, 0, none⟩)) fun v100 =>
 kBin .leq v15 v100 fun v101 =>
 kGrd v101 true (fun k =>
 kCall Tryd.prog 91 [v96] s fun v105 s =>
 kBin .gtr v98 v105 fun v106 =>
 k [v106] s) [undef] s fun xs s =>
 un1 xs fun v106 =>
 kPick v101 v106 (.bool false) fun v107 =>
 kCond v107 (
 kSubS s_0 (some v96) none fun v110 =>
 kGen Tryd.prog (.ext 92) [v110, substr_1] s fun v112 s =>
 kJoin (fun _ s =>
 k (.int .i64 (-1)) s) fun J7 =>
 kBin .geq v112 (.int .i64 0) fun v114 =>
 kCond v114 (
 kBin .add v112 v96 fun v117 =>
 k v117 s) (
 J7 [] s)) (
 kLd s (.pointer (some ⟨0, 0, none⟩)) fun v119 =>
 kBin .gtr v15 v119 fun v120 =>
 kGrd v120 true (fun k =>
 kSft .shr v96 (.int .u64 4) fun v124 =>
 kBin .add (.int .i64 4) v124 fun v125 =>
 kBin .geq v98 v125 fun v126 =>
 k [v126] s) [undef] s fun xs s =>
 un1 xs fun v126 =>
 kPick v120 v126 (.bool false) fun v127 =>
 kGrd v127 true (fun k =>
 kBin .lss v96 v56 fun v131 =>
 k [v131] s) [undef] s fun xs s =>
 un1 xs fun v131 =>
 kPick v127 v131 (.bool false) fun v132 =>
 kCond v132 (
 kSubS s_0 (some v96) none fun v135 =>
 kCall Tryd.prog 94 [v135, substr_1] s fun v137 s =>
 kJoin (fun _ s =>
 kBin .add v96 v137 fun v142 =>
 k v142 s) fun J8 =>
 kBin .lss v137 (.int .i64 0) fun v139 =>
 kCond v139 (
 k (.int .i64 (-1)) s) (
 J8 [] s)) (
 again3 [v96, v98] s))) fun J6 =>
 kBin .add i_8 (.int .i64 1) fun v80 =>
 kIxS s_0 v80 fun v81 =>
 kBin .eql v81 v51 fun v83 =>
 kGrd v83 true (fun k =>
 kBin .add i_8 v15 fun v89 =>
 kSubS s_0 (some i_8) (some v89) fun v90 =>
 kBin .eql v90 substr_1 fun v92 =>
 k [v92] s) [undef] s fun xs s =>
 un1 xs fun v92 =>
 kPick v83 v92 (.bool false) fun v93 =>
 kCond v93 (
 k i_8 s) (
 J6 [] s)) fun J5 =>
 kIxS s_0 i_8 fun v62 =>
 kBin .neq v62 v49 fun v64 =>
 kCond v64 (
 kBin .add i_8 (.int .i64 1) fun v67 =>
 kSubS s_0 (some v67) (some v56) fun v69 =>
 kCall Tryd.prog 93 [v69, v49] s fun v71 s =>
 kJoin (fun _ s =>
 kBin .add v71 (.int .i64 1) fun v76 =>
 kBin .add i_8 v76 fun v77 =>
 J5 [v77] s) fun J9 =>
 kBin .lss v71 (.int .i64 0) fun v73 =>
 kCond v73 (
 k (.int .i64 (-1)) s) (
 J9 [] s)) (
 J5 [i_8] s)) fun J4 =>
 kBin .lss i_8 v56 fun v59 =>
 kCond v59 (
 J4 [] s) (
 J2 [] s)) [(.int .i64 0), (.int .i64 0)] s) fun J1 =>
 kBin .eql v15 (.int .i64 0) fun v18 =>
 kGrd v18 false (fun k =>
 kBin .eql substr_1 s_0 fun v22 =>
 k [v22] s) [undef] s fun xs s =>
 un1 xs fun v22 =>
 kPick v18 (.bool true) v22 fun v23 =>
 kCond v23 (
 k (.int .i64 0) s) (
 kBin .eql v15 (.int .i64 1) fun v26 =>
 kCond v26 (
 kIxS substr_1 (.int .i64 0) fun v29 =>
 kCall Tryd.prog 93 [s_0, v29] s fun v30 s =>
 k v30 s) (
 kLen true s_0 fun v34 =>
 kBin .geq v15 v34 fun v35 =>
 kCond v35 (
 k (.int .i64 (-1)) s) (
 kLd s (.pointer (some ⟨0, 0, none⟩)) fun v38 =>
 kBin .leq v15 v38 fun v39 =>
 kGrd v39 true (fun k =>
 kLen true s_0 fun v42 =>
 kBin .leq v42 (.int .i64 64) fun v43 =>
 k [v43] s) [undef] s fun xs s =>
 un1 xs fun v43 =>
 kPick v39 v43 (.bool false) fun v44 =>
 kCond v44 (
 kGen Tryd.prog (.ext 92) [s_0, substr_1] s fun v47 s =>
 k v47 s) (
 J1 [] s))))
theorem F87_ok (s_0 substr_1 : Value) (s : AS) (k : Value → AS → Prop) : denFn Tryd.prog [] 87 [s_0, substr_1] s k = F87 s_0 substr_1 s k := by kernel_rfl
theorem f87 {s_0 substr_1 : Value} {s : AS} {k : Value → AS → Prop} (h : F87 s_0 substr_1 s k) : kCall Tryd.prog 87 [s_0, substr_1] s k := denFn_ok [] (cast (F87_ok s_0 substr_1 s k).symm h)
theorem k87_ok : okFn Tryd.prog 87 = true := by kernel_rfl

/- strings.IndexByte -/
def F89 (s_0 c_1 : Value) (s : AS) (k : Value → AS → Prop) : Prop :=
 kCall Tryd.prog 93 [s_0, c_1] s fun v7 s =>
 k v7 s
theorem F89_ok (s_0 c_1 : Value) (s : AS) (k : Value → AS → Prop) : denFn Tryd.prog [] 89 [s_0, c_1] s k = F89 s_0 c_1 s k := by kernel_rfl
theorem f89 {s_0 c_1 : Value} {s : AS} {k : Value → AS → Prop} (h : F89 s_0 c_1 s k) : kCall Tryd.prog 89 [s_0, c_1] s k := denFn_ok [] (cast (F89_ok s_0 c_1 s k).symm h)
theorem k89_ok : okFn Tryd.prog 89 = true := by kernel_rfl

/- internal stringslite.IndexByte -/
def F93 (s_0 c_1 : Value) (s : AS) (k : Value → AS → Prop) : Prop :=
 kGen Tryd.prog (.ext 95) [s_0, c_1] s fun v7 s =>
 k v7 s
theorem F93_ok (s_0 c_1 : Value) (s : AS) (k : Value → AS → Prop) : denFn Tryd.prog [] 93 [s_0, c_1] s k = F93 s_0 c_1 s k := by kernel_rfl
theorem f93 {s_0 c_1 : Value} {s : AS} {k : Value → AS → Prop} (h : F93 s_0 c_1 s k) : kCall Tryd.prog 93 [s_0, c_1] s k := denFn_ok [] (cast (F93_ok s_0 c_1 s k).symm h)
theorem k93_ok : okFn Tryd.prog 93 = true := by kernel_rfl

end Go.Proofs.YtmlceloabmkjmaaDoor
