/- The walks of the functions, printed by a program of this proof, each held against the loaded program by the kernel. Conditions: none. -/
import Derived.Test.YtgkhdiahncemcaaProg
import Derived.Test.YtgkhdiahncemcaaF6
namespace Go.Proofs.Ytgkhdiahncemcaa
open E
set_option maxRecDepth 100000
set_option linter.unusedVariables false

/- conch conchlaw02.GlobParses -/
def F3 (s_0 quoted_1 : Value) (s : AS) (k : Value → AS → Prop) : Prop :=
 kLen true s_0 fun v6 =>
 kBin .gtr v6 (.int .i64 500) fun v7 =>
 kGrd v7 false (fun k =>
 kCall Try.prog 11 [s_0, quoted_1] s fun v11 s =>
 kCall Try.prog 10 [v11] s fun v12 s =>
 kCall Try.prog 12 [s_0, quoted_1] s fun v15 s =>
 kCall Try.prog 9 [v12, v15] s fun v16 s =>
 k [v16] s) [undef] s fun xs s =>
 un1 xs fun v17 =>
 kGrd v17 true (fun k =>
 kCall Try.prog 13 [] s fun v18 s =>
 k [v18] s) [undef] s fun xs s =>
 un1 xs fun v18 =>
 kGrd v7 false (fun k =>
 kPick v17 v18 (.bool false) fun v19 =>
 k [v19] s) [undef] s fun xs s =>
 un1 xs fun v19 =>
 kPick v7 (.bool true) v19 fun v20 =>
 k v20 s
theorem F3_ok (s_0 quoted_1 : Value) (s : AS) (k : Value → AS → Prop) : denFn Try.prog [] 3 [s_0, quoted_1] s k = F3 s_0 quoted_1 s k := by kernel_rfl
theorem f3 {s_0 quoted_1 : Value} {s : AS} {k : Value → AS → Prop} (h : F3 s_0 quoted_1 s k) : kCall Try.prog 3 [s_0, quoted_1] s k := denFn_ok [] (cast (F3_ok s_0 quoted_1 s k).symm h)
theorem k3_ok : okFn Try.prog 3 = true := by kernel_rfl

/- conch conchlaw02.GlobMatches -/
def F4 (l_0 s_1 : Value) (s : AS) (k : Value → AS → Prop) : Prop :=
 kJoin (fun _ s =>
 kCall Try.prog 15 [l_0, s_1] s fun v16 s =>
 kCall Try.prog 10 [l_0] s fun v18 s =>
 kCall Try.prog 16 [v18, s_1] s fun v20 s =>
 kEq 4 false v16 v20 fun v21 =>
 kGrd v21 true (fun k =>
 kCall Try.prog 17 [l_0] s fun v24 s =>
 kCall Try.prog 10 [l_0] s fun v26 s =>
 kCall Try.prog 18 [v26] s fun v27 s =>
 kEq 4 false v24 v27 fun v28 =>
 k [v28] s) [undef] s fun xs s =>
 un1 xs fun v28 =>
 kPick v21 v28 (.bool false) fun v29 =>
 kGrd v29 true (fun k =>
 kCall Try.prog 13 [] s fun v31 s =>
 k [v31] s) [undef] s fun xs s =>
 un1 xs fun v31 =>
 kPick v29 v31 (.bool false) fun v32 =>
 k v32 s) fun J1 =>
 kCall Try.prog 14 [l_0] s fun v6 s =>
 kUn .not v6 fun v7 =>
 kGrd v7 false (fun k =>
 kLen true s_1 fun v10 =>
 kBin .gtr v10 (.int .i64 200) fun v11 =>
 k [v11] s) [undef] s fun xs s =>
 un1 xs fun v11 =>
 kPick v7 (.bool true) v11 fun v12 =>
 kCond v12 (
 kCall Try.prog 13 [] s fun v13 s =>
 k v13 s) (
 J1 [] s)
theorem F4_ok (l_0 s_1 : Value) (s : AS) (k : Value → AS → Prop) : denFn Try.prog [] 4 [l_0, s_1] s k = F4 l_0 s_1 s k := by kernel_rfl
theorem f4 {l_0 s_1 : Value} {s : AS} {k : Value → AS → Prop} (h : F4 l_0 s_1 s k) : kCall Try.prog 4 [l_0, s_1] s k := denFn_ok [] (cast (F4_ok l_0 s_1 s k).symm h)
theorem k4_ok : okFn Try.prog 4 = true := by kernel_rfl

/- conch conchlaw02.GlobEnds -/
def F5 (l_0 s_1 longest_2 : Value) (s : AS) (k : Value → AS → Prop) : Prop :=
 kJoin (fun _ s =>
 kCall Try.prog 19 [l_0, s_1, longest_2] s fun v19 s =>
 kCall Try.prog 10 [l_0] s fun v21 s =>
 kCall Try.prog 20 [v21, s_1, longest_2] s fun v24 s =>
 kBin .eql v19 v24 fun v25 =>
 kGrd v25 true (fun k =>
 kCall Try.prog 21 [l_0, s_1, longest_2] s fun v30 s =>
 kCall Try.prog 10 [l_0] s fun v32 s =>
 kCall Try.prog 22 [v32, s_1, longest_2] s fun v35 s =>
 kBin .eql v30 v35 fun v36 =>
 k [v36] s) [undef] s fun xs s =>
 un1 xs fun v36 =>
 kPick v25 v36 (.bool false) fun v37 =>
 kGrd v37 true (fun k =>
 kCall Try.prog 13 [] s fun v39 s =>
 k [v39] s) [undef] s fun xs s =>
 un1 xs fun v39 =>
 kPick v37 v39 (.bool false) fun v40 =>
 k v40 s) fun J1 =>
 kCall Try.prog 14 [l_0] s fun v8 s =>
 kUn .not v8 fun v9 =>
 kGrd v9 false (fun k =>
 kLen true s_1 fun v12 =>
 kBin .gtr v12 (.int .i64 100) fun v13 =>
 k [v13] s) [undef] s fun xs s =>
 un1 xs fun v13 =>
 kPick v9 (.bool true) v13 fun v14 =>
 kCond v14 (
 kCall Try.prog 13 [] s fun v15 s =>
 k v15 s) (
 J1 [] s)
theorem F5_ok (l_0 s_1 longest_2 : Value) (s : AS) (k : Value → AS → Prop) : denFn Try.prog [] 5 [l_0, s_1, longest_2] s k = F5 l_0 s_1 longest_2 s k := by kernel_rfl
theorem f5 {l_0 s_1 longest_2 : Value} {s : AS} {k : Value → AS → Prop} (h : F5 l_0 s_1 longest_2 s k) : kCall Try.prog 5 [l_0, s_1, longest_2] s k := denFn_ok [] (cast (F5_ok l_0 s_1 longest_2 s k).symm h)
theorem k5_ok : okFn Try.prog 5 = true := by kernel_rfl

/- conch conchlaw02.GlobSelf -/
def F6 (s_0 t_1 : Value) (s : AS) (k : Value → AS → Prop) : Prop :=
 kJoin (fun _ s =>
 kLen true s_0 fun v18 =>
 kMks s 1 1 [(.bool false)] v18 v18 fun v19 s =>
 kJoin (fun _ s =>
 kCall Try.prog 11 [s_0, v19] s fun v31 s =>
 kLen false v31 fun v33 =>
 kLen true s_0 fun v35 =>
 kBin .eql v33 v35 fun v36 =>
 kGrd v36 true (fun k =>
 kCall Try.prog 17 [v31] s fun v39 s =>
 kUn .not v39 fun v40 =>
 k [v40] s) [undef] s fun xs s =>
 un1 xs fun v40 =>
 kPick v36 v40 (.bool false) fun v41 =>
 kGrd v41 true (fun k =>
 kCall Try.prog 15 [v31, s_0] s fun v45 s =>
 k [v45] s) [undef] s fun xs s =>
 un1 xs fun v45 =>
 kPick v41 v45 (.bool false) fun v46 =>
 kGrd v46 true (fun k =>
 kCall Try.prog 15 [v31, t_1] s fun v50 s =>
 kBin .eql s_0 t_1 fun v53 =>
 kEq 4 false v50 v53 fun v54 =>
 k [v54] s) [undef] s fun xs s =>
 un1 xs fun v54 =>
 kPick v46 v54 (.bool false) fun v55 =>
 kGrd v55 true (fun k =>
 kCall Try.prog 13 [] s fun v57 s =>
 k [v57] s) [undef] s fun xs s =>
 un1 xs fun v57 =>
 kPick v55 v57 (.bool false) fun v58 =>
 k v58 s) fun J2 =>
 kLoop (fun again3 xs s =>
 un1 xs fun i_6 =>
 kJoin (fun _ s =>
 kJoin (fun _ s =>
 kBin .add i_6 (.int .i64 1) fun v25 =>
 again3 [v25] s) fun J5 =>
 kIdx 1 v19 i_6 fun v28 =>
 kSt s 1 v28 (.bool true) fun s =>
 J5 [] s) fun J4 =>
 kLen false v19 fun v22 =>
 kBin .lss i_6 v22 fun v23 =>
 kCond v23 (
 J4 [] s) (
 J2 [] s)) [(.int .i64 0)] s) fun J1 =>
 kLen true s_0 fun v9 =>
 kBin .gtr v9 (.int .i64 200) fun v10 =>
 kGrd v10 false (fun k =>
 kLen true t_1 fun v13 =>
 kBin .gtr v13 (.int .i64 200) fun v14 =>
 k [v14] s) [undef] s fun xs s =>
 un1 xs fun v14 =>
 kPick v10 (.bool true) v14 fun v15 =>
 kCond v15 (
 kCall Try.prog 13 [] s fun v16 s =>
 k v16 s) (
 J1 [] s)
theorem F6_ok (s_0 t_1 : Value) (s : AS) (k : Value → AS → Prop) : denFn Try.prog [] 6 [s_0, t_1] s k = F6 s_0 t_1 s k := by kernel_rfl
theorem f6 {s_0 t_1 : Value} {s : AS} {k : Value → AS → Prop} (h : F6 s_0 t_1 s k) : kCall Try.prog 6 [s_0, t_1] s k := denFn_ok [] (cast (F6_ok s_0 t_1 s k).symm h)
theorem k6_ok : okFn Try.prog 6 = true := by kernel_rfl

/- conch conchlaw02.GlobJoins -/
def F7 (a_0 b_1 s_2 : Value) (s : AS) (k : Value → AS → Prop) : Prop :=
 kJoin (fun _ s =>
 kApp Try.prog 26 26 (.slice none 0 0) a_0 s fun v26 s =>
 kApp Try.prog 26 26 v26 b_1 s fun v29 s =>
 kJoin (fun xs s =>
 un1 xs fun want_8 =>
 kCall Try.prog 15 [v29, s_2] s fun v53 s =>
 kEq 4 false v53 want_8 fun v55 =>
 kGrd v55 true (fun k =>
 kCall Try.prog 13 [] s fun v57 s =>
 k [v57] s) [undef] s fun xs s =>
 un1 xs fun v57 =>
 kPick v55 v57 (.bool false) fun v58 =>
 k v58 s) fun J2 =>
 kLoop (fun again3 xs s =>
 un2 xs fun want_8 i_9 =>
 kJoin (fun _ s =>
 kJoin (fun xs s =>
 un1 xs fun want_8 =>
 kBin .add i_9 (.int .i64 1) fun v35 =>
 again3 [want_8, v35] s) fun J5 =>
 kGrd want_8 false (fun k =>
 kSubS s_2 none (some i_9) fun v41 =>
 kCall Try.prog 15 [a_0, v41] s fun v42 s =>
 k [v42] s) [undef] s fun xs s =>
 un1 xs fun v43 =>
 kGrd v43 true (fun k =>
 kSubS s_2 (some i_9) none fun v47 =>
 kCall Try.prog 15 [b_1, v47] s fun v48 s =>
 k [v48] s) [undef] s fun xs s =>
 un1 xs fun v48 =>
 kGrd want_8 false (fun k =>
 kPick v43 v48 (.bool false) fun v49 =>
 k [v49] s) [undef] s fun xs s =>
 un1 xs fun v49 =>
 kPick want_8 (.bool true) v49 fun v50 =>
 J5 [v50] s) fun J4 =>
 kLen true s_2 fun v32 =>
 kBin .leq i_9 v32 fun v33 =>
 kCond v33 (
 J4 [] s) (
 J2 [want_8] s)) [(.bool false), (.int .i64 0)] s) fun J1 =>
 kCall Try.prog 14 [a_0] s fun v11 s =>
 kUn .not v11 fun v12 =>
 kGrd v12 false (fun k =>
 kCall Try.prog 14 [b_1] s fun v15 s =>
 kUn .not v15 fun v16 =>
 k [v16] s) [undef] s fun xs s =>
 un1 xs fun v16 =>
 kPick v12 (.bool true) v16 fun v17 =>
 kGrd v17 false (fun k =>
 kLen true s_2 fun v20 =>
 kBin .gtr v20 (.int .i64 100) fun v21 =>
 k [v21] s) [undef] s fun xs s =>
 un1 xs fun v21 =>
 kPick v17 (.bool true) v21 fun v22 =>
 kCond v22 (
 kCall Try.prog 13 [] s fun v23 s =>
 k v23 s) (
 J1 [] s)
theorem F7_ok (a_0 b_1 s_2 : Value) (s : AS) (k : Value → AS → Prop) : denFn Try.prog [] 7 [a_0, b_1, s_2] s k = F7 a_0 b_1 s_2 s k := by kernel_rfl
theorem f7 {a_0 b_1 s_2 : Value} {s : AS} {k : Value → AS → Prop} (h : F7 a_0 b_1 s_2 s k) : kCall Try.prog 7 [a_0, b_1, s_2] s k := denFn_ok [] (cast (F7_ok a_0 b_1 s_2 s k).symm h)
theorem k7_ok : okFn Try.prog 7 = true := by kernel_rfl

/- conch conchlaw02.GlobCuts -/
def F8 (l_0 s_1 : Value) (s : AS) (k : Value → AS → Prop) : Prop :=
 kJoin (fun _ s =>
 kCall Try.prog 19 [l_0, s_1, (.bool false)] s fun v20 s =>
 kCall Try.prog 19 [l_0, s_1, (.bool true)] s fun v23 s =>
 kCall Try.prog 21 [l_0, s_1, (.bool false)] s fun v26 s =>
 kCall Try.prog 21 [l_0, s_1, (.bool true)] s fun v29 s =>
 kJoin (fun _ s =>
 kJoin (fun _ s =>
 kCall Try.prog 15 [l_0, s_1] s fun v118 s =>
 kLen true s_1 fun v121 =>
 kBin .eql v23 v121 fun v122 =>
 kEq 4 false v118 v122 fun v123 =>
 kGrd v123 true (fun k =>
 kCall Try.prog 15 [l_0, s_1] s fun v127 s =>
 kLen true s_1 fun v130 =>
 kBin .eql v29 v130 fun v131 =>
 kEq 4 false v127 v131 fun v132 =>
 k [v132] s) [undef] s fun xs s =>
 un1 xs fun v132 =>
 kPick v123 v132 (.bool false) fun v133 =>
 kGrd v133 true (fun k =>
 kCall Try.prog 13 [] s fun v135 s =>
 k [v135] s) [undef] s fun xs s =>
 un1 xs fun v135 =>
 kPick v133 v135 (.bool false) fun v136 =>
 k v136 s) fun J3 =>
 kBin .geq v20 (.int .i64 0) fun v73 =>
 kGrd v73 true (fun k =>
 kSubS s_1 none (some v20) fun v78 =>
 kCall Try.prog 15 [l_0, v78] s fun v79 s =>
 kUn .not v79 fun v80 =>
 k [v80] s) [undef] s fun xs s =>
 un1 xs fun v81 =>
 kGrd v81 false (fun k =>
 kSubS s_1 none (some v23) fun v85 =>
 kCall Try.prog 15 [l_0, v85] s fun v86 s =>
 kUn .not v86 fun v87 =>
 k [v87] s) [undef] s fun xs s =>
 un1 xs fun v87 =>
 kGrd v73 true (fun k =>
 kPick v81 (.bool true) v87 fun v88 =>
 k [v88] s) [undef] s fun xs s =>
 un1 xs fun v88 =>
 kPick v73 v88 (.bool false) fun v89 =>
 kGrd v89 false (fun k =>
 kBin .geq v26 (.int .i64 0) fun v92 =>
 k [v92] s) [undef] s fun xs s =>
 un1 xs fun v93 =>
 kGrd v93 true (fun k =>
 kLen true s_1 fun v97 =>
 kBin .sub v97 v26 fun v99 =>
 kSubS s_1 (some v99) none fun v100 =>
 kCall Try.prog 15 [l_0, v100] s fun v101 s =>
 kUn .not v101 fun v102 =>
 k [v102] s) [undef] s fun xs s =>
 un1 xs fun v103 =>
 kGrd v103 false (fun k =>
 kLen true s_1 fun v107 =>
 kBin .sub v107 v29 fun v109 =>
 kSubS s_1 (some v109) none fun v110 =>
 kCall Try.prog 15 [l_0, v110] s fun v111 s =>
 kUn .not v111 fun v112 =>
 k [v112] s) [undef] s fun xs s =>
 un1 xs fun v112 =>
 kGrd v93 true (fun k =>
 kPick v103 (.bool true) v112 fun v113 =>
 k [v113] s) [undef] s fun xs s =>
 un1 xs fun v113 =>
 kGrd v89 false (fun k =>
 kPick v93 v113 (.bool false) fun v114 =>
 k [v114] s) [undef] s fun xs s =>
 un1 xs fun v114 =>
 kPick v89 (.bool true) v114 fun v115 =>
 kCond v115 (
 k (.bool false) s) (
 J3 [] s)) fun J2 =>
 kBin .lss v20 (.int .i64 (-1)) fun v31 =>
 kGrd v31 false (fun k =>
 kLen true s_1 fun v35 =>
 kBin .gtr v23 v35 fun v36 =>
 k [v36] s) [undef] s fun xs s =>
 un1 xs fun v36 =>
 kPick v31 (.bool true) v36 fun v37 =>
 kGrd v37 false (fun k =>
 kBin .gtr v20 v23 fun v41 =>
 k [v41] s) [undef] s fun xs s =>
 un1 xs fun v41 =>
 kPick v37 (.bool true) v41 fun v42 =>
 kGrd v42 false (fun k =>
 kBin .lss v20 (.int .i64 0) fun v45 =>
 kBin .lss v23 (.int .i64 0) fun v47 =>
 kEq 4 true v45 v47 fun v48 =>
 k [v48] s) [undef] s fun xs s =>
 un1 xs fun v48 =>
 kPick v42 (.bool true) v48 fun v49 =>
 kGrd v49 false (fun k =>
 kBin .lss v26 (.int .i64 (-1)) fun v52 =>
 k [v52] s) [undef] s fun xs s =>
 un1 xs fun v52 =>
 kPick v49 (.bool true) v52 fun v53 =>
 kGrd v53 false (fun k =>
 kLen true s_1 fun v57 =>
 kBin .gtr v29 v57 fun v58 =>
 k [v58] s) [undef] s fun xs s =>
 un1 xs fun v58 =>
 kPick v53 (.bool true) v58 fun v59 =>
 kGrd v59 false (fun k =>
 kBin .gtr v26 v29 fun v63 =>
 k [v63] s) [undef] s fun xs s =>
 un1 xs fun v63 =>
 kPick v59 (.bool true) v63 fun v64 =>
 kGrd v64 false (fun k =>
 kBin .lss v26 (.int .i64 0) fun v67 =>
 kBin .lss v29 (.int .i64 0) fun v69 =>
 kEq 4 true v67 v69 fun v70 =>
 k [v70] s) [undef] s fun xs s =>
 un1 xs fun v70 =>
 kPick v64 (.bool true) v70 fun v71 =>
 kCond v71 (
 k (.bool false) s) (
 J2 [] s)) fun J1 =>
 kCall Try.prog 14 [l_0] s fun v10 s =>
 kUn .not v10 fun v11 =>
 kGrd v11 false (fun k =>
 kLen true s_1 fun v14 =>
 kBin .gtr v14 (.int .i64 100) fun v15 =>
 k [v15] s) [undef] s fun xs s =>
 un1 xs fun v15 =>
 kPick v11 (.bool true) v15 fun v16 =>
 kCond v16 (
 kCall Try.prog 13 [] s fun v17 s =>
 k v17 s) (
 J1 [] s)
theorem F8_ok (l_0 s_1 : Value) (s : AS) (k : Value → AS → Prop) : denFn Try.prog [] 8 [l_0, s_1] s k = F8 l_0 s_1 s k := by kernel_rfl
theorem f8 {l_0 s_1 : Value} {s : AS} {k : Value → AS → Prop} (h : F8 l_0 s_1 s k) : kCall Try.prog 8 [l_0, s_1] s k := denFn_ok [] (cast (F8_ok l_0 s_1 s k).symm h)
theorem k8_ok : okFn Try.prog 8 = true := by kernel_rfl

/- conch conchlaw02.same -/
def F9 (a_0 b_1 : Value) (s : AS) (k : Value → AS → Prop) : Prop :=
 kJoin (fun _ s =>
 kJoin (fun _ s =>
 k (.bool true) s) fun J2 =>
 kLoop (fun again3 xs s =>
 un1 xs fun i_5 =>
 kJoin (fun _ s =>
 kJoin (fun _ s =>
 kBin .add i_5 (.int .i64 1) fun v17 =>
 again3 [v17] s) fun J5 =>
 kJoin (fun _ s =>
 kLoop (fun again7 xs s =>
 un1 xs fun k_6 =>
 kJoin (fun _ s =>
 kJoin (fun _ s =>
 kBin .add k_6 (.int .i64 1) fun v79 =>
 again7 [v79] s) fun J9 =>
 kIdx 4 a_0 i_5 fun v82 =>
 kFld 3 v82 fun v83 =>
 kIdx 4 b_1 i_5 fun v90 =>
 kFld 3 v90 fun v91 =>
 kLd s v83 fun v84 =>
 kIdx 2 v84 k_6 fun v86 =>
 kLdN s 2 v86 fun v87 =>
 kLd s v91 fun v92 =>
 kIdx 2 v92 k_6 fun v94 =>
 kLdN s 2 v94 fun v95 =>
 kGen Try.prog (.bop .neq 44 (.tmp 87) (.tmp 95)) [v87, v95] s fun v96 s =>
 kCond v96 (
 k (.bool false) s) (
 J9 [] s)) fun J8 =>
 kIdx 4 a_0 i_5 fun v73 =>
 kFld 3 v73 fun v74 =>
 kLd s v74 fun v75 =>
 kLen false v75 fun v76 =>
 kBin .lss k_6 v76 fun v77 =>
 kCond v77 (
 J8 [] s) (
 J5 [] s)) [(.int .i64 0)] s) fun J6 =>
 kIdx 4 a_0 i_5 fun v20 =>
 kFld 0 v20 fun v21 =>
 kIdx 4 b_1 i_5 fun v25 =>
 kFld 0 v25 fun v26 =>
 kLd s v21 fun v22 =>
 kLd s v26 fun v27 =>
 kBin .neq v22 v27 fun v28 =>
 kGrd v28 false (fun k =>
 kIdx 4 a_0 i_5 fun v32 =>
 kFld 1 v32 fun v33 =>
 kIdx 4 b_1 i_5 fun v37 =>
 kFld 1 v37 fun v38 =>
 kLd s v33 fun v34 =>
 kLd s v38 fun v39 =>
 kBin .neq v34 v39 fun v40 =>
 k [v40] s) [undef] s fun xs s =>
 un1 xs fun v40 =>
 kPick v28 (.bool true) v40 fun v41 =>
 kGrd v41 false (fun k =>
 kIdx 4 a_0 i_5 fun v45 =>
 kFld 2 v45 fun v46 =>
 kIdx 4 b_1 i_5 fun v50 =>
 kFld 2 v50 fun v51 =>
 kLd s v46 fun v47 =>
 kLd s v51 fun v52 =>
 kEq 4 true v47 v52 fun v53 =>
 k [v53] s) [undef] s fun xs s =>
 un1 xs fun v53 =>
 kPick v41 (.bool true) v53 fun v54 =>
 kGrd v54 false (fun k =>
 kIdx 4 a_0 i_5 fun v58 =>
 kFld 3 v58 fun v59 =>
 kIdx 4 b_1 i_5 fun v64 =>
 kFld 3 v64 fun v65 =>
 kLd s v59 fun v60 =>
 kLen false v60 fun v61 =>
 kLd s v65 fun v66 =>
 kLen false v66 fun v67 =>
 kBin .neq v61 v67 fun v68 =>
 k [v68] s) [undef] s fun xs s =>
 un1 xs fun v68 =>
 kPick v54 (.bool true) v68 fun v69 =>
 kCond v69 (
 k (.bool false) s) (
 J6 [] s)) fun J4 =>
 kLen false a_0 fun v14 =>
 kBin .lss i_5 v14 fun v15 =>
 kCond v15 (
 J4 [] s) (
 J2 [] s)) [(.int .i64 0)] s) fun J1 =>
 kLen false a_0 fun v8 =>
 kLen false b_1 fun v10 =>
 kBin .neq v8 v10 fun v11 =>
 kCond v11 (
 k (.bool false) s) (
 J1 [] s)
theorem F9_ok (a_0 b_1 : Value) (s : AS) (k : Value → AS → Prop) : denFn Try.prog [(6, (.go 0 (.go 1 (.go 2 (.go 3 (.go 5 (.go 6 (.go 7 (.go 8 (.go 4 (.go 9 (.go 10 (.go 11 (.go 12 (.go 13 (.go 14 (.go 15 (.go 17 (.go 18 (.go 19 (.go 20 (.go 16 (.go 21 (.go 22 (.go 23 (.go 24 (.go 25 (.go 26 (.go 27 (.go 28 (.go 30 (.go 31 (.go 32 (.go 33 (.go 29 (.go 34 (.go 35 (.go 36 (.go 37 (.go 38 (.go 39 (.go 40 (.go 41 (.go 44 (.go 45 (.go 46 (.go 47 (.go 42 (.go 43 (.go 48 (.go 49 (.go 50 (.go 51 .done))))))))))))))))))))))))))))))))))))))))))))))))))))), (11, (.go 0 (.go 1 (.go 2 (.go 3 (.go 5 (.go 8 (.go 9 (.go 10 (.go 11 (.go 13 (.go 4 (.go 6 (.go 7 (.go 12 (.go 14 (.go 15 (.go 16 .done))))))))))))))))))] 9 [a_0, b_1] s k = F9 a_0 b_1 s k := by kernel_rfl
theorem f9 {a_0 b_1 : Value} {s : AS} {k : Value → AS → Prop} (h : F9 a_0 b_1 s k) : kCall Try.prog 9 [a_0, b_1] s k := denFn_ok [(6, (.go 0 (.go 1 (.go 2 (.go 3 (.go 5 (.go 6 (.go 7 (.go 8 (.go 4 (.go 9 (.go 10 (.go 11 (.go 12 (.go 13 (.go 14 (.go 15 (.go 17 (.go 18 (.go 19 (.go 20 (.go 16 (.go 21 (.go 22 (.go 23 (.go 24 (.go 25 (.go 26 (.go 27 (.go 28 (.go 30 (.go 31 (.go 32 (.go 33 (.go 29 (.go 34 (.go 35 (.go 36 (.go 37 (.go 38 (.go 39 (.go 40 (.go 41 (.go 44 (.go 45 (.go 46 (.go 47 (.go 42 (.go 43 (.go 48 (.go 49 (.go 50 (.go 51 .done))))))))))))))))))))))))))))))))))))))))))))))))))))), (11, (.go 0 (.go 1 (.go 2 (.go 3 (.go 5 (.go 8 (.go 9 (.go 10 (.go 11 (.go 13 (.go 4 (.go 6 (.go 7 (.go 12 (.go 14 (.go 15 (.go 16 .done))))))))))))))))))] (cast (F9_ok a_0 b_1 s k).symm h)
theorem k9_ok : okFn Try.prog 9 = true := by kernel_rfl

/- conch conchlaw02.plain -/
def F10 (l_0 : Value) (s : AS) (k : Value → AS → Prop) : Prop :=
 kJoin (fun xs s =>
 un1 xs fun out_3 =>
 k out_3 s) fun J1 =>
 kLoop (fun again2 xs s =>
 un2 xs fun out_3 i_4 =>
 kJoin (fun _ s =>
 kJoin (fun xs s =>
 un1 xs fun out_3 =>
 kBin .add i_4 (.int .i64 1) fun v12 =>
 again2 [out_3, v12] s) fun J4 =>
 kIdx 4 l_0 i_4 fun v15 =>
 kFld 0 v15 fun v16 =>
 kIdx 4 l_0 i_4 fun v20 =>
 kFld 1 v20 fun v21 =>
 kIdx 4 l_0 i_4 fun v25 =>
 kFld 2 v25 fun v26 =>
 kLd s v16 fun v17 =>
 kLd s v21 fun v22 =>
 kLd s v26 fun v27 =>
 kBuild [(.int .i64 0), (.int .u8 0), (.bool false), (.slice none 0 0)] [(0, 1, v17), (1, 1, v22), (2, 1, v27)] fun v28 =>
 kNew s [(.int .i64 0), (.int .u8 0), (.bool false), (.slice none 0 0)] fun t_5 s =>
 kChk s v26 v27 (
 kChk s v21 v22 (
 kChk s v16 v17 (
 kSt s 4 t_5 v28 fun s =>
 kJoin (fun _ s =>
 kLdN s 4 t_5 fun v64 =>
 kBsl s 1 [(.int .i64 0), (.int .u8 0), (.bool false), (.slice none 0 0)] [(0, 4, v64)] fun v65 s =>
 kApp Try.prog 24 24 out_3 v65 s fun v66 s =>
 J4 [v66] s) fun J5 =>
 kLoop (fun again6 xs s =>
 un1 xs fun k_6 =>
 kJoin (fun _ s =>
 kJoin (fun _ s =>
 kBin .add k_6 (.int .i64 1) fun v38 =>
 again6 [v38] s) fun J8 =>
 kFld 3 t_5 fun v39 =>
 kIdx 4 l_0 i_4 fun v43 =>
 kFld 3 v43 fun v44 =>
 kIdx 4 l_0 i_4 fun v52 =>
 kFld 3 v52 fun v53 =>
 kLd s v39 fun v40 =>
 kLd s v44 fun v45 =>
 kIdx 2 v45 k_6 fun v47 =>
 kFld 0 v47 fun v48 =>
 kLd s v48 fun v49 =>
 kLd s v53 fun v54 =>
 kIdx 2 v54 k_6 fun v56 =>
 kFld 1 v56 fun v57 =>
 kLd s v57 fun v58 =>
 kBuild [(.int .u8 0), (.int .u8 0)] [(0, 1, v49), (1, 1, v58)] fun v59 =>
 kBsl s 1 [(.int .u8 0), (.int .u8 0)] [(0, 2, v59)] fun v60 s =>
 kChk s v39 v40 (
 kApp Try.prog 40 40 v40 v60 s fun v61 s =>
 kFld 3 t_5 fun v62 =>
 kSt s 1 v62 v61 fun s =>
 J8 [] s)) fun J7 =>
 kIdx 4 l_0 i_4 fun v32 =>
 kFld 3 v32 fun v33 =>
 kLd s v33 fun v34 =>
 kLen false v34 fun v35 =>
 kBin .lss k_6 v35 fun v36 =>
 kCond v36 (
 J7 [] s) (
 J5 [] s)) [(.int .i64 0)] s)))) fun J3 =>
 kLen false l_0 fun v9 =>
 kBin .lss i_4 v9 fun v10 =>
 kCond v10 (
 J3 [] s) (
 J1 [out_3] s)) [(.slice none 0 0), (.int .i64 0)] s
theorem F10_ok (l_0 : Value) (s : AS) (k : Value → AS → Prop) : denFn Try.prog [(5, (.go 0 (.go 1 (.go 2 (.go 3 (.go 5 (.go 6 (.go 7 (.go 8 (.go 10 (.go 11 (.go 12 (.go 13 (.go 4 (.go 9 (.go 14 (.go 15 (.go 16 (.go 17 .done))))))))))))))))))), (9, (.go 0 (.go 2 (.go 3 (.go 4 (.go 5 (.go 7 (.go 11 (.go 12 (.go 13 (.go 14 (.go 16 (.go 1 (.go 6 (.go 8 (.go 9 (.go 10 (.go 15 (.go 17 (.go 18 (.go 19 (.go 20 (.go 21 (.go 22 (.go 23 (.go 24 .done))))))))))))))))))))))))))] 10 [l_0] s k = F10 l_0 s k := by kernel_rfl
theorem f10 {l_0 : Value} {s : AS} {k : Value → AS → Prop} (h : F10 l_0 s k) : kCall Try.prog 10 [l_0] s k := denFn_ok [(5, (.go 0 (.go 1 (.go 2 (.go 3 (.go 5 (.go 6 (.go 7 (.go 8 (.go 10 (.go 11 (.go 12 (.go 13 (.go 4 (.go 9 (.go 14 (.go 15 (.go 16 (.go 17 .done))))))))))))))))))), (9, (.go 0 (.go 2 (.go 3 (.go 4 (.go 5 (.go 7 (.go 11 (.go 12 (.go 13 (.go 14 (.go 16 (.go 1 (.go 6 (.go 8 (.go 9 (.go 10 (.go 15 (.go 17 (.go 18 (.go 19 (.go 20 (.go 21 (.go 22 (.go 23 (.go 24 .done))))))))))))))))))))))))))] (cast (F10_ok l_0 s k).symm h)
theorem k10_ok : okFn Try.prog 10 = true := by kernel_rfl

/- conch glob.Parse -/
def F11 (s_0 quoted_1 : Value) (s : AS) (k : Value → AS → Prop) : Prop :=
 kNew s [(.slice none 0 0)] fun out_5 s =>
 kJoin (fun xs s =>
 un1 xs fun v17 =>
 kLd s out_5 fun v16 =>
 kFin (valsOf v17) s fun s =>
 k v16 s) fun J1 =>
 kBuild [(.string (bs [])), (.slice none 0 0)] [(0, 1, s_0), (1, 1, quoted_1)] fun v9 =>
 kCall Try.prog 23 [v9] s fun v10 s =>
 kRng Try.prog v10 (fun xs s bg k =>
 xs.length = 1 ∧ (
 un1 xs fun v11 =>
 kNew s [(.int .i64 0), (.int .u8 0), (.bool false), (.slice none 0 0)] fun t_6 s =>
 kSt s 4 t_6 v11 fun s =>
 bg s fun s =>
 kLd s out_5 fun v12 =>
 kLdN s 4 t_6 fun v13 =>
 kBsl s 1 [(.int .i64 0), (.int .u8 0), (.bool false), (.slice none 0 0)] [(0, 4, v13)] fun v14 s =>
 kApp Try.prog 26 26 v12 v14 s fun v15 s =>
 kSt s 1 out_5 v15 fun s =>
 k s)) s fun m2 s =>
 J1 [(consM m2 undef)] s
theorem F11_ok (s_0 quoted_1 : Value) (s : AS) (k : Value → AS → Prop) : denFn Try.prog [] 11 [s_0, quoted_1] s k = F11 s_0 quoted_1 s k := by kernel_rfl
theorem f11 {s_0 quoted_1 : Value} {s : AS} {k : Value → AS → Prop} (h : F11 s_0 quoted_1 s k) : kCall Try.prog 11 [s_0, quoted_1] s k := denFn_ok [] (cast (F11_ok s_0 quoted_1 s k).symm h)
theorem k11_ok : okFn Try.prog 11 = true := by kernel_rfl

/- conch conchref02.Parse -/
def F12 (s_0 quoted_1 : Value) (s : AS) (k : Value → AS → Prop) : Prop :=
 kJoin (fun xs s =>
 un1 xs fun out_5 =>
 k out_5 s) fun J1 =>
 kLoop (fun again2 xs s =>
 un2 xs fun out_5 i_6 =>
 kJoin (fun _ s =>
 kJoin (fun xs s =>
 un2 xs fun out_5 i_6 =>
 kJoin (fun xs s =>
 un2 xs fun out_5 i_6 =>
 kBin .add i_6 (.int .i64 1) fun v37 =>
 kCall Try.prog 24 [s_0, quoted_1, v37, (.int .u8 33)] s fun v41 s =>
 kJoin (fun xs s =>
 un1 xs fun first_7 =>
 kBin .add first_7 (.int .i64 1) fun v46 =>
 kJoin (fun xs s =>
 un1 xs fun end_9 =>
 kJoin (fun xs s =>
 un1 xs fun out_5 =>
 kBuild [(.int .i64 0), (.int .u8 0), (.bool false), (.slice none 0 0)] [(0, 1, (.int .i64 4)), (2, 1, v41)] fun v81 =>
 kNew s [(.int .i64 0), (.int .u8 0), (.bool false), (.slice none 0 0)] fun t_10 s =>
 kSt s 4 t_10 v81 fun s =>
 kJoin (fun _ s =>
 kLdN s 4 t_10 fun v127 =>
 kBsl s 1 [(.int .i64 0), (.int .u8 0), (.bool false), (.slice none 0 0)] [(0, 4, v127)] fun v128 s =>
 kApp Try.prog 24 24 out_5 v128 s fun v129 s =>
 kBin .add end_9 (.int .i64 1) fun v131 =>
 again2 [v129, v131] s) fun J9 =>
 kLoop (fun again10 xs s =>
 un1 xs fun k_11 =>
 kJoin (fun _ s =>
 kBin .add k_11 (.int .i64 2) fun v87 =>
 kBin .lss v87 end_9 fun v89 =>
 kGrd v89 true (fun k =>
 kBin .add k_11 (.int .i64 1) fun v94 =>
 kCall Try.prog 24 [s_0, quoted_1, v94, (.int .u8 45)] s fun v95 s =>
 k [v95] s) [undef] s fun xs s =>
 un1 xs fun v95 =>
 kPick v89 v95 (.bool false) fun v96 =>
 kCond v96 (
 kFld 3 t_10 fun v97 =>
 kIxS s_0 k_11 fun v101 =>
 kBin .add k_11 (.int .i64 2) fun v104 =>
 kIxS s_0 v104 fun v105 =>
 kBuild [(.int .u8 0), (.int .u8 0)] [(0, 1, v101), (1, 1, v105)] fun v106 =>
 kLd s v97 fun v98 =>
 kBsl s 1 [(.int .u8 0), (.int .u8 0)] [(0, 2, v106)] fun v107 s =>
 kChk s v97 v98 (
 kApp Try.prog 40 40 v98 v107 s fun v108 s =>
 kFld 3 t_10 fun v109 =>
 kSt s 1 v109 v108 fun s =>
 kBin .add k_11 (.int .i64 3) fun v111 =>
 again10 [v111] s)) (
 kFld 3 t_10 fun v112 =>
 kIxS s_0 k_11 fun v116 =>
 kIxS s_0 k_11 fun v119 =>
 kBuild [(.int .u8 0), (.int .u8 0)] [(0, 1, v116), (1, 1, v119)] fun v120 =>
 kLd s v112 fun v113 =>
 kBsl s 1 [(.int .u8 0), (.int .u8 0)] [(0, 2, v120)] fun v121 s =>
 kChk s v112 v113 (
 kApp Try.prog 40 40 v113 v121 s fun v122 s =>
 kFld 3 t_10 fun v123 =>
 kSt s 1 v123 v122 fun s =>
 kBin .add k_11 (.int .i64 1) fun v125 =>
 again10 [v125] s))) fun J11 =>
 kBin .lss k_11 end_9 fun v85 =>
 kCond v85 (
 J11 [] s) (
 J9 [] s)) [first_7] s) fun J8 =>
 kCall Try.prog 24 [s_0, quoted_1, i_6, (.int .u8 91)] s fun v63 s =>
 kUn .not v63 fun v64 =>
 kGrd v64 false (fun k =>
 kLen true s_0 fun v68 =>
 kBin .geq end_9 v68 fun v69 =>
 k [v69] s) [undef] s fun xs s =>
 un1 xs fun v69 =>
 kPick v64 (.bool true) v69 fun v70 =>
 kCond v70 (
 kIxS s_0 i_6 fun v74 =>
 kBuild [(.int .i64 0), (.int .u8 0), (.bool false), (.slice none 0 0)] [(0, 1, (.int .i64 1)), (1, 1, v74)] fun v75 =>
 kBsl s 1 [(.int .i64 0), (.int .u8 0), (.bool false), (.slice none 0 0)] [(0, 4, v75)] fun v76 s =>
 kApp Try.prog 24 24 out_5 v76 s fun v77 s =>
 kBin .add i_6 (.int .i64 1) fun v79 =>
 again2 [v77, v79] s) (
 J8 [out_5] s)) fun J7 =>
 kLoop (fun again12 xs s =>
 un1 xs fun end_9 =>
 kJoin (fun _ s =>
 kBin .add end_9 (.int .i64 1) fun v59 =>
 again12 [v59] s) fun J13 =>
 kLen true s_0 fun v49 =>
 kBin .lss end_9 v49 fun v50 =>
 kGrd v50 true (fun k =>
 kCall Try.prog 24 [s_0, quoted_1, end_9, (.int .u8 93)] s fun v55 s =>
 kUn .not v55 fun v56 =>
 k [v56] s) [undef] s fun xs s =>
 un1 xs fun v56 =>
 kPick v50 v56 (.bool false) fun v57 =>
 kCond v57 (
 J13 [] s) (
 J7 [end_9] s)) [v46] s) fun J6 =>
 kCond v41 (
 kBin .add v37 (.int .i64 1) fun v44 =>
 J6 [v44] s) (
 J6 [v37] s)) fun J5 =>
 kCall Try.prog 24 [s_0, quoted_1, i_6, (.int .u8 42)] s fun v29 s =>
 kCond v29 (
 kBuild [(.int .i64 0), (.int .u8 0), (.bool false), (.slice none 0 0)] [(0, 1, (.int .i64 3))] fun v31 =>
 kBsl s 1 [(.int .i64 0), (.int .u8 0), (.bool false), (.slice none 0 0)] [(0, 4, v31)] fun v32 s =>
 kApp Try.prog 24 24 out_5 v32 s fun v33 s =>
 kBin .add i_6 (.int .i64 1) fun v35 =>
 again2 [v33, v35] s) (
 J5 [out_5, i_6] s)) fun J4 =>
 kCall Try.prog 24 [s_0, quoted_1, i_6, (.int .u8 63)] s fun v19 s =>
 kCond v19 (
 kBuild [(.int .i64 0), (.int .u8 0), (.bool false), (.slice none 0 0)] [(0, 1, (.int .i64 2))] fun v21 =>
 kBsl s 1 [(.int .i64 0), (.int .u8 0), (.bool false), (.slice none 0 0)] [(0, 4, v21)] fun v22 s =>
 kApp Try.prog 24 24 out_5 v22 s fun v23 s =>
 kBin .add i_6 (.int .i64 1) fun v25 =>
 again2 [v23, v25] s) (
 J4 [out_5, i_6] s)) fun J3 =>
 kLen true s_0 fun v14 =>
 kBin .lss i_6 v14 fun v15 =>
 kCond v15 (
 J3 [] s) (
 J1 [out_5] s)) [(.slice none 0 0), (.int .i64 0)] s
theorem F12_ok (s_0 quoted_1 : Value) (s : AS) (k : Value → AS → Prop) : denFn Try.prog [(24, (.go 0 (.go 2 (.go 3 (.go 4 (.go 5 (.go 6 (.go 7 (.go 8 (.go 9 (.go 1 (.go 10 (.go 11 (.go 12 (.go 13 .done))))))))))))))), (26, (.go 0 (.go 2 (.go 3 (.go 4 (.go 5 (.go 6 (.go 7 (.go 8 (.go 1 (.go 9 (.go 10 (.go 11 (.go 12 .done))))))))))))))] 12 [s_0, quoted_1] s k = F12 s_0 quoted_1 s k := by kernel_rfl
theorem f12 {s_0 quoted_1 : Value} {s : AS} {k : Value → AS → Prop} (h : F12 s_0 quoted_1 s k) : kCall Try.prog 12 [s_0, quoted_1] s k := denFn_ok [(24, (.go 0 (.go 2 (.go 3 (.go 4 (.go 5 (.go 6 (.go 7 (.go 8 (.go 9 (.go 1 (.go 10 (.go 11 (.go 12 (.go 13 .done))))))))))))))), (26, (.go 0 (.go 2 (.go 3 (.go 4 (.go 5 (.go 6 (.go 7 (.go 8 (.go 1 (.go 9 (.go 10 (.go 11 (.go 12 .done))))))))))))))] (cast (F12_ok s_0 quoted_1 s k).symm h)
theorem k12_ok : okFn Try.prog 12 = true := by kernel_rfl

/- conch conchlaw02.awake -/
def F13 (s : AS) (k : Value → AS → Prop) : Prop :=
 kCall Try.prog 11 [(.string (bs [97, 42, 99])), (.slice none 0 0)] s fun v4 s =>
 kCall Try.prog 11 [(.string (bs [91, 33, 97, 45, 99, 93, 63])), (.slice none 0 0)] s fun v5 s =>
 kBsl s 1 [(.bool false)] [(0, 1, (.bool true))] fun v6 s =>
 kCall Try.prog 11 [(.string (bs [42])), v6] s fun v7 s =>
 kCall Try.prog 15 [v4, (.string (bs [97, 98, 98, 99]))] s fun v9 s =>
 kGrd v9 true (fun k =>
 kCall Try.prog 15 [v4, (.string (bs [97, 98]))] s fun v12 s =>
 kUn .not v12 fun v13 =>
 k [v13] s) [undef] s fun xs s =>
 un1 xs fun v13 =>
 kPick v9 v13 (.bool false) fun v14 =>
 kGrd v14 true (fun k =>
 kCall Try.prog 15 [v5, (.string (bs [100, 120]))] s fun v17 s =>
 k [v17] s) [undef] s fun xs s =>
 un1 xs fun v17 =>
 kPick v14 v17 (.bool false) fun v18 =>
 kGrd v18 true (fun k =>
 kCall Try.prog 15 [v5, (.string (bs [97, 120]))] s fun v21 s =>
 kUn .not v21 fun v22 =>
 k [v22] s) [undef] s fun xs s =>
 un1 xs fun v22 =>
 kPick v18 v22 (.bool false) fun v23 =>
 kGrd v23 true (fun k =>
 kCall Try.prog 15 [v7, (.string (bs [42]))] s fun v26 s =>
 k [v26] s) [undef] s fun xs s =>
 un1 xs fun v26 =>
 kPick v23 v26 (.bool false) fun v27 =>
 kGrd v27 true (fun k =>
 kCall Try.prog 15 [v7, (.string (bs [97]))] s fun v30 s =>
 kUn .not v30 fun v31 =>
 k [v31] s) [undef] s fun xs s =>
 un1 xs fun v31 =>
 kPick v27 v31 (.bool false) fun v32 =>
 kGrd v32 true (fun k =>
 kCall Try.prog 17 [v5] s fun v35 s =>
 k [v35] s) [undef] s fun xs s =>
 un1 xs fun v35 =>
 kPick v32 v35 (.bool false) fun v36 =>
 kGrd v36 true (fun k =>
 kCall Try.prog 17 [v7] s fun v39 s =>
 kUn .not v39 fun v40 =>
 k [v40] s) [undef] s fun xs s =>
 un1 xs fun v40 =>
 kPick v36 v40 (.bool false) fun v41 =>
 kGrd v41 true (fun k =>
 kCall Try.prog 11 [(.string (bs [97, 42])), (.slice none 0 0)] s fun v43 s =>
 kCall Try.prog 19 [v43, (.string (bs [97, 97, 98])), (.bool true)] s fun v44 s =>
 kBin .eql v44 (.int .i64 3) fun v45 =>
 k [v45] s) [undef] s fun xs s =>
 un1 xs fun v45 =>
 kPick v41 v45 (.bool false) fun v46 =>
 kGrd v46 true (fun k =>
 kCall Try.prog 11 [(.string (bs [42, 98])), (.slice none 0 0)] s fun v48 s =>
 kCall Try.prog 21 [v48, (.string (bs [97, 97, 98])), (.bool false)] s fun v49 s =>
 kBin .eql v49 (.int .i64 1) fun v50 =>
 k [v50] s) [undef] s fun xs s =>
 un1 xs fun v50 =>
 kPick v46 v50 (.bool false) fun v51 =>
 k v51 s
theorem F13_ok (s : AS) (k : Value → AS → Prop) : denFn Try.prog [] 13 [] s k = F13 s k := by kernel_rfl
theorem f13 {s : AS} {k : Value → AS → Prop} (h : F13 s k) : kCall Try.prog 13 [] s k := denFn_ok [] (cast (F13_ok s k).symm h)
theorem k13_ok : okFn Try.prog 13 = true := by kernel_rfl

/- conch conchlaw02.few -/
def F14 (l_0 : Value) (s : AS) (k : Value → AS → Prop) : Prop :=
 kJoin (fun _ s =>
 kJoin (fun _ s =>
 k (.bool true) s) fun J2 =>
 kLoop (fun again3 xs s =>
 un1 xs fun i_3 =>
 kJoin (fun _ s =>
 kJoin (fun _ s =>
 kBin .add i_3 (.int .i64 1) fun v12 =>
 again3 [v12] s) fun J5 =>
 kIdx 4 l_0 i_3 fun v15 =>
 kFld 3 v15 fun v16 =>
 kLd s v16 fun v17 =>
 kLen false v17 fun v18 =>
 kBin .gtr v18 (.int .i64 60) fun v19 =>
 kCond v19 (
 k (.bool false) s) (
 J5 [] s)) fun J4 =>
 kLen false l_0 fun v9 =>
 kBin .lss i_3 v9 fun v10 =>
 kCond v10 (
 J4 [] s) (
 J2 [] s)) [(.int .i64 0)] s) fun J1 =>
 kLen false l_0 fun v5 =>
 kBin .gtr v5 (.int .i64 60) fun v6 =>
 kCond v6 (
 k (.bool false) s) (
 J1 [] s)
theorem F14_ok (l_0 : Value) (s : AS) (k : Value → AS → Prop) : denFn Try.prog [] 14 [l_0] s k = F14 l_0 s k := by kernel_rfl
theorem f14 {l_0 : Value} {s : AS} {k : Value → AS → Prop} (h : F14 l_0 s k) : kCall Try.prog 14 [l_0] s k := denFn_ok [] (cast (F14_ok l_0 s k).symm h)
theorem k14_ok : okFn Try.prog 14 = true := by kernel_rfl

/- conch glob.Match -/
def F15 (l_0 s_1 : Value) (s : AS) (k : Value → AS → Prop) : Prop :=
 kCall Try.prog 25 [l_0, s_1] s fun v7 s =>
 kLen true s_1 fun v9 =>
 kIdx 1 v7 v9 fun v10 =>
 kLd s v10 fun v11 =>
 k v11 s
theorem F15_ok (l_0 s_1 : Value) (s : AS) (k : Value → AS → Prop) : denFn Try.prog [] 15 [l_0, s_1] s k = F15 l_0 s_1 s k := by kernel_rfl
theorem f15 {l_0 s_1 : Value} {s : AS} {k : Value → AS → Prop} (h : F15 l_0 s_1 s k) : kCall Try.prog 15 [l_0, s_1] s k := denFn_ok [] (cast (F15_ok l_0 s_1 s k).symm h)
theorem k15_ok : okFn Try.prog 15 = true := by kernel_rfl

/- conch conchref02.Match -/
def F16 (l_0 s_1 : Value) (s : AS) (k : Value → AS → Prop) : Prop :=
 kLen true s_1 fun v10 =>
 kBin .add v10 (.int .i64 1) fun v11 =>
 kMks s 1 1 [(.bool false)] v11 v11 fun v12 s =>
 kLen true s_1 fun v15 =>
 kIdx 1 v12 v15 fun v16 =>
 kSt s 1 v16 (.bool true) fun s =>
 kJoin (fun xs s =>
 un1 xs fun row_5 =>
 kIdx 1 row_5 (.int .i64 0) fun v86 =>
 kLd s v86 fun v87 =>
 k v87 s) fun J1 =>
 kLen false l_0 fun v18 =>
 kBin .sub v18 (.int .i64 1) fun v19 =>
 kLoop (fun again2 xs s =>
 un2 xs fun row_5 k_6 =>
 kJoin (fun _ s =>
 kJoin (fun xs s =>
 un1 xs fun row_5 =>
 kBin .sub k_6 (.int .i64 1) fun v23 =>
 again2 [row_5, v23] s) fun J4 =>
 kLen true s_1 fun v25 =>
 kBin .add v25 (.int .i64 1) fun v26 =>
 kMks s 1 1 [(.bool false)] v26 v26 fun v27 s =>
 kJoin (fun _ s =>
 J4 [v27] s) fun J5 =>
 kLen true s_1 fun v29 =>
 kLoop (fun again6 xs s =>
 un1 xs fun i_8 =>
 kJoin (fun _ s =>
 kJoin (fun _ s =>
 kBin .sub i_8 (.int .i64 1) fun v33 =>
 again6 [v33] s) fun J8 =>
 kIdx 4 l_0 k_6 fun v36 =>
 kFld 0 v36 fun v37 =>
 kLd s v37 fun v38 =>
 kBin .eql v38 (.int .i64 3) fun v39 =>
 kCond v39 (
 kIdx 1 row_5 i_8 fun v44 =>
 kLd s v44 fun v45 =>
 kGrd v45 false (fun k =>
 kLen true s_1 fun v49 =>
 kBin .lss i_8 v49 fun v50 =>
 k [v50] s) [undef] s fun xs s =>
 un1 xs fun v51 =>
 kGrd v51 true (fun k =>
 kBin .add i_8 (.int .i64 1) fun v54 =>
 kIdx 1 v27 v54 fun v55 =>
 kLd s v55 fun v56 =>
 k [v56] s) [undef] s fun xs s =>
 un1 xs fun v56 =>
 kGrd v45 false (fun k =>
 kPick v51 v56 (.bool false) fun v57 =>
 k [v57] s) [undef] s fun xs s =>
 un1 xs fun v57 =>
 kPick v45 (.bool true) v57 fun v58 =>
 kIdx 1 v27 i_8 fun v59 =>
 kSt s 1 v59 v58 fun s =>
 J8 [] s) (
 kLen true s_1 fun v64 =>
 kBin .lss i_8 v64 fun v65 =>
 kGrd v65 true (fun k =>
 kIdx 4 l_0 k_6 fun v69 =>
 kIxS s_1 i_8 fun v73 =>
 kLdN s 4 v69 fun v70 =>
 kCall Try.prog 26 [v70, v73] s fun v74 s =>
 k [v74] s) [undef] s fun xs s =>
 un1 xs fun v74 =>
 kPick v65 v74 (.bool false) fun v75 =>
 kGrd v75 true (fun k =>
 kBin .add i_8 (.int .i64 1) fun v79 =>
 kIdx 1 row_5 v79 fun v80 =>
 kLd s v80 fun v81 =>
 k [v81] s) [undef] s fun xs s =>
 un1 xs fun v81 =>
 kPick v75 v81 (.bool false) fun v82 =>
 kIdx 1 v27 i_8 fun v83 =>
 kSt s 1 v83 v82 fun s =>
 J8 [] s)) fun J7 =>
 kBin .geq i_8 (.int .i64 0) fun v31 =>
 kCond v31 (
 J7 [] s) (
 J5 [] s)) [v29] s) fun J3 =>
 kBin .geq k_6 (.int .i64 0) fun v21 =>
 kCond v21 (
 J3 [] s) (
 J1 [row_5] s)) [v12, v19] s
theorem F16_ok (l_0 s_1 : Value) (s : AS) (k : Value → AS → Prop) : denFn Try.prog [(12, (.go 0 (.go 1 (.go 2 (.go 3 (.go 4 (.go 5 (.go 6 (.go 7 (.go 8 (.go 9 (.go 11 (.go 12 (.go 13 (.go 10 (.go 14 (.go 15 (.go 16 (.go 17 (.go 18 (.go 19 (.go 20 (.go 21 (.go 22 (.go 23 (.go 24 .done))))))))))))))))))))))))))] 16 [l_0, s_1] s k = F16 l_0 s_1 s k := by kernel_rfl
theorem f16 {l_0 s_1 : Value} {s : AS} {k : Value → AS → Prop} (h : F16 l_0 s_1 s k) : kCall Try.prog 16 [l_0, s_1] s k := denFn_ok [(12, (.go 0 (.go 1 (.go 2 (.go 3 (.go 4 (.go 5 (.go 6 (.go 7 (.go 8 (.go 9 (.go 11 (.go 12 (.go 13 (.go 10 (.go 14 (.go 15 (.go 16 (.go 17 (.go 18 (.go 19 (.go 20 (.go 21 (.go 22 (.go 23 (.go 24 .done))))))))))))))))))))))))))] (cast (F16_ok l_0 s_1 s k).symm h)
theorem k16_ok : okFn Try.prog 16 = true := by kernel_rfl

/- conch glob.Special -/
def F17 (l_0 : Value) (s : AS) (k : Value → AS → Prop) : Prop :=
 kCall Try.prog 27 [l_0, (.func (.func 28) #[] #[])] s fun v4 s =>
 k v4 s
theorem F17_ok (l_0 : Value) (s : AS) (k : Value → AS → Prop) : denFn Try.prog [] 17 [l_0] s k = F17 l_0 s k := by kernel_rfl
theorem f17 {l_0 : Value} {s : AS} {k : Value → AS → Prop} (h : F17 l_0 s k) : kCall Try.prog 17 [l_0] s k := denFn_ok [] (cast (F17_ok l_0 s k).symm h)
theorem k17_ok : okFn Try.prog 17 = true := by kernel_rfl

/- conch conchref02.Special -/
def F18 (l_0 : Value) (s : AS) (k : Value → AS → Prop) : Prop :=
 kJoin (fun _ s =>
 k (.bool false) s) fun J1 =>
 kLoop (fun again2 xs s =>
 un1 xs fun i_3 =>
 kJoin (fun _ s =>
 kJoin (fun _ s =>
 kBin .add i_3 (.int .i64 1) fun v9 =>
 again2 [v9] s) fun J4 =>
 kIdx 4 l_0 i_3 fun v12 =>
 kFld 0 v12 fun v13 =>
 kLd s v13 fun v14 =>
 kBin .neq v14 (.int .i64 1) fun v15 =>
 kCond v15 (
 k (.bool true) s) (
 J4 [] s)) fun J3 =>
 kLen false l_0 fun v6 =>
 kBin .lss i_3 v6 fun v7 =>
 kCond v7 (
 J3 [] s) (
 J1 [] s)) [(.int .i64 0)] s
theorem F18_ok (l_0 : Value) (s : AS) (k : Value → AS → Prop) : denFn Try.prog [] 18 [l_0] s k = F18 l_0 s k := by kernel_rfl
theorem f18 {l_0 : Value} {s : AS} {k : Value → AS → Prop} (h : F18 l_0 s k) : kCall Try.prog 18 [l_0] s k := denFn_ok [] (cast (F18_ok l_0 s k).symm h)
theorem k18_ok : okFn Try.prog 18 = true := by kernel_rfl

/- conch glob.Front -/
def F19 (l_0 s_1 longest_2 : Value) (s : AS) (k : Value → AS → Prop) : Prop :=
 kJoin (fun xs s =>
 un1 xs fun at_7 =>
 k at_7 s) fun J1 =>
 kCall Try.prog 25 [l_0, s_1] s fun v12 s =>
 kLen false v12 fun v13 =>
 kLoop (fun again2 xs s =>
 un2 xs fun at_7 v14 =>
 kBin .lss v14 v13 fun v15 =>
 kJoin (fun _ s =>
 kJoin (fun xs s =>
 un1 xs fun at_7 =>
 kBin .add v14 (.int .i64 1) fun v28 =>
 again2 [at_7, v28] s) fun J4 =>
 kIdx 1 v12 v14 fun v17 =>
 kLd s v17 fun v18 =>
 kGrd v18 true (fun k =>
 kBin .lss at_7 (.int .i64 0) fun v22 =>
 k [v22] s) [undef] s fun xs s =>
 un1 xs fun v23 =>
 kGrd v23 false (fun k =>
 k [longest_2] s) [undef] s fun xs s =>
 un1 xs fun v24 =>
 kGrd v18 true (fun k =>
 kPick v23 (.bool true) v24 fun v25 =>
 k [v25] s) [undef] s fun xs s =>
 un1 xs fun v25 =>
 kPick v18 v25 (.bool false) fun v26 =>
 kCond v26 (
 J4 [v14] s) (
 J4 [at_7] s)) fun J3 =>
 kCond v15 (
 J3 [] s) (
 J1 [at_7] s)) [(.int .i64 (-1)), (.int .i64 0)] s
theorem F19_ok (l_0 s_1 longest_2 : Value) (s : AS) (k : Value → AS → Prop) : denFn Try.prog [] 19 [l_0, s_1, longest_2] s k = F19 l_0 s_1 longest_2 s k := by kernel_rfl
theorem f19 {l_0 s_1 longest_2 : Value} {s : AS} {k : Value → AS → Prop} (h : F19 l_0 s_1 longest_2 s k) : kCall Try.prog 19 [l_0, s_1, longest_2] s k := denFn_ok [] (cast (F19_ok l_0 s_1 longest_2 s k).symm h)
theorem k19_ok : okFn Try.prog 19 = true := by kernel_rfl

/- conch conchref02.Front -/
def F20 (l_0 s_1 longest_2 : Value) (s : AS) (k : Value → AS → Prop) : Prop :=
 kJoin (fun xs s =>
 un1 xs fun at_7 =>
 k at_7 s) fun J1 =>
 kLoop (fun again2 xs s =>
 un2 xs fun at_7 n_8 =>
 kJoin (fun _ s =>
 kJoin (fun xs s =>
 un1 xs fun at_7 =>
 kBin .add n_8 (.int .i64 1) fun v14 =>
 again2 [at_7, v14] s) fun J4 =>
 kSubS s_1 none (some n_8) fun v18 =>
 kCall Try.prog 16 [l_0, v18] s fun v19 s =>
 kGrd v19 true (fun k =>
 kBin .lss at_7 (.int .i64 0) fun v22 =>
 k [v22] s) [undef] s fun xs s =>
 un1 xs fun v23 =>
 kGrd v23 false (fun k =>
 k [longest_2] s) [undef] s fun xs s =>
 un1 xs fun v24 =>
 kGrd v19 true (fun k =>
 kPick v23 (.bool true) v24 fun v25 =>
 k [v25] s) [undef] s fun xs s =>
 un1 xs fun v25 =>
 kPick v19 v25 (.bool false) fun v26 =>
 kCond v26 (
 J4 [n_8] s) (
 J4 [at_7] s)) fun J3 =>
 kLen true s_1 fun v11 =>
 kBin .leq n_8 v11 fun v12 =>
 kCond v12 (
 J3 [] s) (
 J1 [at_7] s)) [(.int .i64 (-1)), (.int .i64 0)] s
theorem F20_ok (l_0 s_1 longest_2 : Value) (s : AS) (k : Value → AS → Prop) : denFn Try.prog [] 20 [l_0, s_1, longest_2] s k = F20 l_0 s_1 longest_2 s k := by kernel_rfl
theorem f20 {l_0 s_1 longest_2 : Value} {s : AS} {k : Value → AS → Prop} (h : F20 l_0 s_1 longest_2 s k) : kCall Try.prog 20 [l_0, s_1, longest_2] s k := denFn_ok [] (cast (F20_ok l_0 s_1 longest_2 s k).symm h)
theorem k20_ok : okFn Try.prog 20 = true := by kernel_rfl

/- conch glob.Back -/
def F21 (l_0 s_1 longest_2 : Value) (s : AS) (k : Value → AS → Prop) : Prop :=
 kJoin (fun xs s =>
 un1 xs fun at_7 =>
 k at_7 s) fun J1 =>
 kLen true s_1 fun v10 =>
 kBin .add v10 (.int .i64 1) fun v11 =>
 kLoop (fun again2 xs s =>
 un2 xs fun at_7 v12 =>
 kBin .lss v12 v11 fun v13 =>
 kJoin (fun _ s =>
 kJoin (fun xs s =>
 un1 xs fun at_7 =>
 kBin .add v12 (.int .i64 1) fun v31 =>
 again2 [at_7, v31] s) fun J4 =>
 kBin .lss at_7 (.int .i64 0) fun v16 =>
 kGrd v16 false (fun k =>
 k [longest_2] s) [undef] s fun xs s =>
 un1 xs fun v18 =>
 kPick v16 (.bool true) v18 fun v19 =>
 kGrd v19 true (fun k =>
 kLen true s_1 fun v24 =>
 kBin .sub v24 v12 fun v26 =>
 kSubS s_1 (some v26) none fun v27 =>
 kCall Try.prog 15 [l_0, v27] s fun v28 s =>
 k [v28] s) [undef] s fun xs s =>
 un1 xs fun v28 =>
 kPick v19 v28 (.bool false) fun v29 =>
 kCond v29 (
 J4 [v12] s) (
 J4 [at_7] s)) fun J3 =>
 kCond v13 (
 J3 [] s) (
 J1 [at_7] s)) [(.int .i64 (-1)), (.int .i64 0)] s
theorem F21_ok (l_0 s_1 longest_2 : Value) (s : AS) (k : Value → AS → Prop) : denFn Try.prog [] 21 [l_0, s_1, longest_2] s k = F21 l_0 s_1 longest_2 s k := by kernel_rfl
theorem f21 {l_0 s_1 longest_2 : Value} {s : AS} {k : Value → AS → Prop} (h : F21 l_0 s_1 longest_2 s k) : kCall Try.prog 21 [l_0, s_1, longest_2] s k := denFn_ok [] (cast (F21_ok l_0 s_1 longest_2 s k).symm h)
theorem k21_ok : okFn Try.prog 21 = true := by kernel_rfl

/- conch conchref02.Back -/
def F22 (l_0 s_1 longest_2 : Value) (s : AS) (k : Value → AS → Prop) : Prop :=
 kJoin (fun xs s =>
 un1 xs fun at_7 =>
 k at_7 s) fun J1 =>
 kLoop (fun again2 xs s =>
 un2 xs fun at_7 n_8 =>
 kJoin (fun _ s =>
 kJoin (fun xs s =>
 un1 xs fun at_7 =>
 kBin .add n_8 (.int .i64 1) fun v14 =>
 again2 [at_7, v14] s) fun J4 =>
 kLen true s_1 fun v18 =>
 kBin .sub v18 n_8 fun v20 =>
 kSubS s_1 (some v20) none fun v21 =>
 kCall Try.prog 16 [l_0, v21] s fun v22 s =>
 kGrd v22 true (fun k =>
 kBin .lss at_7 (.int .i64 0) fun v25 =>
 k [v25] s) [undef] s fun xs s =>
 un1 xs fun v26 =>
 kGrd v26 false (fun k =>
 k [longest_2] s) [undef] s fun xs s =>
 un1 xs fun v27 =>
 kGrd v22 true (fun k =>
 kPick v26 (.bool true) v27 fun v28 =>
 k [v28] s) [undef] s fun xs s =>
 un1 xs fun v28 =>
 kPick v22 v28 (.bool false) fun v29 =>
 kCond v29 (
 J4 [n_8] s) (
 J4 [at_7] s)) fun J3 =>
 kLen true s_1 fun v11 =>
 kBin .leq n_8 v11 fun v12 =>
 kCond v12 (
 J3 [] s) (
 J1 [at_7] s)) [(.int .i64 (-1)), (.int .i64 0)] s
theorem F22_ok (l_0 s_1 longest_2 : Value) (s : AS) (k : Value → AS → Prop) : denFn Try.prog [] 22 [l_0, s_1, longest_2] s k = F22 l_0 s_1 longest_2 s k := by kernel_rfl
theorem f22 {l_0 s_1 longest_2 : Value} {s : AS} {k : Value → AS → Prop} (h : F22 l_0 s_1 longest_2 s k) : kCall Try.prog 22 [l_0, s_1, longest_2] s k := denFn_ok [] (cast (F22_ok l_0 s_1 longest_2 s k).symm h)
theorem k22_ok : okFn Try.prog 22 = true := by kernel_rfl

/- (conch glob.pattern).tokens -/
def F23 (p_0 : Value) (s : AS) (k : Value → AS → Prop) : Prop :=
 kNew s (cellsV p_0) fun p_1 s =>
 k (.func (.func 29) #[] #[p_1]) s
theorem F23_ok (p_0 : Value) (s : AS) (k : Value → AS → Prop) : denFn Try.prog [] 23 [p_0] s k = F23 p_0 s k := by kernel_rfl
theorem f23 {p_0 : Value} {s : AS} {k : Value → AS → Prop} (h : F23 p_0 s k) : kCall Try.prog 23 [p_0] s k := denFn_ok [] (cast (F23_ok p_0 s k).symm h)
theorem k23_ok : okFn Try.prog 23 = true := by kernel_rfl

/- conch conchref02.is -/
def F24 (s_0 quoted_1 i_2 c_3 : Value) (s : AS) (k : Value → AS → Prop) : Prop :=
 kJoin (fun _ s =>
 kLen false quoted_1 fun v22 =>
 kBin .geq i_2 v22 fun v23 =>
 kGrd v23 false (fun k =>
 kIdx 1 quoted_1 i_2 fun v27 =>
 kLd s v27 fun v28 =>
 kUn .not v28 fun v29 =>
 k [v29] s) [undef] s fun xs s =>
 un1 xs fun v29 =>
 kPick v23 (.bool true) v29 fun v30 =>
 k v30 s) fun J1 =>
 kLen true s_0 fun v11 =>
 kBin .geq i_2 v11 fun v12 =>
 kGrd v12 false (fun k =>
 kIxS s_0 i_2 fun v16 =>
 kBin .neq v16 c_3 fun v18 =>
 k [v18] s) [undef] s fun xs s =>
 un1 xs fun v18 =>
 kPick v12 (.bool true) v18 fun v19 =>
 kCond v19 (
 k (.bool false) s) (
 J1 [] s)
theorem F24_ok (s_0 quoted_1 i_2 c_3 : Value) (s : AS) (k : Value → AS → Prop) : denFn Try.prog [] 24 [s_0, quoted_1, i_2, c_3] s k = F24 s_0 quoted_1 i_2 c_3 s k := by kernel_rfl
theorem f24 {s_0 quoted_1 i_2 c_3 : Value} {s : AS} {k : Value → AS → Prop} (h : F24 s_0 quoted_1 i_2 c_3 s k) : kCall Try.prog 24 [s_0, quoted_1, i_2, c_3] s k := denFn_ok [] (cast (F24_ok s_0 quoted_1 i_2 c_3 s k).symm h)
theorem k24_ok : okFn Try.prog 24 = true := by kernel_rfl

/- conch glob.reach -/
def F25 (l_0 s_1 : Value) (s : AS) (k : Value → AS → Prop) : Prop :=
 kLen true s_1 fun v12 =>
 kBin .add v12 (.int .i64 1) fun v13 =>
 kMks s 1 1 [(.bool false)] v13 v13 fun v14 s =>
 kIdx 1 v14 (.int .i64 0) fun v16 =>
 kSt s 1 v16 (.bool true) fun s =>
 kJoin (fun xs s =>
 un1 xs fun now_5 =>
 k now_5 s) fun J1 =>
 kLen false l_0 fun v18 =>
 kLoop (fun again2 xs s =>
 un2 xs fun now_5 v19 =>
 kBin .lss v19 v18 fun v20 =>
 kJoin (fun _ s =>
 kJoin (fun xs s =>
 un1 xs fun now_5 =>
 kBin .add v19 (.int .i64 1) fun v75 =>
 again2 [now_5, v75] s) fun J4 =>
 kIdx 4 l_0 v19 fun v21 =>
 kLdN s 4 v21 fun v22 =>
 kNew s [(.int .i64 0), (.int .u8 0), (.bool false), (.slice none 0 0)] fun t_7 s =>
 kSt s 4 t_7 v22 fun s =>
 kLen true s_1 fun v24 =>
 kBin .add v24 (.int .i64 1) fun v25 =>
 kMks s 1 1 [(.bool false)] v25 v25 fun v26 s =>
 kJoin (fun _ s =>
 J4 [v26] s) fun J5 =>
 kFld 0 t_7 fun v27 =>
 kLd s v27 fun v28 =>
 kBin .eql v28 (.int .i64 3) fun v29 =>
 kCond v29 (
 kCpy Try.prog 22 22 v26 now_5 s fun v32 s =>
 kLoop (fun again6 xs s =>
 un1 xs fun i_9 =>
 kJoin (fun _ s =>
 kJoin (fun _ s =>
 kBin .add i_9 (.int .i64 1) fun v38 =>
 again6 [v38] s) fun J8 =>
 kIdx 1 v26 i_9 fun v43 =>
 kLd s v43 fun v44 =>
 kGrd v44 false (fun k =>
 kBin .sub i_9 (.int .i64 1) fun v48 =>
 kIdx 1 v26 v48 fun v49 =>
 kLd s v49 fun v50 =>
 k [v50] s) [undef] s fun xs s =>
 un1 xs fun v50 =>
 kPick v44 (.bool true) v50 fun v51 =>
 kIdx 1 v26 i_9 fun v52 =>
 kSt s 1 v52 v51 fun s =>
 J8 [] s) fun J7 =>
 kLen true s_1 fun v35 =>
 kBin .leq i_9 v35 fun v36 =>
 kCond v36 (
 J7 [] s) (
 J5 [] s)) [(.int .i64 1)] s) (
 kLen true s_1 fun v54 =>
 kLoop (fun again9 xs s =>
 un1 xs fun v55 =>
 kBin .lss v55 v54 fun v56 =>
 kJoin (fun _ s =>
 kJoin (fun _ s =>
 kBin .add v55 (.int .i64 1) fun v73 =>
 again9 [v73] s) fun J11 =>
 kBin .add v55 (.int .i64 1) fun v60 =>
 kIdx 1 now_5 v55 fun v63 =>
 kLd s v63 fun v64 =>
 kGrd v64 true (fun k =>
 kIxS s_1 v55 fun v69 =>
 kLdN s 4 t_7 fun v66 =>
 kCall Try.prog 32 [v66, v69] s fun v70 s =>
 k [v70] s) [undef] s fun xs s =>
 un1 xs fun v70 =>
 kPick v64 v70 (.bool false) fun v71 =>
 kIdx 1 v26 v60 fun v72 =>
 kSt s 1 v72 v71 fun s =>
 J11 [] s) fun J10 =>
 kCond v56 (
 J10 [] s) (
 J5 [] s)) [(.int .i64 0)] s)) fun J3 =>
 kCond v20 (
 J3 [] s) (
 J1 [now_5] s)) [v14, (.int .i64 0)] s
theorem F25_ok (l_0 s_1 : Value) (s : AS) (k : Value → AS → Prop) : denFn Try.prog [(16, (.go 0 (.go 1 (.go 2 (.go 3 (.go 4 (.go 5 (.go 6 (.go 7 (.go 9 (.go 10 (.go 11 (.go 8 (.go 12 (.go 13 (.go 14 (.go 15 .done)))))))))))))))))] 25 [l_0, s_1] s k = F25 l_0 s_1 s k := by kernel_rfl
theorem f25 {l_0 s_1 : Value} {s : AS} {k : Value → AS → Prop} (h : F25 l_0 s_1 s k) : kCall Try.prog 25 [l_0, s_1] s k := denFn_ok [(16, (.go 0 (.go 1 (.go 2 (.go 3 (.go 4 (.go 5 (.go 6 (.go 7 (.go 9 (.go 10 (.go 11 (.go 8 (.go 12 (.go 13 (.go 14 (.go 15 .done)))))))))))))))))] (cast (F25_ok l_0 s_1 s k).symm h)
theorem k25_ok : okFn Try.prog 25 = true := by kernel_rfl

/- conch conchref02.fits -/
def F26 (t_0 c_1 : Value) (s : AS) (k : Value → AS → Prop) : Prop :=
 kNew s (cellsV t_0) fun t_2 s =>
 kJoin (fun _ s =>
 k (.bool false) s) fun J1 =>
 kFld 0 t_2 fun v7 =>
 kLd s v7 fun v8 =>
 kBin .eql v8 (.int .i64 1) fun v10 =>
 kCond v10 (
 kFld 1 t_2 fun v11 =>
 kLd s v11 fun v12 =>
 kBin .eql v12 c_1 fun v14 =>
 k v14 s) (
 kBin .eql v8 (.int .i64 2) fun v16 =>
 kCond v16 (
 k (.bool true) s) (
 kBin .eql v8 (.int .i64 4) fun v18 =>
 kCond v18 (
 kJoin (fun xs s =>
 un1 xs fun in_5 =>
 kFld 2 t_2 fun v48 =>
 kLd s v48 fun v49 =>
 kEq 4 true in_5 v49 fun v50 =>
 k v50 s) fun J2 =>
 kLoop (fun again3 xs s =>
 un2 xs fun in_5 i_6 =>
 kJoin (fun _ s =>
 kJoin (fun xs s =>
 un1 xs fun in_5 =>
 kBin .add i_6 (.int .i64 1) fun v25 =>
 again3 [in_5, v25] s) fun J5 =>
 kGrd in_5 false (fun k =>
 kFld 3 t_2 fun v29 =>
 kLd s v29 fun v30 =>
 kIdx 2 v30 i_6 fun v32 =>
 kFld 0 v32 fun v33 =>
 kLd s v33 fun v34 =>
 kBin .geq c_1 v34 fun v35 =>
 k [v35] s) [undef] s fun xs s =>
 un1 xs fun v36 =>
 kGrd v36 true (fun k =>
 kFld 3 t_2 fun v38 =>
 kLd s v38 fun v39 =>
 kIdx 2 v39 i_6 fun v41 =>
 kFld 1 v41 fun v42 =>
 kLd s v42 fun v43 =>
 kBin .leq c_1 v43 fun v44 =>
 k [v44] s) [undef] s fun xs s =>
 un1 xs fun v44 =>
 kGrd in_5 false (fun k =>
 kPick v36 v44 (.bool false) fun v45 =>
 k [v45] s) [undef] s fun xs s =>
 un1 xs fun v45 =>
 kPick in_5 (.bool true) v45 fun v46 =>
 J5 [v46] s) fun J4 =>
 kFld 3 t_2 fun v20 =>
 kLd s v20 fun v21 =>
 kLen false v21 fun v22 =>
 kBin .lss i_6 v22 fun v23 =>
 kCond v23 (
 J4 [] s) (
 J2 [in_5] s)) [(.bool false), (.int .i64 0)] s) (
 J1 [] s)))
theorem F26_ok (t_0 c_1 : Value) (s : AS) (k : Value → AS → Prop) : denFn Try.prog [] 26 [t_0, c_1] s k = F26 t_0 c_1 s k := by kernel_rfl
theorem f26 {t_0 c_1 : Value} {s : AS} {k : Value → AS → Prop} (h : F26 t_0 c_1 s k) : kCall Try.prog 26 [t_0, c_1] s k := denFn_ok [] (cast (F26_ok t_0 c_1 s k).symm h)
theorem k26_ok : okFn Try.prog 26 = true := by kernel_rfl

/- slices.ContainsFunc[[]conch glob.Token,conch glob.Token] -/
def F27 (s_0 f_1 : Value) (s : AS) (k : Value → AS → Prop) : Prop :=
 kCall Try.prog 33 [s_0, f_1] s fun v7 s =>
 kBin .geq v7 (.int .i64 0) fun v8 =>
 k v8 s
theorem F27_ok (s_0 f_1 : Value) (s : AS) (k : Value → AS → Prop) : denFn Try.prog [] 27 [s_0, f_1] s k = F27 s_0 f_1 s k := by kernel_rfl
theorem f27 {s_0 f_1 : Value} {s : AS} {k : Value → AS → Prop} (h : F27 s_0 f_1 s k) : kCall Try.prog 27 [s_0, f_1] s k := denFn_ok [] (cast (F27_ok s_0 f_1 s k).symm h)
theorem k27_ok : okFn Try.prog 27 = true := by kernel_rfl

/- conch glob.Special$1 -/
def F28 (t_0 : Value) (s : AS) (k : Value → AS → Prop) : Prop :=
 kNew s (cellsV t_0) fun t_1 s =>
 kFld 0 t_1 fun v3 =>
 kLd s v3 fun v4 =>
 kBin .neq v4 (.int .i64 1) fun v5 =>
 k v5 s
theorem F28_ok (t_0 : Value) (s : AS) (k : Value → AS → Prop) : denFn Try.prog [] 28 [t_0] s k = F28 t_0 s k := by kernel_rfl
theorem f28 {t_0 : Value} {s : AS} {k : Value → AS → Prop} (h : F28 t_0 s k) : kCall Try.prog 28 [t_0] s k := denFn_ok [] (cast (F28_ok t_0 s k).symm h)
theorem k28_ok : okFn Try.prog 28 = true := by kernel_rfl

/- (conch glob.pattern).tokens$1 -/
def F29 (yield_0 v1 : Value) (s : AS) (k : Value → AS → Prop) : Prop :=
 kLoop (fun again1 xs s =>
 un1 xs fun i_3 =>
 kJoin (fun _ s =>
 kFld 0 v1 fun v14 =>
 kLd s v14 fun v15 =>
 kIxS v15 i_3 fun v17 =>
 kBuild [(.int .i64 0), (.int .u8 0), (.bool false), (.slice none 0 0)] [(0, 1, (.int .i64 1)), (1, 1, v17)] fun v18 =>
 kBin .add i_3 (.int .i64 1) fun v20 =>
 kNew s [(.int .i64 0), (.int .u8 0), (.bool false), (.slice none 0 0)] fun t_4 s =>
 kSt s 4 t_4 v18 fun s =>
 kJoin (fun xs s =>
 un1 xs fun next_5 =>
 kJoin (fun _ s =>
 again1 [next_5] s) fun J4 =>
 kLdN s 4 t_4 fun v46 =>
 kCallv Try.prog yield_0 [v46] s fun v47 s =>
 kUn .not v47 fun v48 =>
 kCond v48 (
 k undef s) (
 J4 [] s)) fun J3 =>
 kLdN s 2 v1 fun v22 =>
 kCall Try.prog 30 [v22, i_3, (.int .u8 63)] s fun v24 s =>
 kCond v24 (
 kBuild [(.int .i64 0), (.int .u8 0), (.bool false), (.slice none 0 0)] [(0, 1, (.int .i64 2))] fun v25 =>
 kSt s 4 t_4 v25 fun s =>
 J3 [v20] s) (
 kLdN s 2 v1 fun v27 =>
 kCall Try.prog 30 [v27, i_3, (.int .u8 42)] s fun v29 s =>
 kCond v29 (
 kBuild [(.int .i64 0), (.int .u8 0), (.bool false), (.slice none 0 0)] [(0, 1, (.int .i64 3))] fun v30 =>
 kSt s 4 t_4 v30 fun s =>
 J3 [v20] s) (
 kLdN s 2 v1 fun v32 =>
 kCall Try.prog 30 [v32, i_3, (.int .u8 91)] s fun v34 s =>
 kCond v34 (
 kLdN s 2 v1 fun v36 =>
 kCall Try.prog 31 [v36, i_3] s fun v38 s =>
 kExt 0 v38 fun v39 =>
 kExt 1 v38 fun v40 =>
 kExt 2 v38 fun v41 =>
 kNew s [(.int .i64 0), (.int .u8 0), (.bool false), (.slice none 0 0)] fun c_6 s =>
 kSt s 4 c_6 v39 fun s =>
 kCond v41 (
 kLdN s 4 c_6 fun v43 =>
 kSt s 4 t_4 v43 fun s =>
 J3 [v40] s) (
 J3 [v20] s)) (
 J3 [v20] s)))) fun J2 =>
 kFld 0 v1 fun v10 =>
 kLd s v10 fun v11 =>
 kLen true v11 fun v12 =>
 kBin .lss i_3 v12 fun v13 =>
 kCond v13 (
 J2 [] s) (
 k undef s)) [(.int .i64 0)] s
theorem F29_ok (yield_0 v1 : Value) (s : AS) (k : Value → AS → Prop) : denFn Try.prog [] 29 [yield_0, v1] s k = F29 yield_0 v1 s k := by kernel_rfl
theorem f29 {yield_0 v1 : Value} {s : AS} {k : Value → AS → Prop} (h : F29 yield_0 v1 s k) : kCall Try.prog 29 [yield_0, v1] s k := denFn_ok [] (cast (F29_ok yield_0 v1 s k).symm h)
theorem k29_ok : okFn Try.prog 29 = true := by kernel_rfl

/- (conch glob.pattern).plain -/
def F30 (p_0 i_1 c_2 : Value) (s : AS) (k : Value → AS → Prop) : Prop :=
 kNew s (cellsV p_0) fun p_3 s =>
 kFld 0 p_3 fun v8 =>
 kLd s v8 fun v9 =>
 kLen true v9 fun v10 =>
 kBin .lss i_1 v10 fun v11 =>
 kGrd v11 true (fun k =>
 kFld 0 p_3 fun v13 =>
 kLd s v13 fun v14 =>
 kIxS v14 i_1 fun v16 =>
 kBin .eql v16 c_2 fun v18 =>
 k [v18] s) [undef] s fun xs s =>
 un1 xs fun v18 =>
 kPick v11 v18 (.bool false) fun v19 =>
 kGrd v19 true (fun k =>
 kFld 1 p_3 fun v22 =>
 kLd s v22 fun v23 =>
 kLen false v23 fun v24 =>
 kBin .geq i_1 v24 fun v25 =>
 k [v25] s) [undef] s fun xs s =>
 un1 xs fun v26 =>
 kGrd v26 false (fun k =>
 kFld 1 p_3 fun v27 =>
 kLd s v27 fun v28 =>
 kIdx 1 v28 i_1 fun v30 =>
 kLd s v30 fun v31 =>
 kUn .not v31 fun v32 =>
 k [v32] s) [undef] s fun xs s =>
 un1 xs fun v32 =>
 kGrd v19 true (fun k =>
 kPick v26 (.bool true) v32 fun v33 =>
 k [v33] s) [undef] s fun xs s =>
 un1 xs fun v33 =>
 kPick v19 v33 (.bool false) fun v34 =>
 k v34 s
theorem F30_ok (p_0 i_1 c_2 : Value) (s : AS) (k : Value → AS → Prop) : denFn Try.prog [] 30 [p_0, i_1, c_2] s k = F30 p_0 i_1 c_2 s k := by kernel_rfl
theorem f30 {p_0 i_1 c_2 : Value} {s : AS} {k : Value → AS → Prop} (h : F30 p_0 i_1 c_2 s k) : kCall Try.prog 30 [p_0, i_1, c_2] s k := denFn_ok [] (cast (F30_ok p_0 i_1 c_2 s k).symm h)
theorem k30_ok : okFn Try.prog 30 = true := by kernel_rfl

/- (conch glob.pattern).class -/
def F31 (p_0 i_1 : Value) (s : AS) (k : Value → AS → Prop) : Prop :=
 kNew s (cellsV p_0) fun p_2 s =>
 kNew s [(.int .i64 0), (.int .u8 0), (.bool false), (.slice none 0 0)] fun v4 s =>
 kBuild [(.int .i64 0), (.int .u8 0), (.bool false), (.slice none 0 0)] [(0, 1, (.int .i64 4))] fun v9 =>
 kNew s [(.int .i64 0), (.int .u8 0), (.bool false), (.slice none 0 0)] fun t_7 s =>
 kSt s 4 t_7 v9 fun s =>
 kBin .add i_1 (.int .i64 1) fun v11 =>
 kJoin (fun xs s =>
 un1 xs fun i_1 =>
 kBin .add i_1 (.int .i64 1) fun v19 =>
 kJoin (fun xs s =>
 un1 xs fun end_8 =>
 kJoin (fun _ s =>
 kJoin (fun _ s =>
 kLdN s 4 t_7 fun v85 =>
 kBin .add end_8 (.int .i64 1) fun v87 =>
 kSt s 4 v4 v85 fun s =>
 kLdN s 4 v4 fun r0 =>
 k (.tuple #[r0, v87, (.bool true)]) s) fun J4 =>
 kLoop (fun again5 xs s =>
 un1 xs fun i_1 =>
 kJoin (fun _ s =>
 kJoin (fun xs s =>
 un1 xs fun i_1 =>
 kFld 3 t_7 fun v69 =>
 kFld 0 p_2 fun v71 =>
 kFld 0 p_2 fun v75 =>
 kLd s v69 fun v70 =>
 kLd s v71 fun v72 =>
 kIxS v72 i_1 fun v74 =>
 kLd s v75 fun v76 =>
 kIxS v76 i_1 fun v78 =>
 kBuild [(.int .u8 0), (.int .u8 0)] [(0, 1, v74), (1, 1, v78)] fun v79 =>
 kBsl s 1 [(.int .u8 0), (.int .u8 0)] [(0, 2, v79)] fun v80 s =>
 kChk s v69 v70 (
 kApp Try.prog 45 45 v70 v80 s fun v81 s =>
 kFld 3 t_7 fun v82 =>
 kSt s 1 v82 v81 fun s =>
 kBin .add i_1 (.int .i64 1) fun v84 =>
 again5 [v84] s)) fun J7 =>
 kBin .add i_1 (.int .i64 2) fun v43 =>
 kBin .lss v43 end_8 fun v45 =>
 kGrd v45 true (fun k =>
 kLdN s 2 p_2 fun v47 =>
 kBin .add i_1 (.int .i64 1) fun v49 =>
 kCall Try.prog 30 [v47, v49, (.int .u8 45)] s fun v50 s =>
 k [v50] s) [undef] s fun xs s =>
 un1 xs fun v50 =>
 kPick v45 v50 (.bool false) fun v51 =>
 kCond v51 (
 kFld 3 t_7 fun v52 =>
 kFld 0 p_2 fun v54 =>
 kFld 0 p_2 fun v58 =>
 kBin .add i_1 (.int .i64 2) fun v61 =>
 kLd s v52 fun v53 =>
 kLd s v54 fun v55 =>
 kIxS v55 i_1 fun v57 =>
 kLd s v58 fun v59 =>
 kIxS v59 v61 fun v62 =>
 kBuild [(.int .u8 0), (.int .u8 0)] [(0, 1, v57), (1, 1, v62)] fun v63 =>
 kBsl s 1 [(.int .u8 0), (.int .u8 0)] [(0, 2, v63)] fun v64 s =>
 kChk s v52 v53 (
 kApp Try.prog 45 45 v53 v64 s fun v65 s =>
 kFld 3 t_7 fun v66 =>
 kSt s 1 v66 v65 fun s =>
 kBin .add i_1 (.int .i64 3) fun v68 =>
 again5 [v68] s)) (
 J7 [i_1] s)) fun J6 =>
 kBin .lss i_1 end_8 fun v41 =>
 kCond v41 (
 J6 [] s) (
 J4 [] s)) [i_1] s) fun J3 =>
 kFld 0 p_2 fun v34 =>
 kLd s v34 fun v35 =>
 kLen true v35 fun v36 =>
 kBin .geq end_8 v36 fun v37 =>
 kCond v37 (
 kBuild [(.int .i64 0), (.int .u8 0), (.bool false), (.slice none 0 0)] [] fun v38 =>
 kSt s 4 v4 v38 fun s =>
 kLdN s 4 v4 fun r0 =>
 k (.tuple #[r0, (.int .i64 0), (.bool false)]) s) (
 J3 [] s)) fun J2 =>
 kLoop (fun again8 xs s =>
 un1 xs fun end_8 =>
 kJoin (fun _ s =>
 kBin .add end_8 (.int .i64 1) fun v32 =>
 again8 [v32] s) fun J9 =>
 kFld 0 p_2 fun v21 =>
 kLd s v21 fun v22 =>
 kLen true v22 fun v23 =>
 kBin .lss end_8 v23 fun v24 =>
 kGrd v24 true (fun k =>
 kLdN s 2 p_2 fun v26 =>
 kCall Try.prog 30 [v26, end_8, (.int .u8 93)] s fun v28 s =>
 kUn .not v28 fun v29 =>
 k [v29] s) [undef] s fun xs s =>
 un1 xs fun v29 =>
 kPick v24 v29 (.bool false) fun v30 =>
 kCond v30 (
 J9 [] s) (
 J2 [end_8] s)) [v19] s) fun J1 =>
 kLdN s 2 p_2 fun v12 =>
 kCall Try.prog 30 [v12, v11, (.int .u8 33)] s fun v14 s =>
 kCond v14 (
 kFld 2 t_7 fun v15 =>
 kSt s 1 v15 (.bool true) fun s =>
 kBin .add v11 (.int .i64 1) fun v17 =>
 J1 [v17] s) (
 J1 [v11] s)
theorem F31_ok (p_0 i_1 : Value) (s : AS) (k : Value → AS → Prop) : denFn Try.prog [(13, (.go 0 (.go 2 (.go 4 (.go 6 (.go 8 (.go 9 (.go 1 (.go 3 (.go 5 (.go 7 (.go 10 (.go 11 (.go 12 (.go 13 (.go 14 (.go 15 .done))))))))))))))))), (15, (.go 0 (.go 2 (.go 4 (.go 6 (.go 8 (.go 1 (.go 3 (.go 5 (.go 7 (.go 9 (.go 10 (.go 11 (.go 12 (.go 13 (.go 14 .done))))))))))))))))] 31 [p_0, i_1] s k = F31 p_0 i_1 s k := by kernel_rfl
theorem f31 {p_0 i_1 : Value} {s : AS} {k : Value → AS → Prop} (h : F31 p_0 i_1 s k) : kCall Try.prog 31 [p_0, i_1] s k := denFn_ok [(13, (.go 0 (.go 2 (.go 4 (.go 6 (.go 8 (.go 9 (.go 1 (.go 3 (.go 5 (.go 7 (.go 10 (.go 11 (.go 12 (.go 13 (.go 14 (.go 15 .done))))))))))))))))), (15, (.go 0 (.go 2 (.go 4 (.go 6 (.go 8 (.go 1 (.go 3 (.go 5 (.go 7 (.go 9 (.go 10 (.go 11 (.go 12 (.go 13 (.go 14 .done))))))))))))))))] (cast (F31_ok p_0 i_1 s k).symm h)
theorem k31_ok : okFn Try.prog 31 = true := by kernel_rfl

/- (conch glob.Token).has -/
def F32 (t_0 c_1 : Value) (s : AS) (k : Value → AS → Prop) : Prop :=
 kNew s (cellsV t_0) fun t_2 s =>
 kNew s (cellsV c_1) fun c_3 s =>
 kJoin (fun _ s =>
 k (.bool false) s) fun J1 =>
 kFld 0 t_2 fun v5 =>
 kLd s v5 fun v6 =>
 kBin .eql v6 (.int .i64 1) fun v8 =>
 kCond v8 (
 kFld 1 t_2 fun v9 =>
 kLd s v9 fun v10 =>
 kLd s c_3 fun v11 =>
 kBin .eql v10 v11 fun v12 =>
 k v12 s) (
 kBin .eql v6 (.int .i64 2) fun v14 =>
 kCond v14 (
 k (.bool true) s) (
 kBin .eql v6 (.int .i64 4) fun v16 =>
 kCond v16 (
 kFld 3 t_2 fun v17 =>
 kFld 2 t_2 fun v21 =>
 kLd s v17 fun v18 =>
 kLd s v21 fun v22 =>
 kCall Try.prog 34 [v18, (.func (.func 35) #[] #[c_3])] s fun v20 s =>
 kChk s v21 v22 (
 kEq 4 true v20 v22 fun v23 =>
 k v23 s)) (
 J1 [] s)))
theorem F32_ok (t_0 c_1 : Value) (s : AS) (k : Value → AS → Prop) : denFn Try.prog [(7, (.go 0 (.go 2 (.go 4 (.go 1 (.go 5 (.go 3 (.go 6 (.go 7 .done)))))))))] 32 [t_0, c_1] s k = F32 t_0 c_1 s k := by kernel_rfl
theorem f32 {t_0 c_1 : Value} {s : AS} {k : Value → AS → Prop} (h : F32 t_0 c_1 s k) : kCall Try.prog 32 [t_0, c_1] s k := denFn_ok [(7, (.go 0 (.go 2 (.go 4 (.go 1 (.go 5 (.go 3 (.go 6 (.go 7 .done)))))))))] (cast (F32_ok t_0 c_1 s k).symm h)
theorem k32_ok : okFn Try.prog 32 = true := by kernel_rfl

/- slices.IndexFunc[[]conch glob.Token,conch glob.Token] -/
def F33 (s_0 f_1 : Value) (s : AS) (k : Value → AS → Prop) : Prop :=
 kJoin (fun _ s =>
 k (.int .i64 (-1)) s) fun J1 =>
 kLen false s_0 fun v7 =>
 kLoop (fun again2 xs s =>
 un1 xs fun v8 =>
 kBin .lss v8 v7 fun v9 =>
 kJoin (fun _ s =>
 kJoin (fun _ s =>
 kBin .add v8 (.int .i64 1) fun v18 =>
 again2 [v18] s) fun J4 =>
 kIdx 4 s_0 v8 fun v14 =>
 kLdN s 4 v14 fun v15 =>
 kCallv Try.prog f_1 [v15] s fun v16 s =>
 kCond v16 (
 k v8 s) (
 J4 [] s)) fun J3 =>
 kCond v9 (
 J3 [] s) (
 J1 [] s)) [(.int .i64 0)] s
theorem F33_ok (s_0 f_1 : Value) (s : AS) (k : Value → AS → Prop) : denFn Try.prog [] 33 [s_0, f_1] s k = F33 s_0 f_1 s k := by kernel_rfl
theorem f33 {s_0 f_1 : Value} {s : AS} {k : Value → AS → Prop} (h : F33 s_0 f_1 s k) : kCall Try.prog 33 [s_0, f_1] s k := denFn_ok [] (cast (F33_ok s_0 f_1 s k).symm h)
theorem k33_ok : okFn Try.prog 33 = true := by kernel_rfl

/- slices.ContainsFunc[[]conch glob.Range,conch glob.Range] -/
def F34 (s_0 f_1 : Value) (s : AS) (k : Value → AS → Prop) : Prop :=
 kCall Try.prog 36 [s_0, f_1] s fun v7 s =>
 kBin .geq v7 (.int .i64 0) fun v8 =>
 k v8 s
theorem F34_ok (s_0 f_1 : Value) (s : AS) (k : Value → AS → Prop) : denFn Try.prog [] 34 [s_0, f_1] s k = F34 s_0 f_1 s k := by kernel_rfl
theorem f34 {s_0 f_1 : Value} {s : AS} {k : Value → AS → Prop} (h : F34 s_0 f_1 s k) : kCall Try.prog 34 [s_0, f_1] s k := denFn_ok [] (cast (F34_ok s_0 f_1 s k).symm h)
theorem k34_ok : okFn Try.prog 34 = true := by kernel_rfl

/- (conch glob.Token).has$1 -/
def F35 (r_0 v1 : Value) (s : AS) (k : Value → AS → Prop) : Prop :=
 kNew s (cellsV r_0) fun r_2 s =>
 kLd s v1 fun v4 =>
 kFld 0 r_2 fun v5 =>
 kLd s v5 fun v6 =>
 kBin .geq v4 v6 fun v7 =>
 kGrd v7 true (fun k =>
 kLd s v1 fun v9 =>
 kFld 1 r_2 fun v10 =>
 kLd s v10 fun v11 =>
 kBin .leq v9 v11 fun v12 =>
 k [v12] s) [undef] s fun xs s =>
 un1 xs fun v12 =>
 kPick v7 v12 (.bool false) fun v13 =>
 k v13 s
theorem F35_ok (r_0 v1 : Value) (s : AS) (k : Value → AS → Prop) : denFn Try.prog [] 35 [r_0, v1] s k = F35 r_0 v1 s k := by kernel_rfl
theorem f35 {r_0 v1 : Value} {s : AS} {k : Value → AS → Prop} (h : F35 r_0 v1 s k) : kCall Try.prog 35 [r_0, v1] s k := denFn_ok [] (cast (F35_ok r_0 v1 s k).symm h)
theorem k35_ok : okFn Try.prog 35 = true := by kernel_rfl

/- slices.IndexFunc[[]conch glob.Range,conch glob.Range] -/
def F36 (s_0 f_1 : Value) (s : AS) (k : Value → AS → Prop) : Prop :=
 kJoin (fun _ s =>
 k (.int .i64 (-1)) s) fun J1 =>
 kLen false s_0 fun v7 =>
 kLoop (fun again2 xs s =>
 un1 xs fun v8 =>
 kBin .lss v8 v7 fun v9 =>
 kJoin (fun _ s =>
 kJoin (fun _ s =>
 kBin .add v8 (.int .i64 1) fun v18 =>
 again2 [v18] s) fun J4 =>
 kIdx 2 s_0 v8 fun v14 =>
 kLdN s 2 v14 fun v15 =>
 kCallv Try.prog f_1 [v15] s fun v16 s =>
 kCond v16 (
 k v8 s) (
 J4 [] s)) fun J3 =>
 kCond v9 (
 J3 [] s) (
 J1 [] s)) [(.int .i64 0)] s
theorem F36_ok (s_0 f_1 : Value) (s : AS) (k : Value → AS → Prop) : denFn Try.prog [] 36 [s_0, f_1] s k = F36 s_0 f_1 s k := by kernel_rfl
theorem f36 {s_0 f_1 : Value} {s : AS} {k : Value → AS → Prop} (h : F36 s_0 f_1 s k) : kCall Try.prog 36 [s_0, f_1] s k := denFn_ok [] (cast (F36_ok s_0 f_1 s k).symm h)
theorem k36_ok : okFn Try.prog 36 = true := by kernel_rfl

end Go.Proofs.Ytgkhdiahncemcaa
