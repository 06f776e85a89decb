/- The walks of the functions, printed by a program of this proof, each held against the loaded program by the kernel. Conditions: none. -/
import Derived.Test.YtaenpaeigoeebaaProg
import Derived.Test.YtaenpaeigoeebaaF6
namespace Go.Proofs.Ytaenpaeigoeebaa
open E
set_option maxRecDepth 100000
set_option linter.unusedVariables false

/- conch conchlaw09.SplitKeeps -/
def F3 (l_0 ifs_1 : Value) (s : AS) (k : Value → AS → Prop) : Prop :=
 kJoin (fun _ s =>
 kNew s [(.string (bs [])), (.slice none 0 0)] fun want_5 s =>
 kJoin (fun _ s =>
 kNew s [(.string (bs [])), (.slice none 0 0)] fun got_9 s =>
 kCall Try.prog 11 [l_0, ifs_1] s fun v79 s =>
 kJoin (fun _ s =>
 kLdN s 2 got_9 fun v117 =>
 kLdN s 2 want_5 fun v118 =>
 kBsl s 2 [(.string (bs [])), (.slice none 0 0), (.string (bs [])), (.slice none 0 0)] [(0, 2, v117), (2, 2, v118)] fun v119 s =>
 kCall Try.prog 12 [v119] s fun v120 s =>
 kIdx 2 v120 (.int .i64 0) fun v122 =>
 kIdx 2 v120 (.int .i64 1) fun v125 =>
 kLdN s 2 v122 fun v123 =>
 kLdN s 2 v125 fun v126 =>
 kCall Try.prog 13 [v123, v126] s fun v127 s =>
 kGrd v127 true (fun k =>
 kCall Try.prog 9 [] s fun v129 s =>
 k [v129] s) [undef] s fun xs s =>
 un1 xs fun v129 =>
 kPick v127 v129 (.bool false) fun v130 =>
 k v130 s) fun J3 =>
 kLoop (fun again4 xs s =>
 un1 xs fun i_11 =>
 kJoin (fun _ s =>
 kJoin (fun _ s =>
 kBin .add i_11 (.int .i64 1) fun v85 =>
 again4 [v85] s) fun J6 =>
 kJoin (fun _ s =>
 kFld 0 got_9 fun v99 =>
 kIdx 2 v79 i_11 fun v103 =>
 kFld 0 v103 fun v104 =>
 kLd s v99 fun v100 =>
 kLd s v104 fun v105 =>
 kBin .add v100 v105 fun v106 =>
 kFld 0 got_9 fun v107 =>
 kSt s 1 v107 v106 fun s =>
 kFld 1 got_9 fun v108 =>
 kIdx 2 v79 i_11 fun v112 =>
 kFld 1 v112 fun v113 =>
 kLd s v108 fun v109 =>
 kLd s v113 fun v114 =>
 kApp Try.prog 25 25 v109 v114 s fun v115 s =>
 kFld 1 got_9 fun v116 =>
 kSt s 1 v116 v115 fun s =>
 J6 [] s) fun J7 =>
 kIdx 2 v79 i_11 fun v88 =>
 kFld 1 v88 fun v89 =>
 kIdx 2 v79 i_11 fun v94 =>
 kFld 0 v94 fun v95 =>
 kLd s v89 fun v90 =>
 kLen false v90 fun v91 =>
 kLd s v95 fun v96 =>
 kLen true v96 fun v97 =>
 kBin .neq v91 v97 fun v98 =>
 kCond v98 (
 k (.bool false) s) (
 J7 [] s)) fun J5 =>
 kLen false v79 fun v82 =>
 kBin .lss i_11 v82 fun v83 =>
 kCond v83 (
 J5 [] s) (
 J3 [] s)) [(.int .i64 0)] s) fun J2 =>
 kLoop (fun again8 xs s =>
 un1 xs fun i_6 =>
 kJoin (fun _ s =>
 kJoin (fun _ s =>
 kBin .add i_6 (.int .i64 1) fun v27 =>
 again8 [v27] s) fun J10 =>
 kIdx 4 l_0 i_6 fun v30 =>
 kLdN s 4 v30 fun v31 =>
 kNew s [(.string (bs [])), (.bool false), (.bool false), (.bool false)] fun p_7 s =>
 kSt s 4 p_7 v31 fun s =>
 kLoop (fun again11 xs s =>
 un1 xs fun k_8 =>
 kJoin (fun _ s =>
 kJoin (fun _ s =>
 kBin .add k_8 (.int .i64 1) fun v43 =>
 again11 [v43] s) fun J13 =>
 kFld 1 p_7 fun v44 =>
 kLd s v44 fun v45 =>
 kGrd v45 false (fun k =>
 kFld 2 p_7 fun v47 =>
 kLd s v47 fun v48 =>
 kUn .not v48 fun v49 =>
 k [v49] s) [undef] s fun xs s =>
 un1 xs fun v49 =>
 kPick v45 (.bool true) v49 fun v50 =>
 kGrd v50 false (fun k =>
 kFld 0 p_7 fun v53 =>
 kLd s v53 fun v54 =>
 kIxS v54 k_8 fun v56 =>
 kCall Try.prog 10 [ifs_1, v56] s fun v57 s =>
 kUn .not v57 fun v58 =>
 k [v58] s) [undef] s fun xs s =>
 un1 xs fun v58 =>
 kPick v50 (.bool true) v58 fun v59 =>
 kCond v59 (
 kFld 0 want_5 fun v60 =>
 kFld 0 p_7 fun v62 =>
 kBin .add k_8 (.int .i64 1) fun v66 =>
 kLd s v60 fun v61 =>
 kLd s v62 fun v63 =>
 kSubS v63 (some k_8) (some v66) fun v67 =>
 kBin .add v61 v67 fun v68 =>
 kFld 0 want_5 fun v69 =>
 kSt s 1 v69 v68 fun s =>
 kFld 1 want_5 fun v70 =>
 kLd s v70 fun v71 =>
 kFld 1 p_7 fun v72 =>
 kLd s v72 fun v73 =>
 kBsl s 1 [(.bool false)] [(0, 1, v73)] fun v74 s =>
 kApp Try.prog 25 25 v71 v74 s fun v75 s =>
 kFld 1 want_5 fun v76 =>
 kSt s 1 v76 v75 fun s =>
 J13 [] s) (
 J13 [] s)) fun J12 =>
 kFld 0 p_7 fun v33 =>
 kLd s v33 fun v34 =>
 kLen true v34 fun v35 =>
 kBin .lss k_8 v35 fun v36 =>
 kGrd v36 true (fun k =>
 kFld 3 p_7 fun v38 =>
 kLd s v38 fun v39 =>
 kUn .not v39 fun v40 =>
 k [v40] s) [undef] s fun xs s =>
 un1 xs fun v40 =>
 kPick v36 v40 (.bool false) fun v41 =>
 kCond v41 (
 J12 [] s) (
 J10 [] s)) [(.int .i64 0)] s) fun J9 =>
 kLen false l_0 fun v24 =>
 kBin .lss i_6 v24 fun v25 =>
 kCond v25 (
 J9 [] s) (
 J2 [] s)) [(.int .i64 0)] s) fun J1 =>
 kCall Try.prog 8 [l_0] s fun v14 s =>
 kUn .not v14 fun v15 =>
 kGrd v15 false (fun k =>
 kLen true ifs_1 fun v18 =>
 kBin .gtr v18 (.int .i64 100) fun v19 =>
 k [v19] s) [undef] s fun xs s =>
 un1 xs fun v19 =>
 kPick v15 (.bool true) v19 fun v20 =>
 kCond v20 (
 kCall Try.prog 9 [] s fun v21 s =>
 k v21 s) (
 J1 [] s)
theorem F3_ok (l_0 ifs_1 : Value) (s : AS) (k : Value → AS → Prop) : denFn Try.prog [(12, (.go 0 (.go 2 (.go 4 (.go 5 (.go 6 (.go 1 (.go 3 (.go 7 (.go 8 (.go 9 (.go 10 .done)))))))))))), (19, (.go 0 (.go 1 (.go 2 (.go 3 (.go 6 (.go 7 (.go 8 (.go 9 (.go 4 (.go 5 (.go 10 (.go 11 (.go 12 .done)))))))))))))), (21, (.go 0 (.go 2 (.go 3 (.go 4 (.go 5 (.go 1 (.go 6 (.go 7 (.go 8 (.go 9 .done))))))))))), (22, (.go 0 (.go 2 (.go 3 (.go 4 (.go 5 (.go 1 (.go 6 (.go 7 (.go 8 (.go 9 .done))))))))))), (24, (.go 0 (.go 1 (.go 3 (.go 4 (.go 2 (.go 5 (.go 6 (.go 7 (.go 8 (.go 9 (.go 10 .done))))))))))))] 3 [l_0, ifs_1] s k = F3 l_0 ifs_1 s k := by kernel_rfl
theorem f3 {l_0 ifs_1 : Value} {s : AS} {k : Value → AS → Prop} (h : F3 l_0 ifs_1 s k) : kCall Try.prog 3 [l_0, ifs_1] s k := denFn_ok [(12, (.go 0 (.go 2 (.go 4 (.go 5 (.go 6 (.go 1 (.go 3 (.go 7 (.go 8 (.go 9 (.go 10 .done)))))))))))), (19, (.go 0 (.go 1 (.go 2 (.go 3 (.go 6 (.go 7 (.go 8 (.go 9 (.go 4 (.go 5 (.go 10 (.go 11 (.go 12 .done)))))))))))))), (21, (.go 0 (.go 2 (.go 3 (.go 4 (.go 5 (.go 1 (.go 6 (.go 7 (.go 8 (.go 9 .done))))))))))), (22, (.go 0 (.go 2 (.go 3 (.go 4 (.go 5 (.go 1 (.go 6 (.go 7 (.go 8 (.go 9 .done))))))))))), (24, (.go 0 (.go 1 (.go 3 (.go 4 (.go 2 (.go 5 (.go 6 (.go 7 (.go 8 (.go 9 (.go 10 .done))))))))))))] (cast (F3_ok l_0 ifs_1 s k).symm h)
theorem k3_ok : okFn Try.prog 3 = true := by kernel_rfl

/- conch conchlaw09.SplitBlanks -/
def F4 (l_0 gaps_1 : Value) (s : AS) (k : Value → AS → Prop) : Prop :=
 kJoin (fun _ s =>
 kJoin (fun xs s =>
 un2 xs fun s_6 want_7 =>
 kBuild [(.string (bs [])), (.bool false), (.bool false), (.bool false)] [(0, 1, s_6), (2, 1, (.bool true))] fun v102 =>
 kBsl s 1 [(.string (bs [])), (.bool false), (.bool false), (.bool false)] [(0, 4, v102)] fun v103 s =>
 kCall Try.prog 11 [v103, (.string (bs [32, 9, 10]))] s fun v105 s =>
 kJoin (fun _ s =>
 kJoin (fun _ s =>
 kCall Try.prog 9 [] s fun v127 s =>
 k v127 s) fun J4 =>
 kLoop (fun again5 xs s =>
 un1 xs fun i_13 =>
 kJoin (fun _ s =>
 kJoin (fun _ s =>
 kBin .add i_13 (.int .i64 1) fun v116 =>
 again5 [v116] s) fun J7 =>
 kIdx 2 v105 i_13 fun v119 =>
 kFld 0 v119 fun v120 =>
 kIdx 1 want_7 i_13 fun v124 =>
 kLd s v120 fun v121 =>
 kLd s v124 fun v125 =>
 kBin .neq v121 v125 fun v126 =>
 kCond v126 (
 k (.bool false) s) (
 J7 [] s)) fun J6 =>
 kLen false want_7 fun v113 =>
 kBin .lss i_13 v113 fun v114 =>
 kCond v114 (
 J6 [] s) (
 J4 [] s)) [(.int .i64 0)] s) fun J3 =>
 kLen false v105 fun v107 =>
 kLen false want_7 fun v109 =>
 kBin .neq v107 v109 fun v110 =>
 kCond v110 (
 k (.bool false) s) (
 J3 [] s)) fun J2 =>
 kLoop (fun again8 xs s =>
 un3 xs fun s_6 want_7 i_8 =>
 kJoin (fun _ s =>
 kJoin (fun xs s =>
 un2 xs fun s_6 want_7 =>
 kBin .add i_8 (.int .i64 1) fun v23 =>
 again8 [s_6, want_7, v23] s) fun J10 =>
 kJoin (fun xs s =>
 un1 xs fun n_9 =>
 kJoin (fun xs s =>
 un1 xs fun s_6 =>
 kJoin (fun _ s =>
 kJoin (fun _ s =>
 kJoin (fun _ s =>
 kIdx 1 l_0 i_8 fun v86 =>
 kLd s v86 fun v87 =>
 kBin .add s_6 v87 fun v88 =>
 kIdx 1 l_0 i_8 fun v91 =>
 kLd s v91 fun v92 =>
 kBin .neq v92 (.string (bs [])) fun v93 =>
 kCond v93 (
 kIdx 1 l_0 i_8 fun v97 =>
 kLd s v97 fun v98 =>
 kBsl s 1 [(.string (bs []))] [(0, 1, v98)] fun v99 s =>
 kApp Try.prog 38 38 want_7 v99 s fun v100 s =>
 J10 [v88, v100] s) (
 J10 [v88, want_7] s)) fun J15 =>
 kLoop (fun again16 xs s =>
 un1 xs fun k_11 =>
 kJoin (fun _ s =>
 kJoin (fun _ s =>
 kBin .add k_11 (.int .i64 1) fun v73 =>
 again16 [v73] s) fun J18 =>
 kIdx 1 l_0 i_8 fun v77 =>
 kLd s v77 fun v78 =>
 kIxS v78 k_11 fun v80 =>
 kCall Try.prog 10 [(.string (bs [32, 9, 10])), v80] s fun v81 s =>
 kCond v81 (
 kCall Try.prog 9 [] s fun v82 s =>
 k v82 s) (
 J18 [] s)) fun J17 =>
 kIdx 1 l_0 i_8 fun v68 =>
 kLd s v68 fun v69 =>
 kLen true v69 fun v70 =>
 kBin .lss k_11 v70 fun v71 =>
 kCond v71 (
 J17 [] s) (
 J15 [] s)) [(.int .i64 0)] s) fun J14 =>
 kIdx 1 l_0 i_8 fun v60 =>
 kLd s v60 fun v61 =>
 kLen true v61 fun v62 =>
 kBin .gtr v62 (.int .i64 20) fun v63 =>
 kCond v63 (
 kCall Try.prog 9 [] s fun v64 s =>
 k v64 s) (
 J14 [] s)) fun J13 =>
 kLen false l_0 fun v56 =>
 kBin .eql i_8 v56 fun v57 =>
 kCond v57 (
 J2 [s_6, want_7] s) (
 J13 [] s)) fun J12 =>
 kLoop (fun again19 xs s =>
 un2 xs fun s_6 k_10 =>
 kJoin (fun _ s =>
 kJoin (fun xs s =>
 un1 xs fun s_6 =>
 kBin .add k_10 (.int .i64 1) fun v40 =>
 again19 [s_6, v40] s) fun J21 =>
 kBin .add i_8 k_10 fun v45 =>
 kBin .rem v45 (.int .i64 3) fun v46 =>
 kBin .add i_8 k_10 fun v49 =>
 kBin .rem v49 (.int .i64 3) fun v50 =>
 kBin .add v50 (.int .i64 1) fun v51 =>
 kSubS (.string (bs [32, 9, 10])) (some v46) (some v51) fun v52 =>
 kBin .add s_6 v52 fun v53 =>
 J21 [v53] s) fun J20 =>
 kBin .lss k_10 n_9 fun v38 =>
 kCond v38 (
 J20 [] s) (
 J12 [s_6] s)) [s_6, (.int .i64 0)] s) fun J11 =>
 kLen false gaps_1 fun v26 =>
 kBin .lss i_8 v26 fun v27 =>
 kCond v27 (
 kIdx 1 gaps_1 i_8 fun v30 =>
 kLd s v30 fun v31 =>
 kBin .rem v31 (.int .i64 5) fun v32 =>
 kBin .add v32 (.int .i64 5) fun v33 =>
 kBin .rem v33 (.int .i64 5) fun v34 =>
 kBin .add (.int .i64 1) v34 fun v35 =>
 J11 [v35] s) (
 J11 [(.int .i64 1)] s)) fun J9 =>
 kLen false l_0 fun v20 =>
 kBin .leq i_8 v20 fun v21 =>
 kCond v21 (
 J9 [] s) (
 J2 [s_6, want_7] s)) [(.string (bs [])), (.slice none 0 0), (.int .i64 0)] s) fun J1 =>
 kLen false l_0 fun v15 =>
 kBin .gtr v15 (.int .i64 10) fun v16 =>
 kCond v16 (
 kCall Try.prog 9 [] s fun v17 s =>
 k v17 s) (
 J1 [] s)
theorem F4_ok (l_0 gaps_1 : Value) (s : AS) (k : Value → AS → Prop) : denFn Try.prog [(33, (.go 0 (.go 1 (.go 2 (.go 3 (.go 5 (.go 6 (.go 7 (.go 4 (.go 8 (.go 9 .done)))))))))))] 4 [l_0, gaps_1] s k = F4 l_0 gaps_1 s k := by kernel_rfl
theorem f4 {l_0 gaps_1 : Value} {s : AS} {k : Value → AS → Prop} (h : F4 l_0 gaps_1 s k) : kCall Try.prog 4 [l_0, gaps_1] s k := denFn_ok [(33, (.go 0 (.go 1 (.go 2 (.go 3 (.go 5 (.go 6 (.go 7 (.go 4 (.go 8 (.go 9 .done)))))))))))] (cast (F4_ok l_0 gaps_1 s k).symm h)
theorem k4_ok : okFn Try.prog 4 = true := by kernel_rfl

/- conch conchlaw09.SplitHard -/
def F5 (l_0 : Value) (s : AS) (k : Value → AS → Prop) : Prop :=
 kJoin (fun _ s =>
 kJoin (fun xs s =>
 un1 xs fun s_3 =>
 kBuild [(.string (bs [])), (.bool false), (.bool false), (.bool false)] [(0, 1, s_3), (2, 1, (.bool true))] fun v39 =>
 kBsl s 1 [(.string (bs [])), (.bool false), (.bool false), (.bool false)] [(0, 4, v39)] fun v40 s =>
 kCall Try.prog 11 [v40, (.string (bs [58]))] s fun v41 s =>
 kJoin (fun _ s =>
 kJoin (fun _ s =>
 kCall Try.prog 9 [] s fun v63 s =>
 k v63 s) fun J4 =>
 kLoop (fun again5 xs s =>
 un1 xs fun i_6 =>
 kJoin (fun _ s =>
 kJoin (fun _ s =>
 kBin .add i_6 (.int .i64 1) fun v52 =>
 again5 [v52] s) fun J7 =>
 kIdx 2 v41 i_6 fun v55 =>
 kFld 0 v55 fun v56 =>
 kIdx 1 l_0 i_6 fun v60 =>
 kLd s v56 fun v57 =>
 kLd s v60 fun v61 =>
 kBin .neq v57 v61 fun v62 =>
 kCond v62 (
 k (.bool false) s) (
 J7 [] s)) fun J6 =>
 kLen false l_0 fun v49 =>
 kBin .lss i_6 v49 fun v50 =>
 kCond v50 (
 J6 [] s) (
 J4 [] s)) [(.int .i64 0)] s) fun J3 =>
 kLen false v41 fun v43 =>
 kLen false l_0 fun v45 =>
 kBin .neq v43 v45 fun v46 =>
 kCond v46 (
 k (.bool false) s) (
 J3 [] s)) fun J2 =>
 kLoop (fun again8 xs s =>
 un2 xs fun s_3 i_4 =>
 kJoin (fun _ s =>
 kJoin (fun xs s =>
 un1 xs fun s_3 =>
 kBin .add i_4 (.int .i64 1) fun v16 =>
 again8 [s_3, v16] s) fun J10 =>
 kJoin (fun _ s =>
 kIdx 1 l_0 i_4 fun v34 =>
 kLd s v34 fun v35 =>
 kBin .add s_3 v35 fun v36 =>
 kBin .add v36 (.string (bs [58])) fun v37 =>
 J10 [v37] s) fun J11 =>
 kIdx 1 l_0 i_4 fun v19 =>
 kLd s v19 fun v20 =>
 kLen true v20 fun v21 =>
 kBin .gtr v21 (.int .i64 20) fun v22 =>
 kGrd v22 false (fun k =>
 kIdx 1 l_0 i_4 fun v26 =>
 kLd s v26 fun v27 =>
 kCall Try.prog 10 [v27, (.int .u8 58)] s fun v28 s =>
 k [v28] s) [undef] s fun xs s =>
 un1 xs fun v28 =>
 kPick v22 (.bool true) v28 fun v29 =>
 kCond v29 (
 kCall Try.prog 9 [] s fun v30 s =>
 k v30 s) (
 J11 [] s)) fun J9 =>
 kLen false l_0 fun v13 =>
 kBin .lss i_4 v13 fun v14 =>
 kCond v14 (
 J9 [] s) (
 J2 [s_3] s)) [(.string (bs [])), (.int .i64 0)] s) fun J1 =>
 kLen false l_0 fun v8 =>
 kBin .gtr v8 (.int .i64 10) fun v9 =>
 kCond v9 (
 kCall Try.prog 9 [] s fun v10 s =>
 k v10 s) (
 J1 [] s)
theorem F5_ok (l_0 : Value) (s : AS) (k : Value → AS → Prop) : denFn Try.prog [(16, (.go 0 (.go 1 (.go 2 (.go 3 (.go 5 (.go 6 (.go 7 (.go 4 (.go 8 (.go 9 .done)))))))))))] 5 [l_0] s k = F5 l_0 s k := by kernel_rfl
theorem f5 {l_0 : Value} {s : AS} {k : Value → AS → Prop} (h : F5 l_0 s k) : kCall Try.prog 5 [l_0] s k := denFn_ok [(16, (.go 0 (.go 1 (.go 2 (.go 3 (.go 5 (.go 6 (.go 7 (.go 4 (.go 8 (.go 9 .done)))))))))))] (cast (F5_ok l_0 s k).symm h)
theorem k5_ok : okFn Try.prog 5 = true := by kernel_rfl

/- conch conchlaw09.SplitFields -/
def F6 (l_0 ifs_1 : Value) (s : AS) (k : Value → AS → Prop) : Prop :=
 kJoin (fun _ s =>
 kCall Try.prog 11 [l_0, ifs_1] s fun v19 s =>
 kCall Try.prog 12 [v19] s fun v20 s =>
 kCall Try.prog 15 [l_0] s fun v22 s =>
 kCall Try.prog 14 [v22, ifs_1] s fun v24 s =>
 kCall Try.prog 16 [l_0] s fun v26 s =>
 kBsl s 1 [(.string (bs [])), (.slice none 0 0)] [(0, 2, v26)] fun v27 s =>
 kCall Try.prog 12 [v27] s fun v28 s =>
 kCall Try.prog 17 [v20, v24] s fun v31 s =>
 kGrd v31 true (fun k =>
 kIdx 2 v28 (.int .i64 0) fun v34 =>
 kLdN s 2 v34 fun v35 =>
 kCall Try.prog 15 [l_0] s fun v37 s =>
 kChkN s 2 v34 v35 (
 kCall Try.prog 18 [v37] s fun v38 s =>
 kChkN s 2 v34 v35 (
 kCall Try.prog 13 [v35, v38] s fun v39 s =>
 k [v39] s))) [undef] s fun xs s =>
 un1 xs fun v39 =>
 kPick v31 v39 (.bool false) fun v40 =>
 kGrd v40 true (fun k =>
 kCall Try.prog 9 [] s fun v42 s =>
 k [v42] s) [undef] s fun xs s =>
 un1 xs fun v42 =>
 kPick v40 v42 (.bool false) fun v43 =>
 k v43 s) fun J1 =>
 kCall Try.prog 8 [l_0] s fun v9 s =>
 kUn .not v9 fun v10 =>
 kGrd v10 false (fun k =>
 kLen true ifs_1 fun v13 =>
 kBin .gtr v13 (.int .i64 100) fun v14 =>
 k [v14] s) [undef] s fun xs s =>
 un1 xs fun v14 =>
 kPick v10 (.bool true) v14 fun v15 =>
 kCond v15 (
 kCall Try.prog 9 [] s fun v16 s =>
 k v16 s) (
 J1 [] s)
theorem F6_ok (l_0 ifs_1 : Value) (s : AS) (k : Value → AS → Prop) : denFn Try.prog [(6, (.go 0 (.go 1 (.go 2 (.go 3 (.go 4 (.go 5 (.go 7 (.go 6 (.go 8 (.go 9 (.go 10 (.go 11 (.go 12 (.go 13 (.go 14 (.go 15 .done)))))))))))))))))] 6 [l_0, ifs_1] s k = F6 l_0 ifs_1 s k := by kernel_rfl
theorem f6 {l_0 ifs_1 : Value} {s : AS} {k : Value → AS → Prop} (h : F6 l_0 ifs_1 s k) : kCall Try.prog 6 [l_0, ifs_1] s k := denFn_ok [(6, (.go 0 (.go 1 (.go 2 (.go 3 (.go 4 (.go 5 (.go 7 (.go 6 (.go 8 (.go 9 (.go 10 (.go 11 (.go 12 (.go 13 (.go 14 (.go 15 .done)))))))))))))))))] (cast (F6_ok l_0 ifs_1 s k).symm h)
theorem k6_ok : okFn Try.prog 6 = true := by kernel_rfl

/- conch conchlaw09.SplitWhole -/
def F7 (l_0 ifs_1 : Value) (s : AS) (k : Value → AS → Prop) : Prop :=
 kJoin (fun _ s =>
 kJoin (fun xs s =>
 un1 xs fun is_5 =>
 kCall Try.prog 11 [l_0, ifs_1] s fun v83 s =>
 kJoin (fun _ s =>
 kLen false v83 fun v93 =>
 kBin .eql v93 (.int .i64 1) fun v94 =>
 kGrd v94 true (fun k =>
 kCall Try.prog 12 [v83] s fun v97 s =>
 kIdx 2 v97 (.int .i64 0) fun v98 =>
 kLdN s 2 v98 fun v99 =>
 kCall Try.prog 16 [l_0] s fun v101 s =>
 kChkN s 2 v98 v99 (
 kBsl s 1 [(.string (bs [])), (.slice none 0 0)] [(0, 2, v101)] fun v102 s =>
 kChkN s 2 v98 v99 (
 kCall Try.prog 12 [v102] s fun v103 s =>
 kChkN s 2 v98 v99 (
 kIdx 2 v103 (.int .i64 0) fun v104 =>
 kLdN s 2 v104 fun v105 =>
 kCall Try.prog 13 [v99, v105] s fun v106 s =>
 k [v106] s)))) [undef] s fun xs s =>
 un1 xs fun v106 =>
 kPick v94 v106 (.bool false) fun v107 =>
 kGrd v107 true (fun k =>
 kCall Try.prog 9 [] s fun v109 s =>
 k [v109] s) [undef] s fun xs s =>
 un1 xs fun v109 =>
 kPick v107 v109 (.bool false) fun v110 =>
 k v110 s) fun J3 =>
 kUn .not is_5 fun v85 =>
 kCond v85 (
 kLen false v83 fun v87 =>
 kBin .eql v87 (.int .i64 0) fun v88 =>
 kGrd v88 true (fun k =>
 kCall Try.prog 9 [] s fun v90 s =>
 k [v90] s) [undef] s fun xs s =>
 un1 xs fun v90 =>
 kPick v88 v90 (.bool false) fun v91 =>
 k v91 s) (
 J3 [] s)) fun J2 =>
 kLoop (fun again4 xs s =>
 un2 xs fun is_5 i_6 =>
 kJoin (fun _ s =>
 kJoin (fun xs s =>
 un1 xs fun is_5 =>
 kBin .add i_6 (.int .i64 1) fun v23 =>
 again4 [is_5, v23] s) fun J6 =>
 kJoin (fun _ s =>
 kJoin (fun _ s =>
 kGrd is_5 false (fun k =>
 kIdx 4 l_0 i_6 fun v69 =>
 kFld 1 v69 fun v70 =>
 kLd s v70 fun v71 =>
 k [v71] s) [undef] s fun xs s =>
 un1 xs fun v71 =>
 kPick is_5 (.bool true) v71 fun v72 =>
 kGrd v72 false (fun k =>
 kIdx 4 l_0 i_6 fun v76 =>
 kFld 0 v76 fun v77 =>
 kLd s v77 fun v78 =>
 kBin .neq v78 (.string (bs [])) fun v79 =>
 k [v79] s) [undef] s fun xs s =>
 un1 xs fun v79 =>
 kPick v72 (.bool true) v79 fun v80 =>
 J6 [v80] s) fun J8 =>
 kLoop (fun again9 xs s =>
 un1 xs fun k_7 =>
 kJoin (fun _ s =>
 kJoin (fun _ s =>
 kBin .add k_7 (.int .i64 1) fun v39 =>
 again9 [v39] s) fun J11 =>
 kIdx 4 l_0 i_6 fun v42 =>
 kFld 1 v42 fun v43 =>
 kLd s v43 fun v44 =>
 kUn .not v44 fun v45 =>
 kGrd v45 true (fun k =>
 kIdx 4 l_0 i_6 fun v49 =>
 kFld 2 v49 fun v50 =>
 kLd s v50 fun v51 =>
 k [v51] s) [undef] s fun xs s =>
 un1 xs fun v51 =>
 kPick v45 v51 (.bool false) fun v52 =>
 kGrd v52 true (fun k =>
 kIdx 4 l_0 i_6 fun v57 =>
 kFld 0 v57 fun v58 =>
 kLd s v58 fun v59 =>
 kIxS v59 k_7 fun v61 =>
 kCall Try.prog 10 [ifs_1, v61] s fun v62 s =>
 k [v62] s) [undef] s fun xs s =>
 un1 xs fun v62 =>
 kPick v52 v62 (.bool false) fun v63 =>
 kCond v63 (
 kCall Try.prog 9 [] s fun v64 s =>
 k v64 s) (
 J11 [] s)) fun J10 =>
 kIdx 4 l_0 i_6 fun v33 =>
 kFld 0 v33 fun v34 =>
 kLd s v34 fun v35 =>
 kLen true v35 fun v36 =>
 kBin .lss k_7 v36 fun v37 =>
 kCond v37 (
 J10 [] s) (
 J8 [] s)) [(.int .i64 0)] s) fun J7 =>
 kIdx 4 l_0 i_6 fun v26 =>
 kFld 3 v26 fun v27 =>
 kLd s v27 fun v28 =>
 kCond v28 (
 kCall Try.prog 9 [] s fun v29 s =>
 k v29 s) (
 J7 [] s)) fun J5 =>
 kLen false l_0 fun v20 =>
 kBin .lss i_6 v20 fun v21 =>
 kCond v21 (
 J5 [] s) (
 J2 [is_5] s)) [(.bool false), (.int .i64 0)] s) fun J1 =>
 kCall Try.prog 8 [l_0] s fun v10 s =>
 kUn .not v10 fun v11 =>
 kGrd v11 false (fun k =>
 kLen true ifs_1 fun v14 =>
 kBin .gtr v14 (.int .i64 100) fun v15 =>
 k [v15] s) [undef] s fun xs s =>
 un1 xs fun v15 =>
 kPick v11 (.bool true) v15 fun v16 =>
 kCond v16 (
 kCall Try.prog 9 [] s fun v17 s =>
 k v17 s) (
 J1 [] s)
theorem F7_ok (l_0 ifs_1 : Value) (s : AS) (k : Value → AS → Prop) : denFn Try.prog [(18, (.go 0 (.go 1 (.go 2 (.go 3 (.go 4 (.go 8 (.go 5 (.go 6 (.go 7 (.go 9 (.go 10 (.go 11 (.go 12 (.go 13 (.go 14 (.go 15 (.go 16 (.go 17 (.go 18 (.go 19 .done)))))))))))))))))))))] 7 [l_0, ifs_1] s k = F7 l_0 ifs_1 s k := by kernel_rfl
theorem f7 {l_0 ifs_1 : Value} {s : AS} {k : Value → AS → Prop} (h : F7 l_0 ifs_1 s k) : kCall Try.prog 7 [l_0, ifs_1] s k := denFn_ok [(18, (.go 0 (.go 1 (.go 2 (.go 3 (.go 4 (.go 8 (.go 5 (.go 6 (.go 7 (.go 9 (.go 10 (.go 11 (.go 12 (.go 13 (.go 14 (.go 15 (.go 16 (.go 17 (.go 18 (.go 19 .done)))))))))))))))))))))] (cast (F7_ok l_0 ifs_1 s k).symm h)
theorem k7_ok : okFn Try.prog 7 = true := by kernel_rfl

/- conch conchlaw09.few -/
def F8 (l_0 : Value) (s : AS) (k : Value → AS → Prop) : Prop :=
 kJoin (fun _ s =>
 kJoin (fun _ s =>
 k (.bool true) s) fun J2 =>
 kLoop (fun again3 xs s =>
 un1 xs fun i_3 =>
 kJoin (fun _ s =>
 kJoin (fun _ s =>
 kBin .add i_3 (.int .i64 1) fun v12 =>
 again3 [v12] s) fun J5 =>
 kIdx 4 l_0 i_3 fun v15 =>
 kFld 0 v15 fun v16 =>
 kLd s v16 fun v17 =>
 kLen true v17 fun v18 =>
 kBin .gtr v18 (.int .i64 100) fun v19 =>
 kCond v19 (
 k (.bool false) s) (
 J5 [] s)) fun J4 =>
 kLen false l_0 fun v9 =>
 kBin .lss i_3 v9 fun v10 =>
 kCond v10 (
 J4 [] s) (
 J2 [] s)) [(.int .i64 0)] s) fun J1 =>
 kLen false l_0 fun v5 =>
 kBin .gtr v5 (.int .i64 30) fun v6 =>
 kCond v6 (
 k (.bool false) s) (
 J1 [] s)
theorem F8_ok (l_0 : Value) (s : AS) (k : Value → AS → Prop) : denFn Try.prog [] 8 [l_0] s k = F8 l_0 s k := by kernel_rfl
theorem f8 {l_0 : Value} {s : AS} {k : Value → AS → Prop} (h : F8 l_0 s k) : kCall Try.prog 8 [l_0] s k := denFn_ok [] (cast (F8_ok l_0 s k).symm h)
theorem k8_ok : okFn Try.prog 8 = true := by kernel_rfl

/- conch conchlaw09.awake -/
def F9 (s : AS) (k : Value → AS → Prop) : Prop :=
 kBuild [(.string (bs [])), (.bool false), (.bool false), (.bool false)] [(0, 1, (.string (bs [97, 32, 44, 32, 98]))), (2, 1, (.bool true))] fun v5 =>
 kBsl s 1 [(.string (bs [])), (.bool false), (.bool false), (.bool false)] [(0, 4, v5)] fun v6 s =>
 kCall Try.prog 11 [v6, (.string (bs [32, 44]))] s fun v7 s =>
 kBuild [(.string (bs [])), (.bool false), (.bool false), (.bool false)] [(0, 1, (.string (bs [97, 44, 44, 98, 44]))), (2, 1, (.bool true))] fun v8 =>
 kBsl s 1 [(.string (bs [])), (.bool false), (.bool false), (.bool false)] [(0, 4, v8)] fun v9 s =>
 kCall Try.prog 11 [v9, (.string (bs [32, 44]))] s fun v10 s =>
 kBuild [(.string (bs [])), (.bool false), (.bool false), (.bool false)] [(1, 1, (.bool true))] fun v11 =>
 kBsl s 1 [(.string (bs [])), (.bool false), (.bool false), (.bool false)] [(0, 4, v11)] fun v12 s =>
 kCall Try.prog 11 [v12, (.string (bs [32, 44]))] s fun v13 s =>
 kBuild [(.string (bs [])), (.bool false), (.bool false), (.bool false)] [(0, 1, (.string (bs [97, 32]))), (2, 1, (.bool true))] fun v14 =>
 kBuild [(.string (bs [])), (.bool false), (.bool false), (.bool false)] [(0, 1, (.string (bs [98]))), (1, 1, (.bool true))] fun v15 =>
 kBsl s 2 [(.string (bs [])), (.bool false), (.bool false), (.bool false), (.string (bs [])), (.bool false), (.bool false), (.bool false)] [(0, 4, v14), (4, 4, v15)] fun v16 s =>
 kCall Try.prog 11 [v16, (.string (bs [32]))] s fun v17 s =>
 kLen false v7 fun v19 =>
 kBin .eql v19 (.int .i64 2) fun v20 =>
 kGrd v20 true (fun k =>
 kIdx 2 v7 (.int .i64 1) fun v23 =>
 kFld 0 v23 fun v24 =>
 kLd s v24 fun v25 =>
 kBin .eql v25 (.string (bs [98])) fun v26 =>
 k [v26] s) [undef] s fun xs s =>
 un1 xs fun v26 =>
 kPick v20 v26 (.bool false) fun v27 =>
 kGrd v27 true (fun k =>
 kLen false v10 fun v30 =>
 kBin .eql v30 (.int .i64 3) fun v31 =>
 k [v31] s) [undef] s fun xs s =>
 un1 xs fun v31 =>
 kPick v27 v31 (.bool false) fun v32 =>
 kGrd v32 true (fun k =>
 kIdx 2 v10 (.int .i64 1) fun v35 =>
 kFld 0 v35 fun v36 =>
 kLd s v36 fun v37 =>
 kBin .eql v37 (.string (bs [])) fun v38 =>
 k [v38] s) [undef] s fun xs s =>
 un1 xs fun v38 =>
 kPick v32 v38 (.bool false) fun v39 =>
 kGrd v39 true (fun k =>
 kLen false v13 fun v42 =>
 kBin .eql v42 (.int .i64 1) fun v43 =>
 k [v43] s) [undef] s fun xs s =>
 un1 xs fun v43 =>
 kPick v39 v43 (.bool false) fun v44 =>
 kGrd v44 true (fun k =>
 kLen false v17 fun v47 =>
 kBin .eql v47 (.int .i64 2) fun v48 =>
 k [v48] s) [undef] s fun xs s =>
 un1 xs fun v48 =>
 kPick v44 v48 (.bool false) fun v49 =>
 kGrd v49 true (fun k =>
 kIdx 2 v17 (.int .i64 1) fun v52 =>
 kFld 1 v52 fun v53 =>
 kLd s v53 fun v54 =>
 kLen false v54 fun v55 =>
 kBin .eql v55 (.int .i64 1) fun v56 =>
 k [v56] s) [undef] s fun xs s =>
 un1 xs fun v56 =>
 kPick v49 v56 (.bool false) fun v57 =>
 kGrd v57 true (fun k =>
 kIdx 2 v17 (.int .i64 1) fun v60 =>
 kFld 1 v60 fun v61 =>
 kLd s v61 fun v62 =>
 kIdx 1 v62 (.int .i64 0) fun v63 =>
 kLd s v63 fun v64 =>
 k [v64] s) [undef] s fun xs s =>
 un1 xs fun v64 =>
 kPick v57 v64 (.bool false) fun v65 =>
 k v65 s
theorem F9_ok (s : AS) (k : Value → AS → Prop) : denFn Try.prog [] 9 [] s k = F9 s k := by kernel_rfl
theorem f9 {s : AS} {k : Value → AS → Prop} (h : F9 s k) : kCall Try.prog 9 [] s k := denFn_ok [] (cast (F9_ok s k).symm h)
theorem k9_ok : okFn Try.prog 9 = true := by kernel_rfl

/- conch conchlaw09.within -/
def F10 (s_0 c_1 : Value) (s : AS) (k : Value → AS → Prop) : Prop :=
 kJoin (fun _ s =>
 k (.bool false) s) fun J1 =>
 kLoop (fun again2 xs s =>
 un1 xs fun i_5 =>
 kJoin (fun _ s =>
 kJoin (fun _ s =>
 kBin .add i_5 (.int .i64 1) fun v11 =>
 again2 [v11] s) fun J4 =>
 kIxS s_0 i_5 fun v14 =>
 kBin .eql v14 c_1 fun v16 =>
 kCond v16 (
 k (.bool true) s) (
 J4 [] s)) fun J3 =>
 kLen true s_0 fun v8 =>
 kBin .lss i_5 v8 fun v9 =>
 kCond v9 (
 J3 [] s) (
 J1 [] s)) [(.int .i64 0)] s
theorem F10_ok (s_0 c_1 : Value) (s : AS) (k : Value → AS → Prop) : denFn Try.prog [] 10 [s_0, c_1] s k = F10 s_0 c_1 s k := by kernel_rfl
theorem f10 {s_0 c_1 : Value} {s : AS} {k : Value → AS → Prop} (h : F10 s_0 c_1 s k) : kCall Try.prog 10 [s_0, c_1] s k := denFn_ok [] (cast (F10_ok s_0 c_1 s k).symm h)
theorem k10_ok : okFn Try.prog 10 = true := by kernel_rfl

/- conch split.Fields -/
def F11 (l_0 ifs_1 : Value) (s : AS) (k : Value → AS → Prop) : Prop :=
 kNew s [(.slice none 0 0)] fun out_5 s =>
 kNew s [(.pointer none)] fun now_6 s =>
 kNew s [(.bool false)] fun mark_7 s =>
 kSt s 1 mark_7 (.bool false) fun s =>
 kJoin (fun _ s =>
 kJoin (fun _ s =>
 kLd s out_5 fun v108 =>
 k v108 s) fun J2 =>
 kLd s now_6 fun v104 =>
 kEq 0 true v104 (.pointer none) fun v105 =>
 kCond v105 (
 kCallv Try.prog (.func (.func 20) #[] #[out_5, now_6]) [] s fun v107 s =>
 J2 [] s) (
 J2 [] s)) fun J1 =>
 kLen false l_0 fun v18 =>
 kLoop (fun again3 xs s =>
 un1 xs fun v19 =>
 kBin .lss v19 v18 fun v20 =>
 kJoin (fun _ s =>
 kJoin (fun _ s =>
 kBin .add v19 (.int .i64 1) fun v103 =>
 again3 [v103] s) fun J5 =>
 kIdx 4 l_0 v19 fun v21 =>
 kLdN s 4 v21 fun v22 =>
 kNew s [(.string (bs [])), (.bool false), (.bool false), (.bool false)] fun p_11 s =>
 kSt s 4 p_11 v22 fun s =>
 kJoin (fun _ s =>
 kFld 0 p_11 fun v50 =>
 kLd s v50 fun v51 =>
 kLen true v51 fun v52 =>
 kLoop (fun again7 xs s =>
 un1 xs fun v53 =>
 kBin .lss v53 v52 fun v54 =>
 kJoin (fun _ s =>
 kJoin (fun _ s =>
 kBin .add v53 (.int .i64 1) fun v102 =>
 again7 [v102] s) fun J9 =>
 kFld 0 p_11 fun v56 =>
 kLd s v56 fun v57 =>
 kIxS v57 v53 fun v59 =>
 kCall Try.prog 23 [ifs_1, v59] s fun v62 s =>
 kBin .geq v62 (.int .i64 0) fun v63 =>
 kGrd v63 true (fun k =>
 kBin .eql v59 (.int .u8 32) fun v77 =>
 k [v77] s) [undef] s fun xs s =>
 un1 xs fun v78 =>
 kGrd v78 false (fun k =>
 kBin .eql v59 (.int .u8 9) fun v80 =>
 k [v80] s) [undef] s fun xs s =>
 un1 xs fun v80 =>
 kGrd v63 true (fun k =>
 kPick v78 (.bool true) v80 fun v81 =>
 k [v81] s) [undef] s fun xs s =>
 un1 xs fun v82 =>
 kGrd v82 false (fun k =>
 kBin .eql v59 (.int .u8 10) fun v84 =>
 k [v84] s) [undef] s fun xs s =>
 un1 xs fun v84 =>
 kGrd v63 true (fun k =>
 kPick v82 (.bool true) v84 fun v85 =>
 k [v85] s) [undef] s fun xs s =>
 un1 xs fun v85 =>
 kPick v63 v85 (.bool false) fun v86 =>
 kCond v86 (
 kLd s now_6 fun v87 =>
 kEq 0 true v87 (.pointer none) fun v88 =>
 kCond v88 (
 kCallv Try.prog (.func (.func 20) #[] #[out_5, now_6]) [] s fun v90 s =>
 kSt s 1 mark_7 (.bool true) fun s =>
 J9 [] s) (
 J9 [] s)) (
 kGrd v63 true (fun k =>
 kLd s mark_7 fun v94 =>
 k [v94] s) [undef] s fun xs s =>
 un1 xs fun v94 =>
 kPick v63 v94 (.bool false) fun v95 =>
 kCond v95 (
 kSt s 1 mark_7 (.bool false) fun s =>
 J9 [] s) (
 kCond v63 (
 kCallv Try.prog (.func (.func 19) #[] #[now_6, mark_7]) [] s fun v99 s =>
 kCallv Try.prog (.func (.func 20) #[] #[out_5, now_6]) [] s fun v101 s =>
 J9 [] s) (
 kFld 0 p_11 fun v66 =>
 kBin .add v53 (.int .i64 1) fun v70 =>
 kLd s v66 fun v67 =>
 kSubS v67 (some v53) (some v70) fun v71 =>
 kCallv Try.prog (.func (.func 19) #[] #[now_6, mark_7]) [] s fun v65 s =>
 kChk s v66 v67 (
 kCall Try.prog 22 [v65, v71, (.bool false)] s fun v72 s =>
 J9 [] s))))) fun J8 =>
 kCond v54 (
 J8 [] s) (
 J5 [] s)) [(.int .i64 0)] s) fun J6 =>
 kFld 3 p_11 fun v24 =>
 kLd s v24 fun v25 =>
 kCond v25 (
 kJoin (fun _ s =>
 kSt s 1 mark_7 (.bool false) fun s =>
 J5 [] s) fun J10 =>
 kLd s now_6 fun v26 =>
 kEq 0 true v26 (.pointer none) fun v27 =>
 kCond v27 (
 kCallv Try.prog (.func (.func 20) #[] #[out_5, now_6]) [] s fun v29 s =>
 J10 [] s) (
 J10 [] s)) (
 kFld 1 p_11 fun v31 =>
 kLd s v31 fun v32 =>
 kCond v32 (
 kFld 0 p_11 fun v35 =>
 kLd s v35 fun v36 =>
 kCallv Try.prog (.func (.func 19) #[] #[now_6, mark_7]) [] s fun v34 s =>
 kChk s v35 v36 (
 kCall Try.prog 22 [v34, v36, (.bool true)] s fun v37 s =>
 J5 [] s)) (
 kFld 2 p_11 fun v39 =>
 kLd s v39 fun v40 =>
 kUn .not v40 fun v41 =>
 kCond v41 (
 kFld 0 p_11 fun v42 =>
 kLd s v42 fun v43 =>
 kBin .neq v43 (.string (bs [])) fun v44 =>
 kCond v44 (
 kFld 0 p_11 fun v47 =>
 kLd s v47 fun v48 =>
 kCallv Try.prog (.func (.func 19) #[] #[now_6, mark_7]) [] s fun v46 s =>
 kChk s v47 v48 (
 kCall Try.prog 22 [v46, v48, (.bool false)] s fun v49 s =>
 J5 [] s)) (
 J5 [] s)) (
 J6 [] s)))) fun J4 =>
 kCond v20 (
 J4 [] s) (
 J1 [] s)) [(.int .i64 0)] s
theorem F11_ok (l_0 ifs_1 : Value) (s : AS) (k : Value → AS → Prop) : denFn Try.prog [(14, (.go 0 (.go 2 (.go 3 (.go 1 (.go 4 .done)))))), (17, (.go 0 (.go 2 (.go 3 (.go 1 (.go 4 .done)))))), (23, (.go 0 (.go 2 (.go 4 (.go 5 (.go 6 (.go 3 (.go 7 (.go 1 (.go 8 .done))))))))))] 11 [l_0, ifs_1] s k = F11 l_0 ifs_1 s k := by kernel_rfl
theorem f11 {l_0 ifs_1 : Value} {s : AS} {k : Value → AS → Prop} (h : F11 l_0 ifs_1 s k) : kCall Try.prog 11 [l_0, ifs_1] s k := denFn_ok [(14, (.go 0 (.go 2 (.go 3 (.go 1 (.go 4 .done)))))), (17, (.go 0 (.go 2 (.go 3 (.go 1 (.go 4 .done)))))), (23, (.go 0 (.go 2 (.go 4 (.go 5 (.go 6 (.go 3 (.go 7 (.go 1 (.go 8 .done))))))))))] (cast (F11_ok l_0 ifs_1 s k).symm h)
theorem k11_ok : okFn Try.prog 11 = true := by kernel_rfl

/- conch conchlaw09.Plain -/
def F12 (l_0 : Value) (s : AS) (k : Value → AS → Prop) : Prop :=
 kJoin (fun xs s =>
 un1 xs fun out_3 =>
 k out_3 s) fun J1 =>
 kLoop (fun again2 xs s =>
 un2 xs fun out_3 i_4 =>
 kJoin (fun _ s =>
 kJoin (fun xs s =>
 un1 xs fun out_3 =>
 kBin .add i_4 (.int .i64 1) fun v10 =>
 again2 [out_3, v10] s) fun J4 =>
 kIdx 2 l_0 i_4 fun v14 =>
 kFld 0 v14 fun v15 =>
 kIdx 2 l_0 i_4 fun v19 =>
 kFld 1 v19 fun v20 =>
 kLd s v15 fun v16 =>
 kLd s v20 fun v21 =>
 kBuild [(.string (bs [])), (.slice none 0 0)] [(0, 1, v16), (1, 1, v21)] fun v22 =>
 kBsl s 1 [(.string (bs [])), (.slice none 0 0)] [(0, 2, v22)] fun v23 s =>
 kApp Try.prog 33 33 out_3 v23 s fun v24 s =>
 J4 [v24] s) fun J3 =>
 kLen false l_0 fun v7 =>
 kBin .lss i_4 v7 fun v8 =>
 kCond v8 (
 J3 [] s) (
 J1 [out_3] s)) [(.slice none 0 0), (.int .i64 0)] s
theorem F12_ok (l_0 : Value) (s : AS) (k : Value → AS → Prop) : denFn Try.prog [(5, (.go 0 (.go 1 (.go 2 (.go 3 (.go 4 (.go 6 (.go 7 (.go 8 (.go 9 (.go 5 (.go 10 (.go 11 (.go 12 (.go 13 (.go 14 .done))))))))))))))))] 12 [l_0] s k = F12 l_0 s k := by kernel_rfl
theorem f12 {l_0 : Value} {s : AS} {k : Value → AS → Prop} (h : F12 l_0 s k) : kCall Try.prog 12 [l_0] s k := denFn_ok [(5, (.go 0 (.go 1 (.go 2 (.go 3 (.go 4 (.go 6 (.go 7 (.go 8 (.go 9 (.go 5 (.go 10 (.go 11 (.go 12 (.go 13 (.go 14 .done))))))))))))))))] (cast (F12_ok l_0 s k).symm h)
theorem k12_ok : okFn Try.prog 12 = true := by kernel_rfl

/- conch conchref09.Same -/
def F13 (a_0 b_1 : Value) (s : AS) (k : Value → AS → Prop) : Prop :=
 kNew s (cellsV a_0) fun a_2 s =>
 kNew s (cellsV b_1) fun b_3 s =>
 kJoin (fun _ s =>
 kJoin (fun _ s =>
 k (.bool true) s) fun J2 =>
 kLoop (fun again3 xs s =>
 un1 xs fun i_5 =>
 kJoin (fun _ s =>
 kJoin (fun _ s =>
 kBin .add i_5 (.int .i64 1) fun v26 =>
 again3 [v26] s) fun J5 =>
 kFld 1 a_2 fun v27 =>
 kFld 1 b_3 fun v32 =>
 kLd s v27 fun v28 =>
 kIdx 1 v28 i_5 fun v30 =>
 kLd s v30 fun v31 =>
 kLd s v32 fun v33 =>
 kIdx 1 v33 i_5 fun v35 =>
 kLd s v35 fun v36 =>
 kEq 4 true v31 v36 fun v37 =>
 kCond v37 (
 k (.bool false) s) (
 J5 [] s)) fun J4 =>
 kFld 1 a_2 fun v21 =>
 kLd s v21 fun v22 =>
 kLen false v22 fun v23 =>
 kBin .lss i_5 v23 fun v24 =>
 kCond v24 (
 J4 [] s) (
 J2 [] s)) [(.int .i64 0)] s) fun J1 =>
 kFld 0 a_2 fun v6 =>
 kLd s v6 fun v7 =>
 kFld 0 b_3 fun v8 =>
 kLd s v8 fun v9 =>
 kBin .neq v7 v9 fun v10 =>
 kGrd v10 false (fun k =>
 kFld 1 a_2 fun v12 =>
 kLd s v12 fun v13 =>
 kLen false v13 fun v14 =>
 kFld 1 b_3 fun v15 =>
 kLd s v15 fun v16 =>
 kLen false v16 fun v17 =>
 kBin .neq v14 v17 fun v18 =>
 k [v18] s) [undef] s fun xs s =>
 un1 xs fun v18 =>
 kPick v10 (.bool true) v18 fun v19 =>
 kCond v19 (
 k (.bool false) s) (
 J1 [] s)
theorem F13_ok (a_0 b_1 : Value) (s : AS) (k : Value → AS → Prop) : denFn Try.prog [(6, (.go 0 (.go 2 (.go 5 (.go 7 (.go 1 (.go 3 (.go 4 (.go 6 (.go 8 (.go 9 (.go 10 .done))))))))))))] 13 [a_0, b_1] s k = F13 a_0 b_1 s k := by kernel_rfl
theorem f13 {a_0 b_1 : Value} {s : AS} {k : Value → AS → Prop} (h : F13 a_0 b_1 s k) : kCall Try.prog 13 [a_0, b_1] s k := denFn_ok [(6, (.go 0 (.go 2 (.go 5 (.go 7 (.go 1 (.go 3 (.go 4 (.go 6 (.go 8 (.go 9 (.go 10 .done))))))))))))] (cast (F13_ok a_0 b_1 s k).symm h)
theorem k13_ok : okFn Try.prog 13 = true := by kernel_rfl

/- conch conchref09.Fields -/
def F14 (l_0 ifs_1 : Value) (s : AS) (k : Value → AS → Prop) : Prop :=
 kBuild [(.slice none 0 0), (.slice none 0 0), (.slice none 0 0), (.bool false), (.bool false)] [] fun v9 =>
 kNew s (cellsV v9) fun v10 s =>
 kJoin (fun _ s =>
 kJoin (fun _ s =>
 kNck v10 fun v69 =>
 kFld 0 v69 fun v70 =>
 kLd s v70 fun v71 =>
 k v71 s) fun J2 =>
 kNck v10 fun v63 =>
 kFld 3 v63 fun v64 =>
 kLd s v64 fun v65 =>
 kCond v65 (
 kCall Try.prog 24 [v10] s fun v67 s =>
 J2 [] s) (
 J2 [] s)) fun J1 =>
 kLoop (fun again3 xs s =>
 un1 xs fun i_6 =>
 kJoin (fun _ s =>
 kJoin (fun _ s =>
 kBin .add i_6 (.int .i64 1) fun v16 =>
 again3 [v16] s) fun J5 =>
 kIdx 4 l_0 i_6 fun v19 =>
 kLdN s 4 v19 fun v20 =>
 kNew s [(.string (bs [])), (.bool false), (.bool false), (.bool false)] fun p_7 s =>
 kSt s 4 p_7 v20 fun s =>
 kFld 3 p_7 fun v21 =>
 kLd s v21 fun v22 =>
 kCond v22 (
 kJoin (fun _ s =>
 kNck v10 fun v30 =>
 kFld 4 v30 fun v31 =>
 kSt s 1 v31 (.bool false) fun s =>
 J5 [] s) fun J6 =>
 kNck v10 fun v24 =>
 kFld 3 v24 fun v25 =>
 kLd s v25 fun v26 =>
 kCond v26 (
 kCall Try.prog 24 [v10] s fun v28 s =>
 J6 [] s) (
 J6 [] s)) (
 kFld 1 p_7 fun v32 =>
 kLd s v32 fun v33 =>
 kCond v33 (
 kFld 0 p_7 fun v35 =>
 kLd s v35 fun v36 =>
 kCall Try.prog 25 [v10, v36, (.bool true)] s fun v37 s =>
 J5 [] s) (
 kFld 2 p_7 fun v38 =>
 kLd s v38 fun v39 =>
 kUn .not v39 fun v40 =>
 kCond v40 (
 kFld 0 p_7 fun v41 =>
 kLd s v41 fun v42 =>
 kBin .neq v42 (.string (bs [])) fun v43 =>
 kCond v43 (
 kFld 0 p_7 fun v45 =>
 kLd s v45 fun v46 =>
 kCall Try.prog 25 [v10, v46, (.bool false)] s fun v47 s =>
 J5 [] s) (
 J5 [] s)) (
 kLoop (fun again7 xs s =>
 un1 xs fun k_8 =>
 kJoin (fun _ s =>
 kJoin (fun _ s =>
 kBin .add k_8 (.int .i64 1) fun v54 =>
 again7 [v54] s) fun J9 =>
 kFld 0 p_7 fun v56 =>
 kLd s v56 fun v57 =>
 kIxS v57 k_8 fun v59 =>
 kCall Try.prog 26 [v10, v59, ifs_1] s fun v61 s =>
 J9 [] s) fun J8 =>
 kFld 0 p_7 fun v49 =>
 kLd s v49 fun v50 =>
 kLen true v50 fun v51 =>
 kBin .lss k_8 v51 fun v52 =>
 kCond v52 (
 J8 [] s) (
 J5 [] s)) [(.int .i64 0)] s)))) fun J4 =>
 kLen false l_0 fun v13 =>
 kBin .lss i_6 v13 fun v14 =>
 kCond v14 (
 J4 [] s) (
 J1 [] s)) [(.int .i64 0)] s
theorem F14_ok (l_0 ifs_1 : Value) (s : AS) (k : Value → AS → Prop) : denFn Try.prog [] 14 [l_0, ifs_1] s k = F14 l_0 ifs_1 s k := by kernel_rfl
theorem f14 {l_0 ifs_1 : Value} {s : AS} {k : Value → AS → Prop} (h : F14 l_0 ifs_1 s k) : kCall Try.prog 14 [l_0, ifs_1] s k := denFn_ok [] (cast (F14_ok l_0 ifs_1 s k).symm h)
theorem k14_ok : okFn Try.prog 14 = true := by kernel_rfl

/- conch conchlaw09.pieces -/
def F15 (l_0 : Value) (s : AS) (k : Value → AS → Prop) : Prop :=
 kJoin (fun xs s =>
 un1 xs fun out_3 =>
 k out_3 s) fun J1 =>
 kLoop (fun again2 xs s =>
 un2 xs fun out_3 i_4 =>
 kJoin (fun _ s =>
 kJoin (fun xs s =>
 un1 xs fun out_3 =>
 kBin .add i_4 (.int .i64 1) fun v10 =>
 again2 [out_3, v10] s) fun J4 =>
 kIdx 4 l_0 i_4 fun v14 =>
 kFld 0 v14 fun v15 =>
 kIdx 4 l_0 i_4 fun v19 =>
 kFld 1 v19 fun v20 =>
 kIdx 4 l_0 i_4 fun v24 =>
 kFld 2 v24 fun v25 =>
 kIdx 4 l_0 i_4 fun v29 =>
 kFld 3 v29 fun v30 =>
 kLd s v15 fun v16 =>
 kLd s v20 fun v21 =>
 kLd s v25 fun v26 =>
 kLd s v30 fun v31 =>
 kBuild [(.string (bs [])), (.bool false), (.bool false), (.bool false)] [(0, 1, v16), (1, 1, v21), (2, 1, v26), (3, 1, v31)] fun v32 =>
 kBsl s 1 [(.string (bs [])), (.bool false), (.bool false), (.bool false)] [(0, 4, v32)] fun v33 s =>
 kApp Try.prog 43 43 out_3 v33 s fun v34 s =>
 J4 [v34] s) fun J3 =>
 kLen false l_0 fun v7 =>
 kBin .lss i_4 v7 fun v8 =>
 kCond v8 (
 J3 [] s) (
 J1 [out_3] s)) [(.slice none 0 0), (.int .i64 0)] s
theorem F15_ok (l_0 : Value) (s : AS) (k : Value → AS → Prop) : denFn Try.prog [(5, (.go 0 (.go 1 (.go 2 (.go 3 (.go 4 (.go 6 (.go 7 (.go 8 (.go 9 (.go 11 (.go 12 (.go 13 (.go 14 (.go 16 (.go 17 (.go 18 (.go 19 (.go 5 (.go 10 (.go 15 (.go 20 (.go 21 (.go 22 (.go 23 (.go 24 .done))))))))))))))))))))))))))] 15 [l_0] s k = F15 l_0 s k := by kernel_rfl
theorem f15 {l_0 : Value} {s : AS} {k : Value → AS → Prop} (h : F15 l_0 s k) : kCall Try.prog 15 [l_0] s k := denFn_ok [(5, (.go 0 (.go 1 (.go 2 (.go 3 (.go 4 (.go 6 (.go 7 (.go 8 (.go 9 (.go 11 (.go 12 (.go 13 (.go 14 (.go 16 (.go 17 (.go 18 (.go 19 (.go 5 (.go 10 (.go 15 (.go 20 (.go 21 (.go 22 (.go 23 (.go 24 .done))))))))))))))))))))))))))] (cast (F15_ok l_0 s k).symm h)
theorem k15_ok : okFn Try.prog 15 = true := by kernel_rfl

/- conch split.One -/
def F16 (l_0 : Value) (s : AS) (k : Value → AS → Prop) : Prop :=
 kNew s [(.string (bs [])), (.slice none 0 0)] fun v2 s =>
 kNewT s 54 [(.pointer none), (.slice none 0 0), (.slice none 0 0)] fun out_3 s =>
 kJoin (fun _ s =>
 kCall Try.prog 21 [out_3] s fun v21 s =>
 kSt s 2 v2 v21 fun s =>
 kLdN s 2 v2 fun r0 =>
 k r0 s) fun J1 =>
 kLen false l_0 fun v7 =>
 kLoop (fun again2 xs s =>
 un1 xs fun v8 =>
 kBin .lss v8 v7 fun v9 =>
 kJoin (fun _ s =>
 kJoin (fun _ s =>
 kBin .add v8 (.int .i64 1) fun v20 =>
 again2 [v20] s) fun J4 =>
 kIdx 4 l_0 v8 fun v10 =>
 kLdN s 4 v10 fun v11 =>
 kNew s [(.string (bs [])), (.bool false), (.bool false), (.bool false)] fun p_5 s =>
 kSt s 4 p_5 v11 fun s =>
 kJoin (fun _ s =>
 kFld 0 p_5 fun v15 =>
 kLd s v15 fun v16 =>
 kFld 1 p_5 fun v17 =>
 kLd s v17 fun v18 =>
 kCall Try.prog 22 [out_3, v16, v18] s fun v19 s =>
 J4 [] s) fun J5 =>
 kFld 3 p_5 fun v12 =>
 kLd s v12 fun v13 =>
 kCond v13 (
 kCall Try.prog 22 [out_3, (.string (bs [32])), (.bool false)] s fun v14 s =>
 J4 [] s) (
 J5 [] s)) fun J3 =>
 kCond v9 (
 J3 [] s) (
 J1 [] s)) [(.int .i64 0)] s
theorem F16_ok (l_0 : Value) (s : AS) (k : Value → AS → Prop) : denFn Try.prog [] 16 [l_0] s k = F16 l_0 s k := by kernel_rfl
theorem f16 {l_0 : Value} {s : AS} {k : Value → AS → Prop} (h : F16 l_0 s k) : kCall Try.prog 16 [l_0] s k := denFn_ok [] (cast (F16_ok l_0 s k).symm h)
theorem k16_ok : okFn Try.prog 16 = true := by kernel_rfl

/- conch conchref09.All -/
def F17 (a_0 b_1 : Value) (s : AS) (k : Value → AS → Prop) : Prop :=
 kJoin (fun _ s =>
 kJoin (fun _ s =>
 k (.bool true) s) fun J2 =>
 kLoop (fun again3 xs s =>
 un1 xs fun i_5 =>
 kJoin (fun _ s =>
 kJoin (fun _ s =>
 kBin .add i_5 (.int .i64 1) fun v16 =>
 again3 [v16] s) fun J5 =>
 kIdx 2 a_0 i_5 fun v19 =>
 kIdx 2 b_1 i_5 fun v23 =>
 kLdN s 2 v19 fun v20 =>
 kLdN s 2 v23 fun v24 =>
 kCall Try.prog 13 [v20, v24] s fun v25 s =>
 kUn .not v25 fun v26 =>
 kCond v26 (
 k (.bool false) s) (
 J5 [] s)) fun J4 =>
 kLen false a_0 fun v13 =>
 kBin .lss i_5 v13 fun v14 =>
 kCond v14 (
 J4 [] s) (
 J2 [] s)) [(.int .i64 0)] s) fun J1 =>
 kLen false a_0 fun v7 =>
 kLen false b_1 fun v9 =>
 kBin .neq v7 v9 fun v10 =>
 kCond v10 (
 k (.bool false) s) (
 J1 [] s)
theorem F17_ok (a_0 b_1 : Value) (s : AS) (k : Value → AS → Prop) : denFn Try.prog [(6, (.go 0 (.go 1 (.go 2 (.go 4 (.go 5 (.go 6 (.go 3 (.go 7 (.go 8 (.go 9 .done)))))))))))] 17 [a_0, b_1] s k = F17 a_0 b_1 s k := by kernel_rfl
theorem f17 {a_0 b_1 : Value} {s : AS} {k : Value → AS → Prop} (h : F17 a_0 b_1 s k) : kCall Try.prog 17 [a_0, b_1] s k := denFn_ok [(6, (.go 0 (.go 1 (.go 2 (.go 4 (.go 5 (.go 6 (.go 3 (.go 7 (.go 8 (.go 9 .done)))))))))))] (cast (F17_ok a_0 b_1 s k).symm h)
theorem k17_ok : okFn Try.prog 17 = true := by kernel_rfl

/- conch conchref09.One -/
def F18 (l_0 : Value) (s : AS) (k : Value → AS → Prop) : Prop :=
 kNew s [(.string (bs [])), (.slice none 0 0)] fun v2 s =>
 kBuild [(.slice none 0 0), (.slice none 0 0), (.slice none 0 0), (.bool false), (.bool false)] [] fun v5 =>
 kNew s (cellsV v5) fun v6 s =>
 kJoin (fun _ s =>
 kCall Try.prog 24 [v6] s fun v33 s =>
 kNck v6 fun v35 =>
 kFld 0 v35 fun v36 =>
 kLd s v36 fun v37 =>
 kIdx 2 v37 (.int .i64 0) fun v38 =>
 kLdN s 2 v38 fun v39 =>
 kSt s 2 v2 v39 fun s =>
 kLdN s 2 v2 fun r0 =>
 k r0 s) fun J1 =>
 kLoop (fun again2 xs s =>
 un1 xs fun i_4 =>
 kJoin (fun _ s =>
 kJoin (fun _ s =>
 kBin .add i_4 (.int .i64 1) fun v12 =>
 again2 [v12] s) fun J4 =>
 kIdx 4 l_0 i_4 fun v15 =>
 kFld 3 v15 fun v16 =>
 kLd s v16 fun v17 =>
 kCond v17 (
 kCall Try.prog 25 [v6, (.string (bs [32])), (.bool false)] s fun v19 s =>
 J4 [] s) (
 kIdx 4 l_0 i_4 fun v23 =>
 kFld 0 v23 fun v24 =>
 kIdx 4 l_0 i_4 fun v28 =>
 kFld 1 v28 fun v29 =>
 kLd s v24 fun v25 =>
 kLd s v29 fun v30 =>
 kCall Try.prog 25 [v6, v25, v30] s fun v31 s =>
 J4 [] s)) fun J3 =>
 kLen false l_0 fun v9 =>
 kBin .lss i_4 v9 fun v10 =>
 kCond v10 (
 J3 [] s) (
 J1 [] s)) [(.int .i64 0)] s
theorem F18_ok (l_0 : Value) (s : AS) (k : Value → AS → Prop) : denFn Try.prog [(7, (.go 0 (.go 1 (.go 2 (.go 3 (.go 4 (.go 6 (.go 7 (.go 8 (.go 9 (.go 5 (.go 10 (.go 11 .done)))))))))))))] 18 [l_0] s k = F18 l_0 s k := by kernel_rfl
theorem f18 {l_0 : Value} {s : AS} {k : Value → AS → Prop} (h : F18 l_0 s k) : kCall Try.prog 18 [l_0] s k := denFn_ok [(7, (.go 0 (.go 1 (.go 2 (.go 3 (.go 4 (.go 6 (.go 7 (.go 8 (.go 9 (.go 5 (.go 10 (.go 11 .done)))))))))))))] (cast (F18_ok l_0 s k).symm h)
theorem k18_ok : okFn Try.prog 18 = true := by kernel_rfl

/- conch split.Fields$1 -/
def F19 (v0 v1 : Value) (s : AS) (k : Value → AS → Prop) : Prop :=
 kJoin (fun _ s =>
 kSt s 1 v1 (.bool false) fun s =>
 kLd s v0 fun v7 =>
 k v7 s) fun J1 =>
 kLd s v0 fun v3 =>
 kEq 0 false v3 (.pointer none) fun v4 =>
 kCond v4 (
 kBuild [(.pointer none), (.slice none 0 0), (.slice none 0 0)] [] fun v5 =>
 kNewT s 54 (cellsV v5) fun v6 s =>
 kSt s 1 v0 v6 fun s =>
 J1 [] s) (
 J1 [] s)
theorem F19_ok (v0 v1 : Value) (s : AS) (k : Value → AS → Prop) : denFn Try.prog [] 19 [v0, v1] s k = F19 v0 v1 s k := by kernel_rfl
theorem f19 {v0 v1 : Value} {s : AS} {k : Value → AS → Prop} (h : F19 v0 v1 s k) : kCall Try.prog 19 [v0, v1] s k := denFn_ok [] (cast (F19_ok v0 v1 s k).symm h)
theorem k19_ok : okFn Try.prog 19 = true := by kernel_rfl

/- conch split.Fields$2 -/
def F20 (v0 v1 : Value) (s : AS) (k : Value → AS → Prop) : Prop :=
 kLd s v0 fun v2 =>
 kLd s v1 fun v3 =>
 kCall Try.prog 21 [v3] s fun v4 s =>
 kChk s v0 v2 (
 kBsl s 1 [(.string (bs [])), (.slice none 0 0)] [(0, 2, v4)] fun v5 s =>
 kChk s v0 v2 (
 kApp Try.prog 31 31 v2 v5 s fun v6 s =>
 kSt s 1 v0 v6 fun s =>
 kSt s 1 v1 (.pointer none) fun s =>
 k undef s))
theorem F20_ok (v0 v1 : Value) (s : AS) (k : Value → AS → Prop) : denFn Try.prog [(0, (.go 0 (.go 1 (.go 2 (.go 3 (.go 4 (.go 5 .done)))))))] 20 [v0, v1] s k = F20 v0 v1 s k := by kernel_rfl
theorem f20 {v0 v1 : Value} {s : AS} {k : Value → AS → Prop} (h : F20 v0 v1 s k) : kCall Try.prog 20 [v0, v1] s k := denFn_ok [(0, (.go 0 (.go 1 (.go 2 (.go 3 (.go 4 (.go 5 .done)))))))] (cast (F20_ok v0 v1 s k).symm h)
theorem k20_ok : okFn Try.prog 20 = true := by kernel_rfl

/- (*conch split.making).field -/
def F21 (m_0 : Value) (s : AS) (k : Value → AS → Prop) : Prop :=
 kNew s [(.string (bs [])), (.slice none 0 0)] fun v2 s =>
 kNck m_0 fun v4 =>
 kFld 0 v4 fun v5 =>
 kNck m_0 fun v8 =>
 kFld 2 v8 fun v9 =>
 kLd s v9 fun v10 =>
 kCall Try.prog 27 [v5] s fun v6 s =>
 kChk s v9 v10 (
 kBuild [(.string (bs [])), (.slice none 0 0)] [(0, 1, v6), (1, 1, v10)] fun v11 =>
 kSt s 2 v2 v11 fun s =>
 kLdN s 2 v2 fun r0 =>
 k r0 s)
theorem F21_ok (m_0 : Value) (s : AS) (k : Value → AS → Prop) : denFn Try.prog [(1, (.go 0 (.go 1 (.go 2 (.go 4 (.go 5 (.go 6 (.go 7 (.go 3 (.go 8 (.go 9 .done)))))))))))] 21 [m_0] s k = F21 m_0 s k := by kernel_rfl
theorem f21 {m_0 : Value} {s : AS} {k : Value → AS → Prop} (h : F21 m_0 s k) : kCall Try.prog 21 [m_0] s k := denFn_ok [(1, (.go 0 (.go 1 (.go 2 (.go 4 (.go 5 (.go 6 (.go 7 (.go 3 (.go 8 (.go 9 .done)))))))))))] (cast (F21_ok m_0 s k).symm h)
theorem k21_ok : okFn Try.prog 21 = true := by kernel_rfl

/- (*conch split.making).add -/
def F22 (m_0 s_1 quoted_2 : Value) (s : AS) (k : Value → AS → Prop) : Prop :=
 kNck m_0 fun v7 =>
 kFld 0 v7 fun v8 =>
 kCall Try.prog 28 [v8, s_1] s fun v10 s =>
 kLen true s_1 fun v12 =>
 kLoop (fun again1 xs s =>
 un1 xs fun v13 =>
 kBin .lss v13 v12 fun v14 =>
 kJoin (fun _ s =>
 kJoin (fun _ s =>
 kBin .add v13 (.int .i64 1) fun v25 =>
 again1 [v25] s) fun J3 =>
 kNck m_0 fun v17 =>
 kFld 2 v17 fun v18 =>
 kLd s v18 fun v19 =>
 kBsl s 1 [(.bool false)] [(0, 1, quoted_2)] fun v21 s =>
 kApp Try.prog 25 25 v19 v21 s fun v22 s =>
 kNck m_0 fun v23 =>
 kFld 2 v23 fun v24 =>
 kSt s 1 v24 v22 fun s =>
 J3 [] s) fun J2 =>
 kCond v14 (
 J2 [] s) (
 k undef s)) [(.int .i64 0)] s
theorem F22_ok (m_0 s_1 quoted_2 : Value) (s : AS) (k : Value → AS → Prop) : denFn Try.prog [] 22 [m_0, s_1, quoted_2] s k = F22 m_0 s_1 quoted_2 s k := by kernel_rfl
theorem f22 {m_0 s_1 quoted_2 : Value} {s : AS} {k : Value → AS → Prop} (h : F22 m_0 s_1 quoted_2 s k) : kCall Try.prog 22 [m_0, s_1, quoted_2] s k := denFn_ok [] (cast (F22_ok m_0 s_1 quoted_2 s k).symm h)
theorem k22_ok : okFn Try.prog 22 = true := by kernel_rfl

/- strings.IndexByte -/
def F23 (s_0 c_1 : Value) (s : AS) (k : Value → AS → Prop) : Prop :=
 kCall Try.prog 29 [s_0, c_1] s fun v7 s =>
 k v7 s
theorem F23_ok (s_0 c_1 : Value) (s : AS) (k : Value → AS → Prop) : denFn Try.prog [] 23 [s_0, c_1] s k = F23 s_0 c_1 s k := by kernel_rfl
theorem f23 {s_0 c_1 : Value} {s : AS} {k : Value → AS → Prop} (h : F23 s_0 c_1 s k) : kCall Try.prog 23 [s_0, c_1] s k := denFn_ok [] (cast (F23_ok s_0 c_1 s k).symm h)
theorem k23_ok : okFn Try.prog 23 = true := by kernel_rfl

/- (*conch conchref09.state).end -/
def F24 (s_0 : Value) (s : AS) (k : Value → AS → Prop) : Prop :=
 kNck s_0 fun v4 =>
 kFld 0 v4 fun v5 =>
 kNck s_0 fun v8 =>
 kFld 1 v8 fun v9 =>
 kNck s_0 fun v13 =>
 kFld 2 v13 fun v14 =>
 kLd s v5 fun v6 =>
 kLd s v9 fun v10 =>
 kLd s v14 fun v15 =>
 kCvBS s v10 fun v11 =>
 kChk s v14 v15 (
 kChk s v5 v6 (
 kBuild [(.string (bs [])), (.slice none 0 0)] [(0, 1, v11), (1, 1, v15)] fun v16 =>
 kBsl s 1 [(.string (bs [])), (.slice none 0 0)] [(0, 2, v16)] fun v17 s =>
 kChk s v5 v6 (
 kApp Try.prog 33 33 v6 v17 s fun v18 s =>
 kNck s_0 fun v19 =>
 kFld 0 v19 fun v20 =>
 kSt s 1 v20 v18 fun s =>
 kNck s_0 fun v22 =>
 kFld 1 v22 fun v23 =>
 kSt s 1 v23 (.slice none 0 0) fun s =>
 kNck s_0 fun v25 =>
 kFld 2 v25 fun v26 =>
 kSt s 1 v26 (.slice none 0 0) fun s =>
 kNck s_0 fun v28 =>
 kFld 3 v28 fun v29 =>
 kSt s 1 v29 (.bool false) fun s =>
 k undef s)))
theorem F24_ok (s_0 : Value) (s : AS) (k : Value → AS → Prop) : denFn Try.prog [(0, (.go 0 (.go 1 (.go 2 (.go 3 (.go 5 (.go 6 (.go 7 (.go 10 (.go 11 (.go 12 (.go 4 (.go 8 (.go 13 (.go 9 (.go 14 (.go 15 (.go 16 (.go 17 (.go 18 (.go 19 .done)))))))))))))))))))))] 24 [s_0] s k = F24 s_0 s k := by kernel_rfl
theorem f24 {s_0 : Value} {s : AS} {k : Value → AS → Prop} (h : F24 s_0 s k) : kCall Try.prog 24 [s_0] s k := denFn_ok [(0, (.go 0 (.go 1 (.go 2 (.go 3 (.go 5 (.go 6 (.go 7 (.go 10 (.go 11 (.go 12 (.go 4 (.go 8 (.go 13 (.go 9 (.go 14 (.go 15 (.go 16 (.go 17 (.go 18 (.go 19 .done)))))))))))))))))))))] (cast (F24_ok s_0 s k).symm h)
theorem k24_ok : okFn Try.prog 24 = true := by kernel_rfl

/- (*conch conchref09.state).add -/
def F25 (s_0 t_1 quoted_2 : Value) (s : AS) (k : Value → AS → Prop) : Prop :=
 kJoin (fun _ s =>
 kNck s_0 fun v36 =>
 kFld 3 v36 fun v37 =>
 kSt s 1 v37 (.bool true) fun s =>
 kNck s_0 fun v39 =>
 kFld 4 v39 fun v40 =>
 kSt s 1 v40 (.bool false) fun s =>
 k undef s) fun J1 =>
 kLoop (fun again2 xs s =>
 un1 xs fun i_6 =>
 kJoin (fun _ s =>
 kJoin (fun _ s =>
 kBin .add i_6 (.int .i64 1) fun v12 =>
 again2 [v12] s) fun J4 =>
 kNck s_0 fun v15 =>
 kFld 1 v15 fun v16 =>
 kIxS t_1 i_6 fun v20 =>
 kLd s v16 fun v17 =>
 kBsl s 1 [(.int .u8 0)] [(0, 1, v20)] fun v21 s =>
 kChk s v16 v17 (
 kApp Try.prog 50 50 v17 v21 s fun v22 s =>
 kNck s_0 fun v23 =>
 kFld 1 v23 fun v24 =>
 kSt s 1 v24 v22 fun s =>
 kNck s_0 fun v27 =>
 kFld 2 v27 fun v28 =>
 kLd s v28 fun v29 =>
 kBsl s 1 [(.bool false)] [(0, 1, quoted_2)] fun v31 s =>
 kApp Try.prog 25 25 v29 v31 s fun v32 s =>
 kNck s_0 fun v33 =>
 kFld 2 v33 fun v34 =>
 kSt s 1 v34 v32 fun s =>
 J4 [] s)) fun J3 =>
 kLen true t_1 fun v9 =>
 kBin .lss i_6 v9 fun v10 =>
 kCond v10 (
 J3 [] s) (
 J1 [] s)) [(.int .i64 0)] s
theorem F25_ok (s_0 t_1 quoted_2 : Value) (s : AS) (k : Value → AS → Prop) : denFn Try.prog [(3, (.go 0 (.go 1 (.go 2 (.go 3 (.go 5 (.go 6 (.go 7 (.go 4 (.go 8 (.go 9 (.go 10 (.go 11 (.go 12 .done))))))))))))))] 25 [s_0, t_1, quoted_2] s k = F25 s_0 t_1 quoted_2 s k := by kernel_rfl
theorem f25 {s_0 t_1 quoted_2 : Value} {s : AS} {k : Value → AS → Prop} (h : F25 s_0 t_1 quoted_2 s k) : kCall Try.prog 25 [s_0, t_1, quoted_2] s k := denFn_ok [(3, (.go 0 (.go 1 (.go 2 (.go 3 (.go 5 (.go 6 (.go 7 (.go 4 (.go 8 (.go 9 (.go 10 (.go 11 (.go 12 .done))))))))))))))] (cast (F25_ok s_0 t_1 quoted_2 s k).symm h)
theorem k25_ok : okFn Try.prog 25 = true := by kernel_rfl

/- (*conch conchref09.state).sign -/
def F26 (s_0 c_1 ifs_2 : Value) (s : AS) (k : Value → AS → Prop) : Prop :=
 kJoin (fun _ s =>
 kJoin (fun _ s =>
 kJoin (fun _ s =>
 kCall Try.prog 24 [s_0] s fun v42 s =>
 k undef s) fun J3 =>
 kNck s_0 fun v35 =>
 kFld 4 v35 fun v36 =>
 kLd s v36 fun v37 =>
 kCond v37 (
 kNck s_0 fun v39 =>
 kFld 4 v39 fun v40 =>
 kSt s 1 v40 (.bool false) fun s =>
 k undef s) (
 J3 [] s)) fun J2 =>
 kBin .eql c_1 (.int .u8 32) fun v16 =>
 kGrd v16 false (fun k =>
 kBin .eql c_1 (.int .u8 9) fun v19 =>
 k [v19] s) [undef] s fun xs s =>
 un1 xs fun v19 =>
 kPick v16 (.bool true) v19 fun v20 =>
 kGrd v20 false (fun k =>
 kBin .eql c_1 (.int .u8 10) fun v23 =>
 k [v23] s) [undef] s fun xs s =>
 un1 xs fun v23 =>
 kPick v20 (.bool true) v23 fun v24 =>
 kCond v24 (
 kNck s_0 fun v26 =>
 kFld 3 v26 fun v27 =>
 kLd s v27 fun v28 =>
 kCond v28 (
 kCall Try.prog 24 [s_0] s fun v30 s =>
 kNck s_0 fun v32 =>
 kFld 4 v32 fun v33 =>
 kSt s 1 v33 (.bool true) fun s =>
 k undef s) (
 k undef s)) (
 J2 [] s)) fun J1 =>
 kCall Try.prog 30 [ifs_2, c_1] s fun v8 s =>
 kUn .not v8 fun v9 =>
 kCond v9 (
 kBsl s 1 [(.int .u8 0)] [(0, 1, c_1)] fun v12 s =>
 kCvBS s v12 fun v13 =>
 kCall Try.prog 25 [s_0, v13, (.bool false)] s fun v14 s =>
 k undef s) (
 J1 [] s)
theorem F26_ok (s_0 c_1 ifs_2 : Value) (s : AS) (k : Value → AS → Prop) : denFn Try.prog [] 26 [s_0, c_1, ifs_2] s k = F26 s_0 c_1 ifs_2 s k := by kernel_rfl
theorem f26 {s_0 c_1 ifs_2 : Value} {s : AS} {k : Value → AS → Prop} (h : F26 s_0 c_1 ifs_2 s k) : kCall Try.prog 26 [s_0, c_1, ifs_2] s k := denFn_ok [] (cast (F26_ok s_0 c_1 ifs_2 s k).symm h)
theorem k26_ok : okFn Try.prog 26 = true := by kernel_rfl

/- (*strings.Builder).String -/
def F27 (b_0 : Value) (s : AS) (k : Value → AS → Prop) : Prop :=
 kNck b_0 fun v4 =>
 kFld 1 v4 fun v5 =>
 kNck b_0 fun v9 =>
 kFld 1 v9 fun v10 =>
 kLd s v5 fun v6 =>
 kLd s v10 fun v11 =>
 kLen false v11 fun v12 =>
 kGen Try.prog (.blt .unsafeSliceData [50] 69) [v6] s fun v7 s =>
 kChk s v10 v11 (
 kGen Try.prog (.blt .unsafeString [69, 3] 9) [v7, v12] s fun v13 s =>
 k v13 s)
theorem F27_ok (b_0 : Value) (s : AS) (k : Value → AS → Prop) : denFn Try.prog [(1, (.go 0 (.go 1 (.go 2 (.go 5 (.go 6 (.go 7 (.go 3 (.go 8 (.go 9 (.go 4 (.go 10 (.go 11 .done)))))))))))))] 27 [b_0] s k = F27 b_0 s k := by kernel_rfl
theorem f27 {b_0 : Value} {s : AS} {k : Value → AS → Prop} (h : F27 b_0 s k) : kCall Try.prog 27 [b_0] s k := denFn_ok [(1, (.go 0 (.go 1 (.go 2 (.go 5 (.go 6 (.go 7 (.go 3 (.go 8 (.go 9 (.go 4 (.go 10 (.go 11 .done)))))))))))))] (cast (F27_ok b_0 s k).symm h)
theorem k27_ok : okFn Try.prog 27 = true := by kernel_rfl

/- (*strings.Builder).WriteString -/
def F28 (b_0 s_1 : Value) (s : AS) (k : Value → AS → Prop) : Prop :=
 kCall Try.prog 31 [b_0] s fun v7 s =>
 kNck b_0 fun v10 =>
 kFld 1 v10 fun v11 =>
 kLd s v11 fun v12 =>
 kApp Try.prog 50 9 v12 s_1 s fun v14 s =>
 kNck b_0 fun v15 =>
 kFld 1 v15 fun v16 =>
 kSt s 1 v16 v14 fun s =>
 kLen true s_1 fun v18 =>
 k (.tuple #[v18, .nilIface]) s
theorem F28_ok (b_0 s_1 : Value) (s : AS) (k : Value → AS → Prop) : denFn Try.prog [] 28 [b_0, s_1] s k = F28 b_0 s_1 s k := by kernel_rfl
theorem f28 {b_0 s_1 : Value} {s : AS} {k : Value → AS → Prop} (h : F28 b_0 s_1 s k) : kCall Try.prog 28 [b_0, s_1] s k := denFn_ok [] (cast (F28_ok b_0 s_1 s k).symm h)
theorem k28_ok : okFn Try.prog 28 = true := by kernel_rfl

/- internal stringslite.IndexByte -/
def F29 (s_0 c_1 : Value) (s : AS) (k : Value → AS → Prop) : Prop :=
 kGen Try.prog (.ext 32) [s_0, c_1] s fun v7 s =>
 k v7 s
theorem F29_ok (s_0 c_1 : Value) (s : AS) (k : Value → AS → Prop) : denFn Try.prog [] 29 [s_0, c_1] s k = F29 s_0 c_1 s k := by kernel_rfl
theorem f29 {s_0 c_1 : Value} {s : AS} {k : Value → AS → Prop} (h : F29 s_0 c_1 s k) : kCall Try.prog 29 [s_0, c_1] s k := denFn_ok [] (cast (F29_ok s_0 c_1 s k).symm h)
theorem k29_ok : okFn Try.prog 29 = true := by kernel_rfl

/- conch conchref09.in -/
def F30 (t_0 c_1 : Value) (s : AS) (k : Value → AS → Prop) : Prop :=
 kJoin (fun _ s =>
 k (.bool false) s) fun J1 =>
 kLoop (fun again2 xs s =>
 un1 xs fun i_5 =>
 kJoin (fun _ s =>
 kJoin (fun _ s =>
 kBin .add i_5 (.int .i64 1) fun v11 =>
 again2 [v11] s) fun J4 =>
 kIxS t_0 i_5 fun v14 =>
 kBin .eql v14 c_1 fun v16 =>
 kCond v16 (
 k (.bool true) s) (
 J4 [] s)) fun J3 =>
 kLen true t_0 fun v8 =>
 kBin .lss i_5 v8 fun v9 =>
 kCond v9 (
 J3 [] s) (
 J1 [] s)) [(.int .i64 0)] s
theorem F30_ok (t_0 c_1 : Value) (s : AS) (k : Value → AS → Prop) : denFn Try.prog [] 30 [t_0, c_1] s k = F30 t_0 c_1 s k := by kernel_rfl
theorem f30 {t_0 c_1 : Value} {s : AS} {k : Value → AS → Prop} (h : F30 t_0 c_1 s k) : kCall Try.prog 30 [t_0, c_1] s k := denFn_ok [] (cast (F30_ok t_0 c_1 s k).symm h)
theorem k30_ok : okFn Try.prog 30 = true := by kernel_rfl

/- (*strings.Builder).copyCheck -/
def F31 (b_0 : Value) (s : AS) (k : Value → AS → Prop) : Prop :=
 kNck b_0 fun v3 =>
 kFld 0 v3 fun v4 =>
 kLd s v4 fun v5 =>
 kEq 0 false v5 (.pointer none) fun v6 =>
 kCond v6 (
 kGen Try.prog (.cv 49 70) [b_0] s fun v9 s =>
 kGen Try.prog (.ext 33) [v9] s fun v10 s =>
 kGen Try.prog (.cv 70 49) [v10] s fun v11 s =>
 kNck b_0 fun v12 =>
 kFld 0 v12 fun v13 =>
 kSt s 1 v13 v11 fun s =>
 k undef s) (
 kNck b_0 fun v15 =>
 kFld 0 v15 fun v16 =>
 kLd s v16 fun v17 =>
 kGen Try.prog (.bop .neq 49 (.tmp 17) (.tmp 18)) [v17, b_0] s fun v19 s =>
 kCond v19 (
 False) (
 k undef s))
theorem F31_ok (b_0 : Value) (s : AS) (k : Value → AS → Prop) : denFn Try.prog [] 31 [b_0] s k = F31 b_0 s k := by kernel_rfl
theorem f31 {b_0 : Value} {s : AS} {k : Value → AS → Prop} (h : F31 b_0 s k) : kCall Try.prog 31 [b_0] s k := denFn_ok [] (cast (F31_ok b_0 s k).symm h)
theorem k31_ok : okFn Try.prog 31 = true := by kernel_rfl

end Go.Proofs.Ytaenpaeigoeebaa
