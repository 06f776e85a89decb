/- The walks of the functions, printed by a program of this proof, each held against the loaded program by the kernel. Conditions: none. -/
import Derived.Test.YtgijohcmkipkhaaDoorProg
import Derived.Test.YtgijohcmkipkhaaDoorF6
namespace Go.Proofs.YtgijohcmkipkhaaDoor
open E
set_option maxRecDepth 100000
set_option linter.unusedVariables false

/- conch conchlaw04.LexStands -/
def F3 (s_0 : Value) (s : AS) (k : Value → AS → Prop) : Prop :=
 kJoin (fun _ s =>
 kCall Tryd.prog 8 [s_0] s fun v15 s =>
 kExt 0 v15 fun v16 =>
 kExt 1 v15 fun v17 =>
 kExt 2 v15 fun v18 =>
 kJoin (fun _ s =>
 kJoin (fun _ s =>
 kBin .geq v17 (.int .i64 0) fun v78 =>
 kGrd v78 true (fun k =>
 kLen true s_0 fun v82 =>
 kBin .lss v17 v82 fun v83 =>
 k [v83] s) [undef] s fun xs s =>
 un1 xs fun v83 =>
 kPick v78 v83 (.bool false) fun v84 =>
 kGrd v84 true (fun k =>
 kCall Tryd.prog 7 [] s fun v86 s =>
 k [v86] s) [undef] s fun xs s =>
 un1 xs fun v86 =>
 kPick v84 v86 (.bool false) fun v87 =>
 k v87 s) fun J3 =>
 kBin .eql v18 (.int .i64 0) fun v71 =>
 kCond v71 (
 kBin .eql v17 (.int .i64 0) fun v73 =>
 kGrd v73 true (fun k =>
 kCall Tryd.prog 7 [] s fun v75 s =>
 k [v75] s) [undef] s fun xs s =>
 un1 xs fun v75 =>
 kPick v73 v75 (.bool false) fun v76 =>
 k v76 s) (
 J3 [] s)) fun J2 =>
 kLoop (fun again4 xs s =>
 un2 xs fun end_6 i_7 =>
 kJoin (fun _ s =>
 kJoin (fun xs s =>
 un1 xs fun end_6 =>
 kBin .add i_7 (.int .i64 1) fun v24 =>
 again4 [end_6, v24] s) fun J6 =>
 kIdx 5 v16 i_7 fun v27 =>
 kLdN s 5 v27 fun v28 =>
 kNew s [(.int .i64 0), (.string (bs [])), (.int .i64 0), (.string (bs [])), (.bool false)] fun t_8 s =>
 kSt s 5 t_8 v28 fun s =>
 kJoin (fun _ s =>
 kFld 2 t_8 fun v64 =>
 kLd s v64 fun v65 =>
 kFld 1 t_8 fun v66 =>
 kLd s v66 fun v67 =>
 kLen true v67 fun v68 =>
 kBin .add v65 v68 fun v69 =>
 J6 [v69] s) fun J7 =>
 kFld 2 t_8 fun v29 =>
 kLd s v29 fun v30 =>
 kBin .lss v30 end_6 fun v32 =>
 kGrd v32 false (fun k =>
 kFld 1 t_8 fun v34 =>
 kLd s v34 fun v35 =>
 kBin .eql v35 (.string (bs [])) fun v36 =>
 k [v36] s) [undef] s fun xs s =>
 un1 xs fun v36 =>
 kPick v32 (.bool true) v36 fun v37 =>
 kGrd v37 false (fun k =>
 kFld 2 t_8 fun v39 =>
 kFld 1 t_8 fun v41 =>
 kLen true s_0 fun v46 =>
 kLd s v39 fun v40 =>
 kLd s v41 fun v42 =>
 kLen true v42 fun v43 =>
 kBin .add v40 v43 fun v44 =>
 kBin .gtr v44 v46 fun v47 =>
 k [v47] s) [undef] s fun xs s =>
 un1 xs fun v47 =>
 kPick v37 (.bool true) v47 fun v48 =>
 kGrd v48 false (fun k =>
 kFld 2 t_8 fun v51 =>
 kFld 2 t_8 fun v53 =>
 kFld 1 t_8 fun v55 =>
 kFld 1 t_8 fun v60 =>
 kLd s v51 fun v52 =>
 kLd s v53 fun v54 =>
 kLd s v55 fun v56 =>
 kLen true v56 fun v57 =>
 kBin .add v54 v57 fun v58 =>
 kSubS s_0 (some v52) (some v58) fun v59 =>
 kLd s v60 fun v61 =>
 kBin .neq v59 v61 fun v62 =>
 k [v62] s) [undef] s fun xs s =>
 un1 xs fun v62 =>
 kPick v48 (.bool true) v62 fun v63 =>
 kCond v63 (
 k (.bool false) s) (
 J7 [] s)) fun J5 =>
 kLen false v16 fun v21 =>
 kBin .lss i_7 v21 fun v22 =>
 kCond v22 (
 J5 [] s) (
 J2 [] s)) [(.int .i64 0), (.int .i64 0)] s) fun J1 =>
 kLen true s_0 fun v10 =>
 kBin .gtr v10 (.int .i64 1000) fun v11 =>
 kCond v11 (
 kCall Tryd.prog 7 [] s fun v12 s =>
 k v12 s) (
 J1 [] s)
theorem F3_ok (s_0 : Value) (s : AS) (k : Value → AS → Prop) : denFn Tryd.prog [(9, (.go 0 (.go 2 (.go 1 (.go 3 (.go 4 (.go 5 (.go 6 (.go 7 (.go 8 (.go 9 (.go 10 (.go 12 (.go 16 (.go 17 (.go 11 (.go 13 (.go 14 (.go 15 (.go 18 (.go 19 (.go 20 (.go 21 (.go 22 (.go 24 (.go 26 (.go 31 (.go 23 (.go 25 (.go 27 (.go 28 (.go 29 (.go 30 (.go 32 (.go 33 (.go 34 .done))))))))))))))))))))))))))))))))))))] 3 [s_0] s k = F3 s_0 s k := by kernel_rfl
theorem f3 {s_0 : Value} {s : AS} {k : Value → AS → Prop} (h : F3 s_0 s k) : kCall Tryd.prog 3 [s_0] s k := denFn_ok [(9, (.go 0 (.go 2 (.go 1 (.go 3 (.go 4 (.go 5 (.go 6 (.go 7 (.go 8 (.go 9 (.go 10 (.go 12 (.go 16 (.go 17 (.go 11 (.go 13 (.go 14 (.go 15 (.go 18 (.go 19 (.go 20 (.go 21 (.go 22 (.go 24 (.go 26 (.go 31 (.go 23 (.go 25 (.go 27 (.go 28 (.go 29 (.go 30 (.go 32 (.go 33 (.go 34 .done))))))))))))))))))))))))))))))))))))] (cast (F3_ok s_0 s k).symm h)
theorem k3_ok : okFn Tryd.prog 3 = true := by kernel_rfl

/- conch conchlaw04.LexAgain -/
def F4 (s_0 : Value) (s : AS) (k : Value → AS → Prop) : Prop :=
 kJoin (fun _ s =>
 kCall Tryd.prog 8 [s_0] s fun v18 s =>
 kExt 0 v18 fun v19 =>
 kExt 1 v18 fun v20 =>
 kExt 2 v18 fun v21 =>
 kJoin (fun xs s =>
 un1 xs fun t_6 =>
 kCall Tryd.prog 8 [t_6] s fun v79 s =>
 kExt 0 v79 fun v80 =>
 kExt 1 v79 fun v81 =>
 kExt 2 v79 fun v82 =>
 kJoin (fun _ s =>
 kJoin (fun _ s =>
 kCall Tryd.prog 7 [] s fun v122 s =>
 k v122 s) fun J4 =>
 kLoop (fun again5 xs s =>
 un1 xs fun i_11 =>
 kJoin (fun _ s =>
 kJoin (fun _ s =>
 kBin .add i_11 (.int .i64 1) fun v97 =>
 again5 [v97] s) fun J7 =>
 kIdx 5 v19 i_11 fun v100 =>
 kFld 0 v100 fun v101 =>
 kIdx 5 v80 i_11 fun v105 =>
 kFld 0 v105 fun v106 =>
 kLd s v101 fun v102 =>
 kLd s v106 fun v107 =>
 kBin .neq v102 v107 fun v108 =>
 kGrd v108 false (fun k =>
 kIdx 5 v19 i_11 fun v112 =>
 kFld 1 v112 fun v113 =>
 kIdx 5 v80 i_11 fun v117 =>
 kFld 1 v117 fun v118 =>
 kLd s v113 fun v114 =>
 kLd s v118 fun v119 =>
 kBin .neq v114 v119 fun v120 =>
 k [v120] s) [undef] s fun xs s =>
 un1 xs fun v120 =>
 kPick v108 (.bool true) v120 fun v121 =>
 kCond v121 (
 k (.bool false) s) (
 J7 [] s)) fun J6 =>
 kLen false v19 fun v94 =>
 kBin .lss i_11 v94 fun v95 =>
 kCond v95 (
 J6 [] s) (
 J4 [] s)) [(.int .i64 0)] s) fun J3 =>
 kBin .neq v82 (.int .i64 0) fun v84 =>
 kGrd v84 false (fun k =>
 kLen false v19 fun v87 =>
 kLen false v80 fun v89 =>
 kBin .neq v87 v89 fun v90 =>
 k [v90] s) [undef] s fun xs s =>
 un1 xs fun v90 =>
 kPick v84 (.bool true) v90 fun v91 =>
 kCond v91 (
 k (.bool false) s) (
 J3 [] s)) fun J2 =>
 kLoop (fun again8 xs s =>
 un2 xs fun t_6 i_7 =>
 kJoin (fun _ s =>
 kJoin (fun xs s =>
 un1 xs fun t_6 =>
 kBin .add i_7 (.int .i64 1) fun v27 =>
 again8 [t_6, v27] s) fun J10 =>
 kJoin (fun _ s =>
 kIdx 5 v19 i_7 fun v58 =>
 kFld 1 v58 fun v59 =>
 kLd s v59 fun v60 =>
 kBin .add t_6 v60 fun v61 =>
 kIdx 5 v19 i_7 fun v64 =>
 kFld 0 v64 fun v65 =>
 kLd s v65 fun v66 =>
 kBin .neq v66 (.int .i64 4) fun v67 =>
 kGrd v67 true (fun k =>
 kLen false v19 fun v71 =>
 kBin .sub v71 (.int .i64 1) fun v72 =>
 kBin .lss i_7 v72 fun v73 =>
 k [v73] s) [undef] s fun xs s =>
 un1 xs fun v73 =>
 kPick v67 v73 (.bool false) fun v74 =>
 kCond v74 (
 kBin .add v61 (.string (bs [32])) fun v76 =>
 J10 [v76] s) (
 J10 [v61] s)) fun J11 =>
 kBin .neq v21 (.int .i64 0) fun v29 =>
 kGrd v29 false (fun k =>
 kIdx 5 v19 i_7 fun v33 =>
 kFld 0 v33 fun v34 =>
 kLd s v34 fun v35 =>
 kBin .eql v35 (.int .i64 2) fun v36 =>
 k [v36] s) [undef] s fun xs s =>
 un1 xs fun v37 =>
 kGrd v37 true (fun k =>
 kIdx 5 v19 i_7 fun v40 =>
 kFld 1 v40 fun v41 =>
 kLd s v41 fun v42 =>
 kBin .eql v42 (.string (bs [60, 60])) fun v43 =>
 k [v43] s) [undef] s fun xs s =>
 un1 xs fun v44 =>
 kGrd v44 false (fun k =>
 kIdx 5 v19 i_7 fun v47 =>
 kFld 1 v47 fun v48 =>
 kLd s v48 fun v49 =>
 kBin .eql v49 (.string (bs [60, 60, 45])) fun v50 =>
 k [v50] s) [undef] s fun xs s =>
 un1 xs fun v50 =>
 kGrd v37 true (fun k =>
 kPick v44 (.bool true) v50 fun v51 =>
 k [v51] s) [undef] s fun xs s =>
 un1 xs fun v51 =>
 kGrd v29 false (fun k =>
 kPick v37 v51 (.bool false) fun v52 =>
 k [v52] s) [undef] s fun xs s =>
 un1 xs fun v52 =>
 kPick v29 (.bool true) v52 fun v53 =>
 kCond v53 (
 kCall Tryd.prog 7 [] s fun v54 s =>
 k v54 s) (
 J11 [] s)) fun J9 =>
 kLen false v19 fun v24 =>
 kBin .lss i_7 v24 fun v25 =>
 kCond v25 (
 J9 [] s) (
 J2 [t_6] s)) [(.string (bs [])), (.int .i64 0)] s) fun J1 =>
 kLen true s_0 fun v13 =>
 kBin .gtr v13 (.int .i64 1000) fun v14 =>
 kCond v14 (
 kCall Tryd.prog 7 [] s fun v15 s =>
 k v15 s) (
 J1 [] s)
theorem F4_ok (s_0 : Value) (s : AS) (k : Value → AS → Prop) : denFn Tryd.prog [(19, (.go 0 (.go 1 (.go 2 (.go 3 (.go 5 (.go 6 (.go 7 (.go 8 (.go 4 (.go 9 (.go 10 (.go 11 (.go 12 (.go 13 (.go 14 (.go 15 (.go 17 (.go 18 (.go 19 (.go 20 (.go 16 (.go 21 (.go 22 (.go 23 .done)))))))))))))))))))))))))] 4 [s_0] s k = F4 s_0 s k := by kernel_rfl
theorem f4 {s_0 : Value} {s : AS} {k : Value → AS → Prop} (h : F4 s_0 s k) : kCall Tryd.prog 4 [s_0] s k := denFn_ok [(19, (.go 0 (.go 1 (.go 2 (.go 3 (.go 5 (.go 6 (.go 7 (.go 8 (.go 4 (.go 9 (.go 10 (.go 11 (.go 12 (.go 13 (.go 14 (.go 15 (.go 17 (.go 18 (.go 19 (.go 20 (.go 16 (.go 21 (.go 22 (.go 23 .done)))))))))))))))))))))))))] (cast (F4_ok s_0 s k).symm h)
theorem k4_ok : okFn Tryd.prog 4 = true := by kernel_rfl

/- conch conchlaw04.LexCuts -/
def F5 (a_0 b_1 : Value) (s : AS) (k : Value → AS → Prop) : Prop :=
 kJoin (fun _ s =>
 kJoin (fun _ s =>
 kBin .add a_0 (.string (bs [10])) fun v42 =>
 kCall Tryd.prog 8 [v42] s fun v43 s =>
 kExt 0 v43 fun v44 =>
 kExt 1 v43 fun v45 =>
 kExt 2 v43 fun v46 =>
 kBin .add a_0 (.string (bs [10])) fun v49 =>
 kBin .add v49 b_1 fun v51 =>
 kCall Tryd.prog 8 [v51] s fun v52 s =>
 kExt 0 v52 fun v53 =>
 kExt 1 v52 fun v54 =>
 kExt 2 v52 fun v55 =>
 kJoin (fun _ s =>
 kJoin (fun _ s =>
 kCall Tryd.prog 7 [] s fun v80 s =>
 k v80 s) fun J4 =>
 kLoop (fun again5 xs s =>
 un1 xs fun i_12 =>
 kJoin (fun _ s =>
 kJoin (fun _ s =>
 kBin .add i_12 (.int .i64 1) fun v70 =>
 again5 [v70] s) fun J7 =>
 kIdx 5 v44 i_12 fun v73 =>
 kIdx 5 v53 i_12 fun v77 =>
 kLdN s 5 v73 fun v74 =>
 kLdN s 5 v77 fun v78 =>
 kGen Tryd.prog (.bop .neq 28 (.tmp 74) (.tmp 78)) [v74, v78] s fun v79 s =>
 kCond v79 (
 k (.bool false) s) (
 J7 [] s)) fun J6 =>
 kLen false v44 fun v67 =>
 kBin .lss i_12 v67 fun v68 =>
 kCond v68 (
 J6 [] s) (
 J4 [] s)) [(.int .i64 0)] s) fun J3 =>
 kBin .neq v46 (.int .i64 0) fun v57 =>
 kGrd v57 false (fun k =>
 kLen false v44 fun v60 =>
 kLen false v53 fun v62 =>
 kBin .gtr v60 v62 fun v63 =>
 k [v63] s) [undef] s fun xs s =>
 un1 xs fun v63 =>
 kPick v57 (.bool true) v63 fun v64 =>
 kCond v64 (
 k (.bool false) s) (
 J3 [] s)) fun J2 =>
 kLoop (fun again8 xs s =>
 un1 xs fun i_5 =>
 kJoin (fun _ s =>
 kJoin (fun _ s =>
 kBin .add i_5 (.int .i64 1) fun v27 =>
 again8 [v27] s) fun J10 =>
 kIxS a_0 i_5 fun v30 =>
 kJoin (fun xs s =>
 un1 xs fun v31 =>
 kCond v31 (
 kCall Tryd.prog 7 [] s fun v39 s =>
 k v39 s) (
 J10 [] s)) fun J11 =>
 kBin .eql v30 (.int .u8 92) fun v32 =>
 kCond v32 (
 J11 [v32] s) (
 kBin .eql v30 (.int .u8 39) fun v33 =>
 kCond v33 (
 J11 [v33] s) (
 kBin .eql v30 (.int .u8 34) fun v34 =>
 kCond v34 (
 J11 [v34] s) (
 kBin .eql v30 (.int .u8 40) fun v35 =>
 kCond v35 (
 J11 [v35] s) (
 kBin .eql v30 (.int .u8 123) fun v36 =>
 kCond v36 (
 J11 [v36] s) (
 kBin .eql v30 (.int .u8 60) fun v37 =>
 kCond v37 (
 J11 [v37] s) (
 kBin .eql v30 (.int .u8 96) fun v38 =>
 J11 [v38] s))))))) fun J9 =>
 kLen true a_0 fun v24 =>
 kBin .lss i_5 v24 fun v25 =>
 kCond v25 (
 J9 [] s) (
 J2 [] s)) [(.int .i64 0)] s) fun J1 =>
 kLen true a_0 fun v14 =>
 kBin .gtr v14 (.int .i64 500) fun v15 =>
 kGrd v15 false (fun k =>
 kLen true b_1 fun v18 =>
 kBin .gtr v18 (.int .i64 500) fun v19 =>
 k [v19] s) [undef] s fun xs s =>
 un1 xs fun v19 =>
 kPick v15 (.bool true) v19 fun v20 =>
 kCond v20 (
 kCall Tryd.prog 7 [] s fun v21 s =>
 k v21 s) (
 J1 [] s)
theorem F5_ok (a_0 b_1 : Value) (s : AS) (k : Value → AS → Prop) : denFn Tryd.prog [(22, (.go 0 (.go 1 (.go 2 (.go 4 (.go 5 (.go 6 (.go 3 (.go 7 (.go 8 .done))))))))))] 5 [a_0, b_1] s k = F5 a_0 b_1 s k := by kernel_rfl
theorem f5 {a_0 b_1 : Value} {s : AS} {k : Value → AS → Prop} (h : F5 a_0 b_1 s k) : kCall Tryd.prog 5 [a_0, b_1] s k := denFn_ok [(22, (.go 0 (.go 1 (.go 2 (.go 4 (.go 5 (.go 6 (.go 3 (.go 7 (.go 8 .done))))))))))] (cast (F5_ok a_0 b_1 s k).symm h)
theorem k5_ok : okFn Tryd.prog 5 = true := by kernel_rfl

/- conch conchlaw04.LexPieces -/
def F6 (s_0 at_1 quoted_2 : Value) (s : AS) (k : Value → AS → Prop) : Prop :=
 kJoin (fun _ s =>
 kCall Tryd.prog 9 [s_0, at_1, quoted_2] s fun v21 s =>
 kExt 0 v21 fun v22 =>
 kExt 1 v21 fun v23 =>
 kExt 2 v21 fun v24 =>
 kCall Tryd.prog 10 [s_0, at_1, quoted_2] s fun v29 s =>
 kExt 0 v29 fun v30 =>
 kExt 1 v29 fun v31 =>
 kExt 2 v29 fun v32 =>
 kBin .eql v22 v30 fun v35 =>
 kGrd v35 true (fun k =>
 kBin .eql v23 v31 fun v39 =>
 k [v39] s) [undef] s fun xs s =>
 un1 xs fun v39 =>
 kPick v35 v39 (.bool false) fun v40 =>
 kGrd v40 true (fun k =>
 kBin .eql v24 v32 fun v44 =>
 k [v44] s) [undef] s fun xs s =>
 un1 xs fun v44 =>
 kPick v40 v44 (.bool false) fun v45 =>
 kGrd v45 true (fun k =>
 kCall Tryd.prog 7 [] s fun v47 s =>
 k [v47] s) [undef] s fun xs s =>
 un1 xs fun v47 =>
 kPick v45 v47 (.bool false) fun v48 =>
 k v48 s) fun J1 =>
 kLen true s_0 fun v14 =>
 kBin .gtr v14 (.int .i64 1000) fun v15 =>
 kCond v15 (
 kCall Tryd.prog 7 [] s fun v16 s =>
 k v16 s) (
 J1 [] s)
theorem F6_ok (s_0 at_1 quoted_2 : Value) (s : AS) (k : Value → AS → Prop) : denFn Tryd.prog [] 6 [s_0, at_1, quoted_2] s k = F6 s_0 at_1 quoted_2 s k := by kernel_rfl
theorem f6 {s_0 at_1 quoted_2 : Value} {s : AS} {k : Value → AS → Prop} (h : F6 s_0 at_1 quoted_2 s k) : kCall Tryd.prog 6 [s_0, at_1, quoted_2] s k := denFn_ok [] (cast (F6_ok s_0 at_1 quoted_2 s k).symm h)
theorem k6_ok : okFn Tryd.prog 6 = true := by kernel_rfl

/- conch conchlaw04.awake -/
def F7 (s : AS) (k : Value → AS → Prop) : Prop :=
 kCall Tryd.prog 8 [(.string (bs [97, 32, 50, 62, 98, 32, 35, 32, 99]))] s fun v14 s =>
 kExt 0 v14 fun v15 =>
 kExt 1 v14 fun v16 =>
 kExt 2 v14 fun v17 =>
 kCall Tryd.prog 8 [(.string (bs [120, 34, 97, 32, 98, 34, 36, 40, 99, 32, 100, 41, 59, 59]))] s fun v19 s =>
 kExt 0 v19 fun v20 =>
 kExt 1 v19 fun v21 =>
 kExt 2 v19 fun v22 =>
 kCall Tryd.prog 8 [(.string (bs [97, 32, 60, 60, 69, 10, 98, 10, 69, 10]))] s fun v24 s =>
 kExt 0 v24 fun v25 =>
 kExt 1 v24 fun v26 =>
 kExt 2 v24 fun v27 =>
 kCall Tryd.prog 8 [(.string (bs [97, 32, 39, 98]))] s fun v29 s =>
 kExt 0 v29 fun v30 =>
 kExt 1 v29 fun v31 =>
 kExt 2 v29 fun v32 =>
 kBin .eql v17 (.int .i64 0) fun v34 =>
 kGrd v34 true (fun k =>
 kLen false v15 fun v37 =>
 kBin .eql v37 (.int .i64 4) fun v38 =>
 k [v38] s) [undef] s fun xs s =>
 un1 xs fun v38 =>
 kPick v34 v38 (.bool false) fun v39 =>
 kGrd v39 true (fun k =>
 kIdx 5 v15 (.int .i64 1) fun v42 =>
 kFld 0 v42 fun v43 =>
 kLd s v43 fun v44 =>
 kBin .eql v44 (.int .i64 4) fun v45 =>
 k [v45] s) [undef] s fun xs s =>
 un1 xs fun v45 =>
 kPick v39 v45 (.bool false) fun v46 =>
 kGrd v46 true (fun k =>
 kIdx 5 v15 (.int .i64 2) fun v49 =>
 kFld 1 v49 fun v50 =>
 kLd s v50 fun v51 =>
 kBin .eql v51 (.string (bs [62])) fun v52 =>
 k [v52] s) [undef] s fun xs s =>
 un1 xs fun v52 =>
 kPick v46 v52 (.bool false) fun v53 =>
 kGrd v53 true (fun k =>
 kBin .eql v22 (.int .i64 0) fun v56 =>
 k [v56] s) [undef] s fun xs s =>
 un1 xs fun v56 =>
 kPick v53 v56 (.bool false) fun v57 =>
 kGrd v57 true (fun k =>
 kLen false v20 fun v60 =>
 kBin .eql v60 (.int .i64 2) fun v61 =>
 k [v61] s) [undef] s fun xs s =>
 un1 xs fun v61 =>
 kPick v57 v61 (.bool false) fun v62 =>
 kGrd v62 true (fun k =>
 kIdx 5 v20 (.int .i64 1) fun v65 =>
 kFld 1 v65 fun v66 =>
 kLd s v66 fun v67 =>
 kBin .eql v67 (.string (bs [59, 59])) fun v68 =>
 k [v68] s) [undef] s fun xs s =>
 un1 xs fun v68 =>
 kPick v62 v68 (.bool false) fun v69 =>
 kGrd v69 true (fun k =>
 kBin .eql v27 (.int .i64 0) fun v72 =>
 k [v72] s) [undef] s fun xs s =>
 un1 xs fun v72 =>
 kPick v69 v72 (.bool false) fun v73 =>
 kGrd v73 true (fun k =>
 kLen false v25 fun v76 =>
 kBin .eql v76 (.int .i64 4) fun v77 =>
 k [v77] s) [undef] s fun xs s =>
 un1 xs fun v77 =>
 kPick v73 v77 (.bool false) fun v78 =>
 kGrd v78 true (fun k =>
 kIdx 5 v25 (.int .i64 1) fun v81 =>
 kFld 3 v81 fun v82 =>
 kLd s v82 fun v83 =>
 kBin .eql v83 (.string (bs [98, 10])) fun v84 =>
 k [v84] s) [undef] s fun xs s =>
 un1 xs fun v84 =>
 kPick v78 v84 (.bool false) fun v85 =>
 kGrd v85 true (fun k =>
 kLen false v30 fun v88 =>
 kBin .eql v88 (.int .i64 1) fun v89 =>
 k [v89] s) [undef] s fun xs s =>
 un1 xs fun v89 =>
 kPick v85 v89 (.bool false) fun v90 =>
 kGrd v90 true (fun k =>
 kBin .eql v31 (.int .i64 2) fun v93 =>
 k [v93] s) [undef] s fun xs s =>
 un1 xs fun v93 =>
 kPick v90 v93 (.bool false) fun v94 =>
 kGrd v94 true (fun k =>
 kBin .eql v32 (.int .i64 11) fun v97 =>
 k [v97] s) [undef] s fun xs s =>
 un1 xs fun v97 =>
 kPick v94 v97 (.bool false) fun v98 =>
 k v98 s
theorem F7_ok (s : AS) (k : Value → AS → Prop) : denFn Tryd.prog [] 7 [] s k = F7 s k := by kernel_rfl
theorem f7 {s : AS} {k : Value → AS → Prop} (h : F7 s k) : kCall Tryd.prog 7 [] s k := denFn_ok [] (cast (F7_ok s k).symm h)
theorem k7_ok : okFn Tryd.prog 7 = true := by kernel_rfl

/- conch lex.Lex -/
def F8 (s_0 : Value) (s : AS) (k : Value → AS → Prop) : Prop :=
 kJoin (fun _ s =>
 kBuild [(.int .i64 0), (.int .i64 0), (.string (bs [])), (.int .i64 0), (.int .i64 0)] [(2, 1, s_0)] fun v10 =>
 kBuild [(.int .i64 0), (.int .i64 0), (.string (bs [])), (.int .i64 0), (.int .i64 0), (.slice none 0 0), (.slice none 0 0)] [(0, 5, v10)] fun v11 =>
 kNew s (cellsV v11) fun v12 s =>
 kJoin (fun _ s =>
 kJoin (fun _ s =>
 kJoin (fun _ s =>
 kNck v12 fun v80 =>
 kFld 5 v80 fun v81 =>
 kLd s v81 fun v82 =>
 k (.tuple #[v82, (.int .i64 0), (.int .i64 0)]) s) fun J4 =>
 kNck v12 fun v59 =>
 kFld 0 v59 fun v60 =>
 kFld 0 v60 fun v61 =>
 kCall Tryd.prog 11 [v61] s fun v62 s =>
 kCond v62 (
 kNck v12 fun v64 =>
 kFld 5 v64 fun v65 =>
 kNck v12 fun v68 =>
 kFld 0 v68 fun v69 =>
 kFld 0 v69 fun v70 =>
 kFld 1 v70 fun v71 =>
 kNck v12 fun v74 =>
 kFld 0 v74 fun v75 =>
 kFld 0 v75 fun v76 =>
 kFld 0 v76 fun v77 =>
 kLd s v65 fun v66 =>
 kLd s v71 fun v72 =>
 kLd s v77 fun v78 =>
 k (.tuple #[v66, v72, v78]) s) (
 J4 [] s)) fun J3 =>
 kNck v12 fun v32 =>
 kFld 6 v32 fun v33 =>
 kLd s v33 fun v34 =>
 kLen false v34 fun v35 =>
 kBin .gtr v35 (.int .i64 0) fun v36 =>
 kCond v36 (
 kNck v12 fun v38 =>
 kFld 0 v38 fun v39 =>
 kFld 0 v39 fun v40 =>
 kNck v12 fun v42 =>
 kFld 5 v42 fun v43 =>
 kNck v12 fun v46 =>
 kFld 6 v46 fun v47 =>
 kLd s v43 fun v44 =>
 kLd s v47 fun v48 =>
 kIdx 1 v48 (.int .i64 0) fun v49 =>
 kLd s v49 fun v50 =>
 kNck v50 fun v51 =>
 kFld 0 v51 fun v52 =>
 kLd s v52 fun v53 =>
 kIdx 5 v44 v53 fun v54 =>
 kFld 2 v54 fun v55 =>
 kLd s v55 fun v56 =>
 kCall Tryd.prog 13 [v40, (.int .i64 12), v56] s fun v57 s =>
 kChk s v47 v48 (
 J3 [] s)) (
 J3 [] s)) fun J2 =>
 kLoop (fun again5 _ s =>
 kJoin (fun _ s =>
 kCall Tryd.prog 12 [v12] s fun v30 s =>
 again5 [] s) fun J6 =>
 kNck v12 fun v14 =>
 kFld 0 v14 fun v15 =>
 kFld 3 v15 fun v16 =>
 kLd s v16 fun v17 =>
 kLen true s_0 fun v19 =>
 kBin .lss v17 v19 fun v20 =>
 kGrd v20 true (fun k =>
 kNck v12 fun v23 =>
 kFld 0 v23 fun v24 =>
 kFld 0 v24 fun v25 =>
 kCall Tryd.prog 11 [v25] s fun v26 s =>
 kUn .not v26 fun v27 =>
 k [v27] s) [undef] s fun xs s =>
 un1 xs fun v27 =>
 kPick v20 v27 (.bool false) fun v28 =>
 kCond v28 (
 J6 [] s) (
 J2 [] s)) [] s) fun J1 =>
 kLen true s_0 fun v7 =>
 kBin .gtr v7 (.int .i64 4096) fun v8 =>
 kCond v8 (
 k (.tuple #[(.slice none 0 0), (.int .i64 0), (.int .i64 3)]) s) (
 J1 [] s)
theorem F8_ok (s_0 : Value) (s : AS) (k : Value → AS → Prop) : denFn Tryd.prog [(7, (.go 0 (.go 1 (.go 2 (.go 3 (.go 4 (.go 5 (.go 6 (.go 8 (.go 9 (.go 10 (.go 7 (.go 11 (.go 12 (.go 13 (.go 14 (.go 15 (.go 16 (.go 17 (.go 18 (.go 19 (.go 20 .done)))))))))))))))))))))), (9, (.go 0 (.go 1 (.go 2 (.go 4 (.go 5 (.go 6 (.go 7 (.go 8 (.go 10 (.go 11 (.go 12 (.go 13 (.go 14 (.go 3 (.go 16 (.go 9 (.go 17 (.go 15 (.go 18 .done))))))))))))))))))))] 8 [s_0] s k = F8 s_0 s k := by kernel_rfl
theorem f8 {s_0 : Value} {s : AS} {k : Value → AS → Prop} (h : F8 s_0 s k) : kCall Tryd.prog 8 [s_0] s k := denFn_ok [(7, (.go 0 (.go 1 (.go 2 (.go 3 (.go 4 (.go 5 (.go 6 (.go 8 (.go 9 (.go 10 (.go 7 (.go 11 (.go 12 (.go 13 (.go 14 (.go 15 (.go 16 (.go 17 (.go 18 (.go 19 (.go 20 .done)))))))))))))))))))))), (9, (.go 0 (.go 1 (.go 2 (.go 4 (.go 5 (.go 6 (.go 7 (.go 8 (.go 10 (.go 11 (.go 12 (.go 13 (.go 14 (.go 3 (.go 16 (.go 9 (.go 17 (.go 15 (.go 18 .done))))))))))))))))))))] (cast (F8_ok s_0 s k).symm h)
theorem k8_ok : okFn Tryd.prog 8 = true := by kernel_rfl

/- conch lex.Piece -/
def F9 (s_0 at_1 quoted_2 : Value) (s : AS) (k : Value → AS → Prop) : Prop :=
 kJoin (fun _ s =>
 kBuild [(.int .i64 0), (.int .i64 0), (.string (bs [])), (.int .i64 0), (.int .i64 0)] [(2, 1, s_0), (3, 1, at_1)] fun v20 =>
 kNew s (cellsV v20) fun v21 s =>
 kUn .not quoted_2 fun v25 =>
 kCall Tryd.prog 14 [v21, quoted_2, v25, (.bool false)] s fun v26 s =>
 kJoin (fun _ s =>
 kNck v21 fun v42 =>
 kFld 3 v42 fun v43 =>
 kLd s v43 fun v44 =>
 k (.tuple #[v44, (.int .i64 0), (.int .i64 0)]) s) fun J2 =>
 kNck v21 fun v28 =>
 kFld 0 v28 fun v29 =>
 kCall Tryd.prog 11 [v29] s fun v30 s =>
 kCond v30 (
 kNck v21 fun v32 =>
 kFld 0 v32 fun v33 =>
 kFld 1 v33 fun v34 =>
 kNck v21 fun v37 =>
 kFld 0 v37 fun v38 =>
 kFld 0 v38 fun v39 =>
 kLd s v34 fun v35 =>
 kLd s v39 fun v40 =>
 k (.tuple #[(.int .i64 0), v35, v40]) s) (
 J2 [] s)) fun J1 =>
 kBin .lss at_1 (.int .i64 0) fun v11 =>
 kGrd v11 false (fun k =>
 kLen true s_0 fun v15 =>
 kBin .geq at_1 v15 fun v16 =>
 k [v16] s) [undef] s fun xs s =>
 un1 xs fun v16 =>
 kPick v11 (.bool true) v16 fun v17 =>
 kCond v17 (
 k (.tuple #[(.int .i64 0), (.int .i64 0), (.int .i64 1)]) s) (
 J1 [] s)
theorem F9_ok (s_0 at_1 quoted_2 : Value) (s : AS) (k : Value → AS → Prop) : denFn Tryd.prog [(6, (.go 0 (.go 1 (.go 2 (.go 3 (.go 5 (.go 6 (.go 7 (.go 8 (.go 10 (.go 4 (.go 11 (.go 9 (.go 12 .done))))))))))))))] 9 [s_0, at_1, quoted_2] s k = F9 s_0 at_1 quoted_2 s k := by kernel_rfl
theorem f9 {s_0 at_1 quoted_2 : Value} {s : AS} {k : Value → AS → Prop} (h : F9 s_0 at_1 quoted_2 s k) : kCall Tryd.prog 9 [s_0, at_1, quoted_2] s k := denFn_ok [(6, (.go 0 (.go 1 (.go 2 (.go 3 (.go 5 (.go 6 (.go 7 (.go 8 (.go 10 (.go 4 (.go 11 (.go 9 (.go 12 .done))))))))))))))] (cast (F9_ok s_0 at_1 quoted_2 s k).symm h)
theorem k9_ok : okFn Tryd.prog 9 = true := by kernel_rfl

/- conch conchref04.Piece -/
def F10 (s_0 at_1 quoted_2 : Value) (s : AS) (k : Value → AS → Prop) : Prop :=
 kJoin (fun _ s =>
 kJoin (fun xs s =>
 un1 xs fun where_9 =>
 kCall Tryd.prog 15 [s_0, at_1, where_9, (.int .i64 0)] s fun v23 s =>
 kNew s [(.int .i64 0), (.int .i64 0), (.int .i64 0)] fun t_10 s =>
 kSt s 3 t_10 v23 fun s =>
 kFld 0 t_10 fun v24 =>
 kFld 1 t_10 fun v26 =>
 kFld 2 t_10 fun v28 =>
 kLd s v24 fun v25 =>
 kLd s v26 fun v27 =>
 kLd s v28 fun v29 =>
 k (.tuple #[v25, v27, v29]) s) fun J2 =>
 kCond quoted_2 (
 J2 [(.int .i64 1)] s) (
 J2 [(.int .i64 0)] s)) fun J1 =>
 kBin .lss at_1 (.int .i64 0) fun v12 =>
 kGrd v12 false (fun k =>
 kLen true s_0 fun v16 =>
 kBin .geq at_1 v16 fun v17 =>
 k [v17] s) [undef] s fun xs s =>
 un1 xs fun v17 =>
 kPick v12 (.bool true) v17 fun v18 =>
 kCond v18 (
 k (.tuple #[(.int .i64 0), (.int .i64 0), (.int .i64 1)]) s) (
 J1 [] s)
theorem F10_ok (s_0 at_1 quoted_2 : Value) (s : AS) (k : Value → AS → Prop) : denFn Tryd.prog [(7, (.go 0 (.go 2 (.go 4 (.go 1 (.go 6 (.go 3 (.go 7 (.go 5 (.go 8 .done))))))))))] 10 [s_0, at_1, quoted_2] s k = F10 s_0 at_1 quoted_2 s k := by kernel_rfl
theorem f10 {s_0 at_1 quoted_2 : Value} {s : AS} {k : Value → AS → Prop} (h : F10 s_0 at_1 quoted_2 s k) : kCall Tryd.prog 10 [s_0, at_1, quoted_2] s k := denFn_ok [(7, (.go 0 (.go 2 (.go 4 (.go 1 (.go 6 (.go 3 (.go 7 (.go 5 (.go 8 .done))))))))))] (cast (F10_ok s_0 at_1 quoted_2 s k).symm h)
theorem k10_ok : okFn Tryd.prog 10 = true := by kernel_rfl

/- (*conch lex.blame).wrong -/
def F11 (b_0 : Value) (s : AS) (k : Value → AS → Prop) : Prop :=
 kNck b_0 fun v4 =>
 kFld 0 v4 fun v5 =>
 kLd s v5 fun v6 =>
 kBin .neq v6 (.int .i64 0) fun v7 =>
 k v7 s
theorem F11_ok (b_0 : Value) (s : AS) (k : Value → AS → Prop) : denFn Tryd.prog [] 11 [b_0] s k = F11 b_0 s k := by kernel_rfl
theorem f11 {b_0 : Value} {s : AS} {k : Value → AS → Prop} (h : F11 b_0 s k) : kCall Tryd.prog 11 [b_0] s k := denFn_ok [] (cast (F11_ok b_0 s k).symm h)
theorem k11_ok : okFn Tryd.prog 11 = true := by kernel_rfl

/- (*conch lex.lexer).step -/
def F12 (l_0 : Value) (s : AS) (k : Value → AS → Prop) : Prop :=
 kNck l_0 fun v12 =>
 kFld 0 v12 fun v13 =>
 kFld 2 v13 fun v14 =>
 kNck l_0 fun v17 =>
 kFld 0 v17 fun v18 =>
 kFld 3 v18 fun v19 =>
 kLd s v14 fun v15 =>
 kLd s v19 fun v20 =>
 kSubS v15 (some v20) none fun v21 =>
 kNew s [(.string (bs []))] fun rest_2 s =>
 kChk s v19 v20 (
 kChk s v14 v15 (
 kSt s 1 rest_2 v21 fun s =>
 kJoin (fun _ s =>
 kLd s rest_2 fun v62 =>
 kCall Tryd.prog 19 [v62, (.string (bs [92, 10]))] s fun v63 s =>
 kCond v63 (
 kNck l_0 fun v65 =>
 kFld 0 v65 fun v66 =>
 kFld 3 v66 fun v67 =>
 kLd s v67 fun v68 =>
 kBin .add v68 (.int .i64 2) fun v69 =>
 kNck l_0 fun v70 =>
 kFld 0 v70 fun v71 =>
 kFld 3 v71 fun v72 =>
 kSt s 1 v72 v69 fun s =>
 k undef s) (
 kLd s rest_2 fun v74 =>
 kIxS v74 (.int .i64 0) fun v75 =>
 kCall Tryd.prog 20 [v75] s fun v76 s =>
 kCond v76 (
 kNck l_0 fun v78 =>
 kFld 0 v78 fun v79 =>
 kFld 3 v79 fun v80 =>
 kLd s v80 fun v81 =>
 kBin .add v81 (.int .i64 1) fun v82 =>
 kNck l_0 fun v83 =>
 kFld 0 v83 fun v84 =>
 kFld 3 v84 fun v85 =>
 kSt s 1 v85 v82 fun s =>
 k undef s) (
 kLd s rest_2 fun v87 =>
 kIxS v87 (.int .i64 0) fun v88 =>
 kBin .eql v88 (.int .u8 35) fun v89 =>
 kCond v89 (
 kLd s rest_2 fun v91 =>
 kCall Tryd.prog 21 [v91, (.string (bs [10]))] s fun v92 s =>
 kExt 0 v92 fun v93 =>
 kExt 1 v92 fun v94 =>
 kExt 2 v92 fun v95 =>
 kNck l_0 fun v97 =>
 kFld 0 v97 fun v98 =>
 kFld 3 v98 fun v99 =>
 kLd s v99 fun v100 =>
 kLen true v93 fun v102 =>
 kBin .add v100 v102 fun v103 =>
 kNck l_0 fun v104 =>
 kFld 0 v104 fun v105 =>
 kFld 3 v105 fun v106 =>
 kSt s 1 v106 v103 fun s =>
 k undef s) (
 kLd s rest_2 fun v108 =>
 kIxS v108 (.int .i64 0) fun v109 =>
 kBin .eql v109 (.int .u8 10) fun v110 =>
 kCond v110 (
 kNck l_0 fun v112 =>
 kFld 0 v112 fun v113 =>
 kFld 3 v113 fun v114 =>
 kLd s v114 fun v115 =>
 kBuild [(.int .i64 0), (.string (bs [])), (.int .i64 0), (.string (bs [])), (.bool false)] [(0, 1, (.int .i64 3)), (1, 1, (.string (bs [10]))), (2, 1, v115)] fun v116 =>
 kNew s [(.int .i64 0), (.string (bs [])), (.int .i64 0), (.string (bs [])), (.bool false)] fun t_8 s =>
 kSt s 5 t_8 v116 fun s =>
 kNck l_0 fun v118 =>
 kFld 0 v118 fun v119 =>
 kFld 3 v119 fun v120 =>
 kLd s v120 fun v121 =>
 kBin .add v121 (.int .i64 1) fun v122 =>
 kNck l_0 fun v123 =>
 kFld 0 v123 fun v124 =>
 kFld 3 v124 fun v125 =>
 kSt s 1 v125 v122 fun s =>
 kJoin (fun _ s =>
 kNck l_0 fun v146 =>
 kFld 0 v146 fun v147 =>
 kFld 0 v147 fun v148 =>
 kCall Tryd.prog 11 [v148] s fun v149 s =>
 kUn .not v149 fun v150 =>
 kCond v150 (
 kNck l_0 fun v152 =>
 kFld 6 v152 fun v153 =>
 kSt s 1 v153 (.slice none 0 0) fun s =>
 kNck l_0 fun v156 =>
 kFld 5 v156 fun v157 =>
 kLd s v157 fun v158 =>
 kLdN s 5 t_8 fun v159 =>
 kBsl s 1 [(.int .i64 0), (.string (bs [])), (.int .i64 0), (.string (bs [])), (.bool false)] [(0, 5, v159)] fun v160 s =>
 kChk s v157 v158 (
 kApp Tryd.prog 23 23 v158 v160 s fun v161 s =>
 kNck l_0 fun v162 =>
 kFld 5 v162 fun v163 =>
 kSt s 1 v163 v161 fun s =>
 k undef s)) (
 k undef s)) fun J2 =>
 kNck l_0 fun v127 =>
 kFld 6 v127 fun v128 =>
 kLd s v128 fun v129 =>
 kLen false v129 fun v130 =>
 kLoop (fun again3 xs s =>
 un1 xs fun v131 =>
 kBin .lss v131 v130 fun v132 =>
 kJoin (fun _ s =>
 kJoin (fun _ s =>
 kBin .add v131 (.int .i64 1) fun v144 =>
 again3 [v144] s) fun J5 =>
 kIdx 1 v129 v131 fun v133 =>
 kLd s v133 fun v134 =>
 kNck l_0 fun v136 =>
 kFld 0 v136 fun v137 =>
 kFld 0 v137 fun v138 =>
 kCall Tryd.prog 11 [v138] s fun v139 s =>
 kUn .not v139 fun v140 =>
 kCond v140 (
 kCall Tryd.prog 22 [l_0, v134] s fun v143 s =>
 J5 [] s) (
 J5 [] s)) fun J4 =>
 kCond v132 (
 J4 [] s) (
 J2 [] s)) [(.int .i64 0)] s) (
 kCall Tryd.prog 23 [l_0] s fun v60 s =>
 k undef s))))) fun J1 =>
 kCall Tryd.prog 17 [] s fun v22 s =>
 kCall Tryd.prog 16 [v22, (.func (.func 18) #[] #[rest_2])] s fun v24 s =>
 kBin .geq v24 (.int .i64 0) fun v26 =>
 kCond v26 (
 kJoin (fun xs s =>
 un1 xs fun t_4 =>
 kNck l_0 fun v38 =>
 kFld 0 v38 fun v39 =>
 kFld 3 v39 fun v40 =>
 kFld 1 t_4 fun v42 =>
 kLd s v40 fun v41 =>
 kLd s v42 fun v43 =>
 kLen true v43 fun v44 =>
 kBin .add v41 v44 fun v45 =>
 kNck l_0 fun v46 =>
 kFld 0 v46 fun v47 =>
 kFld 3 v47 fun v48 =>
 kSt s 1 v48 v45 fun s =>
 kNck l_0 fun v51 =>
 kFld 5 v51 fun v52 =>
 kLd s v52 fun v53 =>
 kLdN s 5 t_4 fun v54 =>
 kBsl s 1 [(.int .i64 0), (.string (bs [])), (.int .i64 0), (.string (bs [])), (.bool false)] [(0, 5, v54)] fun v55 s =>
 kChk s v52 v53 (
 kApp Tryd.prog 23 23 v53 v55 s fun v56 s =>
 kNck l_0 fun v57 =>
 kFld 5 v57 fun v58 =>
 kSt s 1 v58 v56 fun s =>
 k undef s)) fun J6 =>
 kNck l_0 fun v32 =>
 kFld 0 v32 fun v33 =>
 kFld 3 v33 fun v34 =>
 kLd s v34 fun v35 =>
 kAlt (
 kCall Tryd.prog 17 [] s fun v27 s =>
 kChk s v34 v35 (
 kIdx 1 v27 v24 fun v29 =>
 kLd s v29 fun v30 =>
 kBuild [(.int .i64 0), (.string (bs [])), (.int .i64 0), (.string (bs [])), (.bool false)] [(0, 1, (.int .i64 2)), (1, 1, v30), (2, 1, v35)] fun v36 =>
 kNew s [(.int .i64 0), (.string (bs [])), (.int .i64 0), (.string (bs [])), (.bool false)] fun t_4 s =>
 kChk s v29 v30 (
 kChk s v34 v35 (
 kSt s 5 t_4 v36 fun s =>
 J6 [t_4] s)))) (
 kNew s [(.int .i64 0), (.string (bs [])), (.int .i64 0), (.string (bs [])), (.bool false)] fun t_4 s =>
 kChk s v34 v35 (
 kCall Tryd.prog 17 [] s fun v27 s =>
 kChk s v34 v35 (
 kIdx 1 v27 v24 fun v29 =>
 kLd s v29 fun v30 =>
 kBuild [(.int .i64 0), (.string (bs [])), (.int .i64 0), (.string (bs [])), (.bool false)] [(0, 1, (.int .i64 2)), (1, 1, v30), (2, 1, v35)] fun v36 =>
 kSt s 5 t_4 v36 fun s =>
 J6 [t_4] s)))) (
 J1 [] s)))
theorem F12_ok (l_0 : Value) (s : AS) (k : Value → AS → Prop) : denFn Tryd.prog [(0, (.go 0 (.go 1 (.go 2 (.go 3 (.go 5 (.go 6 (.go 7 (.go 8 (.go 4 (.go 9 (.go 10 (.go 11 (.go 12 .done)))))))))))))), (3, (.go 1 (.go 4 (.go 5 (.go 6 (.go 7 (.go 8 (.both 0 (.go 2 (.go 3 (.go 9 (.go 10 (.go 11 .done))))) (.go 10 (.go 0 (.go 2 (.go 3 (.go 9 (.go 11 .done)))))))))))))), (4, (.go 0 (.go 1 (.go 2 (.go 3 (.go 5 (.go 4 (.go 6 (.go 7 (.go 8 (.go 9 (.go 10 (.go 11 (.go 12 .done)))))))))))))), (5, (.go 0 (.go 1 (.go 2 (.go 3 (.go 4 (.go 5 (.go 6 (.go 7 (.go 8 (.go 9 (.go 10 .done)))))))))))), (25, (.go 0 (.go 1 (.go 2 (.go 3 (.go 4 (.go 5 (.go 6 (.go 7 (.go 8 (.go 9 (.go 10 .done))))))))))))] 12 [l_0] s k = F12 l_0 s k := by kernel_rfl
theorem f12 {l_0 : Value} {s : AS} {k : Value → AS → Prop} (h : F12 l_0 s k) : kCall Tryd.prog 12 [l_0] s k := denFn_ok [(0, (.go 0 (.go 1 (.go 2 (.go 3 (.go 5 (.go 6 (.go 7 (.go 8 (.go 4 (.go 9 (.go 10 (.go 11 (.go 12 .done)))))))))))))), (3, (.go 1 (.go 4 (.go 5 (.go 6 (.go 7 (.go 8 (.both 0 (.go 2 (.go 3 (.go 9 (.go 10 (.go 11 .done))))) (.go 10 (.go 0 (.go 2 (.go 3 (.go 9 (.go 11 .done)))))))))))))), (4, (.go 0 (.go 1 (.go 2 (.go 3 (.go 5 (.go 4 (.go 6 (.go 7 (.go 8 (.go 9 (.go 10 (.go 11 (.go 12 .done)))))))))))))), (5, (.go 0 (.go 1 (.go 2 (.go 3 (.go 4 (.go 5 (.go 6 (.go 7 (.go 8 (.go 9 (.go 10 .done)))))))))))), (25, (.go 0 (.go 1 (.go 2 (.go 3 (.go 4 (.go 5 (.go 6 (.go 7 (.go 8 (.go 9 (.go 10 .done))))))))))))] (cast (F12_ok l_0 s k).symm h)
theorem k12_ok : okFn Tryd.prog 12 = true := by kernel_rfl

/- (*conch lex.blame).is -/
def F13 (b_0 e_1 at_2 : Value) (s : AS) (k : Value → AS → Prop) : Prop :=
 kNck b_0 fun v7 =>
 kFld 0 v7 fun v8 =>
 kLd s v8 fun v9 =>
 kBin .eql v9 (.int .i64 0) fun v10 =>
 kCond v10 (
 kNck b_0 fun v15 =>
 kFld 0 v15 fun v16 =>
 kSt s 1 v16 e_1 fun s =>
 kNck b_0 fun v17 =>
 kFld 1 v17 fun v18 =>
 kSt s 1 v18 at_2 fun s =>
 k undef s) (
 k undef s)
theorem F13_ok (b_0 e_1 at_2 : Value) (s : AS) (k : Value → AS → Prop) : denFn Tryd.prog [] 13 [b_0, e_1, at_2] s k = F13 b_0 e_1 at_2 s k := by kernel_rfl
theorem f13 {b_0 e_1 at_2 : Value} {s : AS} {k : Value → AS → Prop} (h : F13 b_0 e_1 at_2 s k) : kCall Tryd.prog 13 [b_0, e_1, at_2] s k := denFn_ok [] (cast (F13_ok b_0 e_1 at_2 s k).symm h)
theorem k13_ok : okFn Tryd.prog 13 = true := by kernel_rfl

/- (*conch lex.reader).thing -/
def F14 (r_0 quoted_1 quotes_2 brackets_3 : Value) (s : AS) (k : Value → AS → Prop) : Prop :=
 kNew s (cellsV r_0) fun r_4 s =>
 kLd s r_4 fun v10 =>
 kNck v10 fun v11 =>
 kFld 2 v11 fun v12 =>
 kLd s v12 fun v13 =>
 kLd s r_4 fun v14 =>
 kNck v14 fun v15 =>
 kFld 3 v15 fun v16 =>
 kLd s v16 fun v17 =>
 kIxS v13 v17 fun v18 =>
 kBin .eql v18 (.int .u8 92) fun v28 =>
 kCond v28 (
 kLd s r_4 fun v29 =>
 kLd s r_4 fun v30 =>
 kNck v30 fun v31 =>
 kFld 3 v31 fun v32 =>
 kLd s v32 fun v33 =>
 kBin .add v33 (.int .i64 2) fun v34 =>
 kLd s r_4 fun v35 =>
 kNck v35 fun v36 =>
 kFld 2 v36 fun v37 =>
 kLd s v37 fun v38 =>
 kLen true v38 fun v39 =>
 kMin v34 v39 fun v40 =>
 kNck v29 fun v41 =>
 kFld 3 v41 fun v42 =>
 kSt s 1 v42 v40 fun s =>
 k undef s) (
 kBin .eql v18 (.int .u8 39) fun v45 =>
 kGrd v45 true (fun k =>
 kUn .not quoted_1 fun v48 =>
 k [v48] s) [undef] s fun xs s =>
 un1 xs fun v48 =>
 kPick v45 v48 (.bool false) fun v49 =>
 kCond v49 (
 kLd s r_4 fun v50 =>
 kCall Tryd.prog 24 [v50] s fun v51 s =>
 k undef s) (
 kBin .eql v18 (.int .u8 34) fun v54 =>
 kGrd v54 true (fun k =>
 k [quotes_2] s) [undef] s fun xs s =>
 un1 xs fun v56 =>
 kPick v54 v56 (.bool false) fun v57 =>
 kCond v57 (
 kLd s r_4 fun v58 =>
 kNck v58 fun v59 =>
 kFld 3 v59 fun v60 =>
 kLd s v60 fun v61 =>
 kLd s r_4 fun v62 =>
 kNck v62 fun v63 =>
 kFld 3 v63 fun v64 =>
 kLd s v64 fun v65 =>
 kBin .add v65 (.int .i64 1) fun v66 =>
 kNck v62 fun v67 =>
 kFld 3 v67 fun v68 =>
 kSt s 1 v68 v66 fun s =>
 kLd s r_4 fun v69 =>
 kCall Tryd.prog 25 [v69, (.int .u8 34), v61, (.func (.func 26) #[] #[r_4])] s fun v72 s =>
 k undef s) (
 kBin .eql v18 (.int .u8 40) fun v75 =>
 kGrd v75 true (fun k =>
 k [brackets_3] s) [undef] s fun xs s =>
 un1 xs fun v77 =>
 kPick v75 v77 (.bool false) fun v78 =>
 kCond v78 (
 kLd s r_4 fun v79 =>
 kCall Tryd.prog 27 [v79] s fun v80 s =>
 k undef s) (
 kBin .eql v18 (.int .u8 36) fun v83 =>
 kCond v83 (
 kLd s r_4 fun v84 =>
 kCall Tryd.prog 28 [v84, quoted_1] s fun v86 s =>
 k undef s) (
 kBin .eql v18 (.int .u8 96) fun v89 =>
 kCond v89 (
 kLd s r_4 fun v90 =>
 kNck v90 fun v91 =>
 kFld 0 v91 fun v92 =>
 kLd s r_4 fun v93 =>
 kNck v93 fun v94 =>
 kFld 3 v94 fun v95 =>
 kLd s v95 fun v96 =>
 kCall Tryd.prog 13 [v92, (.int .i64 10), v96] s fun v97 s =>
 k undef s) (
 kLd s r_4 fun v19 =>
 kNck v19 fun v20 =>
 kFld 3 v20 fun v21 =>
 kLd s v21 fun v22 =>
 kBin .add v22 (.int .i64 1) fun v23 =>
 kNck v19 fun v24 =>
 kFld 3 v24 fun v25 =>
 kSt s 1 v25 v23 fun s =>
 k undef s))))))
theorem F14_ok (r_0 quoted_1 quotes_2 brackets_3 : Value) (s : AS) (k : Value → AS → Prop) : denFn Tryd.prog [(1, (.go 0 (.go 1 (.go 2 (.go 3 (.go 4 (.go 5 (.go 6 (.go 7 (.go 8 (.go 9 .done))))))))))), (4, (.go 0 (.go 1 (.go 2 (.go 3 (.go 4 (.go 5 (.go 6 (.go 7 (.go 8 (.go 9 (.go 10 (.go 11 (.go 12 (.go 13 (.go 14 .done)))))))))))))))), (16, (.go 0 (.go 1 (.go 2 (.go 3 (.go 4 (.go 5 (.go 6 (.go 7 .done)))))))))] 14 [r_0, quoted_1, quotes_2, brackets_3] s k = F14 r_0 quoted_1 quotes_2 brackets_3 s k := by kernel_rfl
theorem f14 {r_0 quoted_1 quotes_2 brackets_3 : Value} {s : AS} {k : Value → AS → Prop} (h : F14 r_0 quoted_1 quotes_2 brackets_3 s k) : kCall Tryd.prog 14 [r_0, quoted_1, quotes_2, brackets_3] s k := denFn_ok [(1, (.go 0 (.go 1 (.go 2 (.go 3 (.go 4 (.go 5 (.go 6 (.go 7 (.go 8 (.go 9 .done))))))))))), (4, (.go 0 (.go 1 (.go 2 (.go 3 (.go 4 (.go 5 (.go 6 (.go 7 (.go 8 (.go 9 (.go 10 (.go 11 (.go 12 (.go 13 (.go 14 .done)))))))))))))))), (16, (.go 0 (.go 1 (.go 2 (.go 3 (.go 4 (.go 5 (.go 6 (.go 7 .done)))))))))] (cast (F14_ok r_0 quoted_1 quotes_2 brackets_3 s k).symm h)
theorem k14_ok : okFn Tryd.prog 14 = true := by kernel_rfl

/- conch conchref04.thing -/
def F15 (s_0 i_1 where_2 deep_3 : Value) (s : AS) (k : Value → AS → Prop) : Prop :=
 kNew s [(.int .i64 0), (.int .i64 0), (.int .i64 0)] fun v8 s =>
 kIxS s_0 i_1 fun v14 =>
 kBin .eql where_2 (.int .i64 1) fun v16 =>
 kGrd v16 false (fun k =>
 kBin .eql where_2 (.int .i64 3) fun v19 =>
 k [v19] s) [undef] s fun xs s =>
 un1 xs fun v19 =>
 kPick v16 (.bool true) v19 fun v20 =>
 kJoin (fun _ s =>
 kJoin (fun _ s =>
 kJoin (fun _ s =>
 kJoin (fun _ s =>
 kJoin (fun _ s =>
 kJoin (fun _ s =>
 kJoin (fun _ s =>
 kBin .add i_1 (.int .i64 1) fun v133 =>
 kBuild [(.int .i64 0), (.int .i64 0), (.int .i64 0)] [(0, 1, v133)] fun v134 =>
 kSt s 3 v8 v134 fun s =>
 kLdN s 3 v8 fun r0 =>
 k r0 s) fun J7 =>
 kBin .eql v14 (.int .u8 96) fun v129 =>
 kCond v129 (
 kBuild [(.int .i64 0), (.int .i64 0), (.int .i64 0)] [(1, 1, i_1), (2, 1, (.int .i64 10))] fun v131 =>
 kSt s 3 v8 v131 fun s =>
 kLdN s 3 v8 fun r0 =>
 k r0 s) (
 J7 [] s)) fun J6 =>
 kBin .eql v14 (.int .u8 36) fun v106 =>
 kGrd v106 true (fun k =>
 kBin .add i_1 (.int .i64 1) fun v109 =>
 kLen true s_0 fun v111 =>
 kBin .lss v109 v111 fun v112 =>
 k [v112] s) [undef] s fun xs s =>
 un1 xs fun v112 =>
 kPick v106 v112 (.bool false) fun v113 =>
 kGrd v113 true (fun k =>
 kBin .add i_1 (.int .i64 1) fun v117 =>
 kIxS s_0 v117 fun v118 =>
 kBin .eql v118 (.int .u8 40) fun v119 =>
 k [v119] s) [undef] s fun xs s =>
 un1 xs fun v119 =>
 kPick v113 v119 (.bool false) fun v120 =>
 kCond v120 (
 kBin .add i_1 (.int .i64 2) fun v123 =>
 kBin .add i_1 (.int .i64 1) fun v125 =>
 kCall Tryd.prog 29 [s_0, v123, v125, (.int .u8 41), (.int .i64 4), deep_3] s fun v127 s =>
 kSt s 3 v8 v127 fun s =>
 kLdN s 3 v8 fun r0 =>
 k r0 s) (
 J6 [] s)) fun J5 =>
 kBin .eql v14 (.int .u8 36) fun v77 =>
 kGrd v77 true (fun k =>
 kBin .add i_1 (.int .i64 1) fun v80 =>
 kLen true s_0 fun v82 =>
 kBin .lss v80 v82 fun v83 =>
 k [v83] s) [undef] s fun xs s =>
 un1 xs fun v83 =>
 kPick v77 v83 (.bool false) fun v84 =>
 kGrd v84 true (fun k =>
 kBin .add i_1 (.int .i64 1) fun v88 =>
 kIxS s_0 v88 fun v89 =>
 kBin .eql v89 (.int .u8 123) fun v90 =>
 k [v90] s) [undef] s fun xs s =>
 un1 xs fun v90 =>
 kPick v84 v90 (.bool false) fun v91 =>
 kCond v91 (
 kJoin (fun _ s =>
 kBin .add i_1 (.int .i64 2) fun v101 =>
 kCall Tryd.prog 29 [s_0, v101, i_1, (.int .u8 125), (.int .i64 2), deep_3] s fun v104 s =>
 kSt s 3 v8 v104 fun s =>
 kLdN s 3 v8 fun r0 =>
 k r0 s) fun J8 =>
 kCond v20 (
 kBin .add i_1 (.int .i64 2) fun v95 =>
 kCall Tryd.prog 29 [s_0, v95, i_1, (.int .u8 125), (.int .i64 3), deep_3] s fun v98 s =>
 kSt s 3 v8 v98 fun s =>
 kLdN s 3 v8 fun r0 =>
 k r0 s) (
 J8 [] s)) (
 J5 [] s)) fun J4 =>
 kBin .eql v14 (.int .u8 40) fun v65 =>
 kGrd v65 true (fun k =>
 kBin .eql where_2 (.int .i64 4) fun v68 =>
 k [v68] s) [undef] s fun xs s =>
 un1 xs fun v68 =>
 kPick v65 v68 (.bool false) fun v69 =>
 kCond v69 (
 kBin .add i_1 (.int .i64 1) fun v72 =>
 kCall Tryd.prog 29 [s_0, v72, i_1, (.int .u8 41), (.int .i64 4), deep_3] s fun v75 s =>
 kSt s 3 v8 v75 fun s =>
 kLdN s 3 v8 fun r0 =>
 k r0 s) (
 J4 [] s)) fun J3 =>
 kBin .eql v14 (.int .u8 34) fun v53 =>
 kGrd v53 true (fun k =>
 kBin .neq where_2 (.int .i64 1) fun v56 =>
 k [v56] s) [undef] s fun xs s =>
 un1 xs fun v56 =>
 kPick v53 v56 (.bool false) fun v57 =>
 kCond v57 (
 kBin .add i_1 (.int .i64 1) fun v60 =>
 kCall Tryd.prog 29 [s_0, v60, i_1, (.int .u8 34), (.int .i64 1), deep_3] s fun v63 s =>
 kSt s 3 v8 v63 fun s =>
 kLdN s 3 v8 fun r0 =>
 k r0 s) (
 J3 [] s)) fun J2 =>
 kBin .eql v14 (.int .u8 39) fun v30 =>
 kGrd v30 true (fun k =>
 kUn .not v20 fun v33 =>
 k [v33] s) [undef] s fun xs s =>
 un1 xs fun v33 =>
 kPick v30 v33 (.bool false) fun v34 =>
 kCond v34 (
 kJoin (fun _ s =>
 kBuild [(.int .i64 0), (.int .i64 0), (.int .i64 0)] [(1, 1, i_1), (2, 1, (.int .i64 11))] fun v51 =>
 kSt s 3 v8 v51 fun s =>
 kLdN s 3 v8 fun r0 =>
 k r0 s) fun J9 =>
 kBin .add i_1 (.int .i64 1) fun v36 =>
 kLoop (fun again10 xs s =>
 un1 xs fun k_11 =>
 kJoin (fun _ s =>
 kJoin (fun _ s =>
 kBin .add k_11 (.int .i64 1) fun v42 =>
 again10 [v42] s) fun J12 =>
 kIxS s_0 k_11 fun v45 =>
 kBin .eql v45 (.int .u8 39) fun v46 =>
 kCond v46 (
 kBin .add k_11 (.int .i64 1) fun v48 =>
 kBuild [(.int .i64 0), (.int .i64 0), (.int .i64 0)] [(0, 1, v48)] fun v49 =>
 kSt s 3 v8 v49 fun s =>
 kLdN s 3 v8 fun r0 =>
 k r0 s) (
 J12 [] s)) fun J11 =>
 kLen true s_0 fun v39 =>
 kBin .lss k_11 v39 fun v40 =>
 kCond v40 (
 J11 [] s) (
 J9 [] s)) [v36] s) (
 J2 [] s)) fun J1 =>
 kBin .eql v14 (.int .u8 92) fun v22 =>
 kCond v22 (
 kBin .add i_1 (.int .i64 2) fun v24 =>
 kLen true s_0 fun v26 =>
 kMin v24 v26 fun v27 =>
 kBuild [(.int .i64 0), (.int .i64 0), (.int .i64 0)] [(0, 1, v27)] fun v28 =>
 kSt s 3 v8 v28 fun s =>
 kLdN s 3 v8 fun r0 =>
 k r0 s) (
 J1 [] s)
theorem F15_ok (s_0 i_1 where_2 deep_3 : Value) (s : AS) (k : Value → AS → Prop) : denFn Tryd.prog [] 15 [s_0, i_1, where_2, deep_3] s k = F15 s_0 i_1 where_2 deep_3 s k := by kernel_rfl
theorem f15 {s_0 i_1 where_2 deep_3 : Value} {s : AS} {k : Value → AS → Prop} (h : F15 s_0 i_1 where_2 deep_3 s k) : kCall Tryd.prog 15 [s_0, i_1, where_2, deep_3] s k := denFn_ok [] (cast (F15_ok s_0 i_1 where_2 deep_3 s k).symm h)
theorem k15_ok : okFn Tryd.prog 15 = true := by kernel_rfl

/- slices.IndexFunc[[]string,string] -/
def F16 (s_0 f_1 : Value) (s : AS) (k : Value → AS → Prop) : Prop :=
 kJoin (fun _ s =>
 k (.int .i64 (-1)) s) fun J1 =>
 kLen false s_0 fun v7 =>
 kLoop (fun again2 xs s =>
 un1 xs fun v8 =>
 kBin .lss v8 v7 fun v9 =>
 kJoin (fun _ s =>
 kJoin (fun _ s =>
 kBin .add v8 (.int .i64 1) fun v18 =>
 again2 [v18] s) fun J4 =>
 kIdx 1 s_0 v8 fun v14 =>
 kLd s v14 fun v15 =>
 kCallv Tryd.prog f_1 [v15] s fun v16 s =>
 kCond v16 (
 k v8 s) (
 J4 [] s)) fun J3 =>
 kCond v9 (
 J3 [] s) (
 J1 [] s)) [(.int .i64 0)] s
theorem F16_ok (s_0 f_1 : Value) (s : AS) (k : Value → AS → Prop) : denFn Tryd.prog [] 16 [s_0, f_1] s k = F16 s_0 f_1 s k := by kernel_rfl
theorem f16 {s_0 f_1 : Value} {s : AS} {k : Value → AS → Prop} (h : F16 s_0 f_1 s k) : kCall Tryd.prog 16 [s_0, f_1] s k := denFn_ok [] (cast (F16_ok s_0 f_1 s k).symm h)
theorem k16_ok : okFn Tryd.prog 16 = true := by kernel_rfl

/- conch lex.operators -/
def F17 (s : AS) (k : Value → AS → Prop) : Prop :=
 kBsl s 16 (List.replicate 16 (.string (bs []))) [(0, 1, (.string (bs [60, 60, 45]))), (1, 1, (.string (bs [38, 38]))), (2, 1, (.string (bs [124, 124]))), (3, 1, (.string (bs [59, 59]))), (4, 1, (.string (bs [60, 60]))), (5, 1, (.string (bs [62, 62]))), (6, 1, (.string (bs [60, 38]))), (7, 1, (.string (bs [62, 38]))), (8, 1, (.string (bs [60, 62]))), (9, 1, (.string (bs [124]))), (10, 1, (.string (bs [38]))), (11, 1, (.string (bs [59]))), (12, 1, (.string (bs [60]))), (13, 1, (.string (bs [62]))), (14, 1, (.string (bs [40]))), (15, 1, (.string (bs [41])))] fun v1 s =>
 k v1 s
theorem F17_ok (s : AS) (k : Value → AS → Prop) : denFn Tryd.prog [] 17 [] s k = F17 s k := by kernel_rfl
theorem f17 {s : AS} {k : Value → AS → Prop} (h : F17 s k) : kCall Tryd.prog 17 [] s k := denFn_ok [] (cast (F17_ok s k).symm h)
theorem k17_ok : okFn Tryd.prog 17 = true := by kernel_rfl

/- (*conch lex.lexer).step$1 -/
def F18 (o_0 v1 : Value) (s : AS) (k : Value → AS → Prop) : Prop :=
 kLd s v1 fun v4 =>
 kCall Tryd.prog 19 [v4, o_0] s fun v6 s =>
 k v6 s
theorem F18_ok (o_0 v1 : Value) (s : AS) (k : Value → AS → Prop) : denFn Tryd.prog [] 18 [o_0, v1] s k = F18 o_0 v1 s k := by kernel_rfl
theorem f18 {o_0 v1 : Value} {s : AS} {k : Value → AS → Prop} (h : F18 o_0 v1 s k) : kCall Tryd.prog 18 [o_0, v1] s k := denFn_ok [] (cast (F18_ok o_0 v1 s k).symm h)
theorem k18_ok : okFn Tryd.prog 18 = true := by kernel_rfl

/- strings.HasPrefix -/
def F19 (s_0 prefix_1 : Value) (s : AS) (k : Value → AS → Prop) : Prop :=
 kCall Tryd.prog 30 [s_0, prefix_1] s fun v7 s =>
 k v7 s
theorem F19_ok (s_0 prefix_1 : Value) (s : AS) (k : Value → AS → Prop) : denFn Tryd.prog [] 19 [s_0, prefix_1] s k = F19 s_0 prefix_1 s k := by kernel_rfl
theorem f19 {s_0 prefix_1 : Value} {s : AS} {k : Value → AS → Prop} (h : F19 s_0 prefix_1 s k) : kCall Tryd.prog 19 [s_0, prefix_1] s k := denFn_ok [] (cast (F19_ok s_0 prefix_1 s k).symm h)
theorem k19_ok : okFn Tryd.prog 19 = true := by kernel_rfl

/- conch chars.Blank -/
def F20 (c_0 : Value) (s : AS) (k : Value → AS → Prop) : Prop :=
 kCall Tryd.prog 31 [(.string (bs [32, 9]))] s fun v3 s =>
 kCallv Tryd.prog v3 [c_0] s fun v5 s =>
 k v5 s
theorem F20_ok (c_0 : Value) (s : AS) (k : Value → AS → Prop) : denFn Tryd.prog [] 20 [c_0] s k = F20 c_0 s k := by kernel_rfl
theorem f20 {c_0 : Value} {s : AS} {k : Value → AS → Prop} (h : F20 c_0 s k) : kCall Tryd.prog 20 [c_0] s k := denFn_ok [] (cast (F20_ok c_0 s k).symm h)
theorem k20_ok : okFn Tryd.prog 20 = true := by kernel_rfl

/- strings.Cut -/
def F21 (s_0 sep_1 : Value) (s : AS) (k : Value → AS → Prop) : Prop :=
 kCall Tryd.prog 32 [s_0, sep_1] s fun v9 s =>
 kExt 0 v9 fun v10 =>
 kExt 1 v9 fun v11 =>
 kExt 2 v9 fun v12 =>
 k (.tuple #[v10, v11, v12]) s
theorem F21_ok (s_0 sep_1 : Value) (s : AS) (k : Value → AS → Prop) : denFn Tryd.prog [] 21 [s_0, sep_1] s k = F21 s_0 sep_1 s k := by kernel_rfl
theorem f21 {s_0 sep_1 : Value} {s : AS} {k : Value → AS → Prop} (h : F21 s_0 sep_1 s k) : kCall Tryd.prog 21 [s_0, sep_1] s k := denFn_ok [] (cast (F21_ok s_0 sep_1 s k).symm h)
theorem k21_ok : okFn Tryd.prog 21 = true := by kernel_rfl

/- (*conch lex.lexer).takes -/
def F22 (l_0 h_1 : Value) (s : AS) (k : Value → AS → Prop) : Prop :=
 kJoin (fun _ s =>
 kNck l_0 fun v85 =>
 kFld 0 v85 fun v86 =>
 kFld 0 v86 fun v87 =>
 kNck l_0 fun v89 =>
 kFld 5 v89 fun v90 =>
 kNck h_1 fun v93 =>
 kFld 0 v93 fun v94 =>
 kLd s v90 fun v91 =>
 kLd s v94 fun v95 =>
 kIdx 5 v91 v95 fun v96 =>
 kFld 2 v96 fun v97 =>
 kLd s v97 fun v98 =>
 kCall Tryd.prog 13 [v87, (.int .i64 12), v98] s fun v99 s =>
 k undef s) fun J1 =>
 kLoop (fun again2 xs s =>
 un1 xs fun body_4 =>
 kJoin (fun _ s =>
 kNck l_0 fun v22 =>
 kFld 0 v22 fun v23 =>
 kFld 2 v23 fun v24 =>
 kNck l_0 fun v27 =>
 kFld 0 v27 fun v28 =>
 kFld 3 v28 fun v29 =>
 kLd s v24 fun v25 =>
 kLd s v29 fun v30 =>
 kSubS v25 (some v30) none fun v31 =>
 kCall Tryd.prog 21 [v31, (.string (bs [10]))] s fun v32 s =>
 kExt 0 v32 fun v33 =>
 kExt 1 v32 fun v34 =>
 kExt 2 v32 fun v35 =>
 kNck l_0 fun v37 =>
 kFld 0 v37 fun v38 =>
 kFld 3 v38 fun v39 =>
 kLd s v39 fun v40 =>
 kLen true v33 fun v42 =>
 kBin .add v40 v42 fun v43 =>
 kNck l_0 fun v44 =>
 kFld 0 v44 fun v45 =>
 kFld 3 v45 fun v46 =>
 kSt s 1 v46 v43 fun s =>
 kJoin (fun _ s =>
 kJoin (fun xs s =>
 un1 xs fun line_5 =>
 kJoin (fun _ s =>
 kBin .add line_5 (.string (bs [10])) fun v82 =>
 kBin .add body_4 v82 fun v83 =>
 again2 [v83] s) fun J6 =>
 kNck h_1 fun v65 =>
 kFld 1 v65 fun v66 =>
 kLd s v66 fun v67 =>
 kBin .eql line_5 v67 fun v68 =>
 kCond v68 (
 kNck l_0 fun v70 =>
 kFld 5 v70 fun v71 =>
 kNck h_1 fun v74 =>
 kFld 0 v74 fun v75 =>
 kLd s v71 fun v72 =>
 kLd s v75 fun v76 =>
 kIdx 5 v72 v76 fun v78 =>
 kFld 3 v78 fun v79 =>
 kSt s 1 v79 body_4 fun s =>
 k undef s) (
 J6 [] s)) fun J5 =>
 kNck h_1 fun v58 =>
 kFld 2 v58 fun v59 =>
 kLd s v59 fun v60 =>
 kCond v60 (
 kCall Tryd.prog 33 [v33, (.string (bs [9]))] s fun v62 s =>
 J5 [v62] s) (
 J5 [v33] s)) fun J4 =>
 kCond v35 (
 kNck l_0 fun v49 =>
 kFld 0 v49 fun v50 =>
 kFld 3 v50 fun v51 =>
 kLd s v51 fun v52 =>
 kBin .add v52 (.int .i64 1) fun v53 =>
 kNck l_0 fun v54 =>
 kFld 0 v54 fun v55 =>
 kFld 3 v55 fun v56 =>
 kSt s 1 v56 v53 fun s =>
 J4 [] s) (
 J4 [] s)) fun J3 =>
 kNck l_0 fun v9 =>
 kFld 0 v9 fun v10 =>
 kFld 3 v10 fun v11 =>
 kNck l_0 fun v14 =>
 kFld 0 v14 fun v15 =>
 kFld 2 v15 fun v16 =>
 kLd s v11 fun v12 =>
 kLd s v16 fun v17 =>
 kLen true v17 fun v18 =>
 kBin .lss v12 v18 fun v19 =>
 kCond v19 (
 J3 [] s) (
 J1 [] s)) [(.string (bs []))] s
theorem F22_ok (l_0 h_1 : Value) (s : AS) (k : Value → AS → Prop) : denFn Tryd.prog [(1, (.go 0 (.go 1 (.go 2 (.go 3 (.go 5 (.go 6 (.go 7 (.go 8 (.go 4 (.go 9 (.go 10 (.go 11 .done))))))))))))), (2, (.go 0 (.go 1 (.go 2 (.go 3 (.go 5 (.go 6 (.go 7 (.go 8 (.go 4 (.go 9 (.go 10 (.go 11 (.go 12 (.go 13 (.go 14 (.go 15 (.go 16 (.go 17 (.go 18 .done)))))))))))))))))))), (9, (.go 0 (.go 1 (.go 2 (.go 4 (.go 5 (.go 6 (.go 8 (.go 3 (.go 7 (.go 9 (.go 10 (.go 11 .done))))))))))))), (11, (.go 0 (.go 1 (.go 2 (.go 3 (.go 4 (.go 5 (.go 6 (.go 8 (.go 9 (.go 10 (.go 7 (.go 11 (.go 12 (.go 13 (.go 14 (.go 15 .done)))))))))))))))))] 22 [l_0, h_1] s k = F22 l_0 h_1 s k := by kernel_rfl
theorem f22 {l_0 h_1 : Value} {s : AS} {k : Value → AS → Prop} (h : F22 l_0 h_1 s k) : kCall Tryd.prog 22 [l_0, h_1] s k := denFn_ok [(1, (.go 0 (.go 1 (.go 2 (.go 3 (.go 5 (.go 6 (.go 7 (.go 8 (.go 4 (.go 9 (.go 10 (.go 11 .done))))))))))))), (2, (.go 0 (.go 1 (.go 2 (.go 3 (.go 5 (.go 6 (.go 7 (.go 8 (.go 4 (.go 9 (.go 10 (.go 11 (.go 12 (.go 13 (.go 14 (.go 15 (.go 16 (.go 17 (.go 18 .done)))))))))))))))))))), (9, (.go 0 (.go 1 (.go 2 (.go 4 (.go 5 (.go 6 (.go 8 (.go 3 (.go 7 (.go 9 (.go 10 (.go 11 .done))))))))))))), (11, (.go 0 (.go 1 (.go 2 (.go 3 (.go 4 (.go 5 (.go 6 (.go 8 (.go 9 (.go 10 (.go 7 (.go 11 (.go 12 (.go 13 (.go 14 (.go 15 .done)))))))))))))))))] (cast (F22_ok l_0 h_1 s k).symm h)
theorem k22_ok : okFn Tryd.prog 22 = true := by kernel_rfl

/- (*conch lex.lexer).word -/
def F23 (l_0 : Value) (s : AS) (k : Value → AS → Prop) : Prop :=
 kNck l_0 fun v6 =>
 kFld 0 v6 fun v7 =>
 kFld 3 v7 fun v8 =>
 kLd s v8 fun v9 =>
 kJoin (fun _ s =>
 kJoin (fun _ s =>
 kNck l_0 fun v55 =>
 kFld 0 v55 fun v56 =>
 kFld 2 v56 fun v57 =>
 kNck l_0 fun v61 =>
 kFld 0 v61 fun v62 =>
 kFld 3 v62 fun v63 =>
 kLd s v57 fun v58 =>
 kLd s v63 fun v64 =>
 kSubS v58 (some v9) (some v64) fun v65 =>
 kBuild [(.int .i64 0), (.string (bs [])), (.int .i64 0), (.string (bs [])), (.bool false)] [(0, 1, (.int .i64 1)), (1, 1, v65), (2, 1, v9)] fun v67 =>
 kNew s [(.int .i64 0), (.string (bs [])), (.int .i64 0), (.string (bs [])), (.bool false)] fun t_3 s =>
 kChk s v63 v64 (
 kChk s v57 v58 (
 kSt s 5 t_3 v67 fun s =>
 kJoin (fun _ s =>
 kNck l_0 fun v104 =>
 kFld 5 v104 fun v105 =>
 kLd s v105 fun v106 =>
 kLdN s 5 t_3 fun v107 =>
 kBsl s 1 [(.int .i64 0), (.string (bs [])), (.int .i64 0), (.string (bs [])), (.bool false)] [(0, 5, v107)] fun v108 s =>
 kChk s v105 v106 (
 kApp Tryd.prog 23 23 v106 v108 s fun v109 s =>
 kNck l_0 fun v110 =>
 kFld 5 v110 fun v111 =>
 kSt s 1 v111 v109 fun s =>
 kNck l_0 fun v113 =>
 kFld 5 v113 fun v114 =>
 kLd s v114 fun v115 =>
 kLen false v115 fun v116 =>
 kBin .sub v116 (.int .i64 2) fun v117 =>
 kFld 0 t_3 fun v118 =>
 kLd s v118 fun v119 =>
 kBin .eql v119 (.int .i64 1) fun v120 =>
 kGrd v120 true (fun k =>
 kBin .geq v117 (.int .i64 0) fun v123 =>
 k [v123] s) [undef] s fun xs s =>
 un1 xs fun v123 =>
 kPick v120 v123 (.bool false) fun v124 =>
 kGrd v124 true (fun k =>
 kNck l_0 fun v127 =>
 kFld 5 v127 fun v128 =>
 kLd s v128 fun v129 =>
 kIdx 5 v129 v117 fun v131 =>
 kFld 0 v131 fun v132 =>
 kLd s v132 fun v133 =>
 kBin .eql v133 (.int .i64 2) fun v134 =>
 k [v134] s) [undef] s fun xs s =>
 un1 xs fun v134 =>
 kPick v124 v134 (.bool false) fun v135 =>
 kGrd v135 true (fun k =>
 kNck l_0 fun v138 =>
 kFld 5 v138 fun v139 =>
 kLd s v139 fun v140 =>
 kIdx 5 v140 v117 fun v142 =>
 kFld 1 v142 fun v143 =>
 kLd s v143 fun v144 =>
 kCall Tryd.prog 19 [v144, (.string (bs [60, 60]))] s fun v145 s =>
 k [v145] s) [undef] s fun xs s =>
 un1 xs fun v145 =>
 kPick v135 v145 (.bool false) fun v146 =>
 kCond v146 (
 kNck l_0 fun v148 =>
 kFld 5 v148 fun v149 =>
 kFld 1 t_3 fun v152 =>
 kLd s v149 fun v150 =>
 kLd s v152 fun v153 =>
 kCall Tryd.prog 37 [v153, (.string (bs [92, 39, 34]))] s fun v154 s =>
 kChk s v149 v150 (
 kIdx 5 v150 v117 fun v155 =>
 kFld 4 v155 fun v156 =>
 kSt s 1 v156 v154 fun s =>
 kNck l_0 fun v159 =>
 kFld 6 v159 fun v160 =>
 kFld 1 t_3 fun v163 =>
 kNck l_0 fun v167 =>
 kFld 5 v167 fun v168 =>
 kLd s v160 fun v161 =>
 kLd s v163 fun v164 =>
 kLd s v168 fun v169 =>
 kIdx 5 v169 v117 fun v171 =>
 kFld 1 v171 fun v172 =>
 kLd s v172 fun v173 =>
 kBin .eql v173 (.string (bs [60, 60, 45])) fun v174 =>
 kCall Tryd.prog 38 [v164] s fun v165 s =>
 kChk s v172 v173 (
 kChk s v168 v169 (
 kChk s v160 v161 (
 kBuild [(.int .i64 0), (.string (bs [])), (.bool false)] [(0, 1, v117), (1, 1, v165), (2, 1, v174)] fun v175 =>
 kNew s (cellsV v175) fun v176 s =>
 kChk s v160 v161 (
 kBsl s 1 [(.pointer none)] [(0, 1, v176)] fun v177 s =>
 kChk s v160 v161 (
 kApp Tryd.prog 39 39 v161 v177 s fun v178 s =>
 kNck l_0 fun v179 =>
 kFld 6 v179 fun v180 =>
 kSt s 1 v180 v178 fun s =>
 k undef s))))))) (
 k undef s))) fun J3 =>
 kNck l_0 fun v69 =>
 kFld 0 v69 fun v70 =>
 kFld 3 v70 fun v71 =>
 kNck l_0 fun v74 =>
 kFld 0 v74 fun v75 =>
 kFld 2 v75 fun v76 =>
 kLd s v71 fun v72 =>
 kLd s v76 fun v77 =>
 kLen true v77 fun v78 =>
 kBin .lss v72 v78 fun v79 =>
 kGrd v79 true (fun k =>
 kNck l_0 fun v82 =>
 kFld 0 v82 fun v83 =>
 kFld 2 v83 fun v84 =>
 kNck l_0 fun v87 =>
 kFld 0 v87 fun v88 =>
 kFld 3 v88 fun v89 =>
 kLd s v84 fun v85 =>
 kLd s v89 fun v90 =>
 kIxS v85 v90 fun v91 =>
 kCall Tryd.prog 35 [(.string (bs [60, 62])), v91] s fun v92 s =>
 kBin .geq v92 (.int .i64 0) fun v93 =>
 k [v93] s) [undef] s fun xs s =>
 un1 xs fun v93 =>
 kPick v79 v93 (.bool false) fun v94 =>
 kGrd v94 true (fun k =>
 kFld 1 t_3 fun v96 =>
 kLd s v96 fun v97 =>
 kCall Tryd.prog 36 [v97, (.string (bs [48, 49, 50, 51, 52, 53, 54, 55, 56, 57]))] s fun v98 s =>
 kBin .eql v98 (.string (bs [])) fun v99 =>
 k [v99] s) [undef] s fun xs s =>
 un1 xs fun v99 =>
 kPick v94 v99 (.bool false) fun v100 =>
 kCond v100 (
 kFld 0 t_3 fun v101 =>
 kSt s 1 v101 (.int .i64 4) fun s =>
 J3 [] s) (
 J3 [] s)))) fun J2 =>
 kNck l_0 fun v50 =>
 kFld 0 v50 fun v51 =>
 kFld 0 v51 fun v52 =>
 kCall Tryd.prog 11 [v52] s fun v53 s =>
 kCond v53 (
 k undef s) (
 J2 [] s)) fun J1 =>
 kLoop (fun again4 _ s =>
 kJoin (fun _ s =>
 kNck l_0 fun v46 =>
 kFld 0 v46 fun v47 =>
 kCall Tryd.prog 14 [v47, (.bool false), (.bool true), (.bool false)] s fun v48 s =>
 again4 [] s) fun J5 =>
 kNck l_0 fun v11 =>
 kFld 0 v11 fun v12 =>
 kFld 3 v12 fun v13 =>
 kNck l_0 fun v16 =>
 kFld 0 v16 fun v17 =>
 kFld 2 v17 fun v18 =>
 kLd s v13 fun v14 =>
 kLd s v18 fun v19 =>
 kLen true v19 fun v20 =>
 kBin .lss v14 v20 fun v21 =>
 kGrd v21 true (fun k =>
 kNck l_0 fun v24 =>
 kFld 0 v24 fun v25 =>
 kFld 2 v25 fun v26 =>
 kNck l_0 fun v29 =>
 kFld 0 v29 fun v30 =>
 kFld 3 v30 fun v31 =>
 kLd s v26 fun v27 =>
 kLd s v31 fun v32 =>
 kIxS v27 v32 fun v33 =>
 kCall Tryd.prog 34 [v33] s fun v34 s =>
 kUn .not v34 fun v35 =>
 k [v35] s) [undef] s fun xs s =>
 un1 xs fun v35 =>
 kPick v21 v35 (.bool false) fun v36 =>
 kGrd v36 true (fun k =>
 kNck l_0 fun v39 =>
 kFld 0 v39 fun v40 =>
 kFld 0 v40 fun v41 =>
 kCall Tryd.prog 11 [v41] s fun v42 s =>
 kUn .not v42 fun v43 =>
 k [v43] s) [undef] s fun xs s =>
 un1 xs fun v43 =>
 kPick v36 v43 (.bool false) fun v44 =>
 kCond v44 (
 J5 [] s) (
 J1 [] s)) [] s
theorem F23_ok (l_0 : Value) (s : AS) (k : Value → AS → Prop) : denFn Tryd.prog [(1, (.go 0 (.go 1 (.go 2 (.go 3 (.go 5 (.go 6 (.go 7 (.go 8 (.go 4 (.go 9 (.go 10 (.go 11 (.go 12 (.go 13 (.go 14 (.go 15 (.go 16 (.go 18 (.go 19 (.go 20 (.go 21 (.go 17 (.go 22 (.go 23 (.go 24 (.go 25 (.go 26 (.go 27 (.go 28 (.go 29 (.go 30 (.go 31 (.go 32 (.go 33 (.go 34 .done)))))))))))))))))))))))))))))))))))), (4, (.go 0 (.go 1 (.go 2 (.go 3 (.go 5 (.go 6 (.go 7 (.go 8 (.go 9 (.go 12 (.go 4 (.go 10 (.go 11 (.go 13 (.go 14 (.go 15 .done))))))))))))))))), (5, (.go 0 (.go 1 (.go 2 (.go 3 (.go 5 (.go 6 (.go 7 (.go 8 (.go 4 (.go 9 (.go 10 (.go 11 (.go 12 (.go 13 (.go 14 (.go 15 (.go 16 (.go 18 (.go 19 (.go 20 (.go 21 (.go 17 (.go 22 (.go 23 (.go 24 (.go 25 (.go 26 (.go 27 (.go 28 (.go 29 (.go 30 (.go 31 (.go 32 .done)))))))))))))))))))))))))))))))))), (7, (.go 0 (.go 1 (.go 2 (.go 3 (.go 4 (.go 5 (.go 6 (.go 7 (.go 8 (.go 9 (.go 10 .done)))))))))))), (10, (.go 0 (.go 1 (.go 2 (.go 4 (.go 5 (.go 3 (.go 6 (.go 7 (.go 8 (.go 9 (.go 10 .done)))))))))))), (11, (.go 0 (.go 1 (.go 2 (.go 3 (.go 5 (.go 6 (.go 9 (.go 10 (.go 11 (.go 13 (.go 4 (.go 7 (.go 12 (.go 14 (.go 15 (.go 16 (.go 17 (.go 8 (.go 18 (.go 19 (.go 20 (.go 21 (.go 22 (.go 23 (.go 24 .done))))))))))))))))))))))))))] 23 [l_0] s k = F23 l_0 s k := by kernel_rfl
theorem f23 {l_0 : Value} {s : AS} {k : Value → AS → Prop} (h : F23 l_0 s k) : kCall Tryd.prog 23 [l_0] s k := denFn_ok [(1, (.go 0 (.go 1 (.go 2 (.go 3 (.go 5 (.go 6 (.go 7 (.go 8 (.go 4 (.go 9 (.go 10 (.go 11 (.go 12 (.go 13 (.go 14 (.go 15 (.go 16 (.go 18 (.go 19 (.go 20 (.go 21 (.go 17 (.go 22 (.go 23 (.go 24 (.go 25 (.go 26 (.go 27 (.go 28 (.go 29 (.go 30 (.go 31 (.go 32 (.go 33 (.go 34 .done)))))))))))))))))))))))))))))))))))), (4, (.go 0 (.go 1 (.go 2 (.go 3 (.go 5 (.go 6 (.go 7 (.go 8 (.go 9 (.go 12 (.go 4 (.go 10 (.go 11 (.go 13 (.go 14 (.go 15 .done))))))))))))))))), (5, (.go 0 (.go 1 (.go 2 (.go 3 (.go 5 (.go 6 (.go 7 (.go 8 (.go 4 (.go 9 (.go 10 (.go 11 (.go 12 (.go 13 (.go 14 (.go 15 (.go 16 (.go 18 (.go 19 (.go 20 (.go 21 (.go 17 (.go 22 (.go 23 (.go 24 (.go 25 (.go 26 (.go 27 (.go 28 (.go 29 (.go 30 (.go 31 (.go 32 .done)))))))))))))))))))))))))))))))))), (7, (.go 0 (.go 1 (.go 2 (.go 3 (.go 4 (.go 5 (.go 6 (.go 7 (.go 8 (.go 9 (.go 10 .done)))))))))))), (10, (.go 0 (.go 1 (.go 2 (.go 4 (.go 5 (.go 3 (.go 6 (.go 7 (.go 8 (.go 9 (.go 10 .done)))))))))))), (11, (.go 0 (.go 1 (.go 2 (.go 3 (.go 5 (.go 6 (.go 9 (.go 10 (.go 11 (.go 13 (.go 4 (.go 7 (.go 12 (.go 14 (.go 15 (.go 16 (.go 17 (.go 8 (.go 18 (.go 19 (.go 20 (.go 21 (.go 22 (.go 23 (.go 24 .done))))))))))))))))))))))))))] (cast (F23_ok l_0 s k).symm h)
theorem k23_ok : okFn Tryd.prog 23 = true := by kernel_rfl

/- (*conch lex.reader).single -/
def F24 (r_0 : Value) (s : AS) (k : Value → AS → Prop) : Prop :=
 kNck r_0 fun v4 =>
 kFld 2 v4 fun v5 =>
 kNck r_0 fun v8 =>
 kFld 3 v8 fun v9 =>
 kLd s v5 fun v6 =>
 kLd s v9 fun v10 =>
 kBin .add v10 (.int .i64 1) fun v11 =>
 kSubS v6 (some v11) none fun v12 =>
 kCall Tryd.prog 35 [v12, (.int .u8 39)] s fun v13 s =>
 kJoin (fun _ s =>
 kNck r_0 fun v25 =>
 kFld 3 v25 fun v26 =>
 kLd s v26 fun v27 =>
 kBin .add v13 (.int .i64 2) fun v29 =>
 kBin .add v27 v29 fun v30 =>
 kNck r_0 fun v31 =>
 kFld 3 v31 fun v32 =>
 kSt s 1 v32 v30 fun s =>
 k undef s) fun J1 =>
 kBin .lss v13 (.int .i64 0) fun v15 =>
 kCond v15 (
 kNck r_0 fun v17 =>
 kFld 0 v17 fun v18 =>
 kNck r_0 fun v20 =>
 kFld 3 v20 fun v21 =>
 kLd s v21 fun v22 =>
 kCall Tryd.prog 13 [v18, (.int .i64 11), v22] s fun v23 s =>
 k undef s) (
 J1 [] s)
theorem F24_ok (r_0 : Value) (s : AS) (k : Value → AS → Prop) : denFn Tryd.prog [(0, (.go 0 (.go 1 (.go 2 (.go 4 (.go 5 (.go 6 (.go 3 (.go 7 (.go 8 (.go 9 (.go 10 (.go 11 .done))))))))))))), (2, (.go 0 (.go 1 (.go 2 (.go 3 (.go 4 (.go 5 (.go 6 (.go 7 .done)))))))))] 24 [r_0] s k = F24 r_0 s k := by kernel_rfl
theorem f24 {r_0 : Value} {s : AS} {k : Value → AS → Prop} (h : F24 r_0 s k) : kCall Tryd.prog 24 [r_0] s k := denFn_ok [(0, (.go 0 (.go 1 (.go 2 (.go 4 (.go 5 (.go 6 (.go 3 (.go 7 (.go 8 (.go 9 (.go 10 (.go 11 .done))))))))))))), (2, (.go 0 (.go 1 (.go 2 (.go 3 (.go 4 (.go 5 (.go 6 (.go 7 .done)))))))))] (cast (F24_ok r_0 s k).symm h)
theorem k24_ok : okFn Tryd.prog 24 = true := by kernel_rfl

/- (*conch lex.reader).until -/
def F25 (r_0 end_1 from_2 thing_3 : Value) (s : AS) (k : Value → AS → Prop) : Prop :=
 kJoin (fun _ s =>
 kLoop (fun again2 _ s =>
 kJoin (fun _ s =>
 kJoin (fun _ s =>
 kJoin (fun _ s =>
 kCallv Tryd.prog thing_3 [] s fun v58 s =>
 again2 [] s) fun J5 =>
 kNck r_0 fun v33 =>
 kFld 2 v33 fun v34 =>
 kNck r_0 fun v37 =>
 kFld 3 v37 fun v38 =>
 kLd s v34 fun v35 =>
 kLd s v38 fun v39 =>
 kIxS v35 v39 fun v40 =>
 kBin .eql v40 end_1 fun v42 =>
 kCond v42 (
 kNck r_0 fun v44 =>
 kFld 3 v44 fun v45 =>
 kLd s v45 fun v46 =>
 kBin .add v46 (.int .i64 1) fun v47 =>
 kNck r_0 fun v48 =>
 kFld 3 v48 fun v49 =>
 kSt s 1 v49 v47 fun s =>
 kNck r_0 fun v51 =>
 kFld 4 v51 fun v52 =>
 kLd s v52 fun v53 =>
 kBin .sub v53 (.int .i64 1) fun v54 =>
 kNck r_0 fun v55 =>
 kFld 4 v55 fun v56 =>
 kSt s 1 v56 v54 fun s =>
 k undef s) (
 J5 [] s)) fun J4 =>
 kNck r_0 fun v18 =>
 kFld 3 v18 fun v19 =>
 kNck r_0 fun v22 =>
 kFld 2 v22 fun v23 =>
 kLd s v19 fun v20 =>
 kLd s v23 fun v24 =>
 kLen true v24 fun v25 =>
 kBin .eql v20 v25 fun v26 =>
 kCond v26 (
 kNck r_0 fun v28 =>
 kFld 0 v28 fun v29 =>
 kCall Tryd.prog 13 [v29, (.int .i64 11), from_2] s fun v31 s =>
 k undef s) (
 J4 [] s)) fun J3 =>
 kNck r_0 fun v13 =>
 kFld 0 v13 fun v14 =>
 kCall Tryd.prog 11 [v14] s fun v15 s =>
 kUn .not v15 fun v16 =>
 kCond v16 (
 J3 [] s) (
 k undef s)) [] s) fun J1 =>
 kCall Tryd.prog 39 [r_0, from_2] s fun v10 s =>
 kUn .not v10 fun v11 =>
 kCond v11 (
 k undef s) (
 J1 [] s)
theorem F25_ok (r_0 end_1 from_2 thing_3 : Value) (s : AS) (k : Value → AS → Prop) : denFn Tryd.prog [(2, (.go 0 (.go 1 (.go 2 (.go 4 (.go 5 (.go 6 (.go 3 (.go 7 (.go 8 (.go 9 .done))))))))))), (4, (.go 0 (.go 1 (.go 2 (.go 4 (.go 5 (.go 6 (.go 9 (.go 3 (.go 7 (.go 8 (.go 10 .done))))))))))))] 25 [r_0, end_1, from_2, thing_3] s k = F25 r_0 end_1 from_2 thing_3 s k := by kernel_rfl
theorem f25 {r_0 end_1 from_2 thing_3 : Value} {s : AS} {k : Value → AS → Prop} (h : F25 r_0 end_1 from_2 thing_3 s k) : kCall Tryd.prog 25 [r_0, end_1, from_2, thing_3] s k := denFn_ok [(2, (.go 0 (.go 1 (.go 2 (.go 4 (.go 5 (.go 6 (.go 3 (.go 7 (.go 8 (.go 9 .done))))))))))), (4, (.go 0 (.go 1 (.go 2 (.go 4 (.go 5 (.go 6 (.go 9 (.go 3 (.go 7 (.go 8 (.go 10 .done))))))))))))] (cast (F25_ok r_0 end_1 from_2 thing_3 s k).symm h)
theorem k25_ok : okFn Tryd.prog 25 = true := by kernel_rfl

/- (*conch lex.reader).thing$1 -/
def F26 (v0 : Value) (s : AS) (k : Value → AS → Prop) : Prop :=
 kLd s v0 fun v1 =>
 kCall Tryd.prog 14 [v1, (.bool true), (.bool false), (.bool false)] s fun v2 s =>
 k undef s
theorem F26_ok (v0 : Value) (s : AS) (k : Value → AS → Prop) : denFn Tryd.prog [] 26 [v0] s k = F26 v0 s k := by kernel_rfl
theorem f26 {v0 : Value} {s : AS} {k : Value → AS → Prop} (h : F26 v0 s k) : kCall Tryd.prog 26 [v0] s k := denFn_ok [] (cast (F26_ok v0 s k).symm h)
theorem k26_ok : okFn Tryd.prog 26 = true := by kernel_rfl

/- (*conch lex.reader).bracket -/
def F27 (r_0 : Value) (s : AS) (k : Value → AS → Prop) : Prop :=
 kNew s (cellsV r_0) fun r_1 s =>
 kLd s r_1 fun v3 =>
 kNck v3 fun v4 =>
 kFld 3 v4 fun v5 =>
 kLd s v5 fun v6 =>
 kLd s r_1 fun v7 =>
 kNck v7 fun v8 =>
 kFld 3 v8 fun v9 =>
 kLd s v9 fun v10 =>
 kBin .add v10 (.int .i64 1) fun v11 =>
 kNck v7 fun v12 =>
 kFld 3 v12 fun v13 =>
 kSt s 1 v13 v11 fun s =>
 kLd s r_1 fun v14 =>
 kCall Tryd.prog 25 [v14, (.int .u8 41), v6, (.func (.func 40) #[] #[r_1])] s fun v17 s =>
 k undef s
theorem F27_ok (r_0 : Value) (s : AS) (k : Value → AS → Prop) : denFn Tryd.prog [] 27 [r_0] s k = F27 r_0 s k := by kernel_rfl
theorem f27 {r_0 : Value} {s : AS} {k : Value → AS → Prop} (h : F27 r_0 s k) : kCall Tryd.prog 27 [r_0] s k := denFn_ok [] (cast (F27_ok r_0 s k).symm h)
theorem k27_ok : okFn Tryd.prog 27 = true := by kernel_rfl

/- (*conch lex.reader).dollar -/
def F28 (r_0 quoted_1 : Value) (s : AS) (k : Value → AS → Prop) : Prop :=
 kNew s (cellsV r_0) fun r_2 s =>
 kNew s (cellsV quoted_1) fun quoted_3 s =>
 kLd s r_2 fun v5 =>
 kNck v5 fun v6 =>
 kFld 3 v6 fun v7 =>
 kLd s v7 fun v8 =>
 kLd s r_2 fun v9 =>
 kNck v9 fun v10 =>
 kFld 3 v10 fun v11 =>
 kLd s v11 fun v12 =>
 kBin .add v12 (.int .i64 1) fun v13 =>
 kNck v9 fun v14 =>
 kFld 3 v14 fun v15 =>
 kSt s 1 v15 v13 fun s =>
 kLd s r_2 fun v17 =>
 kNck v17 fun v18 =>
 kFld 2 v18 fun v19 =>
 kLd s v19 fun v20 =>
 kLd s r_2 fun v21 =>
 kNck v21 fun v22 =>
 kFld 3 v22 fun v23 =>
 kLd s v23 fun v24 =>
 kSubS v20 (some v24) none fun v25 =>
 kCall Tryd.prog 19 [v25, (.string (bs [123]))] s fun v26 s =>
 kCond v26 (
 kLd s r_2 fun v27 =>
 kNck v27 fun v28 =>
 kFld 3 v28 fun v29 =>
 kLd s v29 fun v30 =>
 kBin .add v30 (.int .i64 1) fun v31 =>
 kNck v27 fun v32 =>
 kFld 3 v32 fun v33 =>
 kSt s 1 v33 v31 fun s =>
 kLd s r_2 fun v34 =>
 kCall Tryd.prog 25 [v34, (.int .u8 125), v8, (.func (.func 41) #[] #[r_2, quoted_3])] s fun v37 s =>
 k undef s) (
 kLd s r_2 fun v39 =>
 kNck v39 fun v40 =>
 kFld 2 v40 fun v41 =>
 kLd s v41 fun v42 =>
 kLd s r_2 fun v43 =>
 kNck v43 fun v44 =>
 kFld 3 v44 fun v45 =>
 kLd s v45 fun v46 =>
 kSubS v42 (some v46) none fun v47 =>
 kCall Tryd.prog 19 [v47, (.string (bs [40]))] s fun v48 s =>
 kCond v48 (
 kLd s r_2 fun v49 =>
 kCall Tryd.prog 27 [v49] s fun v50 s =>
 k undef s) (
 k undef s))
theorem F28_ok (r_0 quoted_1 : Value) (s : AS) (k : Value → AS → Prop) : denFn Tryd.prog [(3, (.go 0 (.go 1 (.go 2 (.go 3 (.go 4 (.go 5 (.go 6 (.go 7 (.go 8 (.go 9 (.go 10 .done)))))))))))), (6, (.go 0 (.go 1 (.go 2 (.go 3 (.go 4 (.go 5 (.go 6 (.go 7 (.go 8 (.go 9 (.go 10 .done))))))))))))] 28 [r_0, quoted_1] s k = F28 r_0 quoted_1 s k := by kernel_rfl
theorem f28 {r_0 quoted_1 : Value} {s : AS} {k : Value → AS → Prop} (h : F28 r_0 quoted_1 s k) : kCall Tryd.prog 28 [r_0, quoted_1] s k := denFn_ok [(3, (.go 0 (.go 1 (.go 2 (.go 3 (.go 4 (.go 5 (.go 6 (.go 7 (.go 8 (.go 9 (.go 10 .done)))))))))))), (6, (.go 0 (.go 1 (.go 2 (.go 3 (.go 4 (.go 5 (.go 6 (.go 7 (.go 8 (.go 9 (.go 10 .done))))))))))))] (cast (F28_ok r_0 quoted_1 s k).symm h)
theorem k28_ok : okFn Tryd.prog 28 = true := by kernel_rfl

/- conch conchref04.closed -/
def F29 (s_0 i_1 from_2 end_3 where_4 deep_5 : Value) (s : AS) (k : Value → AS → Prop) : Prop :=
 kNew s [(.int .i64 0), (.int .i64 0), (.int .i64 0)] fun v12 s =>
 kJoin (fun _ s =>
 kJoin (fun xs s =>
 un1 xs fun i_1 =>
 kJoin (fun _ s =>
 kBin .add i_1 (.int .i64 1) fun v48 =>
 kBuild [(.int .i64 0), (.int .i64 0), (.int .i64 0)] [(0, 1, v48)] fun v49 =>
 kSt s 3 v12 v49 fun s =>
 kLdN s 3 v12 fun r0 =>
 k r0 s) fun J3 =>
 kLen true s_0 fun v43 =>
 kBin .geq i_1 v43 fun v44 =>
 kCond v44 (
 kBuild [(.int .i64 0), (.int .i64 0), (.int .i64 0)] [(1, 1, from_2), (2, 1, (.int .i64 11))] fun v46 =>
 kSt s 3 v12 v46 fun s =>
 kLdN s 3 v12 fun r0 =>
 k r0 s) (
 J3 [] s)) fun J2 =>
 kLoop (fun again4 xs s =>
 un1 xs fun i_1 =>
 kJoin (fun _ s =>
 kBin .add deep_5 (.int .i64 1) fun v33 =>
 kCall Tryd.prog 15 [s_0, i_1, where_4, v33] s fun v34 s =>
 kNew s [(.int .i64 0), (.int .i64 0), (.int .i64 0)] fun t_13 s =>
 kSt s 3 t_13 v34 fun s =>
 kJoin (fun _ s =>
 kFld 0 t_13 fun v39 =>
 kLd s v39 fun v40 =>
 again4 [v40] s) fun J6 =>
 kFld 2 t_13 fun v35 =>
 kLd s v35 fun v36 =>
 kBin .neq v36 (.int .i64 0) fun v37 =>
 kCond v37 (
 kLdN s 3 t_13 fun v38 =>
 kSt s 3 v12 v38 fun s =>
 kLdN s 3 v12 fun r0 =>
 k r0 s) (
 J6 [] s)) fun J5 =>
 kLen true s_0 fun v20 =>
 kBin .lss i_1 v20 fun v21 =>
 kGrd v21 true (fun k =>
 kIxS s_0 i_1 fun v25 =>
 kBin .neq v25 end_3 fun v27 =>
 k [v27] s) [undef] s fun xs s =>
 un1 xs fun v27 =>
 kPick v21 v27 (.bool false) fun v28 =>
 kCond v28 (
 J5 [] s) (
 J2 [i_1] s)) [i_1] s) fun J1 =>
 kBin .geq deep_5 (.int .i64 40) fun v15 =>
 kCond v15 (
 kBuild [(.int .i64 0), (.int .i64 0), (.int .i64 0)] [(1, 1, from_2), (2, 1, (.int .i64 3))] fun v17 =>
 kSt s 3 v12 v17 fun s =>
 kLdN s 3 v12 fun r0 =>
 k r0 s) (
 J1 [] s)
theorem F29_ok (s_0 i_1 from_2 end_3 where_4 deep_5 : Value) (s : AS) (k : Value → AS → Prop) : denFn Tryd.prog [] 29 [s_0, i_1, from_2, end_3, where_4, deep_5] s k = F29 s_0 i_1 from_2 end_3 where_4 deep_5 s k := by kernel_rfl
theorem f29 {s_0 i_1 from_2 end_3 where_4 deep_5 : Value} {s : AS} {k : Value → AS → Prop} (h : F29 s_0 i_1 from_2 end_3 where_4 deep_5 s k) : kCall Tryd.prog 29 [s_0, i_1, from_2, end_3, where_4, deep_5] s k := denFn_ok [] (cast (F29_ok s_0 i_1 from_2 end_3 where_4 deep_5 s k).symm h)
theorem k29_ok : okFn Tryd.prog 29 = true := by kernel_rfl

/- internal stringslite.HasPrefix -/
def F30 (s_0 prefix_1 : Value) (s : AS) (k : Value → AS → Prop) : Prop :=
 kLen true s_0 fun v6 =>
 kLen true prefix_1 fun v8 =>
 kBin .geq v6 v8 fun v9 =>
 kGrd v9 true (fun k =>
 kLen true prefix_1 fun v13 =>
 kSubS s_0 none (some v13) fun v14 =>
 kBin .eql v14 prefix_1 fun v16 =>
 k [v16] s) [undef] s fun xs s =>
 un1 xs fun v16 =>
 kPick v9 v16 (.bool false) fun v17 =>
 k v17 s
theorem F30_ok (s_0 prefix_1 : Value) (s : AS) (k : Value → AS → Prop) : denFn Tryd.prog [] 30 [s_0, prefix_1] s k = F30 s_0 prefix_1 s k := by kernel_rfl
theorem f30 {s_0 prefix_1 : Value} {s : AS} {k : Value → AS → Prop} (h : F30 s_0 prefix_1 s k) : kCall Tryd.prog 30 [s_0, prefix_1] s k := denFn_ok [] (cast (F30_ok s_0 prefix_1 s k).symm h)
theorem k30_ok : okFn Tryd.prog 30 = true := by kernel_rfl

/- conch chars.among -/
def F31 (s_0 : Value) (s : AS) (k : Value → AS → Prop) : Prop :=
 kNew s (cellsV s_0) fun s_1 s =>
 k (.func (.func 42) #[] #[s_1]) s
theorem F31_ok (s_0 : Value) (s : AS) (k : Value → AS → Prop) : denFn Tryd.prog [] 31 [s_0] s k = F31 s_0 s k := by kernel_rfl
theorem f31 {s_0 : Value} {s : AS} {k : Value → AS → Prop} (h : F31 s_0 s k) : kCall Tryd.prog 31 [s_0] s k := denFn_ok [] (cast (F31_ok s_0 s k).symm h)
theorem k31_ok : okFn Tryd.prog 31 = true := by kernel_rfl

/- internal stringslite.Cut -/
def F32 (s_0 sep_1 : Value) (s : AS) (k : Value → AS → Prop) : Prop :=
 kJoin (fun _ s =>
 k (.tuple #[s_0, (.string (bs [])), (.bool false)]) s) fun J1 =>
 kCall Tryd.prog 43 [s_0, sep_1] s fun v10 s =>
 kBin .geq v10 (.int .i64 0) fun v12 =>
 kCond v12 (
 kSubS s_0 none (some v10) fun v15 =>
 kLen true sep_1 fun v19 =>
 kBin .add v10 v19 fun v20 =>
 kSubS s_0 (some v20) none fun v21 =>
 k (.tuple #[v15, v21, (.bool true)]) s) (
 J1 [] s)
theorem F32_ok (s_0 sep_1 : Value) (s : AS) (k : Value → AS → Prop) : denFn Tryd.prog [(3, (.go 0 (.go 1 (.go 2 (.go 3 (.go 4 (.go 5 (.go 6 (.go 7 (.go 8 (.go 9 (.go 10 (.go 11 .done)))))))))))))] 32 [s_0, sep_1] s k = F32 s_0 sep_1 s k := by kernel_rfl
theorem f32 {s_0 sep_1 : Value} {s : AS} {k : Value → AS → Prop} (h : F32 s_0 sep_1 s k) : kCall Tryd.prog 32 [s_0, sep_1] s k := denFn_ok [(3, (.go 0 (.go 1 (.go 2 (.go 3 (.go 4 (.go 5 (.go 6 (.go 7 (.go 8 (.go 9 (.go 10 (.go 11 .done)))))))))))))] (cast (F32_ok s_0 sep_1 s k).symm h)
theorem k32_ok : okFn Tryd.prog 32 = true := by kernel_rfl

/- strings.TrimLeft -/
def F33 (s_0 cutset_1 : Value) (s : AS) (k : Value → AS → Prop) : Prop :=
 kJoin (fun _ s =>
 kJoin (fun _ s =>
 kJoin (fun _ s =>
 kCall Tryd.prog 47 [s_0, cutset_1] s fun v36 s =>
 k v36 s) fun J3 =>
 kCall Tryd.prog 45 [cutset_1] s fun v28 s =>
 kExt 0 v28 fun v29 =>
 kExt 1 v28 fun v30 =>
 kNew s (List.replicate 256 (.bool false)) fun as_5 s =>
 kSt s 256 as_5 v29 fun s =>
 kCond v30 (
 kCall Tryd.prog 46 [s_0, as_5] s fun v33 s =>
 k v33 s) (
 J3 [] s)) fun J2 =>
 kLen true cutset_1 fun v15 =>
 kBin .eql v15 (.int .i64 1) fun v16 =>
 kGrd v16 true (fun k =>
 kIxS cutset_1 (.int .i64 0) fun v19 =>
 kBin .lss v19 (.int .u8 128) fun v20 =>
 k [v20] s) [undef] s fun xs s =>
 un1 xs fun v20 =>
 kPick v16 v20 (.bool false) fun v21 =>
 kCond v21 (
 kIxS cutset_1 (.int .i64 0) fun v24 =>
 kCall Tryd.prog 44 [s_0, v24] s fun v25 s =>
 k v25 s) (
 J2 [] s)) fun J1 =>
 kBin .eql s_0 (.string (bs [])) fun v8 =>
 kGrd v8 false (fun k =>
 kBin .eql cutset_1 (.string (bs [])) fun v11 =>
 k [v11] s) [undef] s fun xs s =>
 un1 xs fun v11 =>
 kPick v8 (.bool true) v11 fun v12 =>
 kCond v12 (
 k s_0 s) (
 J1 [] s)
theorem F33_ok (s_0 cutset_1 : Value) (s : AS) (k : Value → AS → Prop) : denFn Tryd.prog [] 33 [s_0, cutset_1] s k = F33 s_0 cutset_1 s k := by kernel_rfl
theorem f33 {s_0 cutset_1 : Value} {s : AS} {k : Value → AS → Prop} (h : F33 s_0 cutset_1 s k) : kCall Tryd.prog 33 [s_0, cutset_1] s k := denFn_ok [] (cast (F33_ok s_0 cutset_1 s k).symm h)
theorem k33_ok : okFn Tryd.prog 33 = true := by kernel_rfl

/- conch chars.Meta -/
def F34 (c_0 : Value) (s : AS) (k : Value → AS → Prop) : Prop :=
 kCall Tryd.prog 31 [(.string (bs [32, 9, 10, 124, 38, 59, 60, 62, 40, 41]))] s fun v3 s =>
 kCallv Tryd.prog v3 [c_0] s fun v5 s =>
 k v5 s
theorem F34_ok (c_0 : Value) (s : AS) (k : Value → AS → Prop) : denFn Tryd.prog [] 34 [c_0] s k = F34 c_0 s k := by kernel_rfl
theorem f34 {c_0 : Value} {s : AS} {k : Value → AS → Prop} (h : F34 c_0 s k) : kCall Tryd.prog 34 [c_0] s k := denFn_ok [] (cast (F34_ok c_0 s k).symm h)
theorem k34_ok : okFn Tryd.prog 34 = true := by kernel_rfl

/- strings.IndexByte -/
def F35 (s_0 c_1 : Value) (s : AS) (k : Value → AS → Prop) : Prop :=
 kCall Tryd.prog 48 [s_0, c_1] s fun v7 s =>
 k v7 s
theorem F35_ok (s_0 c_1 : Value) (s : AS) (k : Value → AS → Prop) : denFn Tryd.prog [] 35 [s_0, c_1] s k = F35 s_0 c_1 s k := by kernel_rfl
theorem f35 {s_0 c_1 : Value} {s : AS} {k : Value → AS → Prop} (h : F35 s_0 c_1 s k) : kCall Tryd.prog 35 [s_0, c_1] s k := denFn_ok [] (cast (F35_ok s_0 c_1 s k).symm h)
theorem k35_ok : okFn Tryd.prog 35 = true := by kernel_rfl

/- strings.Trim -/
def F36 (s_0 cutset_1 : Value) (s : AS) (k : Value → AS → Prop) : Prop :=
 kJoin (fun _ s =>
 kJoin (fun _ s =>
 kJoin (fun _ s =>
 kCall Tryd.prog 51 [s_0, cutset_1] s fun v40 s =>
 kCall Tryd.prog 47 [v40, cutset_1] s fun v42 s =>
 k v42 s) fun J3 =>
 kCall Tryd.prog 45 [cutset_1] s fun v31 s =>
 kExt 0 v31 fun v32 =>
 kExt 1 v31 fun v33 =>
 kNew s (List.replicate 256 (.bool false)) fun as_5 s =>
 kSt s 256 as_5 v32 fun s =>
 kCond v33 (
 kCall Tryd.prog 50 [s_0, as_5] s fun v36 s =>
 kCall Tryd.prog 46 [v36, as_5] s fun v37 s =>
 k v37 s) (
 J3 [] s)) fun J2 =>
 kLen true cutset_1 fun v15 =>
 kBin .eql v15 (.int .i64 1) fun v16 =>
 kGrd v16 true (fun k =>
 kIxS cutset_1 (.int .i64 0) fun v19 =>
 kBin .lss v19 (.int .u8 128) fun v20 =>
 k [v20] s) [undef] s fun xs s =>
 un1 xs fun v20 =>
 kPick v16 v20 (.bool false) fun v21 =>
 kCond v21 (
 kIxS cutset_1 (.int .i64 0) fun v24 =>
 kIxS cutset_1 (.int .i64 0) fun v27 =>
 kCall Tryd.prog 49 [s_0, v24] s fun v25 s =>
 kCall Tryd.prog 44 [v25, v27] s fun v28 s =>
 k v28 s) (
 J2 [] s)) fun J1 =>
 kBin .eql s_0 (.string (bs [])) fun v8 =>
 kGrd v8 false (fun k =>
 kBin .eql cutset_1 (.string (bs [])) fun v11 =>
 k [v11] s) [undef] s fun xs s =>
 un1 xs fun v11 =>
 kPick v8 (.bool true) v11 fun v12 =>
 kCond v12 (
 k s_0 s) (
 J1 [] s)
theorem F36_ok (s_0 cutset_1 : Value) (s : AS) (k : Value → AS → Prop) : denFn Tryd.prog [(4, (.go 0 (.go 1 (.go 2 (.go 4 (.go 5 (.go 3 (.go 6 (.go 7 .done)))))))))] 36 [s_0, cutset_1] s k = F36 s_0 cutset_1 s k := by kernel_rfl
theorem f36 {s_0 cutset_1 : Value} {s : AS} {k : Value → AS → Prop} (h : F36 s_0 cutset_1 s k) : kCall Tryd.prog 36 [s_0, cutset_1] s k := denFn_ok [(4, (.go 0 (.go 1 (.go 2 (.go 4 (.go 5 (.go 3 (.go 6 (.go 7 .done)))))))))] (cast (F36_ok s_0 cutset_1 s k).symm h)
theorem k36_ok : okFn Tryd.prog 36 = true := by kernel_rfl

/- strings.ContainsAny -/
def F37 (s_0 chars_1 : Value) (s : AS) (k : Value → AS → Prop) : Prop :=
 kCall Tryd.prog 52 [s_0, chars_1] s fun v7 s =>
 kBin .geq v7 (.int .i64 0) fun v8 =>
 k v8 s
theorem F37_ok (s_0 chars_1 : Value) (s : AS) (k : Value → AS → Prop) : denFn Tryd.prog [] 37 [s_0, chars_1] s k = F37 s_0 chars_1 s k := by kernel_rfl
theorem f37 {s_0 chars_1 : Value} {s : AS} {k : Value → AS → Prop} (h : F37 s_0 chars_1 s k) : kCall Tryd.prog 37 [s_0, chars_1] s k := denFn_ok [] (cast (F37_ok s_0 chars_1 s k).symm h)
theorem k37_ok : okFn Tryd.prog 37 = true := by kernel_rfl

/- conch lex.bare -/
def F38 (w_0 : Value) (s : AS) (k : Value → AS → Prop) : Prop :=
 kNewT s 78 [(.pointer none), (.slice none 0 0)] fun out_3 s =>
 kJoin (fun _ s =>
 kCall Tryd.prog 55 [out_3] s fun v82 s =>
 k v82 s) fun J1 =>
 kLoop (fun again2 xs s =>
 un2 xs fun quoted_4 i_5 =>
 kJoin (fun _ s =>
 kJoin (fun xs s =>
 un2 xs fun quoted_4 i_5 =>
 kBin .add i_5 (.int .i64 1) fun v13 =>
 again2 [quoted_4, v13] s) fun J4 =>
 kIxS w_0 i_5 fun v16 =>
 kBin .eql v16 (.int .u8 92) fun v21 =>
 kGrd v21 true (fun k =>
 kBin .add i_5 (.int .i64 1) fun v24 =>
 kLen true w_0 fun v26 =>
 kBin .lss v24 v26 fun v27 =>
 k [v27] s) [undef] s fun xs s =>
 un1 xs fun v27 =>
 kPick v21 v27 (.bool false) fun v28 =>
 kCond v28 (
 kBin .add i_5 (.int .i64 1) fun v30 =>
 kJoin (fun _ s =>
 kIxS w_0 v30 fun v42 =>
 kBin .neq v42 (.int .u8 10) fun v43 =>
 kCond v43 (
 kIxS w_0 v30 fun v46 =>
 kCall Tryd.prog 53 [out_3, v46] s fun v47 s =>
 J4 [quoted_4, v30] s) (
 J4 [quoted_4, v30] s)) fun J5 =>
 kGrd quoted_4 true (fun k =>
 kIxS w_0 v30 fun v35 =>
 kCall Tryd.prog 35 [(.string (bs [36, 34, 92, 96, 10])), v35] s fun v36 s =>
 kBin .lss v36 (.int .i64 0) fun v37 =>
 k [v37] s) [undef] s fun xs s =>
 un1 xs fun v37 =>
 kPick quoted_4 v37 (.bool false) fun v38 =>
 kCond v38 (
 kCall Tryd.prog 53 [out_3, (.int .u8 92)] s fun v39 s =>
 J5 [] s) (
 J5 [] s)) (
 kBin .eql v16 (.int .u8 34) fun v50 =>
 kCond v50 (
 kUn .not quoted_4 fun v52 =>
 J4 [v52, i_5] s) (
 kBin .eql v16 (.int .u8 39) fun v55 =>
 kGrd v55 true (fun k =>
 kUn .not quoted_4 fun v58 =>
 k [v58] s) [undef] s fun xs s =>
 un1 xs fun v58 =>
 kPick v55 v58 (.bool false) fun v59 =>
 kCond v59 (
 kBin .add i_5 (.int .i64 1) fun v62 =>
 kSubS w_0 (some v62) none fun v63 =>
 kCall Tryd.prog 35 [v63, (.int .u8 39)] s fun v64 s =>
 kJoin (fun _ s =>
 kBin .add i_5 (.int .i64 1) fun v71 =>
 kBin .add i_5 (.int .i64 1) fun v73 =>
 kBin .add v73 v64 fun v75 =>
 kSubS w_0 (some v71) (some v75) fun v76 =>
 kCall Tryd.prog 54 [out_3, v76] s fun v77 s =>
 kBin .add v64 (.int .i64 1) fun v80 =>
 kBin .add i_5 v80 fun v81 =>
 J4 [quoted_4, v81] s) fun J6 =>
 kBin .lss v64 (.int .i64 0) fun v66 =>
 kCond v66 (
 kCall Tryd.prog 53 [out_3, v16] s fun v68 s =>
 J4 [quoted_4, i_5] s) (
 J6 [] s)) (
 kCall Tryd.prog 53 [out_3, v16] s fun v18 s =>
 J4 [quoted_4, i_5] s)))) fun J3 =>
 kLen true w_0 fun v10 =>
 kBin .lss i_5 v10 fun v11 =>
 kCond v11 (
 J3 [] s) (
 J1 [] s)) [(.bool false), (.int .i64 0)] s
theorem F38_ok (w_0 : Value) (s : AS) (k : Value → AS → Prop) : denFn Tryd.prog [] 38 [w_0] s k = F38 w_0 s k := by kernel_rfl
theorem f38 {w_0 : Value} {s : AS} {k : Value → AS → Prop} (h : F38 w_0 s k) : kCall Tryd.prog 38 [w_0] s k := denFn_ok [] (cast (F38_ok w_0 s k).symm h)
theorem k38_ok : okFn Tryd.prog 38 = true := by kernel_rfl

/- (*conch lex.reader).opens -/
def F39 (r_0 at_1 : Value) (s : AS) (k : Value → AS → Prop) : Prop :=
 kJoin (fun _ s =>
 kNck r_0 fun v16 =>
 kFld 4 v16 fun v17 =>
 kLd s v17 fun v18 =>
 kBin .add v18 (.int .i64 1) fun v19 =>
 kNck r_0 fun v20 =>
 kFld 4 v20 fun v21 =>
 kSt s 1 v21 v19 fun s =>
 k (.bool true) s) fun J1 =>
 kNck r_0 fun v6 =>
 kFld 4 v6 fun v7 =>
 kLd s v7 fun v8 =>
 kBin .eql v8 (.int .i64 40) fun v9 =>
 kCond v9 (
 kNck r_0 fun v11 =>
 kFld 0 v11 fun v12 =>
 kCall Tryd.prog 13 [v12, (.int .i64 3), at_1] s fun v14 s =>
 k (.bool false) s) (
 J1 [] s)
theorem F39_ok (r_0 at_1 : Value) (s : AS) (k : Value → AS → Prop) : denFn Tryd.prog [] 39 [r_0, at_1] s k = F39 r_0 at_1 s k := by kernel_rfl
theorem f39 {r_0 at_1 : Value} {s : AS} {k : Value → AS → Prop} (h : F39 r_0 at_1 s k) : kCall Tryd.prog 39 [r_0, at_1] s k := denFn_ok [] (cast (F39_ok r_0 at_1 s k).symm h)
theorem k39_ok : okFn Tryd.prog 39 = true := by kernel_rfl

/- (*conch lex.reader).bracket$1 -/
def F40 (v0 : Value) (s : AS) (k : Value → AS → Prop) : Prop :=
 kLd s v0 fun v1 =>
 kCall Tryd.prog 14 [v1, (.bool false), (.bool true), (.bool true)] s fun v2 s =>
 k undef s
theorem F40_ok (v0 : Value) (s : AS) (k : Value → AS → Prop) : denFn Tryd.prog [] 40 [v0] s k = F40 v0 s k := by kernel_rfl
theorem f40 {v0 : Value} {s : AS} {k : Value → AS → Prop} (h : F40 v0 s k) : kCall Tryd.prog 40 [v0] s k := denFn_ok [] (cast (F40_ok v0 s k).symm h)
theorem k40_ok : okFn Tryd.prog 40 = true := by kernel_rfl

/- (*conch lex.reader).dollar$1 -/
def F41 (v0 v1 : Value) (s : AS) (k : Value → AS → Prop) : Prop :=
 kLd s v0 fun v2 =>
 kLd s v1 fun v3 =>
 kCall Tryd.prog 14 [v2, v3, (.bool true), (.bool false)] s fun v4 s =>
 k undef s
theorem F41_ok (v0 v1 : Value) (s : AS) (k : Value → AS → Prop) : denFn Tryd.prog [] 41 [v0, v1] s k = F41 v0 v1 s k := by kernel_rfl
theorem f41 {v0 v1 : Value} {s : AS} {k : Value → AS → Prop} (h : F41 v0 v1 s k) : kCall Tryd.prog 41 [v0, v1] s k := denFn_ok [] (cast (F41_ok v0 v1 s k).symm h)
theorem k41_ok : okFn Tryd.prog 41 = true := by kernel_rfl

/- conch chars.among$1 -/
def F42 (c_0 v1 : Value) (s : AS) (k : Value → AS → Prop) : Prop :=
 kLd s v1 fun v4 =>
 kCall Tryd.prog 35 [v4, c_0] s fun v6 s =>
 kBin .geq v6 (.int .i64 0) fun v7 =>
 k v7 s
theorem F42_ok (c_0 v1 : Value) (s : AS) (k : Value → AS → Prop) : denFn Tryd.prog [] 42 [c_0, v1] s k = F42 c_0 v1 s k := by kernel_rfl
theorem f42 {c_0 v1 : Value} {s : AS} {k : Value → AS → Prop} (h : F42 c_0 v1 s k) : kCall Tryd.prog 42 [c_0, v1] s k := denFn_ok [] (cast (F42_ok c_0 v1 s k).symm h)
theorem k42_ok : okFn Tryd.prog 42 = true := by kernel_rfl

/- internal stringslite.Index -/
def F43 (s_0 substr_1 : Value) (s : AS) (k : Value → AS → Prop) : Prop :=
 kLen true substr_1 fun v15 =>
 kJoin (fun _ s =>
 kIxS substr_1 (.int .i64 0) fun v49 =>
 kIxS substr_1 (.int .i64 1) fun v51 =>
 kLen true s_0 fun v53 =>
 kBin .sub v53 v15 fun v55 =>
 kBin .add v55 (.int .i64 1) fun v56 =>
 kJoin (fun _ s =>
 k (.int .i64 (-1)) s) fun J2 =>
 kLoop (fun again3 xs s =>
 un2 xs fun i_8 fails_10 =>
 kJoin (fun _ s =>
 kJoin (fun xs s =>
 un1 xs fun i_8 =>
 kJoin (fun _ s =>
 kBin .add i_8 (.int .i64 1) fun v96 =>
 kBin .add fails_10 (.int .i64 1) fun v98 =>
 kLd s (.pointer (some ⟨0, 0, none⟩)) fun v100 =>
 kBin .leq v15 v100 fun v101 =>
 kGrd v101 true (fun k =>
 kCall Tryd.prog 57 [v96] s fun v105 s =>
 kBin .gtr v98 v105 fun v106 =>
 k [v106] s) [undef] s fun xs s =>
 un1 xs fun v106 =>
 kPick v101 v106 (.bool false) fun v107 =>
 kCond v107 (
 kSubS s_0 (some v96) none fun v110 =>
 kGen Tryd.prog (.ext 56) [v110, substr_1] s fun v112 s =>
 kJoin (fun _ s =>
 k (.int .i64 (-1)) s) fun J7 =>
 kBin .geq v112 (.int .i64 0) fun v114 =>
 kCond v114 (
 kBin .add v112 v96 fun v117 =>
 k v117 s) (
 J7 [] s)) (
 kLd s (.pointer (some ⟨0, 0, none⟩)) fun v119 =>
 kBin .gtr v15 v119 fun v120 =>
 kGrd v120 true (fun k =>
 kSft .shr v96 (.int .u64 4) fun v124 =>
 kBin .add (.int .i64 4) v124 fun v125 =>
 kBin .geq v98 v125 fun v126 =>
 k [v126] s) [undef] s fun xs s =>
 un1 xs fun v126 =>
 kPick v120 v126 (.bool false) fun v127 =>
 kGrd v127 true (fun k =>
 kBin .lss v96 v56 fun v131 =>
 k [v131] s) [undef] s fun xs s =>
 un1 xs fun v131 =>
 kPick v127 v131 (.bool false) fun v132 =>
 kCond v132 (
 kSubS s_0 (some v96) none fun v135 =>
 kCall Tryd.prog 58 [v135, substr_1] s fun v137 s =>
 kJoin (fun _ s =>
 kBin .add v96 v137 fun v142 =>
 k v142 s) fun J8 =>
 kBin .lss v137 (.int .i64 0) fun v139 =>
 kCond v139 (
 k (.int .i64 (-1)) s) (
 J8 [] s)) (
 again3 [v96, v98] s))) fun J6 =>
 kBin .add i_8 (.int .i64 1) fun v80 =>
 kIxS s_0 v80 fun v81 =>
 kBin .eql v81 v51 fun v83 =>
 kGrd v83 true (fun k =>
 kBin .add i_8 v15 fun v89 =>
 kSubS s_0 (some i_8) (some v89) fun v90 =>
 kBin .eql v90 substr_1 fun v92 =>
 k [v92] s) [undef] s fun xs s =>
 un1 xs fun v92 =>
 kPick v83 v92 (.bool false) fun v93 =>
 kCond v93 (
 k i_8 s) (
 J6 [] s)) fun J5 =>
 kIxS s_0 i_8 fun v62 =>
 kBin .neq v62 v49 fun v64 =>
 kCond v64 (
 kBin .add i_8 (.int .i64 1) fun v67 =>
 kSubS s_0 (some v67) (some v56) fun v69 =>
 kCall Tryd.prog 48 [v69, v49] s fun v71 s =>
 kJoin (fun _ s =>
 kBin .add v71 (.int .i64 1) fun v76 =>
 kBin .add i_8 v76 fun v77 =>
 J5 [v77] s) fun J9 =>
 kBin .lss v71 (.int .i64 0) fun v73 =>
 kCond v73 (
 k (.int .i64 (-1)) s) (
 J9 [] s)) (
 J5 [i_8] s)) fun J4 =>
 kBin .lss i_8 v56 fun v59 =>
 kCond v59 (
 J4 [] s) (
 J2 [] s)) [(.int .i64 0), (.int .i64 0)] s) fun J1 =>
 kBin .eql v15 (.int .i64 0) fun v18 =>
 kGrd v18 false (fun k =>
 kBin .eql substr_1 s_0 fun v22 =>
 k [v22] s) [undef] s fun xs s =>
 un1 xs fun v22 =>
 kPick v18 (.bool true) v22 fun v23 =>
 kCond v23 (
 k (.int .i64 0) s) (
 kBin .eql v15 (.int .i64 1) fun v26 =>
 kCond v26 (
 kIxS substr_1 (.int .i64 0) fun v29 =>
 kCall Tryd.prog 48 [s_0, v29] s fun v30 s =>
 k v30 s) (
 kLen true s_0 fun v34 =>
 kBin .geq v15 v34 fun v35 =>
 kCond v35 (
 k (.int .i64 (-1)) s) (
 kLd s (.pointer (some ⟨0, 0, none⟩)) fun v38 =>
 kBin .leq v15 v38 fun v39 =>
 kGrd v39 true (fun k =>
 kLen true s_0 fun v42 =>
 kBin .leq v42 (.int .i64 64) fun v43 =>
 k [v43] s) [undef] s fun xs s =>
 un1 xs fun v43 =>
 kPick v39 v43 (.bool false) fun v44 =>
 kCond v44 (
 kGen Tryd.prog (.ext 56) [s_0, substr_1] s fun v47 s =>
 k v47 s) (
 J1 [] s))))
theorem F43_ok (s_0 substr_1 : Value) (s : AS) (k : Value → AS → Prop) : denFn Tryd.prog [] 43 [s_0, substr_1] s k = F43 s_0 substr_1 s k := by kernel_rfl
theorem f43 {s_0 substr_1 : Value} {s : AS} {k : Value → AS → Prop} (h : F43 s_0 substr_1 s k) : kCall Tryd.prog 43 [s_0, substr_1] s k := denFn_ok [] (cast (F43_ok s_0 substr_1 s k).symm h)
theorem k43_ok : okFn Tryd.prog 43 = true := by kernel_rfl

/- strings.trimLeftByte -/
def F44 (s_0 c_1 : Value) (s : AS) (k : Value → AS → Prop) : Prop :=
 kJoin (fun xs s =>
 un1 xs fun s_0 =>
 k s_0 s) fun J1 =>
 kLoop (fun again2 xs s =>
 un1 xs fun s_0 =>
 kJoin (fun _ s =>
 kSubS s_0 (some (.int .i64 1)) none fun v15 =>
 again2 [v15] s) fun J3 =>
 kLen true s_0 fun v6 =>
 kBin .gtr v6 (.int .i64 0) fun v7 =>
 kGrd v7 true (fun k =>
 kIxS s_0 (.int .i64 0) fun v10 =>
 kBin .eql v10 c_1 fun v12 =>
 k [v12] s) [undef] s fun xs s =>
 un1 xs fun v12 =>
 kPick v7 v12 (.bool false) fun v13 =>
 kCond v13 (
 J3 [] s) (
 J1 [s_0] s)) [s_0] s
theorem F44_ok (s_0 c_1 : Value) (s : AS) (k : Value → AS → Prop) : denFn Tryd.prog [] 44 [s_0, c_1] s k = F44 s_0 c_1 s k := by kernel_rfl
theorem f44 {s_0 c_1 : Value} {s : AS} {k : Value → AS → Prop} (h : F44 s_0 c_1 s k) : kCall Tryd.prog 44 [s_0, c_1] s k := denFn_ok [] (cast (F44_ok s_0 c_1 s k).symm h)
theorem k44_ok : okFn Tryd.prog 44 = true := by kernel_rfl

/- strings.makeASCIISet -/
def F45 (chars_0 : Value) (s : AS) (k : Value → AS → Prop) : Prop :=
 kNew s (List.replicate 256 (.bool false)) fun as_2 s =>
 kJoin (fun _ s =>
 kLdN s 256 as_2 fun v20 =>
 kSt s 256 as_2 v20 fun s =>
 kLdN s 256 as_2 fun r0 =>
 k (.tuple #[r0, (.bool true)]) s) fun J1 =>
 kLoop (fun again2 xs s =>
 un1 xs fun i_4 =>
 kJoin (fun _ s =>
 kJoin (fun _ s =>
 kBin .add i_4 (.int .i64 1) fun v11 =>
 again2 [v11] s) fun J4 =>
 kIxS chars_0 i_4 fun v14 =>
 kJoin (fun _ s =>
 kIdxA 256 1 as_2 v14 fun v19 =>
 kSt s 1 v19 (.bool true) fun s =>
 J4 [] s) fun J5 =>
 kBin .geq v14 (.int .u8 128) fun v16 =>
 kCond v16 (
 kLdN s 256 as_2 fun v17 =>
 kSt s 256 as_2 v17 fun s =>
 kLdN s 256 as_2 fun r0 =>
 k (.tuple #[r0, (.bool false)]) s) (
 J5 [] s)) fun J3 =>
 kLen true chars_0 fun v8 =>
 kBin .lss i_4 v8 fun v9 =>
 kCond v9 (
 J3 [] s) (
 J1 [] s)) [(.int .i64 0)] s
theorem F45_ok (chars_0 : Value) (s : AS) (k : Value → AS → Prop) : denFn Tryd.prog [] 45 [chars_0] s k = F45 chars_0 s k := by kernel_rfl
theorem f45 {chars_0 : Value} {s : AS} {k : Value → AS → Prop} (h : F45 chars_0 s k) : kCall Tryd.prog 45 [chars_0] s k := denFn_ok [] (cast (F45_ok chars_0 s k).symm h)
theorem k45_ok : okFn Tryd.prog 45 = true := by kernel_rfl

/- strings.trimLeftASCII -/
def F46 (s_0 as_1 : Value) (s : AS) (k : Value → AS → Prop) : Prop :=
 kJoin (fun xs s =>
 un1 xs fun s_0 =>
 k s_0 s) fun J1 =>
 kLoop (fun again2 xs s =>
 un1 xs fun s_0 =>
 kJoin (fun _ s =>
 kJoin (fun _ s =>
 kSubS s_0 (some (.int .i64 1)) none fun v14 =>
 again2 [v14] s) fun J4 =>
 kIxS s_0 (.int .i64 0) fun v10 =>
 kCall Tryd.prog 59 [as_1, v10] s fun v11 s =>
 kUn .not v11 fun v12 =>
 kCond v12 (
 J1 [s_0] s) (
 J4 [] s)) fun J3 =>
 kLen true s_0 fun v6 =>
 kBin .gtr v6 (.int .i64 0) fun v7 =>
 kCond v7 (
 J3 [] s) (
 J1 [s_0] s)) [s_0] s
theorem F46_ok (s_0 as_1 : Value) (s : AS) (k : Value → AS → Prop) : denFn Tryd.prog [] 46 [s_0, as_1] s k = F46 s_0 as_1 s k := by kernel_rfl
theorem f46 {s_0 as_1 : Value} {s : AS} {k : Value → AS → Prop} (h : F46 s_0 as_1 s k) : kCall Tryd.prog 46 [s_0, as_1] s k := denFn_ok [] (cast (F46_ok s_0 as_1 s k).symm h)
theorem k46_ok : okFn Tryd.prog 46 = true := by kernel_rfl

/- strings.trimLeftUnicode -/
def F47 (s_0 cutset_1 : Value) (s : AS) (k : Value → AS → Prop) : Prop :=
 kJoin (fun xs s =>
 un1 xs fun s_0 =>
 k s_0 s) fun J1 =>
 kLoop (fun again2 xs s =>
 un1 xs fun s_0 =>
 kJoin (fun _ s =>
 kCall Tryd.prog 60 [s_0] s fun v12 s =>
 kExt 0 v12 fun v13 =>
 kExt 1 v12 fun v14 =>
 kJoin (fun _ s =>
 kSubS s_0 (some v14) none fun v21 =>
 again2 [v21] s) fun J4 =>
 kCall Tryd.prog 61 [cutset_1, v13] s fun v17 s =>
 kUn .not v17 fun v18 =>
 kCond v18 (
 J1 [s_0] s) (
 J4 [] s)) fun J3 =>
 kLen true s_0 fun v8 =>
 kBin .gtr v8 (.int .i64 0) fun v9 =>
 kCond v9 (
 J3 [] s) (
 J1 [s_0] s)) [s_0] s
theorem F47_ok (s_0 cutset_1 : Value) (s : AS) (k : Value → AS → Prop) : denFn Tryd.prog [] 47 [s_0, cutset_1] s k = F47 s_0 cutset_1 s k := by kernel_rfl
theorem f47 {s_0 cutset_1 : Value} {s : AS} {k : Value → AS → Prop} (h : F47 s_0 cutset_1 s k) : kCall Tryd.prog 47 [s_0, cutset_1] s k := denFn_ok [] (cast (F47_ok s_0 cutset_1 s k).symm h)
theorem k47_ok : okFn Tryd.prog 47 = true := by kernel_rfl

/- internal stringslite.IndexByte -/
def F48 (s_0 c_1 : Value) (s : AS) (k : Value → AS → Prop) : Prop :=
 kGen Tryd.prog (.ext 62) [s_0, c_1] s fun v7 s =>
 k v7 s
theorem F48_ok (s_0 c_1 : Value) (s : AS) (k : Value → AS → Prop) : denFn Tryd.prog [] 48 [s_0, c_1] s k = F48 s_0 c_1 s k := by kernel_rfl
theorem f48 {s_0 c_1 : Value} {s : AS} {k : Value → AS → Prop} (h : F48 s_0 c_1 s k) : kCall Tryd.prog 48 [s_0, c_1] s k := denFn_ok [] (cast (F48_ok s_0 c_1 s k).symm h)
theorem k48_ok : okFn Tryd.prog 48 = true := by kernel_rfl

/- strings.trimRightByte -/
def F49 (s_0 c_1 : Value) (s : AS) (k : Value → AS → Prop) : Prop :=
 kJoin (fun xs s =>
 un1 xs fun s_0 =>
 k s_0 s) fun J1 =>
 kLoop (fun again2 xs s =>
 un1 xs fun s_0 =>
 kJoin (fun _ s =>
 kLen true s_0 fun v19 =>
 kBin .sub v19 (.int .i64 1) fun v20 =>
 kSubS s_0 none (some v20) fun v21 =>
 again2 [v21] s) fun J3 =>
 kLen true s_0 fun v6 =>
 kBin .gtr v6 (.int .i64 0) fun v7 =>
 kGrd v7 true (fun k =>
 kLen true s_0 fun v11 =>
 kBin .sub v11 (.int .i64 1) fun v12 =>
 kIxS s_0 v12 fun v13 =>
 kBin .eql v13 c_1 fun v15 =>
 k [v15] s) [undef] s fun xs s =>
 un1 xs fun v15 =>
 kPick v7 v15 (.bool false) fun v16 =>
 kCond v16 (
 J3 [] s) (
 J1 [s_0] s)) [s_0] s
theorem F49_ok (s_0 c_1 : Value) (s : AS) (k : Value → AS → Prop) : denFn Tryd.prog [] 49 [s_0, c_1] s k = F49 s_0 c_1 s k := by kernel_rfl
theorem f49 {s_0 c_1 : Value} {s : AS} {k : Value → AS → Prop} (h : F49 s_0 c_1 s k) : kCall Tryd.prog 49 [s_0, c_1] s k := denFn_ok [] (cast (F49_ok s_0 c_1 s k).symm h)
theorem k49_ok : okFn Tryd.prog 49 = true := by kernel_rfl

/- strings.trimRightASCII -/
def F50 (s_0 as_1 : Value) (s : AS) (k : Value → AS → Prop) : Prop :=
 kJoin (fun xs s =>
 un1 xs fun s_0 =>
 k s_0 s) fun J1 =>
 kLoop (fun again2 xs s =>
 un1 xs fun s_0 =>
 kJoin (fun _ s =>
 kJoin (fun _ s =>
 kLen true s_0 fun v18 =>
 kBin .sub v18 (.int .i64 1) fun v19 =>
 kSubS s_0 none (some v19) fun v20 =>
 again2 [v20] s) fun J4 =>
 kLen true s_0 fun v11 =>
 kBin .sub v11 (.int .i64 1) fun v12 =>
 kIxS s_0 v12 fun v13 =>
 kCall Tryd.prog 59 [as_1, v13] s fun v14 s =>
 kUn .not v14 fun v15 =>
 kCond v15 (
 J1 [s_0] s) (
 J4 [] s)) fun J3 =>
 kLen true s_0 fun v6 =>
 kBin .gtr v6 (.int .i64 0) fun v7 =>
 kCond v7 (
 J3 [] s) (
 J1 [s_0] s)) [s_0] s
theorem F50_ok (s_0 as_1 : Value) (s : AS) (k : Value → AS → Prop) : denFn Tryd.prog [] 50 [s_0, as_1] s k = F50 s_0 as_1 s k := by kernel_rfl
theorem f50 {s_0 as_1 : Value} {s : AS} {k : Value → AS → Prop} (h : F50 s_0 as_1 s k) : kCall Tryd.prog 50 [s_0, as_1] s k := denFn_ok [] (cast (F50_ok s_0 as_1 s k).symm h)
theorem k50_ok : okFn Tryd.prog 50 = true := by kernel_rfl

/- strings.trimRightUnicode -/
def F51 (s_0 cutset_1 : Value) (s : AS) (k : Value → AS → Prop) : Prop :=
 kJoin (fun xs s =>
 un1 xs fun s_0 =>
 k s_0 s) fun J1 =>
 kLoop (fun again2 xs s =>
 un1 xs fun s_0 =>
 kJoin (fun _ s =>
 kLen true s_0 fun v12 =>
 kBin .sub v12 (.int .i64 1) fun v13 =>
 kIxS s_0 v13 fun v14 =>
 kCvi .i32 v14 fun v15 =>
 kJoin (fun xs s =>
 un2 xs fun r_5 n_6 =>
 kJoin (fun _ s =>
 kLen true s_0 fun v29 =>
 kBin .sub v29 n_6 fun v31 =>
 kSubS s_0 none (some v31) fun v32 =>
 again2 [v32] s) fun J5 =>
 kCall Tryd.prog 61 [cutset_1, r_5] s fun v25 s =>
 kUn .not v25 fun v26 =>
 kCond v26 (
 J1 [s_0] s) (
 J5 [] s)) fun J4 =>
 kBin .geq v15 (.int .i32 128) fun v17 =>
 kCond v17 (
 kCall Tryd.prog 63 [s_0] s fun v20 s =>
 kExt 0 v20 fun v21 =>
 kExt 1 v20 fun v22 =>
 J4 [v21, v22] s) (
 J4 [v15, (.int .i64 1)] s)) fun J3 =>
 kLen true s_0 fun v8 =>
 kBin .gtr v8 (.int .i64 0) fun v9 =>
 kCond v9 (
 J3 [] s) (
 J1 [s_0] s)) [s_0] s
theorem F51_ok (s_0 cutset_1 : Value) (s : AS) (k : Value → AS → Prop) : denFn Tryd.prog [] 51 [s_0, cutset_1] s k = F51 s_0 cutset_1 s k := by kernel_rfl
theorem f51 {s_0 cutset_1 : Value} {s : AS} {k : Value → AS → Prop} (h : F51 s_0 cutset_1 s k) : kCall Tryd.prog 51 [s_0, cutset_1] s k := denFn_ok [] (cast (F51_ok s_0 cutset_1 s k).symm h)
theorem k51_ok : okFn Tryd.prog 51 = true := by kernel_rfl

/- (*strings.Builder).WriteByte -/
def F53 (b_0 c_1 : Value) (s : AS) (k : Value → AS → Prop) : Prop :=
 kCall Tryd.prog 66 [b_0] s fun v6 s =>
 kNck b_0 fun v9 =>
 kFld 1 v9 fun v10 =>
 kLd s v10 fun v11 =>
 kBsl s 1 [(.int .u8 0)] [(0, 1, c_1)] fun v13 s =>
 kApp Tryd.prog 76 76 v11 v13 s fun v14 s =>
 kNck b_0 fun v15 =>
 kFld 1 v15 fun v16 =>
 kSt s 1 v16 v14 fun s =>
 k .nilIface s
theorem F53_ok (b_0 c_1 : Value) (s : AS) (k : Value → AS → Prop) : denFn Tryd.prog [] 53 [b_0, c_1] s k = F53 b_0 c_1 s k := by kernel_rfl
theorem f53 {b_0 c_1 : Value} {s : AS} {k : Value → AS → Prop} (h : F53 b_0 c_1 s k) : kCall Tryd.prog 53 [b_0, c_1] s k := denFn_ok [] (cast (F53_ok b_0 c_1 s k).symm h)
theorem k53_ok : okFn Tryd.prog 53 = true := by kernel_rfl

/- (*strings.Builder).WriteString -/
def F54 (b_0 s_1 : Value) (s : AS) (k : Value → AS → Prop) : Prop :=
 kCall Tryd.prog 66 [b_0] s fun v7 s =>
 kNck b_0 fun v10 =>
 kFld 1 v10 fun v11 =>
 kLd s v11 fun v12 =>
 kApp Tryd.prog 76 9 v12 s_1 s fun v14 s =>
 kNck b_0 fun v15 =>
 kFld 1 v15 fun v16 =>
 kSt s 1 v16 v14 fun s =>
 kLen true s_1 fun v18 =>
 k (.tuple #[v18, .nilIface]) s
theorem F54_ok (b_0 s_1 : Value) (s : AS) (k : Value → AS → Prop) : denFn Tryd.prog [] 54 [b_0, s_1] s k = F54 b_0 s_1 s k := by kernel_rfl
theorem f54 {b_0 s_1 : Value} {s : AS} {k : Value → AS → Prop} (h : F54 b_0 s_1 s k) : kCall Tryd.prog 54 [b_0, s_1] s k := denFn_ok [] (cast (F54_ok b_0 s_1 s k).symm h)
theorem k54_ok : okFn Tryd.prog 54 = true := by kernel_rfl

/- (*strings.Builder).String -/
def F55 (b_0 : Value) (s : AS) (k : Value → AS → Prop) : Prop :=
 kNck b_0 fun v4 =>
 kFld 1 v4 fun v5 =>
 kNck b_0 fun v9 =>
 kFld 1 v9 fun v10 =>
 kLd s v5 fun v6 =>
 kLd s v10 fun v11 =>
 kLen false v11 fun v12 =>
 kGen Tryd.prog (.blt .unsafeSliceData [76] 91) [v6] s fun v7 s =>
 kChk s v10 v11 (
 kGen Tryd.prog (.blt .unsafeString [91, 3] 9) [v7, v12] s fun v13 s =>
 k v13 s)
theorem F55_ok (b_0 : Value) (s : AS) (k : Value → AS → Prop) : denFn Tryd.prog [(1, (.go 0 (.go 1 (.go 2 (.go 5 (.go 6 (.go 7 (.go 3 (.go 8 (.go 9 (.go 4 (.go 10 (.go 11 .done)))))))))))))] 55 [b_0] s k = F55 b_0 s k := by kernel_rfl
theorem f55 {b_0 : Value} {s : AS} {k : Value → AS → Prop} (h : F55 b_0 s k) : kCall Tryd.prog 55 [b_0] s k := denFn_ok [(1, (.go 0 (.go 1 (.go 2 (.go 5 (.go 6 (.go 7 (.go 3 (.go 8 (.go 9 (.go 4 (.go 10 (.go 11 .done)))))))))))))] (cast (F55_ok b_0 s k).symm h)
theorem k55_ok : okFn Tryd.prog 55 = true := by kernel_rfl

/- internal bytealg.Cutover -/
def F57 (n_0 : Value) (s : AS) (k : Value → AS → Prop) : Prop :=
 kBin .add n_0 (.int .i64 16) fun v4 =>
 kBin .quo v4 (.int .i64 8) fun v5 =>
 k v5 s
theorem F57_ok (n_0 : Value) (s : AS) (k : Value → AS → Prop) : denFn Tryd.prog [] 57 [n_0] s k = F57 n_0 s k := by kernel_rfl
theorem f57 {n_0 : Value} {s : AS} {k : Value → AS → Prop} (h : F57 n_0 s k) : kCall Tryd.prog 57 [n_0] s k := denFn_ok [] (cast (F57_ok n_0 s k).symm h)
theorem k57_ok : okFn Tryd.prog 57 = true := by kernel_rfl

/- internal bytealg.IndexRabinKarp[string] -/
def F58 (s_0 sep_1 : Value) (s : AS) (k : Value → AS → Prop) : Prop :=
 kCall Tryd.prog 67 [sep_1] s fun v13 s =>
 kExt 0 v13 fun v14 =>
 kExt 1 v13 fun v15 =>
 kLen true sep_1 fun v17 =>
 kJoin (fun xs s =>
 un1 xs fun h_8 =>
 kJoin (fun _ s =>
 kJoin (fun _ s =>
 k (.int .i64 (-1)) s) fun J3 =>
 kLoop (fun again4 xs s =>
 un2 xs fun h_8 i_10 =>
 kJoin (fun _ s =>
 kBin .mul h_8 (.int .u32 16777619) fun v46 =>
 kIxS s_0 i_10 fun v50 =>
 kCvi .u32 v50 fun v51 =>
 kBin .add v46 v51 fun v52 =>
 kBin .sub i_10 v17 fun v58 =>
 kIxS s_0 v58 fun v59 =>
 kCvi .u32 v59 fun v60 =>
 kBin .mul v15 v60 fun v61 =>
 kBin .sub v52 v61 fun v62 =>
 kBin .add i_10 (.int .i64 1) fun v64 =>
 kBin .eql v62 v14 fun v67 =>
 kGrd v67 true (fun k =>
 kBin .sub v64 v17 fun v72 =>
 kSubS s_0 (some v72) (some v64) fun v74 =>
 kBin .eql v74 sep_1 fun v76 =>
 k [v76] s) [undef] s fun xs s =>
 un1 xs fun v76 =>
 kPick v67 v76 (.bool false) fun v77 =>
 kCond v77 (
 kBin .sub v64 v17 fun v80 =>
 k v80 s) (
 again4 [v62, v64] s)) fun J5 =>
 kLen true s_0 fun v43 =>
 kBin .lss i_10 v43 fun v44 =>
 kCond v44 (
 J5 [] s) (
 J3 [] s)) [h_8, v17] s) fun J2 =>
 kBin .eql h_8 v14 fun v32 =>
 kGrd v32 true (fun k =>
 kSubS s_0 none (some v17) fun v36 =>
 kBin .eql v36 sep_1 fun v38 =>
 k [v38] s) [undef] s fun xs s =>
 un1 xs fun v38 =>
 kPick v32 v38 (.bool false) fun v39 =>
 kCond v39 (
 k (.int .i64 0) s) (
 J2 [] s)) fun J1 =>
 kLoop (fun again6 xs s =>
 un2 xs fun h_8 i_9 =>
 kJoin (fun _ s =>
 kJoin (fun xs s =>
 un1 xs fun h_8 =>
 kBin .add i_9 (.int .i64 1) fun v22 =>
 again6 [h_8, v22] s) fun J8 =>
 kBin .mul h_8 (.int .u32 16777619) fun v24 =>
 kIxS s_0 i_9 fun v27 =>
 kCvi .u32 v27 fun v28 =>
 kBin .add v24 v28 fun v29 =>
 J8 [v29] s) fun J7 =>
 kBin .lss i_9 v17 fun v20 =>
 kCond v20 (
 J7 [] s) (
 J1 [h_8] s)) [(.int .u32 0), (.int .i64 0)] s
theorem F58_ok (s_0 sep_1 : Value) (s : AS) (k : Value → AS → Prop) : denFn Tryd.prog [] 58 [s_0, sep_1] s k = F58 s_0 sep_1 s k := by kernel_rfl
theorem f58 {s_0 sep_1 : Value} {s : AS} {k : Value → AS → Prop} (h : F58 s_0 sep_1 s k) : kCall Tryd.prog 58 [s_0, sep_1] s k := denFn_ok [] (cast (F58_ok s_0 sep_1 s k).symm h)
theorem k58_ok : okFn Tryd.prog 58 = true := by kernel_rfl

/- (*strings.asciiSet).contains -/
def F59 (as_0 c_1 : Value) (s : AS) (k : Value → AS → Prop) : Prop :=
 kNck as_0 fun v7 =>
 kIdxA 256 1 v7 c_1 fun v8 =>
 kLd s v8 fun v9 =>
 k v9 s
theorem F59_ok (as_0 c_1 : Value) (s : AS) (k : Value → AS → Prop) : denFn Tryd.prog [] 59 [as_0, c_1] s k = F59 as_0 c_1 s k := by kernel_rfl
theorem f59 {as_0 c_1 : Value} {s : AS} {k : Value → AS → Prop} (h : F59 as_0 c_1 s k) : kCall Tryd.prog 59 [as_0, c_1] s k := denFn_ok [] (cast (F59_ok as_0 c_1 s k).symm h)
theorem k59_ok : okFn Tryd.prog 59 = true := by kernel_rfl

/- unicode utf8.DecodeRuneInString -/
def F60 (s_0 : Value) (s : AS) (k : Value → AS → Prop) : Prop :=
 kBin .neq s_0 (.string (bs [])) fun v5 =>
 kGrd v5 true (fun k =>
 kIxS s_0 (.int .i64 0) fun v8 =>
 kBin .lss v8 (.int .u8 128) fun v9 =>
 k [v9] s) [undef] s fun xs s =>
 un1 xs fun v9 =>
 kPick v5 v9 (.bool false) fun v10 =>
 kCond v10 (
 kIxS s_0 (.int .i64 0) fun v12 =>
 kCvi .i32 v12 fun v13 =>
 k (.tuple #[v13, (.int .i64 1)]) s) (
 kCall Tryd.prog 68 [s_0] s fun v16 s =>
 kExt 0 v16 fun v17 =>
 kExt 1 v16 fun v18 =>
 k (.tuple #[v17, v18]) s)
theorem F60_ok (s_0 : Value) (s : AS) (k : Value → AS → Prop) : denFn Tryd.prog [] 60 [s_0] s k = F60 s_0 s k := by kernel_rfl
theorem f60 {s_0 : Value} {s : AS} {k : Value → AS → Prop} (h : F60 s_0 s k) : kCall Tryd.prog 60 [s_0] s k := denFn_ok [] (cast (F60_ok s_0 s k).symm h)
theorem k60_ok : okFn Tryd.prog 60 = true := by kernel_rfl

/- strings.ContainsRune -/
def F61 (s_0 r_1 : Value) (s : AS) (k : Value → AS → Prop) : Prop :=
 kCall Tryd.prog 64 [s_0, r_1] s fun v7 s =>
 kBin .geq v7 (.int .i64 0) fun v8 =>
 k v8 s
theorem F61_ok (s_0 r_1 : Value) (s : AS) (k : Value → AS → Prop) : denFn Tryd.prog [] 61 [s_0, r_1] s k = F61 s_0 r_1 s k := by kernel_rfl
theorem f61 {s_0 r_1 : Value} {s : AS} {k : Value → AS → Prop} (h : F61 s_0 r_1 s k) : kCall Tryd.prog 61 [s_0, r_1] s k := denFn_ok [] (cast (F61_ok s_0 r_1 s k).symm h)
theorem k61_ok : okFn Tryd.prog 61 = true := by kernel_rfl

/- unicode utf8.DecodeLastRuneInString -/
def F63 (s_0 : Value) (s : AS) (k : Value → AS → Prop) : Prop :=
 kLen true s_0 fun v8 =>
 kJoin (fun _ s =>
 kBin .sub v8 (.int .i64 1) fun v12 =>
 kIxS s_0 v12 fun v15 =>
 kCvi .i32 v15 fun v16 =>
 kJoin (fun _ s =>
 kBin .sub v8 (.int .i64 4) fun v21 =>
 kMax v21 (.int .i64 0) fun v22 =>
 kJoin (fun xs s =>
 un1 xs fun start_5 =>
 kJoin (fun xs s =>
 un1 xs fun start_5 =>
 kSubS s_0 (some start_5) (some v8) fun v40 =>
 kCall Tryd.prog 60 [v40] s fun v41 s =>
 kExt 0 v41 fun v42 =>
 kExt 1 v41 fun v43 =>
 kJoin (fun xs s =>
 un2 xs fun r_2 size_3 =>
 k (.tuple #[r_2, size_3]) s) fun J5 =>
 kBin .add start_5 v43 fun v46 =>
 kBin .neq v46 v8 fun v48 =>
 kCond v48 (
 k (.tuple #[(.int .i32 65533), (.int .i64 1)]) s) (
 J5 [v42, v43] s)) fun J4 =>
 kBin .lss start_5 (.int .i64 0) fun v35 =>
 kCond v35 (
 J4 [(.int .i64 0)] s) (
 J4 [start_5] s)) fun J3 =>
 kBin .sub v12 (.int .i64 1) fun v24 =>
 kLoop (fun again6 xs s =>
 un1 xs fun start_5 =>
 kJoin (fun _ s =>
 kJoin (fun _ s =>
 kBin .sub start_5 (.int .i64 1) fun v29 =>
 again6 [v29] s) fun J8 =>
 kIxS s_0 start_5 fun v32 =>
 kCall Tryd.prog 69 [v32] s fun v33 s =>
 kCond v33 (
 J3 [start_5] s) (
 J8 [] s)) fun J7 =>
 kBin .geq start_5 v22 fun v27 =>
 kCond v27 (
 J7 [] s) (
 J3 [start_5] s)) [v24] s) fun J2 =>
 kBin .lss v16 (.int .i32 128) fun v18 =>
 kCond v18 (
 k (.tuple #[v16, (.int .i64 1)]) s) (
 J2 [] s)) fun J1 =>
 kBin .eql v8 (.int .i64 0) fun v10 =>
 kCond v10 (
 k (.tuple #[(.int .i32 65533), (.int .i64 0)]) s) (
 J1 [] s)
theorem F63_ok (s_0 : Value) (s : AS) (k : Value → AS → Prop) : denFn Tryd.prog [] 63 [s_0] s k = F63 s_0 s k := by kernel_rfl
theorem f63 {s_0 : Value} {s : AS} {k : Value → AS → Prop} (h : F63 s_0 s k) : kCall Tryd.prog 63 [s_0] s k := denFn_ok [] (cast (F63_ok s_0 s k).symm h)
theorem k63_ok : okFn Tryd.prog 63 = true := by kernel_rfl

/- strings.IndexRune -/
def F64 (s_0 r_1 : Value) (s : AS) (k : Value → AS → Prop) : Prop :=
 kBin .leq (.int .i32 0) r_1 fun v162 =>
 kGrd v162 true (fun k =>
 kBin .lss r_1 (.int .i32 128) fun v165 =>
 k [v165] s) [undef] s fun xs s =>
 un1 xs fun v165 =>
 kPick v162 v165 (.bool false) fun v166 =>
 kCond v166 (
 kCvi .u8 r_1 fun v169 =>
 kCall Tryd.prog 35 [s_0, v169] s fun v170 s =>
 k v170 s) (
 kBin .eql r_1 (.int .i32 65533) fun v173 =>
 kCond v173 (
 kJoin (fun _ s =>
 k (.int .i64 (-1)) s) fun J1 =>
 kGen Tryd.prog (.rng 9) [s_0] s fun v175 s =>
 kLoop (fun again2 _ s =>
 kGen Tryd.prog (.nxt true 0) [v175] s fun v176 s =>
 kExt 0 v176 fun v177 =>
 kJoin (fun _ s =>
 kExt 1 v176 fun v178 =>
 kExt 2 v176 fun v179 =>
 kBin .eql v179 (.int .i32 65533) fun v181 =>
 kCond v181 (
 k v178 s) (
 again2 [] s)) fun J3 =>
 kCond v177 (
 J3 [] s) (
 J1 [] s)) [] s) (
 kCall Tryd.prog 70 [r_1] s fun v185 s =>
 kUn .not v185 fun v186 =>
 kCond v186 (
 k (.int .i64 (-1)) s) (
 kGen Tryd.prog (.cv 21 9) [r_1] s fun v18 s =>
 kLen true v18 fun v20 =>
 kBin .sub v20 (.int .i64 1) fun v21 =>
 kJoin (fun xs s =>
 un1 xs fun i_9 =>
 kJoin (fun _ s =>
 kJoin (fun _ s =>
 k (.int .i64 (-1)) s) fun J6 =>
 kCond (.bool true) (
 kBin .sub i_9 v21 fun v102 =>
 kSubS s_0 (some v102) none fun v103 =>
 kGen Tryd.prog (.cv 21 9) [r_1] s fun v105 s =>
 kGen Tryd.prog (.ext 56) [v103, v105] s fun v106 s =>
 kBin .geq v106 (.int .i64 0) fun v108 =>
 kCond v108 (
 kBin .add i_9 v106 fun v111 =>
 kBin .sub v111 v21 fun v113 =>
 k v113 s) (
 J6 [] s)) (
 kIxS v18 v21 fun v116 =>
 kBin .sub v21 (.int .i64 1) fun v119 =>
 kIxS v18 v119 fun v120 =>
 kLoop (fun again7 xs s =>
 un1 xs fun i_9 =>
 kJoin (fun _ s =>
 kJoin (fun _ s =>
 kBin .add i_9 (.int .i64 1) fun v126 =>
 again7 [v126] s) fun J9 =>
 kIxS s_0 i_9 fun v129 =>
 kBin .eql v129 v116 fun v131 =>
 kGrd v131 true (fun k =>
 kBin .sub i_9 (.int .i64 1) fun v135 =>
 kIxS s_0 v135 fun v136 =>
 kBin .eql v136 v120 fun v138 =>
 k [v138] s) [undef] s fun xs s =>
 un1 xs fun v138 =>
 kPick v131 v138 (.bool false) fun v139 =>
 kCond v139 (
 kJoin (fun _ s =>
 kBin .sub i_9 v21 fun v159 =>
 k v159 s) fun J10 =>
 kLoop (fun again11 xs s =>
 un1 xs fun k_16 =>
 kJoin (fun _ s =>
 kJoin (fun _ s =>
 kBin .add k_16 (.int .i64 1) fun v145 =>
 again11 [v145] s) fun J13 =>
 kBin .sub i_9 k_16 fun v149 =>
 kIxS s_0 v149 fun v150 =>
 kBin .sub v21 k_16 fun v154 =>
 kIxS v18 v154 fun v155 =>
 kBin .neq v150 v155 fun v156 =>
 kCond v156 (
 J9 [] s) (
 J13 [] s)) fun J12 =>
 kLen true v18 fun v142 =>
 kBin .lss k_16 v142 fun v143 =>
 kCond v143 (
 J12 [] s) (
 J10 [] s)) [(.int .i64 2)] s) (
 J9 [] s)) fun J8 =>
 kLen true s_0 fun v123 =>
 kBin .lss i_9 v123 fun v124 =>
 kCond v124 (
 J8 [] s) (
 J6 [] s)) [i_9] s)) fun J5 =>
 k (.int .i64 (-1)) s) fun J4 =>
 kLoop (fun again14 xs s =>
 un2 xs fun i_9 fails_10 =>
 kJoin (fun _ s =>
 kJoin (fun xs s =>
 un1 xs fun i_9 =>
 kJoin (fun _ s =>
 kJoin (fun _ s =>
 kBin .add fails_10 (.int .i64 1) fun v69 =>
 kBin .add i_9 (.int .i64 1) fun v71 =>
 kGrd (.bool true) true (fun k =>
 kCall Tryd.prog 57 [v71] s fun v75 s =>
 kBin .gtr v69 v75 fun v76 =>
 k [v76] s) [undef] s fun xs s =>
 un1 xs fun v76 =>
 kPick (.bool true) v76 (.bool false) fun v77 =>
 kGrd v77 true (fun k =>
 kLen true s_0 fun v81 =>
 kBin .lss v71 v81 fun v82 =>
 k [v82] s) [undef] s fun xs s =>
 un1 xs fun v82 =>
 kPick v77 v82 (.bool false) fun v83 =>
 kGrd v83 false (fun k =>
 k [(.bool false)] s) [undef] s fun xs s =>
 un1 xs fun v85 =>
 kGrd v85 true (fun k =>
 kSft .shr v71 (.int .u64 4) fun v88 =>
 kBin .add (.int .i64 4) v88 fun v89 =>
 kBin .geq v69 v89 fun v90 =>
 k [v90] s) [undef] s fun xs s =>
 un1 xs fun v90 =>
 kGrd v83 false (fun k =>
 kPick v85 v90 (.bool false) fun v91 =>
 k [v91] s) [undef] s fun xs s =>
 un1 xs fun v92 =>
 kGrd v92 true (fun k =>
 kLen true s_0 fun v95 =>
 kBin .lss v71 v95 fun v96 =>
 k [v96] s) [undef] s fun xs s =>
 un1 xs fun v96 =>
 kGrd v83 false (fun k =>
 kPick v92 v96 (.bool false) fun v97 =>
 k [v97] s) [undef] s fun xs s =>
 un1 xs fun v97 =>
 kPick v83 (.bool true) v97 fun v98 =>
 kCond v98 (
 False) (
 again14 [v71, v69] s)) fun J18 =>
 kBin .sub i_9 v21 fun v67 =>
 k v67 s) fun J17 =>
 kLoop (fun again19 xs s =>
 un1 xs fun j_12 =>
 kJoin (fun _ s =>
 kJoin (fun _ s =>
 kBin .add j_12 (.int .i64 1) fun v53 =>
 again19 [v53] s) fun J21 =>
 kBin .sub i_9 j_12 fun v57 =>
 kIxS s_0 v57 fun v58 =>
 kBin .sub v21 j_12 fun v62 =>
 kIxS v18 v62 fun v63 =>
 kBin .neq v58 v63 fun v64 =>
 kCond v64 (
 False) (
 J21 [] s)) fun J20 =>
 kLen true v18 fun v50 =>
 kBin .lss j_12 v50 fun v51 =>
 kCond v51 (
 J20 [] s) (
 J17 [] s)) [(.int .i64 1)] s) fun J16 =>
 kIxS s_0 i_9 fun v29 =>
 kIxS v18 v21 fun v32 =>
 kBin .neq v29 v32 fun v33 =>
 kCond v33 (
 kBin .add i_9 (.int .i64 1) fun v36 =>
 kSubS s_0 (some v36) none fun v37 =>
 kIxS v18 v21 fun v40 =>
 kCall Tryd.prog 35 [v37, v40] s fun v41 s =>
 kJoin (fun _ s =>
 kBin .add v41 (.int .i64 1) fun v46 =>
 kBin .add i_9 v46 fun v47 =>
 J16 [v47] s) fun J22 =>
 kBin .lss v41 (.int .i64 0) fun v43 =>
 kCond v43 (
 k (.int .i64 (-1)) s) (
 J22 [] s)) (
 J16 [i_9] s)) fun J15 =>
 kLen true s_0 fun v25 =>
 kBin .lss i_9 v25 fun v26 =>
 kCond v26 (
 J15 [] s) (
 J4 [i_9] s)) [v21, (.int .i64 0)] s)))
theorem F64_ok (s_0 r_1 : Value) (s : AS) (k : Value → AS → Prop) : denFn Tryd.prog [(6, (.go 0 (.go 1 (.go 2 (.go 3 (.go 4 (.go 5 (.go 6 .done)))))))), (7, (.go 0 (.go 1 (.go 2 (.go 3 (.go 4 (.go 5 (.go 6 (.go 7 (.go 8 .done)))))))))), (14, (.go 0 (.go 1 (.go 2 (.go 3 (.go 4 (.go 5 (.go 6 (.go 7 (.go 8 (.go 9 (.go 10 .done)))))))))))), (31, (.go 0 (.go 1 (.go 2 (.go 3 (.go 4 (.go 5 (.go 6 (.go 7 (.go 8 (.go 9 (.go 10 .done))))))))))))] 64 [s_0, r_1] s k = F64 s_0 r_1 s k := by kernel_rfl
theorem f64 {s_0 r_1 : Value} {s : AS} {k : Value → AS → Prop} (h : F64 s_0 r_1 s k) : kCall Tryd.prog 64 [s_0, r_1] s k := denFn_ok [(6, (.go 0 (.go 1 (.go 2 (.go 3 (.go 4 (.go 5 (.go 6 .done)))))))), (7, (.go 0 (.go 1 (.go 2 (.go 3 (.go 4 (.go 5 (.go 6 (.go 7 (.go 8 .done)))))))))), (14, (.go 0 (.go 1 (.go 2 (.go 3 (.go 4 (.go 5 (.go 6 (.go 7 (.go 8 (.go 9 (.go 10 .done)))))))))))), (31, (.go 0 (.go 1 (.go 2 (.go 3 (.go 4 (.go 5 (.go 6 (.go 7 (.go 8 (.go 9 (.go 10 .done))))))))))))] (cast (F64_ok s_0 r_1 s k).symm h)
theorem k64_ok : okFn Tryd.prog 64 = true := by kernel_rfl

/- strings.shouldUseASCIISet -/
def F65 (bufLen_0 : Value) (s : AS) (k : Value → AS → Prop) : Prop :=
 kBin .gtr bufLen_0 (.int .i64 8) fun v4 =>
 k v4 s
theorem F65_ok (bufLen_0 : Value) (s : AS) (k : Value → AS → Prop) : denFn Tryd.prog [] 65 [bufLen_0] s k = F65 bufLen_0 s k := by kernel_rfl
theorem f65 {bufLen_0 : Value} {s : AS} {k : Value → AS → Prop} (h : F65 bufLen_0 s k) : kCall Tryd.prog 65 [bufLen_0] s k := denFn_ok [] (cast (F65_ok bufLen_0 s k).symm h)
theorem k65_ok : okFn Tryd.prog 65 = true := by kernel_rfl

/- (*strings.Builder).copyCheck -/
def F66 (b_0 : Value) (s : AS) (k : Value → AS → Prop) : Prop :=
 kNck b_0 fun v3 =>
 kFld 0 v3 fun v4 =>
 kLd s v4 fun v5 =>
 kEq 0 false v5 (.pointer none) fun v6 =>
 kCond v6 (
 kGen Tryd.prog (.cv 75 96) [b_0] s fun v9 s =>
 kGen Tryd.prog (.ext 71) [v9] s fun v10 s =>
 kGen Tryd.prog (.cv 96 75) [v10] s fun v11 s =>
 kNck b_0 fun v12 =>
 kFld 0 v12 fun v13 =>
 kSt s 1 v13 v11 fun s =>
 k undef s) (
 kNck b_0 fun v15 =>
 kFld 0 v15 fun v16 =>
 kLd s v16 fun v17 =>
 kGen Tryd.prog (.bop .neq 75 (.tmp 17) (.tmp 18)) [v17, b_0] s fun v19 s =>
 kCond v19 (
 False) (
 k undef s))
theorem F66_ok (b_0 : Value) (s : AS) (k : Value → AS → Prop) : denFn Tryd.prog [] 66 [b_0] s k = F66 b_0 s k := by kernel_rfl
theorem f66 {b_0 : Value} {s : AS} {k : Value → AS → Prop} (h : F66 b_0 s k) : kCall Tryd.prog 66 [b_0] s k := denFn_ok [] (cast (F66_ok b_0 s k).symm h)
theorem k66_ok : okFn Tryd.prog 66 = true := by kernel_rfl

end Go.Proofs.YtgijohcmkipkhaaDoor
