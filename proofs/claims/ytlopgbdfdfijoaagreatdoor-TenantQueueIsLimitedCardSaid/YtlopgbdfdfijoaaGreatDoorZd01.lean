import Derived.Test.YtlopgbdfdfijoaaGreatDoorZb03
import Derived.Test.YtlopgbdfdfijoaaGreatDoorProg
/-
  printed functions of the service.
-/
set_option linter.unusedSectionVars false
set_option linter.unusedVariables false
set_option linter.unusedSimpArgs false
namespace Go.Proofs.YtlopgbdfdfijoaaGreatDoor
open Go Go.AL
theorem mix : Tryz.prog.follows .mixedOrders = true := by kernel_rfl
variable [GLC]
def G3 (v0 v1 v2 : AV) (h : AH) (Post : AOut → AH → Prop) : Prop := (
 y_call Tryz.prog 4 [] h (yp Post) fun v3 h3 =>
 y_ef (.buildSlice 1 3 [(I 0),(I 0),(I 0)] [(0,1,(.cst (I 1))),(1,1,(.cst (I 2))),(2,1,(.cst (I 3)))]) h3 fun v4 h4 =>
 y_call Tryz.prog 5 [v4] h4 (yp Post) fun v5 h5 =>
 y_pu (.extract 0 (.cst v5)) fun v6 =>
 y_pu (.extract 1 (.cst v5)) fun v7 =>
 y_ef (.alloc [.nils,.nils,.nils]) h5 fun v8 h8 =>
 y_ef (.store 3 (.cst v8) (.cst v6)) h8 fun v9 h9 =>
 y_pu (.bin .neq (.cst v7) (.cst (I 0))) fun v10 =>
 y_if0 v10
 (Post (.ret (.bool false)) h9)
 (y_loop [0,1,2,7,8,10] (fun J11 => (fun (v12 v13 v14 v15 v16 v17 : AV) (h18 : AH) =>
 y_pu (.convI .i64 (.cst v12)) fun v19 =>
 y_pu (.bin .rem (.cst v19) (.cst (I 20))) fun v20 =>
 y_pu (.bin .lss (.cst v17) (.cst v20)) fun v21 =>
 y_if0 v21
 (y_rd (.load (some 3) (.cst v16)) h18 fun v22 =>
 y_pu (.convI .i64 (.cst v13)) fun v23 =>
 y_pu (.bin .rem (.cst v23) (.cst (I 3))) fun v24 =>
 y_pu (.build ((I 0) :: (rpl 5 .nils (rpl 2 (I 0) []))) [(0,1,(.cst v24)),(7,1,(.cst v17))]) fun v25 =>
 y_call Tryz.prog 6 [v22,v25] h18 (yp Post) fun v26 h26 =>
 y_pu (.extract 0 (.cst v26)) fun v27 =>
 y_pu (.extract 1 (.cst v26)) fun v28 =>
 y_ef (.alloc [.nils,.nils,.nils]) h26 fun v29 h29 =>
 y_ef (.store 3 (.cst v29) (.cst v27)) h29 fun v30 h30 =>
 y_pu (.bin .geq (.cst v17) (.cst (I 16))) fun v31 =>
 y_if0 v31
 (y_pu (.bin .eql (.cst v28) (.cst (I 2))) fun v32 =>
 y_grp true v32 (fun (v33 v34 v35 v36 : AV) (h37 : AH) =>
 y_pu (.pick (.cst v32) (.cst v36) (.cst (.bool false))) fun v38 =>
 y_grp true v38 (fun (v39 v40 v41 v42 : AV) (h43 : AH) =>
 y_pu (.pick (.cst v38) (.cst v42) (.cst (.bool false))) fun v44 =>
 y_grp true v44 (fun (v45 : AV) (h46 : AH) =>
 y_pu (.pick (.cst v44) (.cst v45) (.cst (.bool false))) fun v47 =>
 Post (.ret v47) h46) (fun J45 =>
 J45 v15 h43) (fun J45 => J45 aud h43)) (fun J39 =>
 y_pu (.fieldAddr 1 (.cst v29)) fun v40 =>
 y_rd (.load none (.cst v40)) h37 fun v41 =>
 y_pu (.len (.cst v41)) fun v42 =>
 y_pu (.bin .eql (.cst v42) (.cst (I 0))) fun v43 =>
 J39 v40 v41 v42 v43 h37) (fun J39 => J39 aud aud aud aud h37)) (fun J33 =>
 y_pu (.fieldAddr 0 (.cst v29)) fun v34 =>
 y_rd (.load none (.cst v34)) h30 fun v35 =>
 y_pu (.len (.cst v35)) fun v36 =>
 y_pu (.bin .eql (.cst v36) (.cst (I 0))) fun v37 =>
 J33 v34 v35 v36 v37 h30) (fun J33 => J33 aud aud aud aud h30))
 (y_pu (.bin .neq (.cst v28) (.cst (I 0))) fun v32 =>
 y_grp false v32 (fun (v33 v34 v35 v36 v37 v38 : AV) (h39 : AH) =>
 y_pu (.pick (.cst v32) (.cst (.bool true)) (.cst v38)) fun v40 =>
 y_grp false v40 (fun (v41 v42 v43 v44 v45 v46 v47 v48 : AV) (h49 : AH) =>
 y_pu (.pick (.cst v40) (.cst (.bool true)) (.cst v48)) fun v50 =>
 y_if0 v50
 (Post (.ret (.bool false)) h49)
 (y_rd (.load (some 3) (.cst v29)) h49 fun v51 =>
 y_ef (.store 3 (.cst v16) (.cst v51)) h49 fun v52 h52 =>
 y_pu (.bin .add (.cst v17) (.cst (I 1))) fun v53 =>
 J11 v12 v13 v14 v15 v16 v53 h52)) (fun J41 =>
 y_pu (.fieldAddr 0 (.cst v29)) fun v42 =>
 y_rd (.load none (.cst v42)) h39 fun v43 =>
 y_pu (.indexAddrS 8 (.cst v43) (.cst v17)) fun v44 =>
 y_pu (.fieldAddr 7 (.cst v44)) fun v45 =>
 y_rd (.load none (.cst v45)) h39 fun v46 =>
 y_pu (.bin .neq (.cst v46) (.cst v17)) fun v47 =>
 J41 v42 v43 v17 v44 v45 v46 v17 v47 h39) (fun J41 => J41 aud aud aud aud aud aud aud aud h39)) (fun J33 =>
 y_pu (.fieldAddr 0 (.cst v29)) fun v34 =>
 y_rd (.load none (.cst v34)) h30 fun v35 =>
 y_pu (.len (.cst v35)) fun v36 =>
 y_pu (.bin .add (.cst v17) (.cst (I 1))) fun v37 =>
 y_pu (.bin .neq (.cst v36) (.cst v37)) fun v38 =>
 J33 v34 v35 v36 v17 v37 v38 h30) (fun J33 => J33 aud aud aud aud aud aud h30)))
 (y_rd (.load (some 3) (.cst v16)) h18 fun v22 =>
 y_ef (.alloc [.nils,.nils,.nils]) h18 fun v23 h23 =>
 y_ef (.store 3 (.cst v23) (.cst v22)) h23 fun v24 h24 =>
 y_ef (.buildSlice 1 3 [(I 0),(I 0),(I 0)] [(0,1,(.cst (I 1))),(1,1,(.cst v14)),(2,1,(.cst (I 3)))]) h24 fun v25 h25 =>
 y_pu (.fieldAddr 1 (.cst v23)) fun v26 =>
 y_ef (.store 1 (.cst v26) (.cst v25)) h25 fun v27 h27 =>
 y_rd (.load (some 3) (.cst v23)) h27 fun v28 =>
 y_pu (.build ((I 0) :: (rpl 5 .nils (rpl 2 (I 0) []))) []) fun v29 =>
 y_call Tryz.prog 6 [v28,v29] h27 (yp Post) fun v30 h30 =>
 y_pu (.extract 0 (.cst v30)) fun v31 =>
 y_pu (.extract 1 (.cst v30)) fun v32 =>
 y_ef (.alloc [.nils,.nils,.nils]) h30 fun v33 h33 =>
 y_ef (.store 3 (.cst v33) (.cst v31)) h33 fun v34 h34 =>
 y_rd (.load (some 3) (.cst v23)) h34 fun v35 =>
 y_pu (.build (rpl 32 (N .u8 0) []) []) fun v36 =>
 y_call Tryz.prog 7 [v35,v36] h34 (yp Post) fun v37 h37 =>
 y_pu (.extract 0 (.cst v37)) fun v38 =>
 y_pu (.extract 1 (.cst v37)) fun v39 =>
 y_pu (.extract 2 (.cst v37)) fun v40 =>
 y_ef (.alloc [.nils,.nils,.nils]) h37 fun v41 h41 =>
 y_ef (.alloc [(I 0),.nils,.nils,(I 0)]) h41 fun v42 h42 =>
 y_ef (.store 3 (.cst v41) (.cst v38)) h42 fun v43 h43 =>
 y_ef (.store 4 (.cst v42) (.cst v39)) h43 fun v44 h44 =>
 y_pu (.bin .lss (.cst v14) (.cst (I 0))) fun v45 =>
 y_grp false v45 (fun (v46 v47 : AV) (h48 : AH) =>
 y_pu (.pick (.cst v45) (.cst (.bool true)) (.cst v47)) fun v49 =>
 y_if0 v49
 (y_pu (.bin .eql (.cst v32) (.cst (I 1))) fun v50 =>
 y_grp true v50 (fun (v51 v52 : AV) (h53 : AH) =>
 y_pu (.pick (.cst v50) (.cst v52) (.cst (.bool false))) fun v54 =>
 y_grp true v54 (fun (v55 : AV) (h56 : AH) =>
 y_pu (.pick (.cst v54) (.cst v55) (.cst (.bool false))) fun v57 =>
 Post (.ret v57) h56) (fun J55 =>
 J55 v15 h53) (fun J55 => J55 aud h53)) (fun J51 =>
 y_pu (.bin .eql (.cst v40) (.cst (I 1))) fun v52 =>
 J51 v40 v52 h48) (fun J51 => J51 aud aud h48))
 (y_pu (.bin .eql (.cst v32) (.cst (I 0))) fun v50 =>
 y_grp false v50 (fun (v51 v52 : AV) (h53 : AH) =>
 y_pu (.pick (.cst v50) (.cst (.bool true)) (.cst v52)) fun v54 =>
 y_grp true v54 (fun (v55 : AV) (h56 : AH) =>
 y_pu (.pick (.cst v54) (.cst v55) (.cst (.bool false))) fun v57 =>
 Post (.ret v57) h56) (fun J55 =>
 J55 v15 h53) (fun J55 => J55 aud h53)) (fun J51 =>
 y_pu (.bin .eql (.cst v32) (.cst (I 2))) fun v52 =>
 J51 v32 v52 h48) (fun J51 => J51 aud aud h48))) (fun J46 =>
 y_pu (.bin .gtr (.cst v14) (.cst (I 1073741824))) fun v47 =>
 J46 v14 v47 h44) (fun J46 => J46 aud aud h44)))) ((((((jenv.set 0 v0).set 1 v1).set 2 v2).set 7 v3).set 8 v8).set 10 (I 0)) h9))
def PH3 : Hints := []
theorem T3 {v0 v1 v2 : AV} {h : AH} {Post : AOut → AH → Prop} (hG : G3 v0 v1 v2 h Post) : ACall Tryz.prog 3 [v0,v1,v2] h Post := pfun_sound (t := (.s .l (.s .l (.s .l (.s (.s .l (.i (.s .l .l) .l)) (.s (.s .l (.i (.j [0,1,2,7,8,10] (.s (.s .l (.i .l .l)) (.s (.i (.s .l (.s (.s .l (.i (.s .l .l) .l)) (.s (.s .l (.i (.s .l .l) .l)) .l))) .l) .l)) .l) .l)) (.s .l (.s .l (.s .l (.s .l (.s (.s .l (.i (.s .l .l) .l)) (.s .l .l)))))))))))) (funOf (fn := Tryz.f3) (n := 125) (hs := PH3) (q := [.tmp 6]) mix (by kernel_rfl) (by kernel_rfl) (by kernel_rfl) (by kernel_rfl) (by kernel_rfl) (by kernel_rfl)) (by kernel_rfl) (by kernel_rfl) (by kernel_rfl) (by kernel_rfl) hG
def G4 (h : AH) (Post : AOut → AH → Prop) : Prop := (
 y_call Tryz.prog 5 [.nils] h (yp Post) fun v0 h0 =>
 y_pu (.extract 0 (.cst v0)) fun v1 =>
 y_pu (.extract 1 (.cst v0)) fun v2 =>
 y_ef (.alloc [.nils,.nils,.nils]) h0 fun v3 h3 =>
 y_ef (.store 3 (.cst v3) (.cst v1)) h3 fun v4 h4 =>
 y_ef (.buildSlice 1 1 [(I 0)] [(0,1,(.cst (I 5)))]) h4 fun v5 h5 =>
 y_call Tryz.prog 5 [v5] h5 (yp Post) fun v6 h6 =>
 y_pu (.extract 0 (.cst v6)) fun v7 =>
 y_pu (.extract 1 (.cst v6)) fun v8 =>
 y_ef (.alloc [.nils,.nils,.nils]) h6 fun v9 h9 =>
 y_ef (.store 3 (.cst v9) (.cst v7)) h9 fun v10 h10 =>
 y_rd (.load (some 3) (.cst v9)) h10 fun v11 =>
 y_pu (.build (rpl 32 (N .u8 0) []) []) fun v12 =>
 y_call Tryz.prog 7 [v11,v12] h10 (yp Post) fun v13 h13 =>
 y_pu (.extract 0 (.cst v13)) fun v14 =>
 y_pu (.extract 1 (.cst v13)) fun v15 =>
 y_pu (.extract 2 (.cst v13)) fun v16 =>
 y_ef (.alloc [.nils,.nils,.nils]) h13 fun v17 h17 =>
 y_ef (.alloc [(I 0),.nils,.nils,(I 0)]) h17 fun v18 h18 =>
 y_ef (.store 3 (.cst v17) (.cst v14)) h18 fun v19 h19 =>
 y_ef (.store 4 (.cst v18) (.cst v15)) h19 fun v20 h20 =>
 y_rd (.load (some 3) (.cst v9)) h20 fun v21 =>
 y_pu (.build ((I 0) :: (rpl 5 .nils (rpl 2 (I 0) []))) [(0,1,(.cst (I 1)))]) fun v22 =>
 y_call Tryz.prog 6 [v21,v22] h20 (yp Post) fun v23 h23 =>
 y_pu (.extract 0 (.cst v23)) fun v24 =>
 y_pu (.extract 1 (.cst v23)) fun v25 =>
 y_ef (.alloc [.nils,.nils,.nils]) h23 fun v26 h26 =>
 y_ef (.store 3 (.cst v26) (.cst v24)) h26 fun v27 h27 =>
 y_call Tryz.prog 8 [(N .u8 0)] h27 (yp Post) fun v28 h28 =>
 y_call Tryz.prog 8 [(N .u8 0)] h28 (yp Post) fun v29 h29 =>
 y_ef (.buildSlice 1 1 [(N .u8 0)] [(0,1,(.cst (N .u8 97)))]) h29 fun v30 h30 =>
 y_ef (.mark (.cst v30)) h30 fun v31 h31 =>
 y_pu (.build [.nils,(I 0)] [(0,1,(.cst v31)),(1,1,(.cst (I 1)))]) fun v32 =>
 y_pu (.build (rpl 5 .nils ((I 0) :: [])) [(0,2,(.cst v28)),(2,2,(.cst v29)),(4,2,(.cst v32))]) fun v33 =>
 y_ef (.alloc (rpl 5 .nils ((I 0) :: []))) h31 fun v34 h34 =>
 y_ef (.store 6 (.cst v34) (.cst v33)) h34 fun v35 h35 =>
 y_rd (.load (some 6) (.cst v34)) h35 fun v36 =>
 y_call Tryz.prog 9 [v36] h35 (yp Post) fun v37 h37 =>
 y_pu (.extract 0 (.cst v37)) fun v38 =>
 y_pu (.extract 1 (.cst v37)) fun v39 =>
 y_rd (.load (some 3) (.cst v9)) h37 fun v40 =>
 y_rd (.load (some 6) (.cst v34)) h37 fun v41 =>
 y_pu (.build ((I 0) :: (rpl 5 .nils (rpl 2 (I 0) []))) [(1,6,(.cst v41)),(7,1,(.cst (I 7)))]) fun v42 =>
 y_call Tryz.prog 6 [v40,v42] h37 (yp Post) fun v43 h43 =>
 y_pu (.extract 0 (.cst v43)) fun v44 =>
 y_pu (.extract 1 (.cst v43)) fun v45 =>
 y_ef (.alloc [.nils,.nils,.nils]) h43 fun v46 h46 =>
 y_ef (.store 3 (.cst v46) (.cst v44)) h46 fun v47 h47 =>
 y_rd (.load (some 3) (.cst v46)) h47 fun v48 =>
 y_pu (.build (rpl 32 (N .u8 0) []) []) fun v49 =>
 y_call Tryz.prog 7 [v48,v49] h47 (yp Post) fun v50 h50 =>
 y_pu (.extract 0 (.cst v50)) fun v51 =>
 y_pu (.extract 1 (.cst v50)) fun v52 =>
 y_pu (.extract 2 (.cst v50)) fun v53 =>
 y_ef (.alloc [.nils,.nils,.nils]) h50 fun v54 h54 =>
 y_ef (.alloc [(I 0),.nils,.nils,(I 0)]) h54 fun v55 h55 =>
 y_ef (.store 3 (.cst v54) (.cst v51)) h55 fun v56 h56 =>
 y_ef (.store 4 (.cst v55) (.cst v52)) h56 fun v57 h57 =>
 y_ef (.buildSlice 1 1 [(I 0)] [(0,1,(.cst (I 262146)))]) h57 fun v58 h58 =>
 y_call Tryz.prog 5 [v58] h58 (yp Post) fun v59 h59 =>
 y_pu (.extract 0 (.cst v59)) fun v60 =>
 y_pu (.extract 1 (.cst v59)) fun v61 =>
 y_ef (.alloc [.nils,.nils,.nils]) h59 fun v62 h62 =>
 y_ef (.store 3 (.cst v62) (.cst v60)) h62 fun v63 h63 =>
 y_rd (.load (some 3) (.cst v62)) h63 fun v64 =>
 y_rd (.load (some 6) (.cst v34)) h63 fun v65 =>
 y_pu (.build ((I 0) :: (rpl 5 .nils (rpl 2 (I 0) []))) [(1,6,(.cst v65)),(7,1,(.cst (I 262145)))]) fun v66 =>
 y_call Tryz.prog 6 [v64,v66] h63 (yp Post) fun v67 h67 =>
 y_pu (.extract 0 (.cst v67)) fun v68 =>
 y_pu (.extract 1 (.cst v67)) fun v69 =>
 y_ef (.alloc [.nils,.nils,.nils]) h67 fun v70 h70 =>
 y_ef (.store 3 (.cst v70) (.cst v68)) h70 fun v71 h71 =>
 y_rd (.load (some 3) (.cst v70)) h71 fun v72 =>
 y_pu (.build (rpl 32 (N .u8 0) []) []) fun v73 =>
 y_call Tryz.prog 7 [v72,v73] h71 (yp Post) fun v74 h74 =>
 y_pu (.extract 0 (.cst v74)) fun v75 =>
 y_pu (.extract 1 (.cst v74)) fun v76 =>
 y_pu (.extract 2 (.cst v74)) fun v77 =>
 y_ef (.alloc [.nils,.nils,.nils]) h74 fun v78 h78 =>
 y_ef (.alloc [(I 0),.nils,.nils,(I 0)]) h78 fun v79 h79 =>
 y_ef (.store 3 (.cst v78) (.cst v75)) h79 fun v80 h80 =>
 y_ef (.store 4 (.cst v79) (.cst v76)) h80 fun v81 h81 =>
 y_pu (.fieldAddr 1 (.cst v54)) fun v82 =>
 y_rd (.load none (.cst v82)) h81 fun v83 =>
 y_pu (.len (.cst v83)) fun v84 =>
 y_pu (.bin .neq (.cst v84) (.cst (I 1))) fun v85 =>
 y_grp false v85 (fun (v86 v87 v88 v89 : AV) (h90 : AH) =>
 y_pu (.pick (.cst v85) (.cst (.bool true)) (.cst v89)) fun v91 =>
 y_if0 v91
 (Post (.ret (.bool false)) h90)
 (y_pu (.bin .eql (.cst v2) (.cst (I 1))) fun v92 =>
 y_grp true v92 (fun (v93 v94 : AV) (h95 : AH) =>
 y_pu (.pick (.cst v92) (.cst v94) (.cst (.bool false))) fun v96 =>
 y_grp true v96 (fun (v97 v98 : AV) (h99 : AH) =>
 y_pu (.pick (.cst v96) (.cst v98) (.cst (.bool false))) fun v100 =>
 y_grp true v100 (fun (v101 v102 : AV) (h103 : AH) =>
 y_pu (.pick (.cst v100) (.cst v102) (.cst (.bool false))) fun v104 =>
 y_grp true v104 (fun (v105 v106 : AV) (h107 : AH) =>
 y_pu (.pick (.cst v104) (.cst v106) (.cst (.bool false))) fun v108 =>
 y_grp true v108 (fun (v109 v110 : AV) (h111 : AH) =>
 y_pu (.pick (.cst v108) (.cst v110) (.cst (.bool false))) fun v112 =>
 y_grp true v112 (fun (v113 v114 : AV) (h115 : AH) =>
 y_pu (.pick (.cst v112) (.cst v114) (.cst (.bool false))) fun v116 =>
 y_grp true v116 (fun (v117 v118 : AV) (h119 : AH) =>
 y_pu (.pick (.cst v116) (.cst v118) (.cst (.bool false))) fun v120 =>
 y_grp true v120 (fun (v121 v122 v123 : AV) (h124 : AH) =>
 y_pu (.pick (.cst v120) (.cst v123) (.cst (.bool false))) fun v125 =>
 y_grp true v125 (fun (v126 v127 v128 v129 : AV) (h130 : AH) =>
 y_pu (.pick (.cst v125) (.cst v129) (.cst (.bool false))) fun v131 =>
 y_grp true v131 (fun (v132 v133 v134 v135 v136 : AV) (h137 : AH) =>
 y_pu (.pick (.cst v131) (.cst v136) (.cst (.bool false))) fun v138 =>
 y_grp true v138 (fun (v139 v140 : AV) (h141 : AH) =>
 y_pu (.pick (.cst v138) (.cst v140) (.cst (.bool false))) fun v142 =>
 y_grp true v142 (fun (v143 v144 : AV) (h145 : AH) =>
 y_pu (.pick (.cst v142) (.cst v144) (.cst (.bool false))) fun v146 =>
 y_grp true v146 (fun (v147 v148 v149 : AV) (h150 : AH) =>
 y_pu (.pick (.cst v146) (.cst v149) (.cst (.bool false))) fun v151 =>
 y_grp true v151 (fun (v152 v153 v154 v155 v156 : AV) (h157 : AH) =>
 y_pu (.pick (.cst v151) (.cst v156) (.cst (.bool false))) fun v158 =>
 Post (.ret v158) h157) (fun J152 =>
 y_pu (.fieldAddr 1 (.cst v78)) fun v153 =>
 y_rd (.load none (.cst v153)) h150 fun v154 =>
 y_pu (.indexAddrS 1 (.cst v154) (.cst (I 0))) fun v155 =>
 y_rd (.load none (.cst v155)) h150 fun v156 =>
 y_pu (.bin .eql (.cst v156) (.cst (I 262146))) fun v157 =>
 J152 v153 v154 v155 v156 v157 h150) (fun J152 => J152 aud aud aud aud aud h150)) (fun J147 =>
 y_pu (.fieldAddr 0 (.cst v79)) fun v148 =>
 y_rd (.load none (.cst v148)) h145 fun v149 =>
 y_pu (.bin .eql (.cst v149) (.cst (I 3))) fun v150 =>
 J147 v148 v149 v150 h145) (fun J147 => J147 aud aud aud h145)) (fun J143 =>
 y_pu (.bin .eql (.cst v77) (.cst (I 0))) fun v144 =>
 J143 v77 v144 h141) (fun J143 => J143 aud aud h141)) (fun J139 =>
 y_pu (.bin .eql (.cst v69) (.cst (I 0))) fun v140 =>
 J139 v69 v140 h137) (fun J139 => J139 aud aud h137)) (fun J132 =>
 y_pu (.fieldAddr 1 (.cst v54)) fun v133 =>
 y_rd (.load none (.cst v133)) h130 fun v134 =>
 y_pu (.indexAddrS 1 (.cst v134) (.cst (I 0))) fun v135 =>
 y_rd (.load none (.cst v135)) h130 fun v136 =>
 y_pu (.bin .eql (.cst v136) (.cst (I 5))) fun v137 =>
 J132 v133 v134 v135 v136 v137 h130) (fun J132 => J132 aud aud aud aud aud h130)) (fun J126 =>
 y_pu (.fieldAddr 0 (.cst v54)) fun v127 =>
 y_rd (.load none (.cst v127)) h124 fun v128 =>
 y_pu (.len (.cst v128)) fun v129 =>
 y_pu (.bin .eql (.cst v129) (.cst (I 0))) fun v130 =>
 J126 v127 v128 v129 v130 h124) (fun J126 => J126 aud aud aud aud h124)) (fun J121 =>
 y_pu (.fieldAddr 0 (.cst v55)) fun v122 =>
 y_rd (.load none (.cst v122)) h119 fun v123 =>
 y_pu (.bin .eql (.cst v123) (.cst (I 0))) fun v124 =>
 J121 v122 v123 v124 h119) (fun J121 => J121 aud aud aud h119)) (fun J117 =>
 y_pu (.bin .eql (.cst v53) (.cst (I 350))) fun v118 =>
 J117 v53 v118 h115) (fun J117 => J117 aud aud h115)) (fun J113 =>
 y_pu (.bin .eql (.cst v45) (.cst (I 0))) fun v114 =>
 J113 v45 v114 h111) (fun J113 => J113 aud aud h111)) (fun J109 =>
 y_pu (.bin .eql (.cst v39) (.cst (I 0))) fun v110 =>
 J109 v39 v110 h107) (fun J109 => J109 aud aud h107)) (fun J105 =>
 y_pu (.bin .eql (.cst v38) (.cst (I 262146))) fun v106 =>
 J105 v38 v106 h103) (fun J105 => J105 aud aud h103)) (fun J101 =>
 y_pu (.bin .eql (.cst v25) (.cst (I 1))) fun v102 =>
 J101 v25 v102 h99) (fun J101 => J101 aud aud h99)) (fun J97 =>
 y_pu (.bin .eql (.cst v16) (.cst (I 3))) fun v98 =>
 J97 v16 v98 h95) (fun J97 => J97 aud aud h95)) (fun J93 =>
 y_pu (.bin .eql (.cst v8) (.cst (I 0))) fun v94 =>
 J93 v8 v94 h90) (fun J93 => J93 aud aud h90))) (fun J86 =>
 y_pu (.fieldAddr 1 (.cst v78)) fun v87 =>
 y_rd (.load none (.cst v87)) h81 fun v88 =>
 y_pu (.len (.cst v88)) fun v89 =>
 y_pu (.bin .neq (.cst v89) (.cst (I 1))) fun v90 =>
 J86 v87 v88 v89 v90 h81) (fun J86 => J86 aud aud aud aud h81))
def PH4 : Hints := []
theorem T4 {h : AH} {Post : AOut → AH → Prop} (hG : G4  h Post) : ACall Tryz.prog 4 [] h Post := pfun_sound (t := (.s .l (.s .l (.s .l (.s .l (.s .l (.s .l (.s .l (.s .l (.s .l (.s .l (.s .l (.s .l (.s (.s .l (.i (.s .l .l) .l)) (.s .l .l))))))))))))))) (funOf (fn := Tryz.f4) (n := 169) (hs := PH4) (q := [.tmp 0]) mix (by kernel_rfl) (by kernel_rfl) (by kernel_rfl) (by kernel_rfl) (by kernel_rfl) (by kernel_rfl)) (by kernel_rfl) (by kernel_rfl) (by kernel_rfl) (by kernel_rfl) hG
def G5 (v0 : AV) (h : AH) (Post : AOut → AH → Prop) : Prop := (
 y_ef (.alloc [.nils,.nils,.nils]) h fun v1 h1 =>
 y_call Tryz.prog 10 [v0] h1 (yp Post) fun v2 h2 =>
 y_pu (.build [.nils,.nils,.nils] [(1,1,(.cst v2))]) fun v3 =>
 y_ef (.alloc [.nils,.nils,.nils]) h2 fun v4 h4 =>
 y_ef (.store 3 (.cst v4) (.cst v3)) h4 fun v5 h5 =>
 y_rd (.load (some 3) (.cst v4)) h5 fun v6 =>
 y_call Tryz.prog 11 [v6] h5 (yp Post) fun v7 h7 =>
 y_pu (.un .not (.cst v7)) fun v8 =>
 y_if0 v8
 (y_pu (.build [.nils,.nils,.nils] []) fun v9 =>
 y_ef (.store 3 (.cst v1) (.cst v9)) h7 fun v10 h10 =>
 y_rd (.load (some 3) (.cst v1)) h10 fun v11 =>
 Post (.ret (.tup [v11,(I 1)])) h10)
 (y_rd (.load (some 3) (.cst v4)) h7 fun v9 =>
 y_ef (.store 3 (.cst v1) (.cst v9)) h7 fun v10 h10 =>
 y_rd (.load (some 3) (.cst v1)) h10 fun v11 =>
 Post (.ret (.tup [v11,(I 0)])) h10))
def PH5 : Hints := []
theorem T5 {v0 : AV} {h : AH} {Post : AOut → AH → Prop} (hG : G5 v0 h Post) : ACall Tryz.prog 5 [v0] h Post := pfun_sound (t := (.s .l (.s .l (.s (.s .l (.i (.s .l .l) .l)) (.s .l .l))))) (funOf (fn := Tryz.f5) (n := 13) (hs := PH5) (q := [.cell 2 (some 3),.tmp 3]) mix (by kernel_rfl) (by kernel_rfl) (by kernel_rfl) (by kernel_rfl) (by kernel_rfl) (by kernel_rfl)) (by kernel_rfl) (by kernel_rfl) (by kernel_rfl) (by kernel_rfl) hG
def G6 (v0 v1 : AV) (h : AH) (Post : AOut → AH → Prop) : Prop := (
 y_ef (.box (.cst v0)) h fun v2 h2 =>
 y_ef (.box (.cst v1)) h2 fun v3 h3 =>
 y_ef (.alloc [.nils,.nils,.nils]) h3 fun v4 h4 =>
 y_rd (.load (some 3) (.cst v2)) h4 fun v5 =>
 y_call Tryz.prog 11 [v5] h4 (yp Post) fun v6 h6 =>
 y_pu (.un .not (.cst v6)) fun v7 =>
 y_grp false v7 (fun (v8 v9 v10 v11 : AV) (h12 : AH) =>
 y_pu (.pick (.cst v7) (.cst (.bool true)) (.cst v11)) fun v13 =>
 y_if0 v13
 (y_pu (.build [.nils,.nils,.nils] []) fun v14 =>
 y_ef (.store 3 (.cst v4) (.cst v14)) h12 fun v15 h15 =>
 y_rd (.load (some 3) (.cst v4)) h15 fun v16 =>
 Post (.ret (.tup [v16,(I 1)])) h15)
 (y_pu (.fieldAddr 0 (.cst v2)) fun v14 =>
 y_rd (.load none (.cst v14)) h12 fun v15 =>
 y_pu (.len (.cst v15)) fun v16 =>
 y_pu (.bin .eql (.cst v16) (.cst (I 16))) fun v17 =>
 y_if0 v17
 (y_pu (.build [.nils,.nils,.nils] []) fun v18 =>
 y_ef (.store 3 (.cst v4) (.cst v18)) h12 fun v19 h19 =>
 y_rd (.load (some 3) (.cst v4)) h19 fun v20 =>
 Post (.ret (.tup [v20,(I 2)])) h19)
 (y_rd (.load (some 3) (.cst v2)) h12 fun v18 =>
 y_call Tryz.prog 13 [v18] h12 (yp Post) fun v19 h19 =>
 y_ef (.store 3 (.cst v2) (.cst v19)) h19 fun v20 h20 =>
 y_pu (.fieldAddr 0 (.cst v2)) fun v21 =>
 y_rd (.load none (.cst v21)) h20 fun v22 =>
 y_rd (.load (some 8) (.cst v3)) h20 fun v23 =>
 y_ef (.buildSlice 8 1 ((I 0) :: (rpl 5 .nils (rpl 2 (I 0) []))) [(0,8,(.cst v23))]) h20 fun v24 h24 =>
 y_ef (.append 8 144 (.cst v22) (.cst v24)) h24 fun v25 h25 =>
 y_pu (.fieldAddr 0 (.cst v2)) fun v26 =>
 y_ef (.store 1 (.cst v26) (.cst v25)) h25 fun v27 h27 =>
 y_rd (.load (some 3) (.cst v2)) h27 fun v28 =>
 y_ef (.store 3 (.cst v4) (.cst v28)) h27 fun v29 h29 =>
 y_rd (.load (some 3) (.cst v4)) h29 fun v30 =>
 Post (.ret (.tup [v30,(I 0)])) h29))) (fun J8 =>
 y_rd (.load (some 3) (.cst v2)) h6 fun v9 =>
 y_rd (.load (some 8) (.cst v3)) h6 fun v10 =>
 y_call Tryz.prog 12 [v9,v10] h6 (yp Post) fun v11 h11 =>
 y_pu (.un .not (.cst v11)) fun v12 =>
 J8 v9 v10 v11 v12 h11) (fun J8 => J8 aud aud aud aud h6))
def PH6 : Hints := []
theorem T6 {v0 v1 : AV} {h : AH} {Post : AOut → AH → Prop} (hG : G6 v0 v1 h Post) : ACall Tryz.prog 6 [v0,v1] h Post := pfun_sound (t := (.s .l (.s (.i (.s .l (.i (.s .l .l) (.s .l (.i (.s .l .l) .l)))) .l) (.s .l (.s .l (.s .l .l)))))) (funOf (fn := Tryz.f6) (n := 32) (hs := PH6) (q := [.cell 4 (some 3),.tmp 5]) mix (by kernel_rfl) (by kernel_rfl) (by kernel_rfl) (by kernel_rfl) (by kernel_rfl) (by kernel_rfl)) (by kernel_rfl) (by kernel_rfl) (by kernel_rfl) (by kernel_rfl) hG
def G7 (v0 v1 : AV) (h : AH) (Post : AOut → AH → Prop) : Prop := (
 y_ef (.box (.cst v0)) h fun v2 h2 =>
 y_ef (.box (.cst v1)) h2 fun v3 h3 =>
 y_ef (.alloc [.nils,.nils,.nils]) h3 fun v4 h4 =>
 y_ef (.alloc [(I 0),.nils,.nils,(I 0)]) h4 fun v5 h5 =>
 y_rd (.load (some 3) (.cst v2)) h5 fun v6 =>
 y_call Tryz.prog 11 [v6] h5 (yp Post) fun v7 h7 =>
 y_pu (.un .not (.cst v7)) fun v8 =>
 y_if0 v8
 (y_pu (.build [.nils,.nils,.nils] []) fun v9 =>
 y_pu (.build [(I 0),.nils,.nils,(I 0)] []) fun v10 =>
 y_ef (.store 3 (.cst v4) (.cst v9)) h7 fun v11 h11 =>
 y_ef (.store 4 (.cst v5) (.cst v10)) h11 fun v12 h12 =>
 y_rd (.load (some 3) (.cst v4)) h12 fun v13 =>
 y_rd (.load (some 4) (.cst v5)) h12 fun v14 =>
 Post (.ret (.tup [v13,v14,(I 1)])) h12)
 (y_rd (.load (some 3) (.cst v2)) h7 fun v9 =>
 y_call Tryz.prog 13 [v9] h7 (yp Post) fun v10 h10 =>
 y_ef (.store 3 (.cst v2) (.cst v10)) h10 fun v11 h11 =>
 y_pu (.fieldAddr 0 (.cst v2)) fun v12 =>
 y_rd (.load none (.cst v12)) h11 fun v13 =>
 y_pu (.len (.cst v13)) fun v14 =>
 y_pu (.bin .eql (.cst v14) (.cst (I 0))) fun v15 =>
 y_if0 v15
 (y_rd (.load (some 3) (.cst v2)) h11 fun v16 =>
 y_pu (.build [(I 0),.nils,.nils,(I 0)] []) fun v17 =>
 y_ef (.store 3 (.cst v4) (.cst v16)) h11 fun v18 h18 =>
 y_ef (.store 4 (.cst v5) (.cst v17)) h18 fun v19 h19 =>
 y_rd (.load (some 3) (.cst v4)) h19 fun v20 =>
 y_rd (.load (some 4) (.cst v5)) h19 fun v21 =>
 Post (.ret (.tup [v20,v21,(I 3)])) h19)
 (y_pu (.fieldAddr 0 (.cst v2)) fun v16 =>
 y_rd (.load none (.cst v16)) h11 fun v17 =>
 y_pu (.indexAddrS 8 (.cst v17) (.cst (I 0))) fun v18 =>
 y_rd (.load (some 8) (.cst v18)) h11 fun v19 =>
 y_ef (.alloc ((I 0) :: (rpl 5 .nils (rpl 2 (I 0) [])))) h11 fun v20 h20 =>
 y_ef (.store 8 (.cst v20) (.cst v19)) h20 fun v21 h21 =>
 y_pu (.fieldAddr 0 (.cst v2)) fun v22 =>
 y_rd (.load none (.cst v22)) h21 fun v23 =>
 y_pu (.sliceS 8 (.cst v23) (some (.cst (I 1))) none none) fun v24 =>
 y_pu (.fieldAddr 0 (.cst v2)) fun v25 =>
 y_ef (.store 1 (.cst v25) (.cst v24)) h21 fun v26 h26 =>
 y_pu (.fieldAddr 1 (.cst v20)) fun v27 =>
 y_rd (.load (some 6) (.cst v27)) h26 fun v28 =>
 y_call Tryz.prog 9 [v28] h26 (yp Post) fun v29 h29 =>
 y_pu (.extract 0 (.cst v29)) fun v30 =>
 y_pu (.extract 1 (.cst v29)) fun v31 =>
 y_ef (.alloc [(I 0)]) h29 fun v32 h32 =>
 y_ef (.alloc [(I 0)]) h32 fun v33 h33 =>
 y_ef (.store 1 (.cst v32) (.cst v30)) h33 fun v34 h34 =>
 y_ef (.store 1 (.cst v33) (.cst v31)) h34 fun v35 h35 =>
 y_ef (.buildSlice 1 4 (rpl 4 .nilf []) [(0,1,(.cst (.fn (.func 14) [] [v33]))),(1,1,(.cst (.fn (.func 15) [] [v2,v20,v32]))),(2,1,(.cst (.fn (.func 16) [] [v20,v32]))),(3,1,(.cst (.fn (.func 17) [] [v2,v20,v32,v3])))]) h35 fun v36 h36 =>
 y_pu (.len (.cst v36)) fun v37 =>
 y_loop [2,4,5,46,47,48] (fun J38 => (fun (v39 v40 v41 v42 v43 v44 : AV) (h45 : AH) =>
 y_pu (.bin .lss (.cst v44) (.cst v43)) fun v46 =>
 y_if0 v46
 (y_pu (.indexAddrS 1 (.cst v42) (.cst v44)) fun v47 =>
 y_rd (.load none (.cst v47)) h45 fun v48 =>
 y_cl Tryz.prog v48 [] h45 (yp Post) fun v49 h49 =>
 y_ef (.alloc [(I 0),.nils,.nils,(I 0),(I 0),(.bool false)]) h49 fun v50 h50 =>
 y_ef (.store 6 (.cst v50) (.cst v49)) h50 fun v51 h51 =>
 y_pu (.fieldAddr 5 (.cst v50)) fun v52 =>
 y_rd (.load none (.cst v52)) h51 fun v53 =>
 y_if0 v53
 (y_rd (.load (some 3) (.cst v39)) h51 fun v54 =>
 y_pu (.fieldAddr 0 (.cst v50)) fun v55 =>
 y_rd (.load (some 4) (.cst v55)) h51 fun v56 =>
 y_pu (.fieldAddr 4 (.cst v50)) fun v57 =>
 y_rd (.load none (.cst v57)) h51 fun v58 =>
 y_ef (.store 3 (.cst v40) (.cst v54)) h51 fun v59 h59 =>
 (y_rde (.load none (.cst v57)) v58 h59 ∧ (y_rde (.load (some 4) (.cst v55)) v56 h59 ∧ True)) ∧ y_ef (.store 4 (.cst v41) (.cst v56)) h59 fun v60 h60 =>
 (y_rde (.load none (.cst v57)) v58 h60 ∧ True) ∧ y_rd (.load (some 3) (.cst v40)) h60 fun v61 =>
 y_rd (.load (some 4) (.cst v41)) h60 fun v62 =>
 Post (.ret (.tup [v61,v62,v58])) h60)
 (y_pu (.bin .add (.cst v44) (.cst (I 1))) fun v54 =>
 J38 v39 v40 v41 v42 v43 v54 h51))
 (y_rd (.load (some 3) (.cst v39)) h45 fun v47 =>
 y_pu (.build [(I 0),.nils,.nils,(I 0)] []) fun v48 =>
 y_ef (.store 3 (.cst v40) (.cst v47)) h45 fun v49 h49 =>
 y_ef (.store 4 (.cst v41) (.cst v48)) h49 fun v50 h50 =>
 y_rd (.load (some 3) (.cst v40)) h50 fun v51 =>
 y_rd (.load (some 4) (.cst v41)) h50 fun v52 =>
 Post (.ret (.tup [v51,v52,(I 0)])) h50))) ((((((jenv.set 2 v2).set 4 v4).set 5 v5).set 46 v36).set 47 v37).set 48 (I 0)) h36)))
def PH7 : Hints := [(15,[(0,0,[],false),(1,0,[],false),(2,2,[],false),(3,0,[],false),(4,8,[],false),(5,1,[2,4],true),(6,39,[4],true),(7,127,[],false)])]
theorem T7 {v0 v1 : AV} {h : AH} {Post : AOut → AH → Prop} (hG : G7 v0 v1 h Post) : ACall Tryz.prog 7 [v0,v1] h Post := pfun_sound (t := (.s .l (.s (.s .l (.i (.s .l .l) .l)) (.s .l (.s (.s .l (.i (.s .l .l) .l)) (.s .l (.s .l (.s .l (.s .l (.s (.s .l (.i (.j [2,4,5,46,47,48] (.s .l (.s (.i .l .l) (.s (.i (.s .l (.s .l (.s .l (.i (.s .l .l) .l)))) .l) .l))) .l) .l)) (.s .l .l))))))))))) (funOf (fn := Tryz.f7) (n := 64) (hs := PH7) (q := [.cell 4 (some 3),.cell 5 (some 4),.tmp 6]) mix (by kernel_rfl) (by kernel_rfl) (by kernel_rfl) (by kernel_rfl) (by kernel_rfl) (by kernel_rfl)) (by kernel_rfl) (by kernel_rfl) (by kernel_rfl) (by kernel_rfl) hG
def G10 (v0 : AV) (h : AH) (Post : AOut → AH → Prop) : Prop := (
 y_pu (.eq false .slice (.cst v0) (.cst .nils)) fun v1 =>
 y_if0 v1
 (Post (.ret .nils) h)
 (y_ef (.buildSlice 1 0 [] []) h fun v2 h2 =>
 y_ef (.append 1 8 (.cst v2) (.cst v0)) h2 fun v3 h3 =>
 Post (.ret v3) h3))
def PH10 : Hints := []
theorem T10 {v0 : AV} {h : AH} {Post : AOut → AH → Prop} (hG : G10 v0 h Post) : ACall Tryz.prog 10 [v0] h Post := pfun_sound (t := (.s .l (.s (.s .l (.i (.s .l .l) .l)) (.s .l .l)))) (funOf (fn := Tryz.f10) (n := 8) (hs := PH10) (q := [.tmp 2]) mix (by kernel_rfl) (by kernel_rfl) (by kernel_rfl) (by kernel_rfl) (by kernel_rfl) (by kernel_rfl)) (by kernel_rfl) (by kernel_rfl) (by kernel_rfl) (by kernel_rfl) hG
def G11 (v0 : AV) (h : AH) (Post : AOut → AH → Prop) : Prop := (
 y_ef (.box (.cst v0)) h fun v1 h1 =>
 y_pu (.fieldAddr 1 (.cst v1)) fun v2 =>
 y_rd (.load none (.cst v2)) h1 fun v3 =>
 y_pu (.len (.cst v3)) fun v4 =>
 y_pu (.bin .geq (.cst v4) (.cst (I 1))) fun v5 =>
 y_grp true v5 (fun (v6 v7 v8 v9 : AV) (h10 : AH) =>
 y_pu (.pick (.cst v5) (.cst v9) (.cst (.bool false))) fun v11 =>
 y_grp true v11 (fun (v12 v13 v14 v15 : AV) (h16 : AH) =>
 y_pu (.pick (.cst v11) (.cst v15) (.cst (.bool false))) fun v17 =>
 y_grp true v17 (fun (v18 v19 v20 v21 v22 : AV) (h23 : AH) =>
 y_pu (.pick (.cst v17) (.cst v22) (.cst (.bool false))) fun v24 =>
 y_grp true v24 (fun (v25 v26 v27 v28 v29 : AV) (h30 : AH) =>
 y_pu (.pick (.cst v24) (.cst v29) (.cst (.bool false))) fun v31 =>
 Post (.ret v31) h30) (fun J25 =>
 y_pu (.fieldAddr 0 (.cst v1)) fun v26 =>
 y_rd (.load none (.cst v26)) h23 fun v27 =>
 y_call Tryz.prog 35 [v27,(.fn (.func 31) [] [v1])] h23 (yp Post) fun v28 h28 =>
 y_pu (.un .not (.cst v28)) fun v29 =>
 J25 v26 v27 (.fn (.func 31) [] [v1]) v28 v29 h28) (fun J25 => J25 aud aud aud aud aud h23)) (fun J18 =>
 y_pu (.fieldAddr 1 (.cst v1)) fun v19 =>
 y_rd (.load none (.cst v19)) h16 fun v20 =>
 y_call Tryz.prog 34 [v20,(.fn (.func 32) [] [])] h16 (yp Post) fun v21 h21 =>
 y_pu (.un .not (.cst v21)) fun v22 =>
 J18 v19 v20 (.fn (.func 32) [] []) v21 v22 h21) (fun J18 => J18 aud aud aud aud aud h16)) (fun J12 =>
 y_pu (.fieldAddr 0 (.cst v1)) fun v13 =>
 y_rd (.load none (.cst v13)) h10 fun v14 =>
 y_pu (.len (.cst v14)) fun v15 =>
 y_pu (.bin .leq (.cst v15) (.cst (I 16))) fun v16 =>
 J12 v13 v14 v15 v16 h10) (fun J12 => J12 aud aud aud aud h10)) (fun J6 =>
 y_pu (.fieldAddr 1 (.cst v1)) fun v7 =>
 y_rd (.load none (.cst v7)) h1 fun v8 =>
 y_pu (.len (.cst v8)) fun v9 =>
 y_pu (.bin .leq (.cst v9) (.cst (I 64))) fun v10 =>
 J6 v7 v8 v9 v10 h1) (fun J6 => J6 aud aud aud aud h1))
def PH11 : Hints := []
theorem T11 {v0 : AV} {h : AH} {Post : AOut → AH → Prop} (hG : G11 v0 h Post) : ACall Tryz.prog 11 [v0] h Post := pfun_sound (t := (.s .l (.s .l (.s .l (.s .l .l))))) (funOf (fn := Tryz.f11) (n := 36) (hs := PH11) (q := [.tmp 2]) mix (by kernel_rfl) (by kernel_rfl) (by kernel_rfl) (by kernel_rfl) (by kernel_rfl) (by kernel_rfl)) (by kernel_rfl) (by kernel_rfl) (by kernel_rfl) (by kernel_rfl) hG
def G12 (v0 v1 : AV) (h : AH) (Post : AOut → AH → Prop) : Prop := (
 y_ef (.box (.cst v0)) h fun v2 h2 =>
 y_ef (.box (.cst v1)) h2 fun v3 h3 =>
 y_pu (.fieldAddr 0 (.cst v3)) fun v4 =>
 y_rd (.load none (.cst v4)) h3 fun v5 =>
 y_pu (.bin .geq (.cst v5) (.cst (I 0))) fun v6 =>
 y_grp true v6 (fun (v7 v8 v9 v10 v11 v12 : AV) (h13 : AH) =>
 y_pu (.pick (.cst v6) (.cst v12) (.cst (.bool false))) fun v14 =>
 y_grp true v14 (fun (v15 v16 v17 : AV) (h18 : AH) =>
 y_pu (.pick (.cst v14) (.cst v17) (.cst (.bool false))) fun v19 =>
 Post (.ret v19) h18) (fun J15 =>
 y_pu (.fieldAddr 7 (.cst v3)) fun v16 =>
 y_rd (.load none (.cst v16)) h13 fun v17 =>
 y_call Tryz.prog 33 [v17] h13 (yp Post) fun v18 h18 =>
 J15 v16 v17 v18 h18) (fun J15 => J15 aud aud aud h13)) (fun J7 =>
 y_pu (.fieldAddr 0 (.cst v3)) fun v8 =>
 y_rd (.load none (.cst v8)) h3 fun v9 =>
 y_pu (.fieldAddr 1 (.cst v2)) fun v10 =>
 y_rd (.load none (.cst v10)) h3 fun v11 =>
 y_pu (.len (.cst v11)) fun v12 =>
 y_pu (.bin .lss (.cst v9) (.cst v12)) fun v13 =>
 J7 v8 v9 v10 v11 v12 v13 h3) (fun J7 => J7 aud aud aud aud aud aud h3))
def PH12 : Hints := []
theorem T12 {v0 v1 : AV} {h : AH} {Post : AOut → AH → Prop} (hG : G12 v0 v1 h Post) : ACall Tryz.prog 12 [v0,v1] h Post := pfun_sound (t := (.s .l (.s .l .l))) (funOf (fn := Tryz.f12) (n := 21) (hs := PH12) (q := [.tmp 4]) mix (by kernel_rfl) (by kernel_rfl) (by kernel_rfl) (by kernel_rfl) (by kernel_rfl) (by kernel_rfl)) (by kernel_rfl) (by kernel_rfl) (by kernel_rfl) (by kernel_rfl) hG
def G13 (v0 : AV) (h : AH) (Post : AOut → AH → Prop) : Prop := (
 y_ef (.box (.cst v0)) h fun v1 h1 =>
 y_ef (.alloc [.nils,.nils,.nils]) h1 fun v2 h2 =>
 y_pu (.fieldAddr 0 (.cst v1)) fun v3 =>
 y_rd (.load none (.cst v3)) h2 fun v4 =>
 y_pu (.fieldAddr 1 (.cst v1)) fun v5 =>
 y_rd (.load none (.cst v5)) h2 fun v6 =>
 y_pu (.fieldAddr 2 (.cst v1)) fun v7 =>
 y_rd (.load none (.cst v7)) h2 fun v8 =>
 y_call Tryz.prog 36 [v4] h2 (yp Post) fun v9 h9 =>
 (y_rde (.load none (.cst v7)) v8 h9 ∧ (y_rde (.load none (.cst v5)) v6 h9 ∧ True)) ∧ y_pu (.fieldAddr 0 (.cst v1)) fun v10 =>
 y_call Tryz.prog 10 [v6] h9 (yp Post) fun v11 h11 =>
 (y_rde (.load none (.cst v7)) v8 h11 ∧ True) ∧ y_call Tryz.prog 37 [v8] h11 (yp Post) fun v12 h12 =>
 True ∧ y_ef (.store 1 (.cst v10) (.cst v9)) h12 fun v13 h13 =>
 True ∧ y_pu (.fieldAddr 1 (.cst v1)) fun v14 =>
 y_ef (.store 1 (.cst v14) (.cst v11)) h13 fun v15 h15 =>
 True ∧ y_pu (.fieldAddr 2 (.cst v1)) fun v16 =>
 y_ef (.store 1 (.cst v16) (.cst v12)) h15 fun v17 h17 =>
 True ∧ y_pu (.fieldAddr 2 (.cst v1)) fun v18 =>
 y_rd (.load none (.cst v18)) h17 fun v19 =>
 y_pu (.len (.cst v19)) fun v20 =>
 y_loop [1,2,18,19] (fun J21 => (fun (v22 v23 v24 v25 : AV) (h26 : AH) =>
 y_pu (.bin .lss (.cst v25) (.cst v24)) fun v27 =>
 y_if0 v27
 (y_pu (.fieldAddr 2 (.cst v22)) fun v28 =>
 y_rd (.load none (.cst v28)) h26 fun v29 =>
 y_pu (.fieldAddr 2 (.cst v22)) fun v30 =>
 y_rd (.load none (.cst v30)) h26 fun v31 =>
 y_pu (.indexAddrS 65 (.cst v31) (.cst v25)) fun v32 =>
 y_pu (.fieldAddr 32 (.cst v32)) fun v33 =>
 y_rd (.load none (.cst v33)) h26 fun v34 =>
 y_call Tryz.prog 38 [v34] h26 (yp Post) fun v35 h35 =>
 (y_rde (.load none (.cst v28)) v29 h35 ∧ True) ∧ y_pu (.indexAddrS 65 (.cst v29) (.cst v25)) fun v36 =>
 y_pu (.fieldAddr 32 (.cst v36)) fun v37 =>
 y_ef (.store 1 (.cst v37) (.cst v35)) h35 fun v38 h38 =>
 True ∧ y_pu (.bin .add (.cst v25) (.cst (I 1))) fun v39 =>
 J21 v22 v23 v24 v39 h38)
 (y_rd (.load (some 3) (.cst v22)) h26 fun v28 =>
 y_ef (.store 3 (.cst v23) (.cst v28)) h26 fun v29 h29 =>
 y_rd (.load (some 3) (.cst v23)) h29 fun v30 =>
 Post (.ret v30) h29))) ((((jenv.set 1 v1).set 2 v2).set 18 v20).set 19 (I 0)) h17)
def PH13 : Hints := [(1,[(0,0,[],false),(1,1,[],false),(3,0,[],false),(4,8,[],false),(6,0,[],false),(7,64,[],false),(2,3,[4,7],true),(9,223,[],false),(5,31,[7],true),(8,255,[],true),(10,1023,[],true),(11,2047,[],false),(12,4095,[],true),(13,8191,[],false),(14,16383,[],true)]),(5,[(0,0,[],false),(1,1,[],false),(2,0,[],false),(3,0,[],false),(4,8,[],false),(5,0,[],false),(6,56,[],false),(7,120,[],false),(8,248,[],false),(9,504,[1],true),(10,1023,[],false),(11,2047,[],false),(12,4095,[],true)])]
theorem T13 {v0 : AV} {h : AH} {Post : AOut → AH → Prop} (hG : G13 v0 h Post) : ACall Tryz.prog 13 [v0] h Post := pfun_sound (t := (.s .l (.s .l (.s (.s .l (.i (.j [1,2,18,19] (.s .l (.s (.i .l .l) (.s (.i (.s .l .l) .l) .l))) .l) .l)) (.s .l .l))))) (funOf (fn := Tryz.f13) (n := 36) (hs := PH13) (q := [.cell 2 (some 3)]) mix (by kernel_rfl) (by kernel_rfl) (by kernel_rfl) (by kernel_rfl) (by kernel_rfl) (by kernel_rfl)) (by kernel_rfl) (by kernel_rfl) (by kernel_rfl) (by kernel_rfl) hG
def G14 (v0 : AV) (h : AH) (Post : AOut → AH → Prop) : Prop := (
 y_ef (.alloc [(I 0),.nils,.nils,(I 0),(I 0),(.bool false)]) h fun v1 h1 =>
 y_rd (.load none (.cst v0)) h1 fun v2 =>
 y_rd (.load none (.cst v0)) h1 fun v3 =>
 y_pu (.bin .neq (.cst v3) (.cst (I 0))) fun v4 =>
 y_pu (.build [(I 0),.nils,.nils,(I 0),(I 0),(.bool false)] [(4,1,(.cst v2)),(5,1,(.cst v4))]) fun v5 =>
 y_ef (.store 6 (.cst v1) (.cst v5)) h1 fun v6 h6 =>
 y_rd (.load (some 6) (.cst v1)) h6 fun v7 =>
 Post (.ret v7) h6)
def PH14 : Hints := []
theorem T14 {v0 : AV} {h : AH} {Post : AOut → AH → Prop} (hG : G14 v0 h Post) : ACall Tryz.prog 14 [v0] h Post := pfun_sound (t := (.s .l (.s .l .l))) (funOf (fn := Tryz.f14) (n := 6) (hs := PH14) (q := [.cell 1 (some 6)]) mix (by kernel_rfl) (by kernel_rfl) (by kernel_rfl) (by kernel_rfl) (by kernel_rfl) (by kernel_rfl)) (by kernel_rfl) (by kernel_rfl) (by kernel_rfl) (by kernel_rfl) hG
def G15 (v0 v1 v2 : AV) (h : AH) (Post : AOut → AH → Prop) : Prop := (
 y_ef (.alloc [(I 0),.nils,.nils,(I 0),(I 0),(.bool false)]) h fun v3 h3 =>
 y_pu (.fieldAddr 1 (.cst v0)) fun v4 =>
 y_rd (.load none (.cst v4)) h3 fun v5 =>
 y_pu (.fieldAddr 0 (.cst v1)) fun v6 =>
 y_rd (.load none (.cst v6)) h3 fun v7 =>
 y_pu (.indexAddrS 1 (.cst v5) (.cst v7)) fun v8 =>
 y_rd (.load none (.cst v8)) h3 fun v9 =>
 y_rd (.load none (.cst v2)) h3 fun v10 =>
 y_pu (.bin .lss (.cst v9) (.cst v10)) fun v11 =>
 y_pu (.build [(I 0),.nils,.nils,(I 0),(I 0),(.bool false)] [(4,1,(.cst (I 350))),(5,1,(.cst v11))]) fun v12 =>
 y_ef (.store 6 (.cst v3) (.cst v12)) h3 fun v13 h13 =>
 y_rd (.load (some 6) (.cst v3)) h13 fun v14 =>
 Post (.ret v14) h13)
def PH15 : Hints := [(1,[(0,0,[],false),(1,1,[],false),(2,0,[],false),(3,4,[],false),(4,15,[],false),(5,31,[],false),(6,0,[],false),(7,127,[],false),(8,255,[],false),(9,511,[],true)])]
theorem T15 {v0 v1 v2 : AV} {h : AH} {Post : AOut → AH → Prop} (hG : G15 v0 v1 v2 h Post) : ACall Tryz.prog 15 [v0,v1,v2] h Post := pfun_sound (t := (.s .l (.s .l .l))) (funOf (fn := Tryz.f15) (n := 13) (hs := PH15) (q := [.cell 3 (some 6)]) mix (by kernel_rfl) (by kernel_rfl) (by kernel_rfl) (by kernel_rfl) (by kernel_rfl) (by kernel_rfl)) (by kernel_rfl) (by kernel_rfl) (by kernel_rfl) (by kernel_rfl) hG
def G16 (v0 v1 : AV) (h : AH) (Post : AOut → AH → Prop) : Prop := (
 y_ef (.alloc [(I 0),.nils,.nils,(I 0),(I 0),(.bool false)]) h fun v2 h2 =>
 y_pu (.build [(I 0),.nils,.nils,(I 0)] [(0,1,(.cst (I 3)))]) fun v3 =>
 y_pu (.fieldAddr 7 (.cst v0)) fun v4 =>
 y_rd (.load none (.cst v4)) h2 fun v5 =>
 y_rd (.load none (.cst v1)) h2 fun v6 =>
 y_pu (.bin .lss (.cst v5) (.cst v6)) fun v7 =>
 y_pu (.build [(I 0),.nils,.nils,(I 0),(I 0),(.bool false)] [(0,4,(.cst v3)),(5,1,(.cst v7))]) fun v8 =>
 y_ef (.store 6 (.cst v2) (.cst v8)) h2 fun v9 h9 =>
 y_rd (.load (some 6) (.cst v2)) h9 fun v10 =>
 Post (.ret v10) h9)
def PH16 : Hints := []
theorem T16 {v0 v1 : AV} {h : AH} {Post : AOut → AH → Prop} (hG : G16 v0 v1 h Post) : ACall Tryz.prog 16 [v0,v1] h Post := pfun_sound (t := (.s .l (.s .l .l))) (funOf (fn := Tryz.f16) (n := 9) (hs := PH16) (q := [.cell 2 (some 6)]) mix (by kernel_rfl) (by kernel_rfl) (by kernel_rfl) (by kernel_rfl) (by kernel_rfl) (by kernel_rfl)) (by kernel_rfl) (by kernel_rfl) (by kernel_rfl) (by kernel_rfl) hG
def G31 (v0 v1 : AV) (h : AH) (Post : AOut → AH → Prop) : Prop := (
 y_ef (.box (.cst v0)) h fun v2 h2 =>
 y_rd (.load (some 3) (.cst v1)) h2 fun v3 =>
 y_rd (.load (some 8) (.cst v2)) h2 fun v4 =>
 y_call Tryz.prog 12 [v3,v4] h2 (yp Post) fun v5 h5 =>
 y_pu (.un .not (.cst v5)) fun v6 =>
 Post (.ret v6) h5)
def PH31 : Hints := []
theorem T31 {v0 v1 : AV} {h : AH} {Post : AOut → AH → Prop} (hG : G31 v0 v1 h Post) : ACall Tryz.prog 31 [v0,v1] h Post := pfun_sound (t := (.s .l (.s .l .l))) (funOf (fn := Tryz.f31) (n := 8) (hs := PH31) (q := [.tmp 3]) mix (by kernel_rfl) (by kernel_rfl) (by kernel_rfl) (by kernel_rfl) (by kernel_rfl) (by kernel_rfl)) (by kernel_rfl) (by kernel_rfl) (by kernel_rfl) (by kernel_rfl) hG
def G32 (v0 : AV) (h : AH) (Post : AOut → AH → Prop) : Prop := (
 y_call Tryz.prog 33 [v0] h (yp Post) fun v1 h1 =>
 y_pu (.un .not (.cst v1)) fun v2 =>
 Post (.ret v2) h1)
def PH32 : Hints := []
theorem T32 {v0 : AV} {h : AH} {Post : AOut → AH → Prop} (hG : G32 v0 h Post) : ACall Tryz.prog 32 [v0] h Post := pfun_sound (t := (.s .l (.s .l .l))) (funOf (fn := Tryz.f32) (n := 6) (hs := PH32) (q := [.tmp 2]) mix (by kernel_rfl) (by kernel_rfl) (by kernel_rfl) (by kernel_rfl) (by kernel_rfl) (by kernel_rfl)) (by kernel_rfl) (by kernel_rfl) (by kernel_rfl) (by kernel_rfl) hG
def G33 (v0 : AV) (h : AH) (Post : AOut → AH → Prop) : Prop := (
 y_pu (.bin .geq (.cst v0) (.cst (I 0))) fun v1 =>
 y_grp true v1 (fun (v2 v3 : AV) (h4 : AH) =>
 y_pu (.pick (.cst v1) (.cst v3) (.cst (.bool false))) fun v5 =>
 Post (.ret v5) h4) (fun J2 =>
 y_pu (.bin .leq (.cst v0) (.cst (I 1073741824))) fun v3 =>
 J2 v0 v3 h) (fun J2 => J2 aud aud h))
def PH33 : Hints := []
theorem T33 {v0 : AV} {h : AH} {Post : AOut → AH → Prop} (hG : G33 v0 h Post) : ACall Tryz.prog 33 [v0] h Post := pfun_sound (t := (.s .l (.s .l .l))) (funOf (fn := Tryz.f33) (n := 9) (hs := PH33) (q := [.tmp 2]) mix (by kernel_rfl) (by kernel_rfl) (by kernel_rfl) (by kernel_rfl) (by kernel_rfl) (by kernel_rfl)) (by kernel_rfl) (by kernel_rfl) (by kernel_rfl) (by kernel_rfl) hG
def G34 (v0 v1 : AV) (h : AH) (Post : AOut → AH → Prop) : Prop := (
 y_call Tryz.prog 50 [v0,v1] h (yp Post) fun v2 h2 =>
 y_pu (.bin .geq (.cst v2) (.cst (I 0))) fun v3 =>
 Post (.ret v3) h2)
def PH34 : Hints := []
theorem T34 {v0 v1 : AV} {h : AH} {Post : AOut → AH → Prop} (hG : G34 v0 v1 h Post) : ACall Tryz.prog 34 [v0,v1] h Post := pfun_sound (t := (.s .l (.s .l .l))) (funOf (fn := Tryz.f34) (n := 9) (hs := PH34) (q := [.tmp 4]) mix (by kernel_rfl) (by kernel_rfl) (by kernel_rfl) (by kernel_rfl) (by kernel_rfl) (by kernel_rfl)) (by kernel_rfl) (by kernel_rfl) (by kernel_rfl) (by kernel_rfl) hG
def G35 (v0 v1 : AV) (h : AH) (Post : AOut → AH → Prop) : Prop := (
 y_call Tryz.prog 51 [v0,v1] h (yp Post) fun v2 h2 =>
 y_pu (.bin .geq (.cst v2) (.cst (I 0))) fun v3 =>
 Post (.ret v3) h2)
def PH35 : Hints := []
theorem T35 {v0 v1 : AV} {h : AH} {Post : AOut → AH → Prop} (hG : G35 v0 v1 h Post) : ACall Tryz.prog 35 [v0,v1] h Post := pfun_sound (t := (.s .l (.s .l .l))) (funOf (fn := Tryz.f35) (n := 9) (hs := PH35) (q := [.tmp 4]) mix (by kernel_rfl) (by kernel_rfl) (by kernel_rfl) (by kernel_rfl) (by kernel_rfl) (by kernel_rfl)) (by kernel_rfl) (by kernel_rfl) (by kernel_rfl) (by kernel_rfl) hG
def G36 (v0 : AV) (h : AH) (Post : AOut → AH → Prop) : Prop := (
 y_pu (.eq false .slice (.cst v0) (.cst .nils)) fun v1 =>
 y_if0 v1
 (Post (.ret .nils) h)
 (y_ef (.buildSlice 8 0 [] []) h fun v2 h2 =>
 y_ef (.append 8 144 (.cst v2) (.cst v0)) h2 fun v3 h3 =>
 Post (.ret v3) h3))
def PH36 : Hints := []
theorem T36 {v0 : AV} {h : AH} {Post : AOut → AH → Prop} (hG : G36 v0 h Post) : ACall Tryz.prog 36 [v0] h Post := pfun_sound (t := (.s .l (.s (.s .l (.i (.s .l .l) .l)) (.s .l .l)))) (funOf (fn := Tryz.f36) (n := 8) (hs := PH36) (q := [.tmp 2]) mix (by kernel_rfl) (by kernel_rfl) (by kernel_rfl) (by kernel_rfl) (by kernel_rfl) (by kernel_rfl)) (by kernel_rfl) (by kernel_rfl) (by kernel_rfl) (by kernel_rfl) hG
def G37 (v0 : AV) (h : AH) (Post : AOut → AH → Prop) : Prop := (
 y_pu (.eq false .slice (.cst v0) (.cst .nils)) fun v1 =>
 y_if0 v1
 (Post (.ret .nils) h)
 (y_ef (.buildSlice 65 0 [] []) h fun v2 h2 =>
 y_ef (.append 65 88 (.cst v2) (.cst v0)) h2 fun v3 h3 =>
 Post (.ret v3) h3))
def PH37 : Hints := []
theorem T37 {v0 : AV} {h : AH} {Post : AOut → AH → Prop} (hG : G37 v0 h Post) : ACall Tryz.prog 37 [v0] h Post := pfun_sound (t := (.s .l (.s (.s .l (.i (.s .l .l) .l)) (.s .l .l)))) (funOf (fn := Tryz.f37) (n := 8) (hs := PH37) (q := [.tmp 2]) mix (by kernel_rfl) (by kernel_rfl) (by kernel_rfl) (by kernel_rfl) (by kernel_rfl) (by kernel_rfl)) (by kernel_rfl) (by kernel_rfl) (by kernel_rfl) (by kernel_rfl) hG
def G38 (v0 : AV) (h : AH) (Post : AOut → AH → Prop) : Prop := (
 y_pu (.eq false .slice (.cst v0) (.cst .nils)) fun v1 =>
 y_if0 v1
 (Post (.ret .nils) h)
 (y_ef (.buildSlice 1 0 [] []) h fun v2 h2 =>
 y_ef (.append 1 1 (.cst v2) (.cst v0)) h2 fun v3 h3 =>
 Post (.ret v3) h3))
def PH38 : Hints := []
theorem T38 {v0 : AV} {h : AH} {Post : AOut → AH → Prop} (hG : G38 v0 h Post) : ACall Tryz.prog 38 [v0] h Post := pfun_sound (t := (.s .l (.s (.s .l (.i (.s .l .l) .l)) (.s .l .l)))) (funOf (fn := Tryz.f38) (n := 8) (hs := PH38) (q := [.tmp 2]) mix (by kernel_rfl) (by kernel_rfl) (by kernel_rfl) (by kernel_rfl) (by kernel_rfl) (by kernel_rfl)) (by kernel_rfl) (by kernel_rfl) (by kernel_rfl) (by kernel_rfl) hG
def G50 (v0 v1 : AV) (h : AH) (Post : AOut → AH → Prop) : Prop := (
 y_pu (.len (.cst v0)) fun v2 =>
 y_loop [0,1,7,8] (fun J3 => (fun (v4 v5 v6 v7 : AV) (h8 : AH) =>
 y_pu (.bin .lss (.cst v7) (.cst v6)) fun v9 =>
 y_if0 v9
 (y_pu (.indexAddrS 1 (.cst v4) (.cst v7)) fun v10 =>
 y_rd (.load none (.cst v10)) h8 fun v11 =>
 y_cl Tryz.prog v5 [v11] h8 (yp Post) fun v12 h12 =>
 y_if0 v12
 (Post (.ret v7) h12)
 (y_pu (.bin .add (.cst v7) (.cst (I 1))) fun v13 =>
 J3 v4 v5 v6 v13 h12))
 (Post (.ret (.int .i64 (-1))) h8))) ((((jenv.set 0 v0).set 1 v1).set 7 v2).set 8 (I 0)) h)
def PH50 : Hints := []
theorem T50 {v0 v1 : AV} {h : AH} {Post : AOut → AH → Prop} (hG : G50 v0 v1 h Post) : ACall Tryz.prog 50 [v0,v1] h Post := pfun_sound (t := (.s .l (.s (.s .l (.i (.j [0,1,7,8] (.s .l (.s (.i .l .l) (.s (.i (.s .l (.s .l (.i (.s .l .l) .l))) .l) .l))) .l) .l)) (.s .l .l)))) (funOf (fn := Tryz.f50) (n := 19) (hs := PH50) (q := [.tmp 4]) mix (by kernel_rfl) (by kernel_rfl) (by kernel_rfl) (by kernel_rfl) (by kernel_rfl) (by kernel_rfl)) (by kernel_rfl) (by kernel_rfl) (by kernel_rfl) (by kernel_rfl) hG
def G51 (v0 v1 : AV) (h : AH) (Post : AOut → AH → Prop) : Prop := (
 y_pu (.len (.cst v0)) fun v2 =>
 y_loop [0,1,7,8] (fun J3 => (fun (v4 v5 v6 v7 : AV) (h8 : AH) =>
 y_pu (.bin .lss (.cst v7) (.cst v6)) fun v9 =>
 y_if0 v9
 (y_pu (.indexAddrS 8 (.cst v4) (.cst v7)) fun v10 =>
 y_rd (.load (some 8) (.cst v10)) h8 fun v11 =>
 y_cl Tryz.prog v5 [v11] h8 (yp Post) fun v12 h12 =>
 y_if0 v12
 (Post (.ret v7) h12)
 (y_pu (.bin .add (.cst v7) (.cst (I 1))) fun v13 =>
 J3 v4 v5 v6 v13 h12))
 (Post (.ret (.int .i64 (-1))) h8))) ((((jenv.set 0 v0).set 1 v1).set 7 v2).set 8 (I 0)) h)
def PH51 : Hints := []
theorem T51 {v0 v1 : AV} {h : AH} {Post : AOut → AH → Prop} (hG : G51 v0 v1 h Post) : ACall Tryz.prog 51 [v0,v1] h Post := pfun_sound (t := (.s .l (.s (.s .l (.i (.j [0,1,7,8] (.s .l (.s (.i .l .l) (.s (.i (.s .l (.s .l (.i (.s .l .l) .l))) .l) .l))) .l) .l)) (.s .l .l)))) (funOf (fn := Tryz.f51) (n := 19) (hs := PH51) (q := [.tmp 4]) mix (by kernel_rfl) (by kernel_rfl) (by kernel_rfl) (by kernel_rfl) (by kernel_rfl) (by kernel_rfl)) (by kernel_rfl) (by kernel_rfl) (by kernel_rfl) (by kernel_rfl) hG
end Go.Proofs.YtlopgbdfdfijoaaGreatDoor
