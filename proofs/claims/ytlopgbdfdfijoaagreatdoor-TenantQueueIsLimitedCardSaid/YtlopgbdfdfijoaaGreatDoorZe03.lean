import Derived.Test.YtlopgbdfdfijoaaGreatDoorZb03
import Derived.Test.YtlopgbdfdfijoaaGreatDoorProg
/-
  printed functions for the kernel.
-/
set_option linter.unusedSectionVars false
set_option linter.unusedVariables false
set_option linter.unusedSimpArgs false
namespace Go.Proofs.YtlopgbdfdfijoaaGreatDoor.San
open Go Go.AL
theorem mix3 : Tryz.prog.follows .mixedOrders = true := by kernel_rfl
variable [GLC]
noncomputable def F166 : GF := fun cl ar h => x_arg ar fun v0 ar => x_ar0 ar (
 x_if0 (.bool false)
 (x_conv .u32 v0 fun v1 =>
 x_call cl 273 [v1] h fun v2 h2 =>
 .ret v2 h2)
 (x_call cl 274 [v0] h fun v1 h1 =>
 .ret v1 h1))
def H166 : Hints := []
theorem S166 : SoundF Tryz.prog 166 F166 := kfun_of (fn := Tryz.f166) (n := 8) (np := 1) (hs := H166) (q := [.tmp 2]) (t := (.s .l (.s (.i (.s .l .l) .l) (.s .l .l)))) mix3 (by kernel_rfl) (by kernel_rfl) (by kernel_rfl) (by kernel_rfl) (by kernel_rfl) (by kernel_rfl) (by kernel_rfl) (by kernel_rfl)
noncomputable def F168 : GF := fun cl ar h => x_arg ar fun v0 ar => x_ar0 ar (
 x_call cl 275 [v0] h fun v1 h1 =>
 x_loop (jbad [0,3]) (fun J2 => (fun (v3 v4 : AV) (h5 : KH) =>
 x_call cl 276 [v3,(N .u8 124)] h5 fun v6 h6 =>
 x_if0 v6
 (x_call cl 275 [v3] h6 fun v7 h7 =>
 x_bld ((I 0) :: (rpl 4 (N .u64 0) (rpl 4 (I 0) []))) [.mk 0 1 (I 5),.mk 5 1 v4,.mk 6 1 v7] fun v8 =>
 x_call cl 277 [v3,v8] h7 fun v9 h9 =>
 J2 v3 v9 h9)
 (.ret v4 h6))) v0 v1 h1)
def H168 : Hints := []
theorem S168 : SoundF Tryz.prog 168 F168 := kfun_of (fn := Tryz.f168) (n := 17) (np := 1) (hs := H168) (q := [.tmp 2]) (t := (.s .l (.s .l (.s (.i (.j [0,3] (.s (.s .l (.i .l .l)) (.i (.s .l .l) .l)) .l) .l) (.s .l .l))))) mix3 (by kernel_rfl) (by kernel_rfl) (by kernel_rfl) (by kernel_rfl) (by kernel_rfl) (by kernel_rfl) (by kernel_rfl) (by kernel_rfl)
noncomputable def F170 : GF := fun cl ar h => x_arg ar fun v0 ar => x_ar0 ar (
 x_len v0 fun v1 =>
 x_bin .gtr v1 (I 200) fun v2 =>
 x_if0 v2
 (.ret (I 2) h)
 (x_len v0 fun v3 =>
 x_eql v3 (I 0) fun v4 =>
 x_if0 v4
 (.ret (I 1) h)
 (x_len v0 fun v5 =>
 x_mks 8 [(I 0)] v5 v5 h fun v6 h6 =>
 x_len v0 fun v7 =>
 x_loop (jbad [0,3,20,21,22]) (fun J8 => (fun (v9 v10 v11 v12 v13 : AV) (h14 : KH) =>
 x_lss v13 v12 fun v15 =>
 x_if0 v15
 (x_ixS 9 v11 v13 fun v16 =>
 x_ld (some 9) v16 h14 fun v17 =>
 x_nw ((I 0) :: (rpl 4 (N .u64 0) (rpl 4 (I 0) []))) p0 h14 fun v18 h18 =>
 x_st 9 v18 v17 h18 fun h19 =>
 x_ld (some 9) v18 h19 fun v20 =>
 x_call cl 278 [v20,v13] h19 fun v21 h21 =>
 x_neq v21 (I 0) fun v22 =>
 x_if0 v22
 (.ret v21 h21)
 (x_fa 0 v18 fun v23 =>
 x_ld none v23 h21 fun v24 =>
 x_call cl 279 [v24] h21 fun v25 h25 =>
 x_bin .gtr v25 (I 0) fun v26 =>
 x_if v26 (fun (v27 v28 v29 v30 v31 v32 : AV) (h33 : KH) =>
 x_fa 0 v29 fun v34 =>
 x_ld none v34 h33 fun v35 =>
 x_call cl 279 [v35] h33 fun v36 h36 =>
 x_bin .gtr v36 (I 1) fun v37 =>
 x_if v37 (fun (v38 v39 v40 v41 v42 : AV) (h43 : KH) =>
 x_add v42 (I 1) fun v44 =>
 J8 v38 v39 v40 v41 v44 h43)
 (fun J38 => x_fa 6 v29 fun v39 =>
 x_ld none v39 h36 fun v40 =>
 x_ixS 1 v28 v40 fun v41 =>
 x_ld none v41 h36 fun v42 =>
 x_add v42 (I 1) fun v43 =>
 x_ixS 1 v28 v40 fun v44 =>
 x_st 1 v44 v43 h36 fun h45 =>
 J38 v27 v28 v30 v31 v32 h45)
 (fun J38 => J38 v27 v28 v30 v31 v32 h36))
 (fun J27 => x_fa 5 v18 fun v28 =>
 x_ld none v28 h25 fun v29 =>
 x_ixS 1 v10 v29 fun v30 =>
 x_ld none v30 h25 fun v31 =>
 x_add v31 (I 1) fun v32 =>
 x_ixS 1 v10 v29 fun v33 =>
 x_st 1 v33 v32 h25 fun h34 =>
 J27 v9 v10 v18 v11 v12 v13 h34)
 (fun J27 => J27 v9 v10 v18 v11 v12 v13 h25)))
 (x_len v9 fun v16 =>
 x_bin .sub v16 (I 1) fun v17 =>
 x_pu (.sliceS 1 (.cst v10) none (some (.cst v17)) none) fun v18 =>
 x_len v18 fun v19 =>
 x_loop (jbad [60,61,62]) (fun J20 => (fun (v21 v22 v23 : AV) (h24 : KH) =>
 x_lss v23 v22 fun v25 =>
 x_if0 v25
 (x_ixS 1 v21 v23 fun v26 =>
 x_ld none v26 h24 fun v27 =>
 x_neq v27 (I 1) fun v28 =>
 x_if0 v28
 (.ret (I 1) h24)
 (x_add v23 (I 1) fun v29 =>
 J20 v21 v22 v29 h24))
 (.ret (I 0) h24))) v18 v19 (I 0) h14))) v0 v6 v0 v7 (I 0) h6)))
def H170 : Hints := []
theorem S170 : SoundF Tryz.prog 170 F170 := kfun_of (fn := Tryz.f170) (n := 69) (np := 1) (hs := H170) (q := [.tmp 2]) (t := (.s .l (.s (.i (.s .l (.i (.s .l .l) (.s .l (.i (.s .l .l) .l)))) .l) (.s .l (.s (.s .l (.i (.j [0,3,20,21,22] (.s .l (.s (.i .l .l) (.s (.i (.s .l (.s (.s .l (.s .l (.i (.s .l .l) .l))) (.s (.s .l (.j [0,3,5,20,21,22] .l .l)) (.s .l (.j [0,3,20,21,22] .l .l))))) .l) .l))) .l) .l)) (.s (.s .l (.i (.j [60,61,62] (.s .l (.s (.i .l .l) (.s (.i (.s .l (.s .l (.i (.s .l .l) .l))) .l) .l))) .l) .l)) (.s .l .l))))))) mix3 (by kernel_rfl) (by kernel_rfl) (by kernel_rfl) (by kernel_rfl) (by kernel_rfl) (by kernel_rfl) (by kernel_rfl) (by kernel_rfl)
noncomputable def F171 : GF := fun cl ar h => x_arg ar fun v0 ar => x_arg ar fun v1 ar => x_ar0 ar (
 x_bx v0 h fun v2 h2 =>
 x_nw [.nils,.nils,.nils] p0 h2 fun v3 h3 =>
 x_fa 0 v2 fun v4 =>
 x_ld none v4 h3 fun v5 =>
 x_eql v5 (I 1) fun v6 =>
 x_if0 v6
 (x_call cl 280 [] h3 fun v7 h7 =>
 x_ext 0 v7 fun v8 =>
 x_ext 1 v7 fun v9 =>
 x_st 3 v3 v8 h7 fun h10 =>
 x_ld (some 3) v3 h10 fun v11 =>
 .ret (.tup [v11,v9]) h10)
 (x_eql v5 (I 2) fun v7 =>
 x_if0 v7
 (x_call cl 281 [.nils] h3 fun v8 h8 =>
 x_ext 0 v8 fun v9 =>
 x_ext 1 v8 fun v10 =>
 x_st 3 v3 v9 h8 fun h11 =>
 x_ld (some 3) v3 h11 fun v12 =>
 .ret (.tup [v12,v10]) h11)
 (x_eql v5 (I 3) fun v8 =>
 x_if0 v8
 (x_fa 1 v2 fun v9 =>
 x_ld (some 4) v9 h3 fun v10 =>
 x_call cl 282 [v10] h3 fun v11 h11 =>
 x_ext 0 v11 fun v12 =>
 x_ext 1 v11 fun v13 =>
 x_st 3 v3 v12 h11 fun h14 =>
 x_ld (some 3) v3 h14 fun v15 =>
 .ret (.tup [v15,v13]) h14)
 (x_eql v5 (I 4) fun v9 =>
 x_if0 v9
 (x_fa 5 v2 fun v10 =>
 x_ld none v10 h3 fun v11 =>
 x_ixS 3 v1 v11 fun v12 =>
 x_ld (some 3) v12 h3 fun v13 =>
 x_fa 6 v2 fun v14 =>
 x_ld none v14 h3 fun v15 =>
 x_ixS 3 v1 v15 fun v16 =>
 x_ld (some 3) v16 h3 fun v17 =>
 x_call cl 283 [v13,v17] h3 fun v18 h18 =>
 x_ext 0 v18 fun v19 =>
 x_ext 1 v18 fun v20 =>
 x_st 3 v3 v19 h18 fun h21 =>
 x_ld (some 3) v3 h21 fun v22 =>
 .ret (.tup [v22,v20]) h21)
 (x_eql v5 (I 5) fun v10 =>
 x_if0 v10
 (x_fa 5 v2 fun v11 =>
 x_ld none v11 h3 fun v12 =>
 x_ixS 3 v1 v12 fun v13 =>
 x_ld (some 3) v13 h3 fun v14 =>
 x_fa 6 v2 fun v15 =>
 x_ld none v15 h3 fun v16 =>
 x_ixS 3 v1 v16 fun v17 =>
 x_ld (some 3) v17 h3 fun v18 =>
 x_call cl 284 [v14,v18] h3 fun v19 h19 =>
 x_ext 0 v19 fun v20 =>
 x_ext 1 v19 fun v21 =>
 x_st 3 v3 v20 h19 fun h22 =>
 x_ld (some 3) v3 h22 fun v23 =>
 .ret (.tup [v23,v21]) h22)
 (x_eql v5 (I 6) fun v11 =>
 x_if0 v11
 (x_fa 5 v2 fun v12 =>
 x_ld none v12 h3 fun v13 =>
 x_ixS 3 v1 v13 fun v14 =>
 x_ld (some 3) v14 h3 fun v15 =>
 x_fa 6 v2 fun v16 =>
 x_ld none v16 h3 fun v17 =>
 x_ixS 3 v1 v17 fun v18 =>
 x_ld (some 3) v18 h3 fun v19 =>
 x_call cl 285 [v15,v19] h3 fun v20 h20 =>
 x_ext 0 v20 fun v21 =>
 x_ext 1 v20 fun v22 =>
 x_st 3 v3 v21 h20 fun h23 =>
 x_ld (some 3) v3 h23 fun v24 =>
 .ret (.tup [v24,v22]) h23)
 (x_eql v5 (I 7) fun v12 =>
 x_if0 v12
 (x_fa 5 v2 fun v13 =>
 x_ld none v13 h3 fun v14 =>
 x_ixS 3 v1 v14 fun v15 =>
 x_ld (some 3) v15 h3 fun v16 =>
 x_call cl 286 [v16] h3 fun v17 h17 =>
 x_ext 0 v17 fun v18 =>
 x_ext 1 v17 fun v19 =>
 x_st 3 v3 v18 h17 fun h20 =>
 x_ld (some 3) v3 h20 fun v21 =>
 .ret (.tup [v21,v19]) h20)
 (x_fa 5 v2 fun v13 =>
 x_ld none v13 h3 fun v14 =>
 x_ixS 3 v1 v14 fun v15 =>
 x_ld (some 3) v15 h3 fun v16 =>
 x_fa 7 v2 fun v17 =>
 x_ld none v17 h3 fun v18 =>
 x_fa 8 v2 fun v19 =>
 x_ld none v19 h3 fun v20 =>
 x_call cl 287 [v16,v18,v20] h3 fun v21 h21 =>
 x_ext 0 v21 fun v22 =>
 x_ext 1 v21 fun v23 =>
 x_st 3 v3 v22 h21 fun h24 =>
 x_ld (some 3) v3 h24 fun v25 =>
 .ret (.tup [v25,v23]) h24))))))))
def H171 : Hints := [(9,[(0,0,[],false),(1,0,[],false),(2,2,[],false),(3,7,[],false),(4,15,[],false),(5,0,[],false),(6,0,[],false),(7,64,[],false),(8,224,[],false),(9,480,[],false),(10,1023,[],true),(11,2047,[],false),(12,2047,[],false),(13,8191,[],true),(14,16383,[],false)]),(11,[(0,0,[],false),(1,0,[],false),(2,2,[],false),(3,7,[],false),(4,15,[],false),(5,0,[],false),(6,0,[],false),(7,64,[],false),(8,224,[],false),(9,480,[],false),(10,1023,[],true),(11,2047,[],false),(12,2047,[],false),(13,8191,[],true),(14,16383,[],false)]),(13,[(0,0,[],false),(1,0,[],false),(2,2,[],false),(3,7,[],false),(4,15,[],false),(5,0,[],false),(6,0,[],false),(7,64,[],false),(8,224,[],false),(9,480,[],false),(10,1023,[],true),(11,2047,[],false),(12,2047,[],false),(13,8191,[],true),(14,16383,[],false)]),(16,[(0,0,[],false),(1,0,[],false),(2,2,[],false),(3,7,[],false),(4,15,[],false),(5,0,[],false),(6,32,[],false),(7,0,[],false),(8,128,[],false),(9,511,[],true),(10,1023,[],false),(11,1023,[],false),(12,4095,[],true),(13,8191,[],false)])]
theorem S171 : SoundF Tryz.prog 171 F171 := kfun_of (fn := Tryz.f171) (n := 92) (np := 2) (hs := H171) (q := [.cell 4 (some 3),.tmp 5]) (t := (.s .l (.s (.s .l (.i (.s .l (.i (.s .l .l) (.s .l (.i (.s .l .l) (.s .l (.i (.s .l .l) (.s .l (.i (.s .l .l) (.s .l (.i (.s .l .l) (.s .l (.i (.s .l .l) (.s .l (.i (.s .l .l) .l)))))))))))))) .l)) (.s .l .l)))) mix3 (by kernel_rfl) (by kernel_rfl) (by kernel_rfl) (by kernel_rfl) (by kernel_rfl) (by kernel_rfl) (by kernel_rfl) (by kernel_rfl)
noncomputable def F172 : GF := fun cl ar h => x_arg ar fun v0 ar => x_arg ar fun v1 ar => x_ar0 ar (
 x_call cl 288 [v0,v1] h fun v2 h2 =>
 .ret v2 h2)
def H172 : Hints := []
theorem S172 : SoundF Tryz.prog 172 F172 := kfun_of (fn := Tryz.f172) (n := 8) (np := 2) (hs := H172) (q := [.tmp 4]) (t := (.s .l (.s .l .l))) mix3 (by kernel_rfl) (by kernel_rfl) (by kernel_rfl) (by kernel_rfl) (by kernel_rfl) (by kernel_rfl) (by kernel_rfl) (by kernel_rfl)
noncomputable def F173 : GF := fun cl ar h => x_arg ar fun v0 ar => x_ar0 ar (
 x_bin .gtr v0 (I 8) fun v1 =>
 .ret v1 h)
def H173 : Hints := []
theorem S173 : SoundF Tryz.prog 173 F173 := kfun_of (fn := Tryz.f173) (n := 5) (np := 1) (hs := H173) (q := [.tmp 2]) (t := (.s .l (.s .l .l))) mix3 (by kernel_rfl) (by kernel_rfl) (by kernel_rfl) (by kernel_rfl) (by kernel_rfl) (by kernel_rfl) (by kernel_rfl) (by kernel_rfl)
noncomputable def F174 : GF := fun cl ar h => x_arg ar fun v0 ar => x_ar0 ar (
 x_bx v0 h fun v1 h1 =>
 x_ld (some 4) v1 h1 fun v2 =>
 x_loop (jbad [3,6,7]) (fun J3 => (fun (v4 v5 v6 : AV) (h7 : KH) =>
 x_lss v6 (I 4) fun v8 =>
 x_if0 v8
 (x_pu (.indexA 4 1 none (.cst v5) (.cst v6)) fun v9 =>
 x_call cl 289 [v9] h7 fun v10 h10 =>
 x_add v4 v10 fun v11 =>
 x_add v6 (I 1) fun v12 =>
 J3 v11 v5 v12 h10)
 (.ret v4 h7))) (I 0) v2 (I 0) h1)
def H174 : Hints := []
theorem S174 : SoundF Tryz.prog 174 F174 := kfun_of (fn := Tryz.f174) (n := 16) (np := 1) (hs := H174) (q := [.tmp 2]) (t := (.s .l (.s .l (.s (.s .l (.i (.j [3,6,7] (.s .l (.s (.i .l .l) (.s (.i (.s .l .l) .l) .l))) .l) .l)) (.s .l .l))))) mix3 (by kernel_rfl) (by kernel_rfl) (by kernel_rfl) (by kernel_rfl) (by kernel_rfl) (by kernel_rfl) (by kernel_rfl) (by kernel_rfl)
noncomputable def F175 : GF := fun cl ar h => x_arg ar fun v0 ar => x_arg ar fun v1 ar => x_ar0 ar (
 x_bx v0 h fun v2 h2 =>
 x_bx v1 h2 fun v3 h3 =>
 x_nw (rpl 4 (N .u64 0) []) p0 h3 fun v4 h4 =>
 x_ld (some 4) v2 h4 fun v5 =>
 x_ld (some 4) v3 h4 fun v6 =>
 x_call cl 290 [v5,v6,(.fn (.func 291) [] [])] h4 fun v7 h7 =>
 x_st 4 v4 v7 h7 fun h8 =>
 x_ld (some 4) v4 h8 fun v9 =>
 .ret v9 h8)
def H175 : Hints := []
theorem S175 : SoundF Tryz.prog 175 F175 := kfun_of (fn := Tryz.f175) (n := 8) (np := 2) (hs := H175) (q := [.cell 4 (some 4)]) (t := (.s .l (.s .l .l))) mix3 (by kernel_rfl) (by kernel_rfl) (by kernel_rfl) (by kernel_rfl) (by kernel_rfl) (by kernel_rfl) (by kernel_rfl) (by kernel_rfl)
noncomputable def F177 : GF := fun cl ar h => x_arg ar fun v0 ar => x_arg ar fun v1 ar => x_ar0 ar (
 x_bx v0 h fun v2 h2 =>
 x_bin .quo v1 (N .u8 64) fun v3 =>
 x_ixA 4 1 v2 v3 fun v4 =>
 x_ld none v4 h2 fun v5 =>
 x_bin .rem v1 (N .u8 64) fun v6 =>
 x_bin .shl (N .u64 1) v6 fun v7 =>
 x_bin .and v5 v7 fun v8 =>
 x_neq v8 (N .u64 0) fun v9 =>
 .ret v9 h2)
def H177 : Hints := []
theorem S177 : SoundF Tryz.prog 177 F177 := kfun_of (fn := Tryz.f177) (n := 14) (np := 2) (hs := H177) (q := [.tmp 4]) (t := (.s .l (.s .l .l))) mix3 (by kernel_rfl) (by kernel_rfl) (by kernel_rfl) (by kernel_rfl) (by kernel_rfl) (by kernel_rfl) (by kernel_rfl) (by kernel_rfl)
noncomputable def F187 : GF := fun cl ar h => x_arg ar fun v0 ar => x_arg ar fun v1 ar => x_ar0 ar (
 x_lss v1 (I 0) fun v2 =>
 x_if0 v2
 (x_pan (.ifc 9 (.str [99,97,110,110,111,116,32,98,101,32,110,101,103,97,116,105,118,101])) h)
 (x_pu (.cap (.cst v0)) fun v3 =>
 x_len v0 fun v4 =>
 x_bin .sub v3 v4 fun v5 =>
 x_bin .sub v1 v5 fun v6 =>
 x_bin .gtr v6 (I 0) fun v7 =>
 x_if v7 (fun (v8 : AV) (h9 : KH) =>
 .ret v8 h9)
 (fun J8 => x_pu (.cap (.cst v0)) fun v9 =>
 x_pu (.sliceS 1 (.cst v0) none (some (.cst v9)) none) fun v10 =>
 x_k (.appendZ 1 1 [(N .u8 0)] (.cst v10) (.cst v6)) h fun v11 h11 =>
 x_len v0 fun v12 =>
 x_pu (.sliceS 1 (.cst v11) none (some (.cst v12)) none) fun v13 =>
 J8 v13 h11)
 (fun J8 => J8 v0 h)))
def H187 : Hints := []
theorem S187 : SoundF Tryz.prog 187 F187 := kfun_of (fn := Tryz.f187) (n := 27) (np := 2) (hs := H187) (q := [.tmp 4]) (t := (.s .l (.s (.s .l (.i .l .l)) (.s (.s .l (.s .l (.j [0] .l .l))) (.s .l .l))))) mix3 (by kernel_rfl) (by kernel_rfl) (by kernel_rfl) (by kernel_rfl) (by kernel_rfl) (by kernel_rfl) (by kernel_rfl) (by kernel_rfl)
noncomputable def F188 : GF := fun cl ar h => x_arg ar fun v0 ar => x_arg ar fun v1 ar => x_arg ar fun v2 ar => x_arg ar fun v3 ar => x_ar0 ar (
 x_loop (jbad [0,1,2,3,8,9]) (fun J4 => (fun (v5 v6 v7 v8 v9 v10 : AV) (h11 : KH) =>
 x_bin .sub v7 v6 fun v12 =>
 x_leq v12 (I 12) fun v13 =>
 x_if0 v13
 (x_call cl 328 [v5,v6,v7] h11 fun v14 h14 =>
 .ret (.tup []) h14)
 (x_eql v8 (I 0) fun v14 =>
 x_if0 v14
 (x_call cl 329 [v5,v6,v7] h11 fun v15 h15 =>
 .ret (.tup []) h15)
 (x_un .not v9 fun v15 =>
 x_if v15 (fun (v16 v17 v18 v19 v20 v21 v22 : AV) (h23 : KH) =>
 x_call cl 331 [v16,v17,v18] h23 fun v24 h24 =>
 x_ext 0 v24 fun v25 =>
 x_ext 1 v24 fun v26 =>
 x_eql v26 (I 2) fun v27 =>
 x_if v27 (fun (v28 v29 v30 v31 v32 v33 v34 v35 v36 : AV) (h37 : KH) =>
 x_grp true v32 (fun (v38 : AV) (h39 : KH) =>
 x_pick v32 v38 (.bool false) fun v40 =>
 x_grp true v40 (fun (v41 v42 : AV) (h43 : KH) =>
 x_pick v40 v42 (.bool false) fun v44 =>
 x_if v44 (fun (v45 v46 v47 v48 v49 v50 v51 v52 : AV) (h53 : KH) =>
 x_bin .gtr v46 (I 0) fun v54 =>
 x_grp true v54 (fun (v55 v56 v57 v58 v59 v60 v61 v62 v63 v64 v65 : AV) (h66 : KH) =>
 x_pick v54 v65 (.bool false) fun v67 =>
 x_if0 v67
 (x_call cl 335 [v45,v46,v47,v52] h66 fun v68 h68 =>
 J4 v45 v68 v47 v48 v49 v50 h68)
 (x_call cl 336 [v45,v46,v47,v52] h66 fun v68 h68 =>
 x_ext 0 v68 fun v69 =>
 x_ext 1 v68 fun v70 =>
 x_bin .sub v69 v46 fun v71 =>
 x_bin .sub v47 v69 fun v72 =>
 x_bin .quo v51 (I 8) fun v73 =>
 x_lss v71 v72 fun v74 =>
 x_if0 v74
 (x_bin .geq v71 v73 fun v75 =>
 x_call cl 188 [v45,v46,v69,v48] h68 fun v76 h76 =>
 x_add v69 (I 1) fun v77 =>
 J4 v45 v77 v47 v48 v75 v70 h76)
 (x_bin .geq v72 v73 fun v75 =>
 x_add v69 (I 1) fun v76 =>
 x_call cl 188 [v45,v76,v47,v48] h68 fun v77 h77 =>
 J4 v45 v46 v69 v48 v75 v70 h77))) (fun J55 =>
 x_bin .sub v46 (I 1) fun v56 =>
 x_ixS 1 v45 v56 fun v57 =>
 x_ld none v57 h53 fun v58 =>
 x_ixS 1 v45 v52 fun v59 =>
 x_ld none v59 h53 fun v60 =>
 x_call cl 334 [v58,v60] h53 fun v61 h61 =>
 x_un .not v61 fun v62 =>
 J55 v45 v46 v56 v57 v58 v45 v52 v59 v60 v61 v62 h61) (fun J55 => J55 aud aud aud aud aud aud aud aud aud aud aud h53))
 (fun J45 => x_call cl 333 [v28,v29,v30] h43 fun v46 h46 =>
 x_if0 v46
 (.ret (.tup []) h46)
 (J45 v28 v29 v30 v31 v32 v33 v34 v35 h46))
 (fun J45 => J45 v28 v29 v30 v31 v32 v33 v34 v35 h43)) (fun J41 =>
 x_eql v36 (I 1) fun v42 =>
 J41 v36 v42 h39) (fun J41 => J41 aud aud h39)) (fun J38 =>
 J38 v33 h37) (fun J38 => J38 aud h37))
 (fun J28 => x_call cl 332 [v16,v17,v18] h24 fun v29 h29 =>
 x_bin .sub v18 (I 1) fun v30 =>
 x_bin .sub v25 v17 fun v31 =>
 x_bin .sub v30 v31 fun v32 =>
 J28 v16 v17 v18 v19 v20 v21 v22 v32 (I 1) h29)
 (fun J28 => J28 v16 v17 v18 v19 v20 v21 v22 v25 v26 h24))
 (fun J16 => x_call cl 330 [v5,v6,v7] h11 fun v17 h17 =>
 x_bin .sub v8 (I 1) fun v18 =>
 J16 v5 v6 v7 v18 v9 v10 v12 h17)
 (fun J16 => J16 v5 v6 v7 v8 v9 v10 v12 h11))))) v0 v1 v2 v3 (.bool true) (.bool true) h)
def H188 : Hints := [(17,[(0,0,[],false),(1,1,[],false),(2,3,[],false),(3,7,[],false),(4,7,[],false),(5,23,[],false),(6,63,[],false),(7,127,[],false),(8,7,[],false),(9,7,[],false),(10,775,[],false),(11,1799,[],false),(12,4095,[],true),(13,8191,[],false),(14,16383,[],false)])]
theorem S188 : SoundF Tryz.prog 188 F188 := kfun_of (fn := Tryz.f188) (n := 134) (np := 4) (hs := H188) (q := []) (t := (.s .l (.s .l (.i (.j [0,1,2,3,8,9] (.i (.s .l (.s (.s .l (.i (.s .l .l) .l)) (.s (.s .l (.i (.s .l .l) .l)) (.s (.s .l (.j [0,1,2,3,8,9,10] (.s .l .l) .l)) (.s .l (.s (.s .l (.j [0,1,2,3,8,9,10,11,12] (.s .l (.s .l .l)) .l)) (.s (.s .l (.j [0,1,2,3,8,9,10,11] (.s .l (.i .l .l)) .l)) (.s (.s .l (.i (.s .l (.s .l .l)) .l)) (.s .l (.s .l (.s .l (.s .l (.s .l (.i (.s .l (.s .l .l)) (.s .l (.s .l .l)))))))))))))))) .l) .l) .l)))) mix3 (by kernel_rfl) (by kernel_rfl) (by kernel_rfl) (by kernel_rfl) (by kernel_rfl) (by kernel_rfl) (by kernel_rfl) (by kernel_rfl)
noncomputable def F189 : GF := fun cl ar h => x_arg ar fun v0 ar => x_arg ar fun v1 ar => x_ar0 ar (
 x_lss v1 (I 0) fun v2 =>
 x_if0 v2
 (x_pan (.ifc 9 (.str [99,97,110,110,111,116,32,98,101,32,110,101,103,97,116,105,118,101])) h)
 (x_pu (.cap (.cst v0)) fun v3 =>
 x_len v0 fun v4 =>
 x_bin .sub v3 v4 fun v5 =>
 x_bin .sub v1 v5 fun v6 =>
 x_bin .gtr v6 (I 0) fun v7 =>
 x_if v7 (fun (v8 : AV) (h9 : KH) =>
 .ret v8 h9)
 (fun J8 => x_pu (.cap (.cst v0)) fun v9 =>
 x_pu (.sliceS 1 (.cst v0) none (some (.cst v9)) none) fun v10 =>
 x_k (.appendZ 1 8 [(I 0)] (.cst v10) (.cst v6)) h fun v11 h11 =>
 x_len v0 fun v12 =>
 x_pu (.sliceS 1 (.cst v11) none (some (.cst v12)) none) fun v13 =>
 J8 v13 h11)
 (fun J8 => J8 v0 h)))
def H189 : Hints := []
theorem S189 : SoundF Tryz.prog 189 F189 := kfun_of (fn := Tryz.f189) (n := 27) (np := 2) (hs := H189) (q := [.tmp 4]) (t := (.s .l (.s (.s .l (.i .l .l)) (.s (.s .l (.s .l (.j [0] .l .l))) (.s .l .l))))) mix3 (by kernel_rfl) (by kernel_rfl) (by kernel_rfl) (by kernel_rfl) (by kernel_rfl) (by kernel_rfl) (by kernel_rfl) (by kernel_rfl)
noncomputable def F190 : GF := fun cl ar h => x_arg ar fun v0 ar => x_arg ar fun v1 ar => x_ar0 ar (
 x_bx v1 h fun v2 h2 =>
 x_len v0 fun v3 =>
 x_leq v3 (I 24) fun v4 =>
 x_grp true v4 (fun (v5 v6 v7 v8 : AV) (h9 : KH) =>
 x_pick v4 v8 (.bool false) fun v10 =>
 .ret v10 h9) (fun J5 =>
 x_call cl 337 [v0,(.fn (.func 338) [] [v2])] h2 fun v6 h6 =>
 x_un .not v6 fun v7 =>
 J5 v0 (.fn (.func 338) [] [v2]) v6 v7 h6) (fun J5 => J5 aud aud aud aud h2))
def H190 : Hints := []
theorem S190 : SoundF Tryz.prog 190 F190 := kfun_of (fn := Tryz.f190) (n := 14) (np := 2) (hs := H190) (q := [.tmp 4]) (t := (.s .l (.s .l .l))) mix3 (by kernel_rfl) (by kernel_rfl) (by kernel_rfl) (by kernel_rfl) (by kernel_rfl) (by kernel_rfl) (by kernel_rfl) (by kernel_rfl)
noncomputable def F191 : GF := fun cl ar h => x_arg ar fun v0 ar => x_ar0 ar (
 x_bx v0 h fun v1 h1 =>
 x_fa 0 v1 fun v2 =>
 x_ld none v2 h1 fun v3 =>
 x_len v3 fun v4 =>
 x_fa 1 v1 fun v5 =>
 x_ld none v5 h1 fun v6 =>
 x_len v6 fun v7 =>
 x_add v4 v7 fun v8 =>
 x_fa 2 v1 fun v9 =>
 x_ld none v9 h1 fun v10 =>
 x_len v10 fun v11 =>
 x_add v8 v11 fun v12 =>
 x_eql v12 (I 0) fun v13 =>
 .ret v13 h1)
def H191 : Hints := []
theorem S191 : SoundF Tryz.prog 191 F191 := kfun_of (fn := Tryz.f191) (n := 15) (np := 1) (hs := H191) (q := [.tmp 2]) (t := (.s .l (.s .l .l))) mix3 (by kernel_rfl) (by kernel_rfl) (by kernel_rfl) (by kernel_rfl) (by kernel_rfl) (by kernel_rfl) (by kernel_rfl) (by kernel_rfl)
noncomputable def F192 : GF := fun cl ar h => x_arg ar fun v0 ar => x_ar0 ar (
 x_bx v0 h fun v1 h1 =>
 x_fa 0 v1 fun v2 =>
 x_ld none v2 h1 fun v3 =>
 x_len v3 fun v4 =>
 x_eql v4 (I 0) fun v5 =>
 x_grp true v5 (fun (v6 v7 v8 : AV) (h9 : KH) =>
 x_pick v5 v8 (.bool false) fun v10 =>
 .ret v10 h9) (fun J6 =>
 x_fa 1 v1 fun v7 =>
 x_ld none v7 h1 fun v8 =>
 x_eql v8 (I 0) fun v9 =>
 J6 v7 v8 v9 h1) (fun J6 => J6 aud aud aud h1))
def H192 : Hints := []
theorem S192 : SoundF Tryz.prog 192 F192 := kfun_of (fn := Tryz.f192) (n := 12) (np := 1) (hs := H192) (q := [.tmp 2]) (t := (.s .l (.s .l .l))) mix3 (by kernel_rfl) (by kernel_rfl) (by kernel_rfl) (by kernel_rfl) (by kernel_rfl) (by kernel_rfl) (by kernel_rfl) (by kernel_rfl)
noncomputable def F193 : GF := fun cl ar h => x_arg ar fun v0 ar => x_ar0 ar (
 x_bx v0 h fun v1 h1 =>
 x_fa 0 v1 fun v2 =>
 x_ld none v2 h1 fun v3 =>
 x_len v3 fun v4 =>
 x_fa 1 v1 fun v5 =>
 x_ld none v5 h1 fun v6 =>
 x_len v6 fun v7 =>
 x_add v4 v7 fun v8 =>
 x_fa 2 v1 fun v9 =>
 x_ld none v9 h1 fun v10 =>
 x_len v10 fun v11 =>
 x_add v8 v11 fun v12 =>
 x_fa 3 v1 fun v13 =>
 x_ld none v13 h1 fun v14 =>
 x_len v14 fun v15 =>
 x_add v12 v15 fun v16 =>
 x_eql v16 (I 0) fun v17 =>
 .ret v17 h1)
def H193 : Hints := []
theorem S193 : SoundF Tryz.prog 193 F193 := kfun_of (fn := Tryz.f193) (n := 19) (np := 1) (hs := H193) (q := [.tmp 2]) (t := (.s .l (.s .l .l))) mix3 (by kernel_rfl) (by kernel_rfl) (by kernel_rfl) (by kernel_rfl) (by kernel_rfl) (by kernel_rfl) (by kernel_rfl) (by kernel_rfl)
noncomputable def F194 : GF := fun cl ar h => x_arg ar fun v0 ar => x_ar0 ar (
 x_bx v0 h fun v1 h1 =>
 x_fa 1 v1 fun v2 =>
 x_ld none v2 h1 fun v3 =>
 x_len v3 fun v4 =>
 x_lss v4 (I 1) fun v5 =>
 x_grp false v5 (fun (v6 v7 : AV) (h8 : KH) =>
 x_pick v5 (.bool true) v7 fun v9 =>
 x_grp false v9 (fun (v10 v11 v12 v13 v14 : AV) (h15 : KH) =>
 x_pick v9 (.bool true) v14 fun v16 =>
 x_grp false v16 (fun (v17 v18 v19 v20 : AV) (h21 : KH) =>
 x_pick v16 (.bool true) v20 fun v22 =>
 x_grp false v22 (fun (v23 v24 v25 v26 : AV) (h27 : KH) =>
 x_pick v22 (.bool true) v26 fun v28 =>
 x_if0 v28
 (.ret (.bool false) h27)
 (x_nw (rpl 4 (N .u64 0) []) p0 h27 fun v29 h29 =>
 x_fa 0 v1 fun v30 =>
 x_ld none v30 h29 fun v31 =>
 x_len v31 fun v32 =>
 x_loop (jbad [1,3,4,40,41,42]) (fun J33 => (fun (v34 v35 v36 v37 v38 v39 : AV) (h40 : KH) =>
 x_lss v39 v38 fun v41 =>
 x_if0 v41
 (x_ixS 4 v37 v39 fun v42 =>
 x_ld (some 4) v42 h40 fun v43 =>
 x_nw (rpl 4 (N .u64 0) []) p0 h40 fun v44 h44 =>
 x_st 4 v44 v43 h44 fun h45 =>
 x_ld (some 4) v44 h45 fun v46 =>
 x_bld (rpl 4 (N .u64 0) []) [] fun v47 =>
 x_pu (.eq false (.wide (true,[(.i .u64),(.i .u64),(.i .u64),(.i .u64)])) (.cst v46) (.cst v47)) fun v48 =>
 x_grp false v48 (fun (v49 v50 v51 v52 v53 : AV) (h54 : KH) =>
 x_pick v48 (.bool true) v53 fun v55 =>
 x_if0 v55
 (.ret (.bool false) h54)
 (x_ld (some 4) v36 h54 fun v56 =>
 x_ld (some 4) v44 h54 fun v57 =>
 x_call cl 175 [v56,v57] h54 fun v58 h58 =>
 x_st 4 v36 v58 h58 fun h59 =>
 x_add v39 (I 1) fun v60 =>
 J33 v34 v35 v36 v37 v38 v60 h59)) (fun J49 =>
 x_ld (some 4) v36 h45 fun v50 =>
 x_ld (some 4) v44 h45 fun v51 =>
 x_call cl 339 [v50,v51] h45 fun v52 h52 =>
 x_bld (rpl 4 (N .u64 0) []) [] fun v53 =>
 x_pu (.eq true (.wide (true,[(.i .u64),(.i .u64),(.i .u64),(.i .u64)])) (.cst v52) (.cst v53)) fun v54 =>
 J49 v50 v51 v52 v53 v54 h52) (fun J49 => J49 aud aud aud aud aud h45))
 (x_ld (some 4) v36 h40 fun v42 =>
 x_call cl 297 [v42] h40 fun v43 h43 =>
 x_bld (rpl 4 (N .u64 0) []) [] fun v44 =>
 x_pu (.eq true (.wide (true,[(.i .u64),(.i .u64),(.i .u64),(.i .u64)])) (.cst v43) (.cst v44)) fun v45 =>
 x_if0 v45
 (.ret (.bool false) h43)
 (x_fa 1 v34 fun v46 =>
 x_ld none v46 h43 fun v47 =>
 x_len v47 fun v48 =>
 x_loop (jbad [1,3,65,66,67]) (fun J49 => (fun (v50 v51 v52 v53 v54 : AV) (h55 : KH) =>
 x_lss v54 v53 fun v56 =>
 x_if0 v56
 (x_ixS 1 v52 v54 fun v57 =>
 x_ld none v57 h55 fun v58 =>
 x_len v58 fun v59 =>
 x_fa 0 v50 fun v60 =>
 x_ld none v60 h55 fun v61 =>
 x_len v61 fun v62 =>
 x_neq v59 v62 fun v63 =>
 x_if0 v63
 (.ret (.bool false) h55)
 (x_len v58 fun v64 =>
 x_loop (jbad [1,3,65,66,67,77,78,79]) (fun J65 => (fun (v66 v67 v68 v69 v70 v71 v72 v73 : AV) (h74 : KH) =>
 x_lss v73 v72 fun v75 =>
 x_if0 v75
 (x_ixS 1 v71 v73 fun v76 =>
 x_ld none v76 h74 fun v77 =>
 x_lss v77 (I 0) fun v78 =>
 x_grp false v78 (fun (v79 v80 v81 : AV) (h82 : KH) =>
 x_pick v78 (.bool true) v81 fun v83 =>
 x_if0 v83
 (.ret (.bool false) h82)
 (x_add v73 (I 1) fun v84 =>
 J65 v66 v67 v68 v69 v70 v71 v72 v84 h82)) (fun J79 =>
 x_bin .geq v77 v67 fun v80 =>
 J79 v77 v67 v80 h74) (fun J79 => J79 aud aud aud h74))
 (x_add v70 (I 1) fun v76 =>
 J49 v66 v67 v68 v69 v76 h74))) v50 v51 v52 v53 v54 v58 v64 (I 0) h55))
 (.ret (.bool true) h55))) v34 v35 v47 v48 (I 0) h43)))) v1 v4 v29 v31 v32 (I 0) h29)) (fun J23 =>
 x_fa 0 v1 fun v24 =>
 x_ld none v24 h21 fun v25 =>
 x_len v25 fun v26 =>
 x_bin .gtr v26 (I 256) fun v27 =>
 J23 v24 v25 v26 v27 h21) (fun J23 => J23 aud aud aud aud h21)) (fun J17 =>
 x_fa 0 v1 fun v18 =>
 x_ld none v18 h15 fun v19 =>
 x_len v19 fun v20 =>
 x_lss v20 (I 1) fun v21 =>
 J17 v18 v19 v20 v21 h15) (fun J17 => J17 aud aud aud aud h15)) (fun J10 =>
 x_fa 2 v1 fun v11 =>
 x_ld none v11 h8 fun v12 =>
 x_len v12 fun v13 =>
 x_neq v13 v4 fun v14 =>
 J10 v11 v12 v13 v4 v14 h8) (fun J10 => J10 aud aud aud aud aud h8)) (fun J6 =>
 x_bin .gtr v4 (I 64) fun v7 =>
 J6 v4 v7 h1) (fun J6 => J6 aud aud h1))
def H194 : Hints := []
theorem S194 : SoundF Tryz.prog 194 F194 := kfun_of (fn := Tryz.f194) (n := 92) (np := 1) (hs := H194) (q := [.tmp 2]) (t := (.s .l (.s .l (.s (.s .l (.i (.s .l .l) .l)) (.s .l (.s (.s .l (.i (.j [1,3,4,40,41,42] (.s .l (.s (.i .l .l) (.s (.i (.s .l (.s (.s .l (.i (.s .l .l) .l)) .l)) .l) .l))) .l) .l)) (.s (.s .l (.i (.s .l .l) .l)) (.s (.s .l (.i (.j [1,3,65,66,67] (.s .l (.s (.i .l .l) (.s (.i (.s .l (.s (.s .l (.i (.s .l .l) .l)) (.s .l (.i (.j [1,3,65,66,67,77,78,79] (.s .l (.s (.i .l .l) (.s (.i (.s .l (.s .l (.i (.s .l .l) .l))) .l) .l))) .l) .l)))) .l) .l))) .l) .l)) (.s .l .l))))))))) mix3 (by kernel_rfl) (by kernel_rfl) (by kernel_rfl) (by kernel_rfl) (by kernel_rfl) (by kernel_rfl) (by kernel_rfl) (by kernel_rfl)
noncomputable def F208 : GF := fun cl ar h => x_arg ar fun v0 ar => x_ar0 ar (
 x_bld (rpl 4 (N .u64 0) []) [] fun v1 =>
 x_call cl 297 [v1] h fun v2 h2 =>
 x_bsl (rpl 4 (N .u64 0) []) 1 [.mk 0 4 v2] h2 fun v3 h3 =>
 x_len v0 fun v4 =>
 x_loop (jbad [3,14,15,16]) (fun J5 => (fun (v6 v7 v8 v9 : AV) (h10 : KH) =>
 x_lss v9 v8 fun v11 =>
 x_if0 v11
 (x_ixS 4 v7 v9 fun v12 =>
 x_ld (some 4) v12 h10 fun v13 =>
 x_nw (rpl 4 (N .u64 0) []) p0 h10 fun v14 h14 =>
 x_st 4 v14 v13 h14 fun h15 =>
 x_len v6 fun v16 =>
 x_loop (jbad [5,6,14,15,16,20,21,22]) (fun J17 => (fun (v18 v19 v20 v21 v22 v23 v24 v25 : AV) (h26 : KH) =>
 x_lss v25 v24 fun v27 =>
 x_if0 v27
 (x_ixS 4 v23 v25 fun v28 =>
 x_ld (some 4) v28 h26 fun v29 =>
 x_nw (rpl 4 (N .u64 0) []) p0 h26 fun v30 h30 =>
 x_st 4 v30 v29 h30 fun h31 =>
 x_ld (some 4) v30 h31 fun v32 =>
 x_ld (some 4) v18 h31 fun v33 =>
 x_ld (some 4) v30 h31 fun v34 =>
 x_ld (some 4) v18 h31 fun v35 =>
 x_call cl 339 [v32,v33] h31 fun v36 h36 =>
 x_chk (cond (koEq (kload (some 4) v18 h36) v35) (cond (koEq (kload (some 4) v30 h36) v34) true false) false) (x_call cl 348 [v34,v35] h36 fun v37 h37 =>
 x_chk true (x_bld (rpl 8 (N .u64 0) []) [.mk 0 4 v36,.mk 4 4 v37] fun v38 =>
 x_loop (jbad [5,6,14,15,16,20,21,22,32,33]) (fun J39 => (fun (v40 v41 v42 v43 v44 v45 v46 v47 v48 v49 : AV) (h50 : KH) =>
 x_lss v49 (I 2) fun v51 =>
 x_if0 v51
 (x_pu (.indexA 2 4 (some 4) (.cst v48) (.cst v49)) fun v52 =>
 x_nw (rpl 4 (N .u64 0) []) p0 h50 fun v53 h53 =>
 x_st 4 v53 v52 h53 fun h54 =>
 x_ld (some 4) v53 h54 fun v55 =>
 x_bld (rpl 4 (N .u64 0) []) [] fun v56 =>
 x_pu (.eq true (.wide (true,[(.i .u64),(.i .u64),(.i .u64),(.i .u64)])) (.cst v55) (.cst v56)) fun v57 =>
 x_if v57 (fun (v58 v59 v60 v61 v62 v63 v64 v65 v66 v67 : AV) (h68 : KH) =>
 x_add v67 (I 1) fun v69 =>
 J39 v58 v59 v60 v61 v62 v63 v64 v65 v66 v69 h68)
 (fun J58 => x_ld (some 4) v53 h54 fun v59 =>
 x_bsl (rpl 4 (N .u64 0) []) 1 [.mk 0 4 v59] h54 fun v60 h60 =>
 x_app 4 32 v41 v60 h60 fun v61 h61 =>
 J58 v40 v61 v42 v43 v44 v45 v46 v47 v48 v49 h61)
 (fun J58 => J58 v40 v41 v42 v43 v44 v45 v46 v47 v48 v49 h54))
 (x_add v47 (I 1) fun v52 =>
 J17 v40 v41 v42 v43 v44 v45 v46 v52 h50))) v18 v19 v20 v21 v22 v23 v24 v25 v38 (I 0) h37)))
 (x_add v22 (I 1) fun v28 =>
 J5 v19 v20 v21 v28 h26))) v14 .nils v7 v8 v9 v6 v16 (I 0) h15)
 (x_call cl 349 [v6,(.fn (.func 350) [] [])] h10 fun v12 h12 =>
 .ret v6 h12))) v3 v0 v4 (I 0) h3)
def H208 : Hints := [(9,[(0,0,[],false),(1,0,[],false),(3,0,[],false),(4,0,[],false),(7,0,[],false),(2,3,[3,4],true),(5,31,[],true),(6,63,[],false)])]
theorem S208 : SoundF Tryz.prog 208 F208 := kfun_of (fn := Tryz.f208) (n := 50) (np := 1) (hs := H208) (q := [.tmp 2]) (t := (.s .l (.s .l (.s (.s .l (.i (.j [3,14,15,16] (.s .l (.s (.i .l .l) (.s (.i (.s .l (.s .l (.s (.s .l (.i (.j [5,6,14,15,16,20,21,22] (.s .l (.s (.i .l .l) (.s (.i (.s .l (.s .l (.i (.j [5,6,14,15,16,20,21,22,32,33] (.s .l (.s (.i .l .l) (.s (.i (.s .l (.s .l (.j [5,6,14,15,16,20,21,22,32,33] .l .l))) .l) .l))) .l) .l))) .l) .l))) .l) .l)) .l))) .l) .l))) .l) .l)) (.s .l (.s .l .l)))))) mix3 (by kernel_rfl) (by kernel_rfl) (by kernel_rfl) (by kernel_rfl) (by kernel_rfl) (by kernel_rfl) (by kernel_rfl) (by kernel_rfl)
noncomputable def F212 : GF := fun cl ar h => x_arg ar fun v0 ar => x_ar0 ar (
 x_bx v0 h fun v1 h1 =>
 x_nw [.nils,.nils,.nils] p0 h1 fun v2 h2 =>
 x_ld (some 3) v1 h2 fun v3 =>
 x_call cl 194 [v3] h2 fun v4 h4 =>
 x_un .not v4 fun v5 =>
 x_if0 v5
 (x_bld [.nils,.nils,.nils] [] fun v6 =>
 x_st 3 v2 v6 h4 fun h7 =>
 x_ld (some 3) v2 h7 fun v8 =>
 .ret (.tup [v8,(I 1)]) h7)
 (x_ld (some 3) v1 h4 fun v6 =>
 x_call cl 351 [v6] h4 fun v7 h7 =>
 x_call cl 352 [v7] h7 fun v8 h8 =>
 x_st 3 v2 v8 h8 fun h9 =>
 x_ld (some 3) v2 h9 fun v10 =>
 .ret (.tup [v10,(I 0)]) h9))
def H212 : Hints := []
theorem S212 : SoundF Tryz.prog 212 F212 := kfun_of (fn := Tryz.f212) (n := 11) (np := 1) (hs := H212) (q := [.cell 2 (some 3),.tmp 3]) (t := (.s .l (.s (.s .l (.i (.s .l .l) .l)) (.s .l .l)))) mix3 (by kernel_rfl) (by kernel_rfl) (by kernel_rfl) (by kernel_rfl) (by kernel_rfl) (by kernel_rfl) (by kernel_rfl) (by kernel_rfl)
noncomputable def F258 : GF := fun cl ar h => x_arg ar fun v0 ar => x_ar0 ar (
 x_bx v0 h fun v1 h1 =>
 x_ld (some 33) v1 h1 fun v2 =>
 x_call cl 409 [v2] h1 fun v3 h3 =>
 x_un .not v3 fun v4 =>
 x_grp false v4 (fun (v5 v6 v7 v8 : AV) (h9 : KH) =>
 x_pick v4 (.bool true) v8 fun v10 =>
 x_grp false v10 (fun (v11 v12 v13 v14 : AV) (h15 : KH) =>
 x_pick v10 (.bool true) v14 fun v16 =>
 x_grp false v16 (fun (v17 v18 v19 : AV) (h20 : KH) =>
 x_pick v16 (.bool true) v19 fun v21 =>
 x_if0 v21
 (.ret (.bool false) h20)
 (x_fa 0 v1 fun v22 =>
 x_ld none v22 h20 fun v23 =>
 x_eql v23 (I 1) fun v24 =>
 x_if v24 (fun (v25 v26 v27 : AV) (h28 : KH) =>
 x_if0 v27
 (x_fa 2 v25 fun v29 =>
 x_ld none v29 h28 fun v30 =>
 x_bsl [(I 0)] 1 [.mk 0 1 v30] h28 fun v31 h31 =>
 x_call cl 412 [v31] h31 fun v32 h32 =>
 .ret v32 h32)
 (x_eql v26 (I 2) fun v29 =>
 x_if0 v29
 (x_fa 2 v25 fun v30 =>
 x_ld none v30 h28 fun v31 =>
 x_bsl [(I 0)] 1 [.mk 0 1 v31] h28 fun v32 h32 =>
 x_call cl 412 [v32] h32 fun v33 h33 =>
 x_grp true v33 (fun (v34 v35 v36 v37 : AV) (h38 : KH) =>
 x_pick v33 v37 (.bool false) fun v39 =>
 .ret v39 h38) (fun J34 =>
 x_fa 7 v25 fun v35 =>
 x_ld none v35 h33 fun v36 =>
 x_len v36 fun v37 =>
 x_leq v37 (I 8) fun v38 =>
 J34 v35 v36 v37 v38 h33) (fun J34 => J34 aud aud aud aud h33))
 (x_eql v26 (I 3) fun v30 =>
 x_if0 v30
 (x_fa 2 v25 fun v31 =>
 x_ld none v31 h28 fun v32 =>
 x_fa 3 v25 fun v33 =>
 x_ld none v33 h28 fun v34 =>
 x_bsl [(I 0),(I 0)] 2 [.mk 0 1 v32,.mk 1 1 v34] h28 fun v35 h35 =>
 x_call cl 412 [v35] h35 fun v36 h36 =>
 x_grp true v36 (fun (v37 v38 v39 v40 : AV) (h41 : KH) =>
 x_pick v36 v40 (.bool false) fun v42 =>
 .ret v42 h41) (fun J37 =>
 x_fa 7 v25 fun v38 =>
 x_ld none v38 h36 fun v39 =>
 x_len v39 fun v40 =>
 x_call cl 411 [v40,(I 1),(I 8)] h36 fun v41 h41 =>
 J37 v38 v39 v40 v41 h41) (fun J37 => J37 aud aud aud aud h36))
 (x_eql v26 (I 4) fun v31 =>
 x_if0 v31
 (x_fa 2 v25 fun v32 =>
 x_ld none v32 h28 fun v33 =>
 x_bsl [(I 0)] 1 [.mk 0 1 v33] h28 fun v34 h34 =>
 x_call cl 412 [v34] h34 fun v35 h35 =>
 x_grp true v35 (fun (v36 v37 v38 : AV) (h39 : KH) =>
 x_pick v35 v38 (.bool false) fun v40 =>
 x_grp true v40 (fun (v41 v42 v43 : AV) (h44 : KH) =>
 x_pick v40 v43 (.bool false) fun v45 =>
 .ret v45 h44) (fun J41 =>
 x_fa 6 v25 fun v42 =>
 x_ld none v42 h39 fun v43 =>
 x_call cl 411 [v43,(.int .i64 (-1)),(I 4096)] h39 fun v44 h44 =>
 J41 v42 v43 v44 h44) (fun J41 => J41 aud aud aud h39)) (fun J36 =>
 x_fa 5 v25 fun v37 =>
 x_ld none v37 h35 fun v38 =>
 x_call cl 411 [v38,(I 0),(I 4096)] h35 fun v39 h39 =>
 J36 v37 v38 v39 h39) (fun J36 => J36 aud aud aud h35))
 (x_eql v26 (I 5) fun v32 =>
 x_if0 v32
 (x_fa 2 v25 fun v33 =>
 x_ld none v33 h28 fun v34 =>
 x_fa 3 v25 fun v35 =>
 x_ld none v35 h28 fun v36 =>
 x_bsl [(I 0),(I 0)] 2 [.mk 0 1 v34,.mk 1 1 v36] h28 fun v37 h37 =>
 x_call cl 412 [v37] h37 fun v38 h38 =>
 .ret v38 h38)
 (x_eql v26 (I 9) fun v33 =>
 x_if0 v33
 (x_fa 22 v25 fun v34 =>
 x_ld none v34 h28 fun v35 =>
 x_call cl 412 [v35] h28 fun v36 h36 =>
 .ret v36 h36)
 (x_eql v26 (I 10) fun v34 =>
 x_if0 v34
 (x_fa 31 v25 fun v35 =>
 x_ld none v35 h28 fun v36 =>
 x_bin .geq v36 (I 0) fun v37 =>
 x_grp true v37 (fun (v38 v39 v40 : AV) (h41 : KH) =>
 x_pick v37 v40 (.bool false) fun v42 =>
 .ret v42 h41) (fun J38 =>
 x_fa 23 v25 fun v39 =>
 x_ld (some 7) v39 h28 fun v40 =>
 x_call cl 413 [v40] h28 fun v41 h41 =>
 J38 v39 v40 v41 h41) (fun J38 => J38 aud aud aud h28))
 (x_eql v26 (I 11) fun v35 =>
 x_if0 v35
 (x_fa 31 v25 fun v36 =>
 x_ld none v36 h28 fun v37 =>
 x_bin .geq v37 (I 0) fun v38 =>
 x_grp true v38 (fun (v39 v40 v41 : AV) (h42 : KH) =>
 x_pick v38 v41 (.bool false) fun v43 =>
 x_grp true v43 (fun (v44 v45 v46 : AV) (h47 : KH) =>
 x_pick v43 v46 (.bool false) fun v48 =>
 .ret v48 h47) (fun J44 =>
 x_fa 6 v25 fun v45 =>
 x_ld none v45 h42 fun v46 =>
 x_call cl 411 [v46,(I 0),(I 999)] h42 fun v47 h47 =>
 J44 v45 v46 v47 h47) (fun J44 => J44 aud aud aud h42)) (fun J39 =>
 x_fa 5 v25 fun v40 =>
 x_ld none v40 h28 fun v41 =>
 x_call cl 411 [v41,(I 1),(I 8)] h28 fun v42 h42 =>
 J39 v40 v41 v42 h42) (fun J39 => J39 aud aud aud h28))
 (x_eql v26 (I 13) fun v36 =>
 x_if0 v36
 (x_fa 30 v25 fun v37 =>
 x_ld none v37 h28 fun v38 =>
 x_call cl 414 [v38] h28 fun v39 h39 =>
 .ret v39 h39)
 (x_eql v26 (I 14) fun v37 =>
 x_if0 v37
 (x_fa 5 v25 fun v38 =>
 x_ld none v38 h28 fun v39 =>
 x_call cl 411 [v39,(I 0),(I 999)] h28 fun v40 h40 =>
 .ret v40 h40)
 (x_eql v26 (I 8) fun v38 =>
 x_if v38 (fun (v39 : AV) (h40 : KH) =>
 x_if0 v39
 (.ret (.bool true) h40)
 (.ret (.bool false) h40))
 (fun J39 => J39 v38 h28)
 (fun J39 => x_eql v26 (I 12) fun v40 =>
 x_if0 v40
 (J39 v40 h28)
 (x_eql v26 (I 15) fun v41 =>
 J39 v41 h28)))))))))))))
 (fun J25 => J25 v1 v23 v24 h20)
 (fun J25 => x_eql v23 (I 6) fun v26 =>
 x_if0 v26
 (J25 v1 v23 v26 h20)
 (x_eql v23 (I 7) fun v27 =>
 J25 v1 v23 v27 h20)))) (fun J17 =>
 x_fa 32 v1 fun v18 =>
 x_ld none v18 h15 fun v19 =>
 x_lss v19 (.int .i64 (-1)) fun v20 =>
 J17 v18 v19 v20 h15) (fun J17 => J17 aud aud aud h15)) (fun J11 =>
 x_fa 4 v1 fun v12 =>
 x_ld none v12 h9 fun v13 =>
 x_call cl 411 [v13,(I 0),(I 3)] h9 fun v14 h14 =>
 x_un .not v14 fun v15 =>
 J11 v12 v13 v14 v15 h14) (fun J11 => J11 aud aud aud aud h9)) (fun J5 =>
 x_fa 1 v1 fun v6 =>
 x_ld none v6 h3 fun v7 =>
 x_call cl 410 [v7] h3 fun v8 h8 =>
 x_un .not v8 fun v9 =>
 J5 v6 v7 v8 v9 h8) (fun J5 => J5 aud aud aud aud h3))
def H258 : Hints := []
theorem S258 : SoundF Tryz.prog 258 F258 := kfun_of (fn := Tryz.f258) (n := 127) (np := 1) (hs := H258) (q := [.tmp 2]) (t := (.s .l (.s (.s .l (.i (.s .l .l) .l)) (.s (.s .l (.i (.s (.s .l (.j [1,24,25] .l (.s .l (.i .l .l)))) (.i (.s .l .l) (.s .l (.i (.s .l .l) (.s .l (.i (.s .l .l) (.s .l (.i (.s .l .l) (.s .l (.i (.s .l .l) (.s .l (.i (.s .l .l) (.s .l (.i (.s .l .l) (.s .l (.i (.s .l .l) (.s .l (.i (.s .l .l) (.s .l (.i (.s .l .l) (.s (.s .l (.j [123] .l (.s .l (.i .l .l)))) (.i (.s .l .l) .l)))))))))))))))))))))) .l)) (.s .l .l))))) mix3 (by kernel_rfl) (by kernel_rfl) (by kernel_rfl) (by kernel_rfl) (by kernel_rfl) (by kernel_rfl) (by kernel_rfl) (by kernel_rfl)
noncomputable def F261 : GF := fun cl ar h => x_arg ar fun v0 ar => x_arg ar fun v1 ar => x_ar0 ar (
 x_lss v1 (I 0) fun v2 =>
 x_grp false v2 (fun (v3 v4 v5 v6 : AV) (h7 : KH) =>
 x_pick v2 (.bool true) v6 fun v8 =>
 x_grp false v8 (fun (v9 v10 v11 v12 : AV) (h13 : KH) =>
 x_pick v8 (.bool true) v12 fun v14 =>
 x_if0 v14
 (.ret (.bool false) h13)
 (x_ixS 1 v0 v1 fun v15 =>
 x_st 1 v15 (.bool true) h13 fun h16 =>
 .ret (.bool true) h16)) (fun J9 =>
 x_ixS 1 v0 v1 fun v10 =>
 x_ld none v10 h7 fun v11 =>
 J9 v0 v1 v10 v11 h7) (fun J9 => J9 aud aud aud aud h7)) (fun J3 =>
 x_len v0 fun v4 =>
 x_bin .geq v1 v4 fun v5 =>
 J3 v1 v0 v4 v5 h) (fun J3 => J3 aud aud aud aud h))
def H261 : Hints := []
theorem S261 : SoundF Tryz.prog 261 F261 := kfun_of (fn := Tryz.f261) (n := 22) (np := 2) (hs := H261) (q := [.tmp 4]) (t := (.s .l (.s (.s .l (.i (.s .l .l) .l)) (.s .l (.s .l .l))))) mix3 (by kernel_rfl) (by kernel_rfl) (by kernel_rfl) (by kernel_rfl) (by kernel_rfl) (by kernel_rfl) (by kernel_rfl) (by kernel_rfl)
noncomputable def F262 : GF := fun cl ar h => x_arg ar fun v0 ar => x_arg ar fun v1 ar => x_ar0 ar (
 x_call cl 417 [v0,v1] h fun v2 h2 =>
 x_bin .geq v2 (I 0) fun v3 =>
 .ret v3 h2)
def H262 : Hints := []
theorem S262 : SoundF Tryz.prog 262 F262 := kfun_of (fn := Tryz.f262) (n := 9) (np := 2) (hs := H262) (q := [.tmp 4]) (t := (.s .l (.s .l .l))) mix3 (by kernel_rfl) (by kernel_rfl) (by kernel_rfl) (by kernel_rfl) (by kernel_rfl) (by kernel_rfl) (by kernel_rfl) (by kernel_rfl)
noncomputable def F264 : GF := fun cl ar h => x_arg ar fun v0 ar => x_arg ar fun v1 ar => x_arg ar fun v2 ar => x_ar0 ar (
 x_add v1 (I 1) fun v3 =>
 x_loop (jbad [0,1,2,6]) (fun J4 => (fun (v5 v6 v7 v8 : AV) (h9 : KH) =>
 x_lss v8 v7 fun v10 =>
 x_if0 v10
 (x_loop (jbad [0,1,2,6,7]) (fun J11 => (fun (v12 v13 v14 v15 v16 : AV) (h17 : KH) =>
 x_bin .gtr v16 v13 fun v18 =>
 x_grp true v18 (fun (v19 v20 v21 v22 v23 v24 v25 v26 v27 v28 : AV) (h29 : KH) =>
 x_pick v18 v28 (.bool false) fun v30 =>
 x_if0 v30
 (x_bin .sub v16 (I 1) fun v31 =>
 x_bin .sub v16 (I 1) fun v32 =>
 x_ixS 1 v12 v32 fun v33 =>
 x_ld none v33 h29 fun v34 =>
 x_ixS 1 v12 v16 fun v35 =>
 x_ld none v35 h29 fun v36 =>
 x_ixS 1 v12 v16 fun v37 =>
 x_st 1 v37 v34 h29 fun h38 =>
 x_ixS 1 v12 v31 fun v39 =>
 x_st 1 v39 v36 h38 fun h40 =>
 x_bin .sub v16 (I 1) fun v41 =>
 J11 v12 v13 v14 v15 v41 h40)
 (x_add v15 (I 1) fun v31 =>
 J4 v12 v13 v14 v31 h29)) (fun J19 =>
 x_ixS 1 v12 v16 fun v20 =>
 x_ld none v20 h17 fun v21 =>
 x_bin .sub v16 (I 1) fun v22 =>
 x_ixS 1 v12 v22 fun v23 =>
 x_ld none v23 h17 fun v24 =>
 x_call cl 270 [v21,v24] h17 fun v25 h25 =>
 J19 v12 v16 v20 v21 v12 v16 v22 v23 v24 v25 h25) (fun J19 => J19 aud aud aud aud aud aud aud aud aud aud h17))) v5 v6 v7 v8 v8 h9)
 (.ret (.tup []) h9))) v0 v1 v2 v3 h)
def H264 : Hints := [(4,[(0,0,[],false),(1,0,[],false),(2,3,[],false),(3,7,[],false),(4,15,[],false),(5,15,[],false),(6,63,[],false),(7,127,[],false),(8,15,[],false),(9,15,[],false),(10,527,[],false),(11,1807,[],false),(12,3855,[],false),(13,8191,[],true),(14,16383,[],false)]),(6,[(0,0,[],false),(1,0,[],false),(2,0,[],false),(3,0,[],false),(4,8,[],false),(5,0,[],false),(6,0,[],false),(7,64,[],false),(8,224,[],false),(9,480,[],false),(10,0,[],false),(11,0,[],false),(12,3072,[],false),(13,7168,[],false),(14,16355,[],false),(15,32739,[],true),(16,65535,[],false),(17,131071,[],true)])]
theorem S264 : SoundF Tryz.prog 264 F264 := kfun_of (fn := Tryz.f264) (n := 49) (np := 3) (hs := H264) (q := []) (t := (.s .l (.i (.j [0,1,2,6] (.s (.s .l (.i .l .l)) (.s (.i (.s .l (.i (.j [0,1,2,6,7] (.s (.s .l (.i .l .l)) (.s (.i .l .l) .l)) .l) .l)) .l) .l)) .l) .l))) mix3 (by kernel_rfl) (by kernel_rfl) (by kernel_rfl) (by kernel_rfl) (by kernel_rfl) (by kernel_rfl) (by kernel_rfl) (by kernel_rfl)
noncomputable def F274 : GF := fun cl ar h => x_arg ar fun v0 ar => x_ar0 ar (
 x_bin .geq v0 (N .u64 4294967296) fun v1 =>
 x_if v1 (fun (v2 v3 : AV) (h4 : KH) =>
 x_bin .geq v2 (N .u64 65536) fun v5 =>
 x_if v5 (fun (v6 v7 : AV) (h8 : KH) =>
 x_bin .geq v6 (N .u64 256) fun v9 =>
 x_if v9 (fun (v10 v11 : AV) (h12 : KH) =>
 x_conv .u8 v10 fun v13 =>
 x_pu (.indexStr (.cst (.str [0,1,2,2,3,3,3,3,4,4,4,4,4,4,4,4,5,5,5,5,5,5,5,5,5,5,5,5,5,5,5,5,6,6,6,6,6,6,6,6,6,6,6,6,6,6,6,6,6,6,6,6,6,6,6,6,6,6,6,6,6,6,6,6,7,7,7,7,7,7,7,7,7,7,7,7,7,7,7,7,7,7,7,7,7,7,7,7,7,7,7,7,7,7,7,7,7,7,7,7,7,7,7,7,7,7,7,7,7,7,7,7,7,7,7,7,7,7,7,7,7,7,7,7,7,7,7,7,8,8,8,8,8,8,8,8,8,8,8,8,8,8,8,8,8,8,8,8,8,8,8,8,8,8,8,8,8,8,8,8,8,8,8,8,8,8,8,8,8,8,8,8,8,8,8,8,8,8,8,8,8,8,8,8,8,8,8,8,8,8,8,8,8,8,8,8,8,8,8,8,8,8,8,8,8,8,8,8,8,8,8,8,8,8,8,8,8,8,8,8,8,8,8,8,8,8,8,8,8,8,8,8,8,8,8,8,8,8,8,8,8,8,8,8,8,8,8,8,8,8,8,8,8,8,8,8])) (.cst v13)) fun v14 =>
 x_conv .i64 v14 fun v15 =>
 x_add v11 v15 fun v16 =>
 .ret v16 h12)
 (fun J10 => x_bin .shr v6 (N .u64 8) fun v11 =>
 x_add v7 (I 8) fun v12 =>
 J10 v11 v12 h8)
 (fun J10 => J10 v6 v7 h8))
 (fun J6 => x_bin .shr v2 (N .u64 16) fun v7 =>
 x_add v3 (I 16) fun v8 =>
 J6 v7 v8 h4)
 (fun J6 => J6 v2 v3 h4))
 (fun J2 => x_bin .shr v0 (N .u64 32) fun v3 =>
 J2 v3 (I 32) h)
 (fun J2 => J2 v0 (I 0) h))
def H274 : Hints := []
theorem S274 : SoundF Tryz.prog 274 F274 := kfun_of (fn := Tryz.f274) (n := 25) (np := 1) (hs := H274) (q := [.tmp 2]) (t := (.s .l (.s (.s .l (.j [0,2] (.s .l .l) .l)) (.s (.s .l (.j [0,2] (.s .l .l) .l)) (.s (.s .l (.j [0,2] (.s .l .l) .l)) (.s .l .l)))))) mix3 (by kernel_rfl) (by kernel_rfl) (by kernel_rfl) (by kernel_rfl) (by kernel_rfl) (by kernel_rfl) (by kernel_rfl) (by kernel_rfl)
noncomputable def F275 : GF := fun cl ar h => x_arg ar fun v0 ar => x_ar0 ar (
 x_call cl 424 [v0] h fun v1 h1 =>
 x_loop (jbad [0,3]) (fun J2 => (fun (v3 v4 : AV) (h5 : KH) =>
 x_call cl 276 [v3,(N .u8 38)] h5 fun v6 h6 =>
 x_if0 v6
 (x_call cl 424 [v3] h6 fun v7 h7 =>
 x_bld ((I 0) :: (rpl 4 (N .u64 0) (rpl 4 (I 0) []))) [.mk 0 1 (I 6),.mk 5 1 v4,.mk 6 1 v7] fun v8 =>
 x_call cl 277 [v3,v8] h7 fun v9 h9 =>
 J2 v3 v9 h9)
 (.ret v4 h6))) v0 v1 h1)
def H275 : Hints := []
theorem S275 : SoundF Tryz.prog 275 F275 := kfun_of (fn := Tryz.f275) (n := 17) (np := 1) (hs := H275) (q := [.tmp 2]) (t := (.s .l (.s .l (.s (.i (.j [0,3] (.s (.s .l (.i .l .l)) (.i (.s .l .l) .l)) .l) .l) (.s .l .l))))) mix3 (by kernel_rfl) (by kernel_rfl) (by kernel_rfl) (by kernel_rfl) (by kernel_rfl) (by kernel_rfl) (by kernel_rfl) (by kernel_rfl)
noncomputable def F276 : GF := fun cl ar h => x_arg ar fun v0 ar => x_arg ar fun v1 ar => x_ar0 ar (
 x_call cl 425 [v0] h fun v2 h2 =>
 x_conv .i64 v1 fun v3 =>
 x_neq v2 v3 fun v4 =>
 x_if0 v4
 (.ret (.bool false) h2)
 (x_nc v0 fun v5 =>
 x_fa 1 v5 fun v6 =>
 x_ld none v6 h2 fun v7 =>
 x_add v7 (I 1) fun v8 =>
 x_nc v0 fun v9 =>
 x_fa 1 v9 fun v10 =>
 x_st 1 v10 v8 h2 fun h11 =>
 .ret (.bool true) h11))
def H276 : Hints := []
theorem S276 : SoundF Tryz.prog 276 F276 := kfun_of (fn := Tryz.f276) (n := 17) (np := 2) (hs := H276) (q := [.tmp 4]) (t := (.s .l (.s (.s .l (.i (.s .l .l) .l)) (.s .l (.s .l .l))))) mix3 (by kernel_rfl) (by kernel_rfl) (by kernel_rfl) (by kernel_rfl) (by kernel_rfl) (by kernel_rfl) (by kernel_rfl) (by kernel_rfl)
noncomputable def F277 : GF := fun cl ar h => x_arg ar fun v0 ar => x_arg ar fun v1 ar => x_ar0 ar (
 x_bx v1 h fun v2 h2 =>
 x_nc v0 fun v3 =>
 x_fa 2 v3 fun v4 =>
 x_ld none v4 h2 fun v5 =>
 x_ld (some 9) v2 h2 fun v6 =>
 x_bsl ((I 0) :: (rpl 4 (N .u64 0) (rpl 4 (I 0) []))) 1 [.mk 0 9 v6] h2 fun v7 h7 =>
 x_app 9 72 v5 v7 h7 fun v8 h8 =>
 x_nc v0 fun v9 =>
 x_fa 2 v9 fun v10 =>
 x_st 1 v10 v8 h8 fun h11 =>
 x_nc v0 fun v12 =>
 x_fa 2 v12 fun v13 =>
 x_ld none v13 h11 fun v14 =>
 x_len v14 fun v15 =>
 x_bin .sub v15 (I 1) fun v16 =>
 .ret v16 h11)
def H277 : Hints := [(1,[(0,0,[],false),(1,0,[],false),(2,2,[],false),(3,6,[],false),(4,14,[],false),(5,0,[],false),(6,32,[],false),(7,126,[],true),(8,255,[],false),(9,511,[],false),(10,1023,[],true)])]
theorem S277 : SoundF Tryz.prog 277 F277 := kfun_of (fn := Tryz.f277) (n := 21) (np := 2) (hs := H277) (q := [.tmp 4]) (t := (.s .l (.s .l (.s .l .l)))) mix3 (by kernel_rfl) (by kernel_rfl) (by kernel_rfl) (by kernel_rfl) (by kernel_rfl) (by kernel_rfl) (by kernel_rfl) (by kernel_rfl)
noncomputable def F278 : GF := fun cl ar h => x_arg ar fun v0 ar => x_arg ar fun v1 ar => x_ar0 ar (
 x_bx v0 h fun v2 h2 =>
 x_bx v1 h2 fun v3 h3 =>
 x_fa 0 v2 fun v4 =>
 x_ld none v4 h3 fun v5 =>
 x_lss v5 (I 1) fun v6 =>
 x_grp false v6 (fun (v7 v8 v9 : AV) (h10 : KH) =>
 x_pick v6 (.bool true) v9 fun v11 =>
 x_if0 v11
 (.ret (I 1) h10)
 (x_fa 0 v2 fun v12 =>
 x_ld none v12 h10 fun v13 =>
 x_call cl 279 [v13] h10 fun v14 h14 =>
 x_bin .gtr v14 (I 0) fun v15 =>
 x_grp true v15 (fun (v16 v17 v18 v19 v20 : AV) (h21 : KH) =>
 x_pick v15 v20 (.bool false) fun v22 =>
 x_if v22 (fun (v23 v24 : AV) (h25 : KH) =>
 x_if0 v24
 (.ret (I 1) h25)
 (x_fa 0 v23 fun v26 =>
 x_ld none v26 h25 fun v27 =>
 x_neq v27 (I 3) fun v28 =>
 x_grp true v28 (fun (v29 v30 v31 v32 : AV) (h33 : KH) =>
 x_pick v28 v32 (.bool false) fun v34 =>
 x_if0 v34
 (.ret (I 1) h33)
 (x_fa 0 v23 fun v35 =>
 x_ld none v35 h33 fun v36 =>
 x_neq v36 (I 8) fun v37 =>
 x_if0 v37
 (x_fa 7 v23 fun v38 =>
 x_ld none v38 h33 fun v39 =>
 x_neq v39 (I 0) fun v40 =>
 x_grp false v40 (fun (v41 v42 v43 : AV) (h44 : KH) =>
 x_pick v40 (.bool true) v43 fun v45 =>
 x_if0 v45
 (.ret (I 1) h44)
 (.ret (I 0) h44)) (fun J41 =>
 x_fa 8 v23 fun v42 =>
 x_ld none v42 h33 fun v43 =>
 x_neq v43 (I 0) fun v44 =>
 J41 v42 v43 v44 h33) (fun J41 => J41 aud aud aud h33))
 (x_fa 7 v23 fun v38 =>
 x_ld none v38 h33 fun v39 =>
 x_lss v39 (I 0) fun v40 =>
 x_if v40 (fun (v41 v42 : AV) (h43 : KH) =>
 x_if0 v42
 (.ret (I 1) h43)
 (x_fa 7 v41 fun v44 =>
 x_ld none v44 h43 fun v45 =>
 x_bin .gtr v45 (I 16) fun v46 =>
 x_if v46 (fun (v47 v48 : AV) (h49 : KH) =>
 x_if0 v48
 (.ret (I 2) h49)
 (x_fa 8 v47 fun v50 =>
 x_ld none v50 h49 fun v51 =>
 x_neq v51 (.int .i64 (-1)) fun v52 =>
 x_grp true v52 (fun (v53 v54 v55 v56 v57 : AV) (h58 : KH) =>
 x_pick v52 v57 (.bool false) fun v59 =>
 x_if0 v59
 (.ret (I 1) h58)
 (.ret (I 0) h58)) (fun J53 =>
 x_fa 8 v47 fun v54 =>
 x_ld none v54 h49 fun v55 =>
 x_fa 7 v47 fun v56 =>
 x_ld none v56 h49 fun v57 =>
 x_lss v55 v57 fun v58 =>
 J53 v54 v55 v56 v57 v58 h49) (fun J53 => J53 aud aud aud aud aud h49)))
 (fun J47 => J47 v41 v46 h43)
 (fun J47 => x_fa 8 v41 fun v48 =>
 x_ld none v48 h43 fun v49 =>
 x_bin .gtr v49 (I 16) fun v50 =>
 J47 v41 v50 h43)))
 (fun J41 => J41 v23 v40 h33)
 (fun J41 => x_fa 8 v23 fun v42 =>
 x_ld none v42 h33 fun v43 =>
 x_lss v43 (.int .i64 (-1)) fun v44 =>
 J41 v23 v44 h33)))) (fun J29 =>
 x_fa 1 v23 fun v30 =>
 x_ld (some 4) v30 h25 fun v31 =>
 x_bld (rpl 4 (N .u64 0) []) [] fun v32 =>
 x_pu (.eq true (.wide (true,[(.i .u64),(.i .u64),(.i .u64),(.i .u64)])) (.cst v31) (.cst v32)) fun v33 =>
 J29 v30 v31 v32 v33 h25) (fun J29 => J29 aud aud aud aud h25)))
 (fun J23 => J23 v2 v22 h21)
 (fun J23 => x_eql v14 (I 0) fun v24 =>
 x_grp true v24 (fun (v25 v26 v27 : AV) (h28 : KH) =>
 x_pick v24 v27 (.bool false) fun v29 =>
 x_if0 v29
 (J23 v2 v29 h28)
 (x_bin .gtr v14 (I 1) fun v30 =>
 x_grp true v30 (fun (v31 v32 v33 v34 v35 : AV) (h36 : KH) =>
 x_pick v30 v35 (.bool false) fun v37 =>
 x_if0 v37
 (J23 v2 v37 h36)
 (x_lss v14 (I 2) fun v38 =>
 x_grp true v38 (fun (v39 v40 v41 : AV) (h42 : KH) =>
 x_pick v38 v41 (.bool false) fun v43 =>
 J23 v2 v43 h42) (fun J39 =>
 x_fa 6 v2 fun v40 =>
 x_ld none v40 h36 fun v41 =>
 x_neq v41 (I 0) fun v42 =>
 J39 v40 v41 v42 h36) (fun J39 => J39 aud aud aud h36))) (fun J31 =>
 x_fa 6 v2 fun v32 =>
 x_ld none v32 h28 fun v33 =>
 x_call cl 426 [v33,v3] h28 fun v34 h34 =>
 x_un .not v34 fun v35 =>
 J31 (.fn (.func 426) [] [v3]) v32 v33 v34 v35 h34) (fun J31 => J31 aud aud aud aud aud h28))) (fun J25 =>
 x_fa 5 v2 fun v26 =>
 x_ld none v26 h21 fun v27 =>
 x_neq v27 (I 0) fun v28 =>
 J25 v26 v27 v28 h21) (fun J25 => J25 aud aud aud h21))) (fun J16 =>
 x_fa 5 v2 fun v17 =>
 x_ld none v17 h14 fun v18 =>
 x_call cl 426 [v18,v3] h14 fun v19 h19 =>
 x_un .not v19 fun v20 =>
 J16 (.fn (.func 426) [] [v3]) v17 v18 v19 v20 h19) (fun J16 => J16 aud aud aud aud aud h14))) (fun J7 =>
 x_fa 0 v2 fun v8 =>
 x_ld none v8 h3 fun v9 =>
 x_bin .gtr v9 (I 8) fun v10 =>
 J7 v8 v9 v10 h3) (fun J7 => J7 aud aud aud h3))
def H278 : Hints := []
theorem S278 : SoundF Tryz.prog 278 F278 := kfun_of (fn := Tryz.f278) (n := 99) (np := 2) (hs := H278) (q := [.tmp 4]) (t := (.s .l (.s (.s .l (.i (.s .l .l) .l)) (.s .l (.s .l (.s (.i (.s (.s .l (.j [2,19] .l (.s .l (.i .l (.s .l (.i .l .l)))))) (.i (.s .l .l) (.s .l (.i (.s .l .l) (.s .l (.i (.s (.s .l (.i (.s .l .l) .l)) (.s .l .l)) (.s (.s .l (.j [2,74] .l .l)) (.i (.s .l .l) (.s (.s .l (.j [2,81] .l .l)) (.i (.s .l .l) (.s .l (.i (.s .l .l) .l)))))))))))) .l) (.s .l .l))))))) mix3 (by kernel_rfl) (by kernel_rfl) (by kernel_rfl) (by kernel_rfl) (by kernel_rfl) (by kernel_rfl) (by kernel_rfl) (by kernel_rfl)
noncomputable def F279 : GF := fun cl ar h => x_arg ar fun v0 ar => x_ar0 ar (
 x_eql v0 (I 4) fun v1 =>
 x_if v1 (fun (v2 v3 : AV) (h4 : KH) =>
 x_if0 v3
 (.ret (I 2) h4)
 (x_eql v2 (I 7) fun v5 =>
 x_if v5 (fun (v6 : AV) (h7 : KH) =>
 x_if0 v6
 (.ret (I 1) h7)
 (.ret (I 0) h7))
 (fun J6 => J6 v5 h4)
 (fun J6 => x_eql v2 (I 8) fun v7 =>
 J6 v7 h4)))
 (fun J2 => J2 v0 v1 h)
 (fun J2 => x_eql v0 (I 5) fun v3 =>
 x_if0 v3
 (J2 v0 v3 h)
 (x_eql v0 (I 6) fun v4 =>
 J2 v0 v4 h)))
def H279 : Hints := []
theorem S279 : SoundF Tryz.prog 279 F279 := kfun_of (fn := Tryz.f279) (n := 11) (np := 1) (hs := H279) (q := [.tmp 2]) (t := (.s .l (.s (.s .l (.i (.s (.s .l (.j [3,4] .l (.s .l (.i .l .l)))) (.i (.s .l .l) (.s (.s .l (.j [8] .l .l)) (.i (.s .l .l) .l)))) .l)) (.s .l .l)))) mix3 (by kernel_rfl) (by kernel_rfl) (by kernel_rfl) (by kernel_rfl) (by kernel_rfl) (by kernel_rfl) (by kernel_rfl) (by kernel_rfl)
noncomputable def F281 : GF := fun cl ar h => x_arg ar fun v0 ar => x_ar0 ar (
 x_nw [.nils,.nils,.nils] p0 h fun v1 h1 =>
 x_len v0 fun v2 =>
 x_bin .gtr v2 (I 62) fun v3 =>
 x_if0 v3
 (x_bld [.nils,.nils,.nils] [] fun v4 =>
 x_st 3 v1 v4 h1 fun h5 =>
 x_ld (some 3) v1 h5 fun v6 =>
 .ret (.tup [v6,(I 2)]) h5)
 (x_bld (rpl 257 (I 0) (rpl 2 .nils [])) [.mk 256 1 (I 256)] fun v4 =>
 x_nw (rpl 257 (I 0) (rpl 2 .nils [])) p0 h1 fun v5 h5 =>
 x_st 259 v5 v4 h5 fun h6 =>
 x_loop (jbad [0,2,4,5,16]) (fun J7 => (fun (v8 v9 v10 v11 v12 : AV) (h13 : KH) =>
 x_lss v12 (I 256) fun v14 =>
 x_if0 v14
 (x_fa 0 v11 fun v15 =>
 x_ixA 256 1 v15 v12 fun v16 =>
 x_st 1 v16 v12 h13 fun h17 =>
 x_add v12 (I 1) fun v18 =>
 J7 v8 v9 v10 v11 v18 h17)
 (x_add v10 (I 2) fun v15 =>
 x_loop (jbad [0,2,4,5,25,26]) (fun J16 => (fun (v17 v18 v19 v20 v21 v22 : AV) (h23 : KH) =>
 x_lss v22 v21 fun v24 =>
 x_if0 v24
 (x_mks 8 [(I 0)] (I 256) (I 256) h23 fun v25 h25 =>
 x_len v25 fun v26 =>
 x_loop (jbad [0,2,4,5,7,8,25,26,31,32]) (fun J27 => (fun (v28 v29 v30 v31 v32 v33 v34 v35 v36 v37 : AV) (h38 : KH) =>
 x_lss v37 v36 fun v39 =>
 x_if0 v39
 (x_add v30 (I 1) fun v40 =>
 x_ixS 1 v33 v37 fun v41 =>
 x_st 1 v41 v40 h38 fun h42 =>
 x_add v37 (I 1) fun v43 =>
 J27 v28 v29 v30 v31 v32 v33 v34 v35 v36 v43 h42)
 (x_lss v32 v30 fun v40 =>
 x_if v40 (fun (v41 v42 v43 v44 v45 v46 v47 v48 : AV) (h49 : KH) =>
 x_fa 257 v44 fun v50 =>
 x_ld none v50 h49 fun v51 =>
 x_bsl [.nils] 1 [.mk 0 1 v46] h49 fun v52 h52 =>
 x_app 1 24 v51 v52 h52 fun v53 h53 =>
 x_fa 257 v44 fun v54 =>
 x_st 1 v54 v53 h53 fun h55 =>
 x_fa 258 v44 fun v56 =>
 x_ld none v56 h55 fun v57 =>
 x_eql v45 v43 fun v58 =>
 x_bsl [(.bool false)] 1 [.mk 0 1 v58] h55 fun v59 h59 =>
 x_app 1 1 v57 v59 h59 fun v60 h60 =>
 x_fa 258 v44 fun v61 =>
 x_st 1 v61 v60 h60 fun h62 =>
 x_add v48 (I 1) fun v63 =>
 J16 v41 v42 v43 v44 v47 v63 h62)
 (fun J41 => x_ixS 1 v28 v32 fun v42 =>
 x_ld none v42 h38 fun v43 =>
 x_add v32 (I 1) fun v44 =>
 x_ixS 1 v33 v43 fun v45 =>
 x_st 1 v45 v44 h38 fun h46 =>
 J41 v28 v29 v30 v31 v32 v33 v34 v35 h46)
 (fun J41 => J41 v28 v29 v30 v31 v32 v33 v34 v35 h38)))) v17 v18 v19 v20 v22 v25 v21 v22 v26 (I 0) h25)
 (x_ld (some 259) v20 h23 fun v25 =>
 x_call cl 352 [v25] h23 fun v26 h26 =>
 x_st 3 v18 v26 h26 fun h27 =>
 x_ld (some 3) v18 h27 fun v28 =>
 .ret (.tup [v28,(I 0)]) h27))) v8 v9 v10 v11 v15 (I 0) h13))) v0 v1 v2 v5 (I 0) h6))
def H281 : Hints := []
theorem S281 : SoundF Tryz.prog 281 F281 := kfun_of (fn := Tryz.f281) (n := 69) (np := 1) (hs := H281) (q := [.cell 2 (some 3),.tmp 3]) (t := (.s .l (.s .l (.s (.s .l (.i (.s .l .l) .l)) (.s .l (.s (.s .l (.i (.j [0,2,4,5,16] (.s .l (.s (.i .l .l) (.s (.i (.s .l .l) .l) .l))) .l) .l)) (.s (.s .l (.i (.j [0,2,4,5,25,26] (.s .l (.s (.i .l .l) (.s (.i (.s .l (.s .l (.s (.s .l (.i (.j [0,2,4,5,7,8,25,26,31,32] (.s .l (.s (.i .l .l) (.s (.i (.s .l .l) .l) .l))) .l) .l)) (.s (.s .l (.j [0,2,4,5,7,8,25,26] .l .l)) (.s .l .l))))) .l) .l))) .l) .l)) (.s .l .l)))))))) mix3 (by kernel_rfl) (by kernel_rfl) (by kernel_rfl) (by kernel_rfl) (by kernel_rfl) (by kernel_rfl) (by kernel_rfl) (by kernel_rfl)
noncomputable def F282 : GF := fun cl ar h => x_arg ar fun v0 ar => x_ar0 ar (
 x_bx v0 h fun v1 h1 =>
 x_nw [.nils,.nils,.nils] p0 h1 fun v2 h2 =>
 x_ld (some 4) v1 h2 fun v3 =>
 x_call cl 174 [v3] h2 fun v4 h4 =>
 x_eql v4 (I 0) fun v5 =>
 x_if0 v5
 (x_call cl 280 [] h4 fun v6 h6 =>
 x_ext 0 v6 fun v7 =>
 x_ext 1 v6 fun v8 =>
 x_st 3 v2 v7 h6 fun h9 =>
 x_ld (some 3) v2 h9 fun v10 =>
 .ret (.tup [v10,v8]) h9)
 (x_ld (some 4) v1 h4 fun v6 =>
 x_bsl (rpl 4 (N .u64 0) []) 1 [.mk 0 4 v6] h4 fun v7 h7 =>
 x_call cl 208 [v7] h7 fun v8 h8 =>
 x_bsl [(.bool false),(.bool false),(.bool false)] 3 [.mk 0 1 (.bool false),.mk 1 1 (.bool true),.mk 2 1 (.bool false)] h8 fun v9 h9 =>
 x_bld [.nils,.nils,.nils] [.mk 0 1 v8,.mk 2 1 v9] fun v10 =>
 x_nw [.nils,.nils,.nils] p0 h9 fun v11 h11 =>
 x_st 3 v11 v10 h11 fun h12 =>
 x_len v8 fun v13 =>
 x_mks 8 [(I 0)] v13 v13 h12 fun v14 h14 =>
 x_len v8 fun v15 =>
 x_mks 8 [(I 0)] v15 v15 h14 fun v16 h16 =>
 x_len v8 fun v17 =>
 x_loop (jbad [1,2,5,6,7,28,29,30]) (fun J18 => (fun (v19 v20 v21 v22 v23 v24 v25 v26 : AV) (h27 : KH) =>
 x_lss v26 v25 fun v28 =>
 x_if0 v28
 (x_ixS 4 v24 v26 fun v29 =>
 x_ld (some 4) v29 h27 fun v30 =>
 x_nw (rpl 4 (N .u64 0) []) p0 h27 fun v31 h31 =>
 x_st 4 v31 v30 h31 fun h32 =>
 x_ixS 1 v22 v26 fun v33 =>
 x_st 1 v33 (I 2) h32 fun h34 =>
 x_ixS 1 v23 v26 fun v35 =>
 x_st 1 v35 (I 2) h34 fun h36 =>
 x_ld (some 4) v19 h36 fun v37 =>
 x_ld (some 4) v31 h36 fun v38 =>
 x_call cl 210 [v38] h36 fun v39 h39 =>
 x_chk (cond (koEq (kload (some 4) v19 h39) v37) true false) (x_conv .u8 v39 fun v40 =>
 x_call cl 177 [v37,v40] h39 fun v41 h41 =>
 x_chk true (x_if v41 (fun (v42 v43 v44 v45 v46 v47 v48 v49 : AV) (h50 : KH) =>
 x_add v49 (I 1) fun v51 =>
 J18 v42 v43 v44 v45 v46 v47 v48 v51 h50)
 (fun J42 => x_ixS 1 v22 v26 fun v43 =>
 x_st 1 v43 (I 1) h41 fun h44 =>
 J42 v19 v20 v21 v22 v23 v24 v25 v26 h44)
 (fun J42 => J42 v19 v20 v21 v22 v23 v24 v25 v26 h41))))
 (x_call cl 10 [v23] h27 fun v29 h29 =>
 x_bsl [.nils,.nils,.nils] 3 [.mk 0 1 v22,.mk 1 1 v23,.mk 2 1 v29] h29 fun v30 h30 =>
 x_fa 1 v21 fun v31 =>
 x_st 1 v31 v30 h30 fun h32 =>
 x_ld (some 3) v21 h32 fun v33 =>
 x_call cl 212 [v33] h32 fun v34 h34 =>
 x_ext 0 v34 fun v35 =>
 x_ext 1 v34 fun v36 =>
 x_st 3 v20 v35 h34 fun h37 =>
 x_ld (some 3) v20 h37 fun v38 =>
 .ret (.tup [v38,v36]) h37))) v1 v2 v11 v14 v16 v8 v17 (I 0) h16))
def H282 : Hints := [(5,[(0,0,[],false),(1,1,[],false),(2,3,[],false),(3,0,[],false),(4,8,[],false),(5,24,[],false),(6,7,[],false),(7,127,[],false)]),(10,[(0,0,[],false),(1,0,[],false),(2,2,[0],true),(3,6,[],false),(4,15,[],true)])]
theorem S282 : SoundF Tryz.prog 282 F282 := kfun_of (fn := Tryz.f282) (n := 60) (np := 1) (hs := H282) (q := [.cell 2 (some 3),.tmp 3]) (t := (.s .l (.s (.s .l (.i (.s .l .l) .l)) (.s .l (.s .l (.s .l (.s (.s .l (.i (.j [1,2,5,6,7,28,29,30] (.s .l (.s (.i .l .l) (.s (.i (.s .l (.s .l (.s .l (.j [1,2,5,6,7,28,29,30] .l .l)))) .l) .l))) .l) .l)) (.s .l (.s .l .l))))))))) mix3 (by kernel_rfl) (by kernel_rfl) (by kernel_rfl) (by kernel_rfl) (by kernel_rfl) (by kernel_rfl) (by kernel_rfl) (by kernel_rfl)
noncomputable def F283 : GF := fun cl ar h => x_arg ar fun v0 ar => x_arg ar fun v1 ar => x_ar0 ar (
 x_bx v0 h fun v2 h2 =>
 x_bx v1 h2 fun v3 h3 =>
 x_nw [.nils,.nils,.nils] p0 h3 fun v4 h4 =>
 x_ld (some 3) v2 h4 fun v5 =>
 x_call cl 194 [v5] h4 fun v6 h6 =>
 x_un .not v6 fun v7 =>
 x_grp false v7 (fun (v8 v9 v10 : AV) (h11 : KH) =>
 x_pick v7 (.bool true) v10 fun v12 =>
 x_if0 v12
 (x_bld [.nils,.nils,.nils] [] fun v13 =>
 x_st 3 v4 v13 h11 fun h14 =>
 x_ld (some 3) v4 h14 fun v15 =>
 .ret (.tup [v15,(I 1)]) h14)
 (x_ld (some 3) v2 h11 fun v13 =>
 x_ld (some 3) v3 h11 fun v14 =>
 x_nw (rpl 257 (I 0) (rpl 2 .nils [])) p0 h11 fun v15 h15 =>
 x_nw (rpl 257 (I 0) (rpl 2 .nils [])) p0 h15 fun v16 h16 =>
 x_call cl 351 [v13] h16 fun v17 h17 =>
 x_chk (cond (knwc h15.nx (rpl 257 (I 0) (rpl 2 .nils [])) h17) (cond (knwc h11.nx (rpl 257 (I 0) (rpl 2 .nils [])) h17) (cond (koEq (kload (some 3) v3 h17) v14) true false) false) false) (x_call cl 352 [v17] h17 fun v18 h18 =>
 x_chk (cond (knwc h15.nx (rpl 257 (I 0) (rpl 2 .nils [])) h18) (cond (knwc h11.nx (rpl 257 (I 0) (rpl 2 .nils [])) h18) (cond (koEq (kload (some 3) v3 h18) v14) true false) false) false) (x_call cl 351 [v18] h18 fun v19 h19 =>
 x_chk (cond (knwc h15.nx (rpl 257 (I 0) (rpl 2 .nils [])) h19) (cond (knwc h11.nx (rpl 257 (I 0) (rpl 2 .nils [])) h19) (cond (koEq (kload (some 3) v3 h19) v14) true false) false) false) (x_call cl 351 [v14] h19 fun v20 h20 =>
 x_chk (cond (knwc h15.nx (rpl 257 (I 0) (rpl 2 .nils [])) h20) (cond (knwc h11.nx (rpl 257 (I 0) (rpl 2 .nils [])) h20) true false) false) (x_call cl 352 [v20] h20 fun v21 h21 =>
 x_chk (cond (knwc h15.nx (rpl 257 (I 0) (rpl 2 .nils [])) h21) (cond (knwc h11.nx (rpl 257 (I 0) (rpl 2 .nils [])) h21) true false) false) (x_call cl 351 [v21] h21 fun v22 h22 =>
 x_chk (cond (knwc h15.nx (rpl 257 (I 0) (rpl 2 .nils [])) h22) (cond (knwc h11.nx (rpl 257 (I 0) (rpl 2 .nils [])) h22) true false) false) (x_st 259 v15 v19 h22 fun h23 =>
 x_chk true (x_st 259 v16 v22 h23 fun h24 =>
 x_chk true (x_ld (some 259) v15 h24 fun v25 =>
 x_ld (some 259) v16 h24 fun v26 =>
 x_call cl 427 [v25,v26] h24 fun v27 h27 =>
 x_ext 0 v27 fun v28 =>
 x_ext 1 v27 fun v29 =>
 x_nw (rpl 256 (I 0) []) p0 h27 fun v30 h30 =>
 x_st 256 v30 v28 h30 fun h31 =>
 x_nw [.nilf] p0 h31 fun v32 h32 =>
 x_st 1 v32 (.fn (.func 428) [] [v15]) h32 fun h33 =>
 x_ld (some 256) v30 h33 fun v34 =>
 x_ld none v32 h33 fun v35 =>
 x_bld [(I 0),(I 0),(N .u64 0)] [] fun v36 =>
 x_nw (rpl 257 (I 0) (rpl 2 .nils [])) p0 h33 fun v37 h37 =>
 x_cl cl v35 [v36] h37 fun v38 h38 =>
 x_chk (cond (knwc h33.nx (rpl 257 (I 0) (rpl 2 .nils [])) h38) (cond (koEq (kload (some 256) v30 h38) v34) true false) false) (x_call cl 431 [v34,v29,v38,(.fn (.func 429) [] [v32,v15,v16]),(.fn (.func 432) [] [v16]),(I 4096)] h38 fun v39 h39 =>
 x_chk (cond (knwc h33.nx (rpl 257 (I 0) (rpl 2 .nils [])) h39) true false) (x_ext 0 v39 fun v40 =>
 x_ext 1 v39 fun v41 =>
 x_st 259 v37 v40 h39 fun h42 =>
 x_chk true (x_un .not v41 fun v43 =>
 x_if0 v43
 (x_bld [.nils,.nils,.nils] [] fun v44 =>
 x_st 3 v4 v44 h42 fun h45 =>
 x_ld (some 3) v4 h45 fun v46 =>
 .ret (.tup [v46,(I 2)]) h45)
 (x_ld (some 259) v37 h42 fun v44 =>
 x_call cl 434 [v44] h42 fun v45 h45 =>
 x_ext 0 v45 fun v46 =>
 x_ext 1 v45 fun v47 =>
 x_st 3 v4 v46 h45 fun h48 =>
 x_ld (some 3) v4 h48 fun v49 =>
 .ret (.tup [v49,v47]) h48)))))))))))))) (fun J8 =>
 x_ld (some 3) v3 h6 fun v9 =>
 x_call cl 194 [v9] h6 fun v10 h10 =>
 x_un .not v10 fun v11 =>
 J8 v9 v10 v11 h10) (fun J8 => J8 aud aud aud h6))
def H283 : Hints := [(3,[(0,0,[],false),(4,0,[],false),(8,0,[],false),(9,0,[],false),(1,1,[4,8,9],true),(2,3,[4,8,9],true),(3,7,[4,8,9],true),(5,31,[8,9],true),(6,63,[8,9],true),(7,127,[8,9],true),(10,1023,[],true),(11,2047,[],true)]),(7,[(0,0,[],false),(1,0,[],false),(2,0,[],false),(3,0,[],false),(5,0,[],false),(6,0,[],false),(11,0,[],false),(4,12,[0,11],true),(7,127,[11],true),(8,255,[],false),(9,511,[],false),(10,511,[],false),(12,3071,[],true),(13,8191,[],false)])]
theorem S283 : SoundF Tryz.prog 283 F283 := kfun_of (fn := Tryz.f283) (n := 57) (np := 2) (hs := H283) (q := [.cell 4 (some 3),.tmp 5]) (t := (.s .l (.s (.s .l (.i (.s .l .l) .l)) (.s .l (.s .l (.s .l (.s .l (.s .l (.s (.s .l (.i (.s .l .l) .l)) (.s .l .l)))))))))) mix3 (by kernel_rfl) (by kernel_rfl) (by kernel_rfl) (by kernel_rfl) (by kernel_rfl) (by kernel_rfl) (by kernel_rfl) (by kernel_rfl)
noncomputable def F287 : GF := fun cl ar h => x_arg ar fun v0 ar => x_arg ar fun v1 ar => x_arg ar fun v2 ar => x_ar0 ar (
 x_bx v0 h fun v3 h3 =>
 x_nw [.nils,.nils,.nils] p0 h3 fun v4 h4 =>
 x_call cl 281 [.nils] h4 fun v5 h5 =>
 x_ext 0 v5 fun v6 =>
 x_ext 1 v5 fun v7 =>
 x_nw [.nils,.nils,.nils] p0 h5 fun v8 h8 =>
 x_st 3 v8 v6 h8 fun h9 =>
 x_neq v7 (I 0) fun v10 =>
 x_if0 v10
 (x_bld [.nils,.nils,.nils] [] fun v11 =>
 x_st 3 v4 v11 h9 fun h12 =>
 x_ld (some 3) v4 h12 fun v13 =>
 .ret (.tup [v13,v7]) h12)
 (x_ld (some 3) v8 h9 fun v11 =>
 x_ld (some 3) v3 h9 fun v12 =>
 x_call cl 438 [v11,v12,v1] h9 fun v13 h13 =>
 x_ext 0 v13 fun v14 =>
 x_ext 1 v13 fun v15 =>
 x_nw [.nils,.nils,.nils] p0 h13 fun v16 h16 =>
 x_st 3 v16 v14 h16 fun h17 =>
 x_neq v15 (I 0) fun v18 =>
 x_grp false v18 (fun (v19 v20 v21 : AV) (h22 : KH) =>
 x_pick v18 (.bool true) v21 fun v23 =>
 x_if0 v23
 (x_ld (some 3) v16 h22 fun v24 =>
 x_st 3 v4 v24 h22 fun h25 =>
 x_ld (some 3) v4 h25 fun v26 =>
 .ret (.tup [v26,v15]) h25)
 (x_lss v2 (I 0) fun v24 =>
 x_if0 v24
 (x_ld (some 3) v3 h22 fun v25 =>
 x_call cl 439 [v25] h22 fun v26 h26 =>
 x_ext 0 v26 fun v27 =>
 x_ext 1 v26 fun v28 =>
 x_nw [.nils,.nils,.nils] p0 h26 fun v29 h29 =>
 x_st 3 v29 v27 h29 fun h30 =>
 x_neq v28 (I 0) fun v31 =>
 x_if0 v31
 (x_bld [.nils,.nils,.nils] [] fun v32 =>
 x_st 3 v4 v32 h30 fun h33 =>
 x_ld (some 3) v4 h33 fun v34 =>
 .ret (.tup [v34,v28]) h33)
 (x_ld (some 3) v16 h30 fun v32 =>
 x_ld (some 3) v29 h30 fun v33 =>
 x_call cl 283 [v32,v33] h30 fun v34 h34 =>
 x_ext 0 v34 fun v35 =>
 x_ext 1 v34 fun v36 =>
 x_st 3 v4 v35 h34 fun h37 =>
 x_ld (some 3) v4 h37 fun v38 =>
 .ret (.tup [v38,v36]) h37))
 (x_ld (some 3) v3 h22 fun v25 =>
 x_ld (some 3) v8 h22 fun v26 =>
 x_call cl 284 [v25,v26] h22 fun v27 h27 =>
 x_ext 0 v27 fun v28 =>
 x_ext 1 v27 fun v29 =>
 x_nw [.nils,.nils,.nils] p0 h27 fun v30 h30 =>
 x_st 3 v30 v28 h30 fun h31 =>
 x_neq v29 (I 0) fun v32 =>
 x_if0 v32
 (x_bld [.nils,.nils,.nils] [] fun v33 =>
 x_st 3 v4 v33 h31 fun h34 =>
 x_ld (some 3) v4 h34 fun v35 =>
 .ret (.tup [v35,v29]) h34)
 (x_ld (some 3) v16 h31 fun v33 =>
 x_ld (some 3) v30 h31 fun v34 =>
 x_bin .sub v2 v1 fun v35 =>
 x_call cl 438 [v33,v34,v35] h31 fun v36 h36 =>
 x_ext 0 v36 fun v37 =>
 x_ext 1 v36 fun v38 =>
 x_st 3 v4 v37 h36 fun h39 =>
 x_ld (some 3) v4 h39 fun v40 =>
 .ret (.tup [v40,v38]) h39)))) (fun J19 =>
 x_eql v2 v1 fun v20 =>
 J19 v2 v1 v20 h17) (fun J19 => J19 aud aud aud h17)))
def H287 : Hints := []
theorem S287 : SoundF Tryz.prog 287 F287 := kfun_of (fn := Tryz.f287) (n := 72) (np := 3) (hs := H287) (q := [.cell 6 (some 3),.tmp 7]) (t := (.s .l (.s .l (.s (.s .l (.i (.s .l .l) .l)) (.s .l (.s (.s .l (.i (.s .l .l) .l)) (.s (.s .l (.i (.s .l (.s (.s .l (.i (.s .l .l) .l)) (.s .l .l))) .l)) (.s .l (.s (.s .l (.i (.s .l .l) .l)) (.s .l .l)))))))))) mix3 (by kernel_rfl) (by kernel_rfl) (by kernel_rfl) (by kernel_rfl) (by kernel_rfl) (by kernel_rfl) (by kernel_rfl) (by kernel_rfl)
noncomputable def F288 : GF := fun cl ar h => x_arg ar fun v0 ar => x_arg ar fun v1 ar => x_ar0 ar (
 x_eql v1 (I 10) fun v2 =>
 x_if0 v2
 (x_leq (I 0) v0 fun v3 =>
 x_grp true v3 (fun (v4 v5 : AV) (h6 : KH) =>
 x_pick v3 v5 (.bool false) fun v7 =>
 x_if0 v7
 (x_call cl 440 [v0] h6 fun v8 h8 =>
 .ret v8 h8)
 (x_nw (rpl 24 (N .u8 0) []) p0 h6 fun v8 h8 =>
 x_conv .u64 v0 fun v9 =>
 x_lss v0 (I 0) fun v10 =>
 x_if v10 (fun (v11 v12 v13 : AV) (h14 : KH) =>
 x_call cl 441 [v13] h14 fun v15 h15 =>
 x_add (I 1) v15 fun v16 =>
 x_pu (.sliceA 24 1 (.cst v12) (some (.cst (I 1))) (some (.cst v16)) none) fun v17 =>
 x_call cl 442 [v17,v13] h15 fun v18 h18 =>
 x_lss v11 (I 0) fun v19 =>
 x_if0 v19
 (x_ixA 24 1 v12 (I 0) fun v20 =>
 x_st 1 v20 (N .u8 45) h18 fun h21 =>
 x_add (I 1) v15 fun v22 =>
 x_pu (.sliceA 24 1 (.cst v12) none (some (.cst v22)) none) fun v23 =>
 x_rd (.strOfBytes (.cst v23)) h21 fun v24 =>
 .ret v24 h21)
 (x_add (I 1) v15 fun v20 =>
 x_pu (.sliceA 24 1 (.cst v12) (some (.cst (I 1))) (some (.cst v20)) none) fun v21 =>
 x_rd (.strOfBytes (.cst v21)) h18 fun v22 =>
 .ret v22 h18))
 (fun J11 => x_un .neg v9 fun v12 =>
 J11 v0 v8 v12 h8)
 (fun J11 => J11 v0 v8 v9 h8))) (fun J4 =>
 x_lss v0 (I 100) fun v5 =>
 J4 v0 v5 h) (fun J4 => J4 aud aud h))
 (x_conv .u64 v0 fun v3 =>
 x_lss v0 (I 0) fun v4 =>
 x_call cl 443 [.nils,v3,v1,v4,(.bool false)] h fun v5 h5 =>
 x_ext 0 v5 fun v6 =>
 x_ext 1 v5 fun v7 =>
 .ret v7 h5))
def H288 : Hints := []
theorem S288 : SoundF Tryz.prog 288 F288 := kfun_of (fn := Tryz.f288) (n := 54) (np := 2) (hs := H288) (q := [.tmp 4]) (t := (.s .l (.s (.s .l (.i (.s (.s .l (.i (.s .l .l) .l)) (.s .l (.s .l (.s (.s .l (.j [0,5,6] .l .l)) (.s .l (.s .l (.s (.s .l (.i (.s .l (.s .l .l)) .l)) (.s .l .l)))))))) .l)) (.s .l (.s .l .l))))) mix3 (by kernel_rfl) (by kernel_rfl) (by kernel_rfl) (by kernel_rfl) (by kernel_rfl) (by kernel_rfl) (by kernel_rfl) (by kernel_rfl)
noncomputable def F289 : GF := fun cl ar h => x_arg ar fun v0 ar => x_ar0 ar (
 x_bin .shr v0 (N .u64 1) fun v1 =>
 x_bin .and v1 (N .u64 6148914691236517205) fun v2 =>
 x_bin .and v0 (N .u64 6148914691236517205) fun v3 =>
 x_add v2 v3 fun v4 =>
 x_bin .shr v4 (N .u64 2) fun v5 =>
 x_bin .and v5 (N .u64 3689348814741910323) fun v6 =>
 x_bin .and v4 (N .u64 3689348814741910323) fun v7 =>
 x_add v6 v7 fun v8 =>
 x_bin .shr v8 (N .u64 4) fun v9 =>
 x_add v9 v8 fun v10 =>
 x_bin .and v10 (N .u64 1085102592571150095) fun v11 =>
 x_bin .shr v11 (N .u64 8) fun v12 =>
 x_add v11 v12 fun v13 =>
 x_bin .shr v13 (N .u64 16) fun v14 =>
 x_add v13 v14 fun v15 =>
 x_bin .shr v15 (N .u64 32) fun v16 =>
 x_add v15 v16 fun v17 =>
 x_conv .i64 v17 fun v18 =>
 x_bin .and v18 (I 127) fun v19 =>
 .ret v19 h)
def H289 : Hints := []
theorem S289 : SoundF Tryz.prog 289 F289 := kfun_of (fn := Tryz.f289) (n := 35) (np := 1) (hs := H289) (q := [.tmp 2]) (t := (.s .l (.s .l (.s .l (.s .l (.s .l (.s .l (.s .l (.s .l .l))))))))) mix3 (by kernel_rfl) (by kernel_rfl) (by kernel_rfl) (by kernel_rfl) (by kernel_rfl) (by kernel_rfl) (by kernel_rfl) (by kernel_rfl)
noncomputable def F290 : GF := fun cl ar h => x_arg ar fun v0 ar => x_arg ar fun v1 ar => x_arg ar fun v2 ar => x_ar0 ar (
 x_bx v0 h fun v3 h3 =>
 x_bx v1 h3 fun v4 h4 =>
 x_nw (rpl 4 (N .u64 0) []) p0 h4 fun v5 h5 =>
 x_nw (rpl 4 (N .u64 0) []) p0 h5 fun v6 h6 =>
 x_loop (jbad [2,3,4,6,7,9]) (fun J7 => (fun (v8 v9 v10 v11 v12 v13 : AV) (h14 : KH) =>
 x_lss v13 (I 4) fun v15 =>
 x_if0 v15
 (x_ixA 4 1 v9 v13 fun v16 =>
 x_ld none v16 h14 fun v17 =>
 x_ixA 4 1 v10 v13 fun v18 =>
 x_ld none v18 h14 fun v19 =>
 x_cl cl v8 [v17,v19] h14 fun v20 h20 =>
 x_ixA 4 1 v12 v13 fun v21 =>
 x_st 1 v21 v20 h20 fun h22 =>
 x_add v13 (I 1) fun v23 =>
 J7 v8 v9 v10 v11 v12 v23 h22)
 (x_ld (some 4) v12 h14 fun v16 =>
 x_st 4 v11 v16 h14 fun h17 =>
 x_ld (some 4) v11 h17 fun v18 =>
 .ret v18 h17))) v2 v3 v4 v5 v6 (I 0) h6)
def H290 : Hints := [(5,[(0,0,[],false),(1,0,[],false),(2,0,[],false),(3,4,[],false),(4,12,[],false),(5,0,[],false),(6,32,[],false),(7,96,[],false),(8,254,[],true),(9,511,[],false),(10,1023,[],true)])]
theorem S290 : SoundF Tryz.prog 290 F290 := kfun_of (fn := Tryz.f290) (n := 24) (np := 3) (hs := H290) (q := [.cell 6 (some 4)]) (t := (.s .l (.s .l (.s (.s .l (.i (.j [2,3,4,6,7,9] (.s .l (.s (.i .l .l) (.s (.i (.s .l .l) .l) .l))) .l) .l)) (.s .l .l))))) mix3 (by kernel_rfl) (by kernel_rfl) (by kernel_rfl) (by kernel_rfl) (by kernel_rfl) (by kernel_rfl) (by kernel_rfl) (by kernel_rfl)
noncomputable def F291 : GF := fun cl ar h => x_arg ar fun v0 ar => x_arg ar fun v1 ar => x_ar0 ar (
 x_bin .or v0 v1 fun v2 =>
 .ret v2 h)
def H291 : Hints := []
theorem S291 : SoundF Tryz.prog 291 F291 := kfun_of (fn := Tryz.f291) (n := 8) (np := 2) (hs := H291) (q := [.tmp 4]) (t := (.s .l (.s .l .l))) mix3 (by kernel_rfl) (by kernel_rfl) (by kernel_rfl) (by kernel_rfl) (by kernel_rfl) (by kernel_rfl) (by kernel_rfl) (by kernel_rfl)
noncomputable def F294 : GF := fun cl ar h => x_arg ar fun v0 ar => x_arg ar fun v1 ar => x_ar0 ar (
 x_nw (rpl 4 (N .u64 0) []) p0 h fun v2 h2 =>
 x_nw (rpl 4 (N .u64 0) []) p0 h2 fun v3 h3 =>
 x_conv .i64 v0 fun v4 =>
 x_loop (jbad [1,4,5,6]) (fun J5 => (fun (v6 v7 v8 v9 : AV) (h10 : KH) =>
 x_conv .i64 v6 fun v11 =>
 x_leq v9 v11 fun v12 =>
 x_if0 v12
 (x_conv .u8 v9 fun v13 =>
 x_call cl 105 [v8,v13] h10 fun v14 h14 =>
 x_add v9 (I 1) fun v15 =>
 J5 v6 v7 v8 v15 h14)
 (x_ld (some 4) v8 h10 fun v13 =>
 x_st 4 v7 v13 h10 fun h14 =>
 x_ld (some 4) v7 h14 fun v15 =>
 .ret v15 h14))) v1 v2 v3 v4 h3)
def H294 : Hints := []
theorem S294 : SoundF Tryz.prog 294 F294 := kfun_of (fn := Tryz.f294) (n := 19) (np := 2) (hs := H294) (q := [.cell 4 (some 4)]) (t := (.s .l (.s .l (.s (.s .l (.i (.j [1,4,5,6] (.s (.s .l (.i .l .l)) (.s (.i .l .l) .l)) .l) .l)) (.s .l .l))))) mix3 (by kernel_rfl) (by kernel_rfl) (by kernel_rfl) (by kernel_rfl) (by kernel_rfl) (by kernel_rfl) (by kernel_rfl) (by kernel_rfl)
noncomputable def F297 : GF := fun cl ar h => x_arg ar fun v0 ar => x_ar0 ar (
 x_bx v0 h fun v1 h1 =>
 x_nw (rpl 4 (N .u64 0) []) p0 h1 fun v2 h2 =>
 x_ld (some 4) v1 h2 fun v3 =>
 x_ld (some 4) v1 h2 fun v4 =>
 x_call cl 290 [v3,v4,(.fn (.func 459) [] [])] h2 fun v5 h5 =>
 x_st 4 v2 v5 h5 fun h6 =>
 x_ld (some 4) v2 h6 fun v7 =>
 .ret v7 h6)
def H297 : Hints := []
theorem S297 : SoundF Tryz.prog 297 F297 := kfun_of (fn := Tryz.f297) (n := 6) (np := 1) (hs := H297) (q := [.cell 2 (some 4)]) (t := (.s .l (.s .l .l))) mix3 (by kernel_rfl) (by kernel_rfl) (by kernel_rfl) (by kernel_rfl) (by kernel_rfl) (by kernel_rfl) (by kernel_rfl) (by kernel_rfl)
noncomputable def F328 : GF := fun cl ar h => x_arg ar fun v0 ar => x_arg ar fun v1 ar => x_arg ar fun v2 ar => x_ar0 ar (
 x_add v1 (I 1) fun v3 =>
 x_loop (jbad [0,1,2,6]) (fun J4 => (fun (v5 v6 v7 v8 : AV) (h9 : KH) =>
 x_lss v8 v7 fun v10 =>
 x_if0 v10
 (x_loop (jbad [0,1,2,6,7]) (fun J11 => (fun (v12 v13 v14 v15 v16 : AV) (h17 : KH) =>
 x_bin .gtr v16 v13 fun v18 =>
 x_grp true v18 (fun (v19 v20 v21 v22 v23 v24 v25 v26 v27 v28 : AV) (h29 : KH) =>
 x_pick v18 v28 (.bool false) fun v30 =>
 x_if0 v30
 (x_bin .sub v16 (I 1) fun v31 =>
 x_bin .sub v16 (I 1) fun v32 =>
 x_ixS 1 v12 v32 fun v33 =>
 x_ld none v33 h29 fun v34 =>
 x_ixS 1 v12 v16 fun v35 =>
 x_ld none v35 h29 fun v36 =>
 x_ixS 1 v12 v16 fun v37 =>
 x_st 1 v37 v34 h29 fun h38 =>
 x_ixS 1 v12 v31 fun v39 =>
 x_st 1 v39 v36 h38 fun h40 =>
 x_bin .sub v16 (I 1) fun v41 =>
 J11 v12 v13 v14 v15 v41 h40)
 (x_add v15 (I 1) fun v31 =>
 J4 v12 v13 v14 v31 h29)) (fun J19 =>
 x_ixS 1 v12 v16 fun v20 =>
 x_ld none v20 h17 fun v21 =>
 x_bin .sub v16 (I 1) fun v22 =>
 x_ixS 1 v12 v22 fun v23 =>
 x_ld none v23 h17 fun v24 =>
 x_call cl 334 [v21,v24] h17 fun v25 h25 =>
 J19 v12 v16 v20 v21 v12 v16 v22 v23 v24 v25 h25) (fun J19 => J19 aud aud aud aud aud aud aud aud aud aud h17))) v5 v6 v7 v8 v8 h9)
 (.ret (.tup []) h9))) v0 v1 v2 v3 h)
def H328 : Hints := [(4,[(0,0,[],false),(1,0,[],false),(2,3,[],false),(3,7,[],false),(4,15,[],false),(5,15,[],false),(6,63,[],false),(7,127,[],false),(8,15,[],false),(9,15,[],false),(10,527,[],false),(11,1807,[],false),(12,3855,[],false),(13,8191,[],true),(14,16383,[],false)]),(6,[(0,0,[],false),(1,0,[],false),(2,0,[],false),(3,0,[],false),(4,8,[],false),(5,0,[],false),(6,0,[],false),(7,64,[],false),(8,224,[],false),(9,480,[],false),(10,0,[],false),(11,0,[],false),(12,3072,[],false),(13,7168,[],false),(14,16355,[],false),(15,32739,[],true),(16,65535,[],false),(17,131071,[],true)])]
theorem S328 : SoundF Tryz.prog 328 F328 := kfun_of (fn := Tryz.f328) (n := 49) (np := 3) (hs := H328) (q := []) (t := (.s .l (.i (.j [0,1,2,6] (.s (.s .l (.i .l .l)) (.s (.i (.s .l (.i (.j [0,1,2,6,7] (.s (.s .l (.i .l .l)) (.s (.i .l .l) .l)) .l) .l)) .l) .l)) .l) .l))) mix3 (by kernel_rfl) (by kernel_rfl) (by kernel_rfl) (by kernel_rfl) (by kernel_rfl) (by kernel_rfl) (by kernel_rfl) (by kernel_rfl)
noncomputable def F334 : GF := fun cl ar h => x_arg ar fun v0 ar => x_arg ar fun v1 ar => x_ar0 ar (
 x_call cl 487 [v0] h fun v2 h2 =>
 x_grp true v2 (fun (v3 v4 v5 : AV) (h6 : KH) =>
 x_pick v2 v5 (.bool false) fun v7 =>
 x_grp false v7 (fun (v8 v9 v10 : AV) (h11 : KH) =>
 x_pick v7 (.bool true) v10 fun v12 =>
 .ret v12 h11) (fun J8 =>
 x_lss v0 v1 fun v9 =>
 J8 v0 v1 v9 h6) (fun J8 => J8 aud aud aud h6)) (fun J3 =>
 x_call cl 487 [v1] h2 fun v4 h4 =>
 x_un .not v4 fun v5 =>
 J3 v1 v4 v5 h4) (fun J3 => J3 aud aud aud h2))
def H334 : Hints := []
theorem S334 : SoundF Tryz.prog 334 F334 := kfun_of (fn := Tryz.f334) (n := 17) (np := 2) (hs := H334) (q := [.tmp 4]) (t := (.s .l (.s .l .l))) mix3 (by kernel_rfl) (by kernel_rfl) (by kernel_rfl) (by kernel_rfl) (by kernel_rfl) (by kernel_rfl) (by kernel_rfl) (by kernel_rfl)
noncomputable def F337 : GF := fun cl ar h => x_arg ar fun v0 ar => x_arg ar fun v1 ar => x_ar0 ar (
 x_call cl 488 [v0,v1] h fun v2 h2 =>
 x_bin .geq v2 (I 0) fun v3 =>
 .ret v3 h2)
def H337 : Hints := []
theorem S337 : SoundF Tryz.prog 337 F337 := kfun_of (fn := Tryz.f337) (n := 9) (np := 2) (hs := H337) (q := [.tmp 4]) (t := (.s .l (.s .l .l))) mix3 (by kernel_rfl) (by kernel_rfl) (by kernel_rfl) (by kernel_rfl) (by kernel_rfl) (by kernel_rfl) (by kernel_rfl) (by kernel_rfl)
noncomputable def F338 : GF := fun cl ar h => x_arg ar fun v0 ar => x_arg ar fun v1 ar => x_ar0 ar (
 x_bx v0 h fun v2 h2 =>
 x_fa 0 v2 fun v3 =>
 x_ld none v3 h2 fun v4 =>
 x_lss v4 (.int .i64 (-1)) fun v5 =>
 x_grp false v5 (fun (v6 v7 v8 v9 : AV) (h10 : KH) =>
 x_pick v5 (.bool true) v9 fun v11 =>
 x_grp false v11 (fun (v12 v13 v14 v15 : AV) (h16 : KH) =>
 x_grp true v15 (fun (v17 v18 v19 : AV) (h20 : KH) =>
 x_grp false v11 (fun (v21 : AV) (h22 : KH) =>
 x_pick v11 (.bool true) v21 fun v23 =>
 .ret v23 h22) (fun J21 =>
 x_pick v15 v19 (.bool false) fun v22 =>
 J21 v22 h20) (fun J21 => J21 aud h20)) (fun J17 =>
 x_fa 1 v2 fun v18 =>
 x_ld none v18 h16 fun v19 =>
 x_neq v19 (N .u8 0) fun v20 =>
 J17 v18 v19 v20 h16) (fun J17 => J17 aud aud aud h16)) (fun J12 =>
 x_fa 0 v2 fun v13 =>
 x_ld none v13 h10 fun v14 =>
 x_bin .geq v14 (I 0) fun v15 =>
 J12 v13 v14 v15 v15 h10) (fun J12 => J12 aud aud aud aud h10)) (fun J6 =>
 x_fa 0 v2 fun v7 =>
 x_ld none v7 h2 fun v8 =>
 x_ld none v1 h2 fun v9 =>
 x_bin .geq v8 v9 fun v10 =>
 J6 v7 v8 v9 v10 h2) (fun J6 => J6 aud aud aud aud h2))
def H338 : Hints := []
theorem S338 : SoundF Tryz.prog 338 F338 := kfun_of (fn := Tryz.f338) (n := 23) (np := 2) (hs := H338) (q := [.tmp 3]) (t := (.s .l (.s .l .l))) mix3 (by kernel_rfl) (by kernel_rfl) (by kernel_rfl) (by kernel_rfl) (by kernel_rfl) (by kernel_rfl) (by kernel_rfl) (by kernel_rfl)
noncomputable def F339 : GF := fun cl ar h => x_arg ar fun v0 ar => x_arg ar fun v1 ar => x_ar0 ar (
 x_bx v0 h fun v2 h2 =>
 x_bx v1 h2 fun v3 h3 =>
 x_nw (rpl 4 (N .u64 0) []) p0 h3 fun v4 h4 =>
 x_ld (some 4) v2 h4 fun v5 =>
 x_ld (some 4) v3 h4 fun v6 =>
 x_call cl 290 [v5,v6,(.fn (.func 489) [] [])] h4 fun v7 h7 =>
 x_st 4 v4 v7 h7 fun h8 =>
 x_ld (some 4) v4 h8 fun v9 =>
 .ret v9 h8)
def H339 : Hints := []
theorem S339 : SoundF Tryz.prog 339 F339 := kfun_of (fn := Tryz.f339) (n := 8) (np := 2) (hs := H339) (q := [.cell 4 (some 4)]) (t := (.s .l (.s .l .l))) mix3 (by kernel_rfl) (by kernel_rfl) (by kernel_rfl) (by kernel_rfl) (by kernel_rfl) (by kernel_rfl) (by kernel_rfl) (by kernel_rfl)
noncomputable def F348 : GF := fun cl ar h => x_arg ar fun v0 ar => x_arg ar fun v1 ar => x_ar0 ar (
 x_bx v0 h fun v2 h2 =>
 x_bx v1 h2 fun v3 h3 =>
 x_nw (rpl 4 (N .u64 0) []) p0 h3 fun v4 h4 =>
 x_ld (some 4) v2 h4 fun v5 =>
 x_ld (some 4) v3 h4 fun v6 =>
 x_call cl 290 [v5,v6,(.fn (.func 494) [] [])] h4 fun v7 h7 =>
 x_st 4 v4 v7 h7 fun h8 =>
 x_ld (some 4) v4 h8 fun v9 =>
 .ret v9 h8)
def H348 : Hints := []
theorem S348 : SoundF Tryz.prog 348 F348 := kfun_of (fn := Tryz.f348) (n := 8) (np := 2) (hs := H348) (q := [.cell 4 (some 4)]) (t := (.s .l (.s .l .l))) mix3 (by kernel_rfl) (by kernel_rfl) (by kernel_rfl) (by kernel_rfl) (by kernel_rfl) (by kernel_rfl) (by kernel_rfl) (by kernel_rfl)
noncomputable def F349 : GF := fun cl ar h => x_arg ar fun v0 ar => x_arg ar fun v1 ar => x_ar0 ar (
 x_len v0 fun v2 =>
 x_conv .u64 v2 fun v3 =>
 x_call cl 166 [v3] h fun v4 h4 =>
 x_call cl 495 [v0,(I 0),v2,v4,v1] h4 fun v5 h5 =>
 .ret (.tup []) h5)
def H349 : Hints := []
theorem S349 : SoundF Tryz.prog 349 F349 := kfun_of (fn := Tryz.f349) (n := 14) (np := 2) (hs := H349) (q := []) (t := (.s .l .l)) mix3 (by kernel_rfl) (by kernel_rfl) (by kernel_rfl) (by kernel_rfl) (by kernel_rfl) (by kernel_rfl) (by kernel_rfl) (by kernel_rfl)
noncomputable def F350 : GF := fun cl ar h => x_arg ar fun v0 ar => x_arg ar fun v1 ar => x_ar0 ar (
 x_bx v0 h fun v2 h2 =>
 x_bx v1 h2 fun v3 h3 =>
 x_ld (some 4) v2 h3 fun v4 =>
 x_ld (some 4) v3 h3 fun v5 =>
 x_call cl 210 [v4] h3 fun v6 h6 =>
 x_chk (cond (koEq (kload (some 4) v3 h6) v5) true false) (x_call cl 210 [v5] h6 fun v7 h7 =>
 x_chk true (x_bin .sub v6 v7 fun v8 =>
 .ret v8 h7)))
def H350 : Hints := [(1,[(0,0,[],false),(2,0,[],false),(1,1,[2],true),(3,7,[],true),(4,15,[],false),(5,31,[],false)])]
theorem S350 : SoundF Tryz.prog 350 F350 := kfun_of (fn := Tryz.f350) (n := 10) (np := 2) (hs := H350) (q := [.tmp 4]) (t := (.s .l (.s .l .l))) mix3 (by kernel_rfl) (by kernel_rfl) (by kernel_rfl) (by kernel_rfl) (by kernel_rfl) (by kernel_rfl) (by kernel_rfl) (by kernel_rfl)
noncomputable def F351 : GF := fun cl ar h => x_arg ar fun v0 ar => x_ar0 ar (
 x_bx v0 h fun v1 h1 =>
 x_nw (rpl 257 (I 0) (rpl 2 .nils [])) p0 h1 fun v2 h2 =>
 x_fa 0 v1 fun v3 =>
 x_ld none v3 h2 fun v4 =>
 x_len v4 fun v5 =>
 x_fa 1 v1 fun v6 =>
 x_ld none v6 h2 fun v7 =>
 x_fa 2 v1 fun v8 =>
 x_ld none v8 h2 fun v9 =>
 x_bld (rpl 257 (I 0) (rpl 2 .nils [])) [.mk 256 1 v5,.mk 257 1 v7,.mk 258 1 v9] fun v10 =>
 x_nw (rpl 257 (I 0) (rpl 2 .nils [])) p0 h2 fun v11 h11 =>
 x_st 259 v11 v10 h11 fun h12 =>
 x_fa 0 v1 fun v13 =>
 x_ld none v13 h12 fun v14 =>
 x_len v14 fun v15 =>
 x_loop (jbad [2,3,17,18,19]) (fun J16 => (fun (v17 v18 v19 v20 v21 : AV) (h22 : KH) =>
 x_lss v21 v20 fun v23 =>
 x_if0 v23
 (x_ixS 4 v19 v21 fun v24 =>
 x_ld (some 4) v24 h22 fun v25 =>
 x_nw (rpl 4 (N .u64 0) []) p0 h22 fun v26 h26 =>
 x_st 4 v26 v25 h26 fun h27 =>
 x_ld (some 4) v26 h27 fun v28 =>
 x_call cl 72 [v28] h27 fun v29 h29 =>
 x_len v29 fun v30 =>
 x_loop (jbad [2,3,4,17,18,19,25,26,27]) (fun J31 => (fun (v32 v33 v34 v35 v36 v37 v38 v39 v40 : AV) (h41 : KH) =>
 x_lss v40 v39 fun v42 =>
 x_if0 v42
 (x_ixS 1 v38 v40 fun v43 =>
 x_ld none v43 h41 fun v44 =>
 x_fa 0 v33 fun v45 =>
 x_ixA 256 1 v45 v44 fun v46 =>
 x_st 1 v46 v34 h41 fun h47 =>
 x_add v40 (I 1) fun v48 =>
 J31 v32 v33 v34 v35 v36 v37 v38 v39 v48 h47)
 (x_add v37 (I 1) fun v43 =>
 J16 v32 v33 v35 v36 v43 h41))) v17 v18 v21 v19 v20 v21 v29 v30 (I 0) h29)
 (x_ld (some 259) v18 h22 fun v24 =>
 x_st 259 v17 v24 h22 fun h25 =>
 x_ld (some 259) v17 h25 fun v26 =>
 .ret v26 h25))) v2 v11 v14 v15 (I 0) h12)
def H351 : Hints := []
theorem S351 : SoundF Tryz.prog 351 F351 := kfun_of (fn := Tryz.f351) (n := 38) (np := 1) (hs := H351) (q := [.cell 2 (some 259)]) (t := (.s .l (.s .l (.s (.s .l (.i (.j [2,3,17,18,19] (.s .l (.s (.i .l .l) (.s (.i (.s .l (.s .l (.i (.j [2,3,4,17,18,19,25,26,27] (.s .l (.s (.i .l .l) (.s (.i (.s .l .l) .l) .l))) .l) .l))) .l) .l))) .l) .l)) (.s .l .l))))) mix3 (by kernel_rfl) (by kernel_rfl) (by kernel_rfl) (by kernel_rfl) (by kernel_rfl) (by kernel_rfl) (by kernel_rfl) (by kernel_rfl)
noncomputable def F352 : GF := fun cl ar h => x_arg ar fun v0 ar => x_ar0 ar (
 x_bx v0 h fun v1 h1 =>
 x_nw [.nils,.nils,.nils] p0 h1 fun v2 h2 =>
 x_ld (some 259) v1 h2 fun v3 =>
 x_ld (some 259) v1 h2 fun v4 =>
 x_call cl 497 [v4] h2 fun v5 h5 =>
 x_chk (cond (koEq (kload (some 259) v1 h5) v3) true false) (x_call cl 496 [v3,v5] h5 fun v6 h6 =>
 x_chk true (x_ext 0 v6 fun v7 =>
 x_ext 1 v6 fun v8 =>
 x_ld (some 259) v1 h6 fun v9 =>
 x_call cl 498 [v9,v7,v8] h6 fun v10 h10 =>
 x_ext 0 v10 fun v11 =>
 x_ext 1 v10 fun v12 =>
 x_bld [.nils,.nils,.nils] [.mk 0 1 v12] fun v13 =>
 x_nw [.nils,.nils,.nils] p0 h10 fun v14 h14 =>
 x_st 3 v14 v13 h14 fun h15 =>
 x_len v8 fun v16 =>
 x_mks 8 [(I 0)] v16 v16 h15 fun v17 h17 =>
 x_ixS 1 v7 (I 0) fun v18 =>
 x_ld none v18 h17 fun v19 =>
 x_bsl [(I 0)] 1 [.mk 0 1 v19] h17 fun v20 h20 =>
 x_len v17 fun v21 =>
 x_loop (jbad [1,2,3,4,5,7,8,9,41,42]) (fun J22 => (fun (v23 v24 v25 v26 v27 v28 v29 v30 v31 v32 : AV) (h33 : KH) =>
 x_lss v32 v31 fun v34 =>
 x_if0 v34
 (x_ixS 1 v29 v32 fun v35 =>
 x_st 1 v35 (.int .i64 (-1)) h33 fun h36 =>
 x_add v32 (I 1) fun v37 =>
 J22 v23 v24 v25 v26 v27 v28 v29 v30 v31 v37 h36)
 (x_ixS 1 v25 (I 0) fun v35 =>
 x_ld none v35 h33 fun v36 =>
 x_ixS 1 v29 v36 fun v37 =>
 x_st 1 v37 (I 0) h33 fun h38 =>
 x_loop (jbad [1,2,3,4,5,7,8,9,11]) (fun J39 => (fun (v40 v41 v42 v43 v44 v45 v46 v47 v48 : AV) (h49 : KH) =>
 x_len v47 fun v50 =>
 x_lss v48 v50 fun v51 =>
 x_if0 v51
 (x_ixS 1 v47 v48 fun v52 =>
 x_ld none v52 h49 fun v53 =>
 x_ixS 1 v43 v53 fun v54 =>
 x_ld none v54 h49 fun v55 =>
 x_len v44 fun v56 =>
 x_mks 8 [(I 0)] v56 v56 h49 fun v57 h57 =>
 x_len v44 fun v58 =>
 x_loop (jbad [1,2,3,4,5,7,8,9,11,12,13,70,71,72]) (fun J59 => (fun (v60 v61 v62 v63 v64 v65 v66 v67 v68 v69 v70 v71 v72 v73 : AV) (h74 : KH) =>
 x_lss v73 v72 fun v75 =>
 x_if0 v75
 (x_ixS 1 v71 v73 fun v76 =>
 x_ld none v76 h74 fun v77 =>
 x_fa 257 v60 fun v78 =>
 x_ld none v78 h74 fun v79 =>
 x_ixS 1 v79 v69 fun v80 =>
 x_ld none v80 h74 fun v81 =>
 x_ixS 1 v81 v77 fun v82 =>
 x_ld none v82 h74 fun v83 =>
 x_ixS 1 v62 v83 fun v84 =>
 x_ld none v84 h74 fun v85 =>
 x_ixS 1 v66 v85 fun v86 =>
 x_ld none v86 h74 fun v87 =>
 x_lss v87 (I 0) fun v88 =>
 x_if v88 (fun (v89 v90 v91 v92 v93 v94 v95 v96 v97 v98 v99 v100 v101 v102 v103 v104 : AV) (h105 : KH) =>
 x_ixS 1 v95 v101 fun v106 =>
 x_ld none v106 h105 fun v107 =>
 x_ixS 1 v99 v100 fun v108 =>
 x_st 1 v108 v107 h105 fun h109 =>
 x_add v104 (I 1) fun v110 =>
 J59 v89 v90 v91 v92 v93 v94 v95 v96 v97 v98 v99 v102 v103 v110 h109)
 (fun J89 => x_len v67 fun v90 =>
 x_ixS 1 v66 v85 fun v91 =>
 x_st 1 v91 v90 h74 fun h92 =>
 x_bsl [(I 0)] 1 [.mk 0 1 v85] h92 fun v93 h93 =>
 x_app 1 8 v67 v93 h93 fun v94 h94 =>
 J89 v60 v61 v62 v63 v64 v65 v66 v94 v68 v69 v70 v73 v85 v71 v72 v73 h94)
 (fun J89 => J89 v60 v61 v62 v63 v64 v65 v66 v67 v68 v69 v70 v73 v85 v71 v72 v73 h74))
 (x_fa 1 v65 fun v76 =>
 x_ld none v76 h74 fun v77 =>
 x_bsl [.nils] 1 [.mk 0 1 v70] h74 fun v78 h78 =>
 x_app 1 24 v77 v78 h78 fun v79 h79 =>
 x_fa 1 v65 fun v80 =>
 x_st 1 v80 v79 h79 fun h81 =>
 x_fa 2 v65 fun v82 =>
 x_ld none v82 h81 fun v83 =>
 x_fa 258 v60 fun v84 =>
 x_ld none v84 h81 fun v85 =>
 x_ixS 1 v85 v69 fun v86 =>
 x_ld none v86 h81 fun v87 =>
 x_bsl [(.bool false)] 1 [.mk 0 1 v87] h81 fun v88 h88 =>
 x_app 1 1 v83 v88 h88 fun v89 h89 =>
 x_fa 2 v65 fun v90 =>
 x_st 1 v90 v89 h89 fun h91 =>
 x_add v68 (I 1) fun v92 =>
 J39 v60 v61 v62 v63 v64 v65 v66 v67 v92 h91))) v40 v41 v42 v43 v44 v45 v46 v47 v48 v55 v57 v44 v58 (I 0) h57)
 (x_ld (some 3) v45 h49 fun v52 =>
 x_st 3 v41 v52 h49 fun h53 =>
 x_ld (some 3) v41 h53 fun v54 =>
 .ret v54 h53))) v23 v24 v25 v26 v27 v28 v29 v30 (I 0) h38))) v1 v2 v7 v8 v11 v14 v17 v20 v21 (I 0) h20)))
def H352 : Hints := [(1,[(0,0,[],false),(1,0,[],false),(2,2,[0],true),(3,7,[],true),(4,15,[],false),(5,31,[],false),(6,31,[],false),(7,63,[],false),(8,255,[],false)]),(27,[(0,0,[],false),(1,1,[],false),(2,0,[],false),(3,4,[],false),(4,0,[],false),(5,28,[],false),(6,60,[],false),(7,124,[],false),(8,255,[],true),(9,511,[],false),(10,1023,[],true)])]
theorem S352 : SoundF Tryz.prog 352 F352 := kfun_of (fn := Tryz.f352) (n := 127) (np := 1) (hs := H352) (q := [.cell 2 (some 3)]) (t := (.s .l (.s .l (.s .l (.s .l (.s .l (.s .l (.s (.s .l (.i (.j [1,2,3,4,5,7,8,9,41,42] (.s .l (.s (.i .l .l) (.s (.i (.s .l .l) .l) .l))) .l) .l)) (.s .l (.s (.s .l (.i (.j [1,2,3,4,5,7,8,9,11] (.s (.s .l (.i .l .l)) (.s (.i (.s .l (.s .l (.s (.s .l (.i (.j [1,2,3,4,5,7,8,9,11,12,13,70,71,72] (.s .l (.s (.i .l .l) (.s (.i (.s .l (.s .l (.s (.s .l (.j [1,2,3,4,5,7,8,9,11,12,13,14,16,70,71,72] (.s .l .l) .l)) .l))) .l) .l))) .l) .l)) (.s .l .l)))) .l) .l)) .l) .l)) (.s .l .l))))))))))) mix3 (by kernel_rfl) (by kernel_rfl) (by kernel_rfl) (by kernel_rfl) (by kernel_rfl) (by kernel_rfl) (by kernel_rfl) (by kernel_rfl)
noncomputable def F409 : GF := fun cl ar h => x_arg ar fun v0 ar => x_ar0 ar (
 x_bx v0 h fun v1 h1 =>
 x_ld (some 33) v1 h1 fun v2 =>
 x_call cl 548 [v2] h1 fun v3 h3 =>
 x_nw (rpl 7 (I 0) (.nils :: ((.bool false) :: ((I 0) :: (rpl 2 .nils (rpl 4 (N .u64 0) (rpl 4 (I 0) ((.bool false) :: (rpl 2 .nils ((I 0) :: ((.bool false) :: (rpl 4 (I 0) (.nils :: ((.str []) :: (rpl 2 (I 0) []))))))))))))))) p0 h3 fun v4 h4 =>
 x_st 33 v4 v3 h4 fun h5 =>
 x_fa 9 v4 fun v6 =>
 x_fa 0 v6 fun v7 =>
 x_ld none v7 h5 fun v8 =>
 x_eql v8 (I 0) fun v9 =>
 x_grp true v9 (fun (v10 v11 v12 v13 v14 : AV) (h15 : KH) =>
 x_pick v9 v14 (.bool false) fun v16 =>
 x_grp true v16 (fun (v17 v18 v19 v20 v21 : AV) (h22 : KH) =>
 x_pick v16 v21 (.bool false) fun v23 =>
 x_fa 1 v4 fun v24 =>
 x_ld none v24 h22 fun v25 =>
 x_eql v25 (I 0) fun v26 =>
 x_grp true v26 (fun (v27 v28 v29 : AV) (h30 : KH) =>
 x_pick v26 v29 (.bool false) fun v31 =>
 x_grp true v31 (fun (v32 v33 v34 : AV) (h35 : KH) =>
 x_pick v31 v34 (.bool false) fun v36 =>
 x_grp true v36 (fun (v37 v38 v39 : AV) (h40 : KH) =>
 x_pick v36 v39 (.bool false) fun v41 =>
 x_grp true v41 (fun (v42 v43 v44 : AV) (h45 : KH) =>
 x_pick v41 v44 (.bool false) fun v46 =>
 x_grp true v46 (fun (v47 v48 v49 : AV) (h50 : KH) =>
 x_pick v46 v49 (.bool false) fun v51 =>
 x_fa 23 v4 fun v52 =>
 x_fa 0 v52 fun v53 =>
 x_ld none v53 h50 fun v54 =>
 x_eql v54 (I 0) fun v55 =>
 x_grp true v55 (fun (v56 v57 v58 v59 : AV) (h60 : KH) =>
 x_pick v55 v59 (.bool false) fun v61 =>
 x_grp true v61 (fun (v62 v63 v64 v65 : AV) (h66 : KH) =>
 x_pick v61 v65 (.bool false) fun v67 =>
 x_grp true v67 (fun (v68 v69 v70 v71 : AV) (h72 : KH) =>
 x_pick v67 v71 (.bool false) fun v73 =>
 x_grp true v73 (fun (v74 v75 v76 v77 : AV) (h78 : KH) =>
 x_pick v73 v77 (.bool false) fun v79 =>
 x_grp true v79 (fun (v80 v81 v82 v83 : AV) (h84 : KH) =>
 x_pick v79 v83 (.bool false) fun v85 =>
 x_grp true v85 (fun (v86 v87 v88 v89 v90 : AV) (h91 : KH) =>
 x_pick v85 v90 (.bool false) fun v92 =>
 x_grp true v23 (fun (v93 : AV) (h94 : KH) =>
 x_pick v23 v93 (.bool false) fun v95 =>
 x_grp true v95 (fun (v96 : AV) (h97 : KH) =>
 x_pick v95 v96 (.bool false) fun v98 =>
 x_grp true v98 (fun (v99 v100 v101 v102 : AV) (h103 : KH) =>
 x_pick v98 v102 (.bool false) fun v104 =>
 x_grp true v104 (fun (v105 v106 v107 : AV) (h108 : KH) =>
 x_pick v104 v107 (.bool false) fun v109 =>
 x_grp true v109 (fun (v110 v111 v112 v113 : AV) (h114 : KH) =>
 x_pick v109 v113 (.bool false) fun v115 =>
 x_grp true v115 (fun (v116 v117 v118 v119 : AV) (h120 : KH) =>
 x_pick v115 v119 (.bool false) fun v121 =>
 x_grp true v121 (fun (v122 v123 v124 v125 : AV) (h126 : KH) =>
 x_pick v121 v125 (.bool false) fun v127 =>
 x_grp true v127 (fun (v128 v129 v130 v131 : AV) (h132 : KH) =>
 x_pick v127 v131 (.bool false) fun v133 =>
 x_grp true v133 (fun (v134 v135 v136 : AV) (h137 : KH) =>
 x_pick v133 v136 (.bool false) fun v138 =>
 .ret v138 h137) (fun J134 =>
 x_fa 30 v4 fun v135 =>
 x_ld none v135 h132 fun v136 =>
 x_eql v136 (.str []) fun v137 =>
 J134 v135 v136 v137 h132) (fun J134 => J134 aud aud aud h132)) (fun J128 =>
 x_fa 22 v4 fun v129 =>
 x_ld none v129 h126 fun v130 =>
 x_len v130 fun v131 =>
 x_eql v131 (I 0) fun v132 =>
 J128 v129 v130 v131 v132 h126) (fun J128 => J128 aud aud aud aud h126)) (fun J122 =>
 x_fa 21 v4 fun v123 =>
 x_ld none v123 h120 fun v124 =>
 x_len v124 fun v125 =>
 x_eql v125 (I 0) fun v126 =>
 J122 v123 v124 v125 v126 h120) (fun J122 => J122 aud aud aud aud h120)) (fun J116 =>
 x_fa 16 v4 fun v117 =>
 x_ld (some 5) v117 h114 fun v118 =>
 x_bld (rpl 4 (I 0) ((.bool false) :: [])) [] fun v119 =>
 x_pu (.eq false (.wide (true,[(.i .i64),(.i .i64),(.i .i64),(.i .i64),.b])) (.cst v118) (.cst v119)) fun v120 =>
 J116 v117 v118 v119 v120 h114) (fun J116 => J116 aud aud aud aud h114)) (fun J110 =>
 x_fa 12 v4 fun v111 =>
 x_ld (some 4) v111 h108 fun v112 =>
 x_bld (rpl 4 (N .u64 0) []) [] fun v113 =>
 x_pu (.eq false (.wide (true,[(.i .u64),(.i .u64),(.i .u64),(.i .u64)])) (.cst v112) (.cst v113)) fun v114 =>
 J110 v111 v112 v113 v114 h108) (fun J110 => J110 aud aud aud aud h108)) (fun J105 =>
 x_fa 8 v4 fun v106 =>
 x_ld none v106 h103 fun v107 =>
 x_un .not v107 fun v108 =>
 J105 v106 v107 v108 h103) (fun J105 => J105 aud aud aud h103)) (fun J99 =>
 x_fa 7 v4 fun v100 =>
 x_ld none v100 h97 fun v101 =>
 x_len v101 fun v102 =>
 x_eql v102 (I 0) fun v103 =>
 J99 v100 v101 v102 v103 h97) (fun J99 => J99 aud aud aud aud h97)) (fun J96 =>
 J96 v92 h94) (fun J96 => J96 aud h94)) (fun J93 =>
 J93 v51 h91) (fun J93 => J93 aud h91)) (fun J86 =>
 x_fa 23 v4 fun v87 =>
 x_fa 6 v87 fun v88 =>
 x_ld none v88 h84 fun v89 =>
 x_len v89 fun v90 =>
 x_eql v90 (I 0) fun v91 =>
 J86 v87 v88 v89 v90 v91 h84) (fun J86 => J86 aud aud aud aud aud h84)) (fun J80 =>
 x_fa 23 v4 fun v81 =>
 x_fa 5 v81 fun v82 =>
 x_ld none v82 h78 fun v83 =>
 x_eql v83 (I 0) fun v84 =>
 J80 v81 v82 v83 v84 h78) (fun J80 => J80 aud aud aud aud h78)) (fun J74 =>
 x_fa 23 v4 fun v75 =>
 x_fa 4 v75 fun v76 =>
 x_ld none v76 h72 fun v77 =>
 x_eql v77 (I 0) fun v78 =>
 J74 v75 v76 v77 v78 h72) (fun J74 => J74 aud aud aud aud h72)) (fun J68 =>
 x_fa 23 v4 fun v69 =>
 x_fa 3 v69 fun v70 =>
 x_ld none v70 h66 fun v71 =>
 x_eql v71 (I 0) fun v72 =>
 J68 v69 v70 v71 v72 h66) (fun J68 => J68 aud aud aud aud h66)) (fun J62 =>
 x_fa 23 v4 fun v63 =>
 x_fa 2 v63 fun v64 =>
 x_ld none v64 h60 fun v65 =>
 x_eql v65 (I 0) fun v66 =>
 J62 v63 v64 v65 v66 h60) (fun J62 => J62 aud aud aud aud h60)) (fun J56 =>
 x_fa 23 v4 fun v57 =>
 x_fa 1 v57 fun v58 =>
 x_ld none v58 h50 fun v59 =>
 x_un .not v59 fun v60 =>
 J56 v57 v58 v59 v60 h50) (fun J56 => J56 aud aud aud aud h50)) (fun J47 =>
 x_fa 6 v4 fun v48 =>
 x_ld none v48 h45 fun v49 =>
 x_eql v49 (I 0) fun v50 =>
 J47 v48 v49 v50 h45) (fun J47 => J47 aud aud aud h45)) (fun J42 =>
 x_fa 5 v4 fun v43 =>
 x_ld none v43 h40 fun v44 =>
 x_eql v44 (I 0) fun v45 =>
 J42 v43 v44 v45 h40) (fun J42 => J42 aud aud aud h40)) (fun J37 =>
 x_fa 4 v4 fun v38 =>
 x_ld none v38 h35 fun v39 =>
 x_eql v39 (I 0) fun v40 =>
 J37 v38 v39 v40 h35) (fun J37 => J37 aud aud aud h35)) (fun J32 =>
 x_fa 3 v4 fun v33 =>
 x_ld none v33 h30 fun v34 =>
 x_eql v34 (I 0) fun v35 =>
 J32 v33 v34 v35 h30) (fun J32 => J32 aud aud aud h30)) (fun J27 =>
 x_fa 2 v4 fun v28 =>
 x_ld none v28 h22 fun v29 =>
 x_eql v29 (I 0) fun v30 =>
 J27 v28 v29 v30 h22) (fun J27 => J27 aud aud aud h22)) (fun J17 =>
 x_fa 9 v4 fun v18 =>
 x_fa 2 v18 fun v19 =>
 x_ld none v19 h15 fun v20 =>
 x_len v20 fun v21 =>
 x_eql v21 (I 0) fun v22 =>
 J17 v18 v19 v20 v21 v22 h15) (fun J17 => J17 aud aud aud aud aud h15)) (fun J10 =>
 x_fa 9 v4 fun v11 =>
 x_fa 1 v11 fun v12 =>
 x_ld none v12 h5 fun v13 =>
 x_len v13 fun v14 =>
 x_eql v14 (I 0) fun v15 =>
 J10 v11 v12 v13 v14 v15 h5) (fun J10 => J10 aud aud aud aud aud h5))
def H409 : Hints := []
theorem S409 : SoundF Tryz.prog 409 F409 := kfun_of (fn := Tryz.f409) (n := 143) (np := 1) (hs := H409) (q := [.tmp 2]) (t := (.s .l (.s .l (.s .l (.s .l (.s .l (.s .l .l))))))) mix3 (by kernel_rfl) (by kernel_rfl) (by kernel_rfl) (by kernel_rfl) (by kernel_rfl) (by kernel_rfl) (by kernel_rfl) (by kernel_rfl)
end Go.Proofs.YtlopgbdfdfijoaaGreatDoor.San
