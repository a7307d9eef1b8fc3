import Derived.Test.YtlopgbdfdfijoaaGreatDoorZb03
import Derived.Test.YtlopgbdfdfijoaaGreatDoorProg
/-
  printed functions for the kernel.
-/
set_option linter.unusedSectionVars false
set_option linter.unusedVariables false
set_option linter.unusedSimpArgs false
namespace Go.Proofs.YtlopgbdfdfijoaaGreatDoor.San
open Go Go.AL
theorem mix4 : Tryz.prog.follows .mixedOrders = true := by kernel_rfl
variable [GLC]
noncomputable def F410 : GF := fun cl ar h => x_arg ar fun v0 ar => x_ar0 ar (
 x_call cl 411 [v0,(I 0),(I 11)] h fun v1 h1 =>
 .ret v1 h1)
def H410 : Hints := []
theorem S410 : SoundF Tryz.prog 410 F410 := kfun_of (fn := Tryz.f410) (n := 5) (np := 1) (hs := H410) (q := [.tmp 2]) (t := (.s .l (.s .l .l))) mix4 (by kernel_rfl) (by kernel_rfl) (by kernel_rfl) (by kernel_rfl) (by kernel_rfl) (by kernel_rfl) (by kernel_rfl) (by kernel_rfl)
noncomputable def F411 : GF := fun cl ar h => x_arg ar fun v0 ar => x_arg ar fun v1 ar => x_arg ar fun v2 ar => x_ar0 ar (
 x_leq v1 v0 fun v3 =>
 x_grp true v3 (fun (v4 v5 v6 : AV) (h7 : KH) =>
 x_pick v3 v6 (.bool false) fun v8 =>
 .ret v8 h7) (fun J4 =>
 x_leq v0 v2 fun v5 =>
 J4 v0 v2 v5 h) (fun J4 => J4 aud aud aud h))
def H411 : Hints := []
theorem S411 : SoundF Tryz.prog 411 F411 := kfun_of (fn := Tryz.f411) (n := 15) (np := 3) (hs := H411) (q := [.tmp 6]) (t := (.s .l (.s .l .l))) mix4 (by kernel_rfl) (by kernel_rfl) (by kernel_rfl) (by kernel_rfl) (by kernel_rfl) (by kernel_rfl) (by kernel_rfl) (by kernel_rfl)
noncomputable def F414 : GF := fun cl ar h => x_arg ar fun v0 ar => x_ar0 ar (
 x_k (.bytesOf (.cst v0)) h fun v1 h1 =>
 x_len v1 fun v2 =>
 x_loop (jbad [0,6,7,8]) (fun J3 => (fun (v4 v5 v6 v7 : AV) (h8 : KH) =>
 x_lss v7 v6 fun v9 =>
 x_if0 v9
 (x_ixS 1 v5 v7 fun v10 =>
 x_ld none v10 h8 fun v11 =>
 x_lss v11 (N .u8 97) fun v12 =>
 x_grp false v12 (fun (v13 v14 : AV) (h15 : KH) =>
 x_pick v12 (.bool true) v14 fun v16 =>
 x_if0 v16
 (.ret (.bool false) h15)
 (x_add v7 (I 1) fun v17 =>
 J3 v4 v5 v6 v17 h15)) (fun J13 =>
 x_bin .gtr v11 (N .u8 122) fun v14 =>
 J13 v11 v14 h8) (fun J13 => J13 aud aud h8))
 (x_pu (.lenStr (.cst v4)) fun v10 =>
 x_call cl 411 [v10,(I 1),(I 8)] h8 fun v11 h11 =>
 .ret v11 h11))) v0 v1 v2 (I 0) h1)
def H414 : Hints := []
theorem S414 : SoundF Tryz.prog 414 F414 := kfun_of (fn := Tryz.f414) (n := 22) (np := 1) (hs := H414) (q := [.tmp 2]) (t := (.s .l (.s (.s .l (.i (.j [0,6,7,8] (.s .l (.s (.i .l .l) (.s (.i (.s .l (.s .l (.i (.s .l .l) .l))) .l) .l))) .l) .l)) (.s .l .l)))) mix4 (by kernel_rfl) (by kernel_rfl) (by kernel_rfl) (by kernel_rfl) (by kernel_rfl) (by kernel_rfl) (by kernel_rfl) (by kernel_rfl)
noncomputable def F417 : GF := fun cl ar h => x_arg ar fun v0 ar => x_arg ar fun v1 ar => x_ar0 ar (
 x_len v0 fun v2 =>
 x_loop (jbad [0,1,7,8]) (fun J3 => (fun (v4 v5 v6 v7 : AV) (h8 : KH) =>
 x_lss v7 v6 fun v9 =>
 x_if0 v9
 (x_ixS 1 v4 v7 fun v10 =>
 x_ld none v10 h8 fun v11 =>
 x_pu (.eq false .bool (.cst v5) (.cst v11)) fun v12 =>
 x_if0 v12
 (.ret v7 h8)
 (x_add v7 (I 1) fun v13 =>
 J3 v4 v5 v6 v13 h8))
 (.ret (.int .i64 (-1)) h8))) v0 v1 v2 (I 0) h)
def H417 : Hints := []
theorem S417 : SoundF Tryz.prog 417 F417 := kfun_of (fn := Tryz.f417) (n := 19) (np := 2) (hs := H417) (q := [.tmp 4]) (t := (.s .l (.s (.s .l (.i (.j [0,1,7,8] (.s .l (.s (.i .l .l) (.s (.i (.s .l (.s .l (.i (.s .l .l) .l))) .l) .l))) .l) .l)) (.s .l .l)))) mix4 (by kernel_rfl) (by kernel_rfl) (by kernel_rfl) (by kernel_rfl) (by kernel_rfl) (by kernel_rfl) (by kernel_rfl) (by kernel_rfl)
noncomputable def F424 : GF := fun cl ar h => x_arg ar fun v0 ar => x_ar0 ar (
 x_call cl 550 [v0] h fun v1 h1 =>
 x_loop (jbad [0,3]) (fun J2 => (fun (v3 v4 : AV) (h5 : KH) =>
 x_call cl 425 [v3] h5 fun v6 h6 =>
 x_eql v6 (.int .i64 (-1)) fun v7 =>
 x_if v7 (fun (v8 v9 v10 : AV) (h11 : KH) =>
 x_if0 v10
 (.ret v9 h11)
 (x_call cl 550 [v8] h11 fun v12 h12 =>
 x_bld ((I 0) :: (rpl 4 (N .u64 0) (rpl 4 (I 0) []))) [.mk 0 1 (I 4),.mk 5 1 v9,.mk 6 1 v12] fun v13 =>
 x_call cl 277 [v8,v13] h12 fun v14 h14 =>
 J2 v8 v14 h14))
 (fun J8 => J8 v3 v4 v7 h6)
 (fun J8 => x_eql v6 (I 124) fun v9 =>
 x_if0 v9
 (J8 v3 v4 v9 h6)
 (x_eql v6 (I 38) fun v10 =>
 x_if0 v10
 (J8 v3 v4 v10 h6)
 (x_eql v6 (I 41) fun v11 =>
 J8 v3 v4 v11 h6))))) v0 v1 h1)
def H424 : Hints := []
theorem S424 : SoundF Tryz.prog 424 F424 := kfun_of (fn := Tryz.f424) (n := 22) (np := 1) (hs := H424) (q := [.tmp 2]) (t := (.s .l (.s .l (.i (.j [0,3] (.i (.s (.s .l (.i (.s (.s .l (.j [0,3,9] .l (.s .l (.i .l (.s .l (.i .l .l)))))) (.i (.s .l .l) .l)) .l)) (.s .l .l)) .l) .l) .l)))) mix4 (by kernel_rfl) (by kernel_rfl) (by kernel_rfl) (by kernel_rfl) (by kernel_rfl) (by kernel_rfl) (by kernel_rfl) (by kernel_rfl)
noncomputable def F425 : GF := fun cl ar h => x_arg ar fun v0 ar => x_ar0 ar (
 x_nc v0 fun v1 =>
 x_fa 1 v1 fun v2 =>
 x_ld none v2 h fun v3 =>
 x_nc v0 fun v4 =>
 x_fa 0 v4 fun v5 =>
 x_ld none v5 h fun v6 =>
 x_pu (.lenStr (.cst v6)) fun v7 =>
 x_eql v3 v7 fun v8 =>
 x_if0 v8
 (.ret (.int .i64 (-1)) h)
 (x_nc v0 fun v9 =>
 x_fa 0 v9 fun v10 =>
 x_ld none v10 h fun v11 =>
 x_nc v0 fun v12 =>
 x_fa 1 v12 fun v13 =>
 x_ld none v13 h fun v14 =>
 x_pu (.indexStr (.cst v11) (.cst v14)) fun v15 =>
 x_conv .i64 v15 fun v16 =>
 .ret v16 h))
def H425 : Hints := [(1,[(0,0,[],false),(1,1,[],false),(2,3,[],false),(3,7,[],false),(4,0,[],false),(5,16,[],false),(6,48,[],false),(7,112,[],false),(8,240,[],false),(9,511,[],false)]),(3,[(0,0,[],false),(1,1,[],false),(2,3,[],false),(3,7,[],false),(4,0,[],false),(5,16,[],false),(6,48,[],false),(7,112,[],false),(8,255,[],false),(9,511,[],false),(10,1023,[],false)])]
theorem S425 : SoundF Tryz.prog 425 F425 := kfun_of (fn := Tryz.f425) (n := 23) (np := 1) (hs := H425) (q := [.tmp 2]) (t := (.s .l (.s (.s .l (.i (.s .l .l) .l)) (.s .l .l)))) mix4 (by kernel_rfl) (by kernel_rfl) (by kernel_rfl) (by kernel_rfl) (by kernel_rfl) (by kernel_rfl) (by kernel_rfl) (by kernel_rfl)
noncomputable def F426 : GF := fun cl ar h => x_arg ar fun v0 ar => x_arg ar fun v1 ar => x_ar0 ar (
 x_bin .geq v0 (I 0) fun v2 =>
 x_grp true v2 (fun (v3 v4 v5 : AV) (h6 : KH) =>
 x_pick v2 v5 (.bool false) fun v7 =>
 .ret v7 h6) (fun J3 =>
 x_ld none v1 h fun v4 =>
 x_lss v0 v4 fun v5 =>
 J3 v0 v4 v5 h) (fun J3 => J3 aud aud aud h))
def H426 : Hints := []
theorem S426 : SoundF Tryz.prog 426 F426 := kfun_of (fn := Tryz.f426) (n := 11) (np := 2) (hs := H426) (q := [.tmp 3]) (t := (.s .l (.s .l .l))) mix4 (by kernel_rfl) (by kernel_rfl) (by kernel_rfl) (by kernel_rfl) (by kernel_rfl) (by kernel_rfl) (by kernel_rfl) (by kernel_rfl)
noncomputable def F427 : GF := fun cl ar h => x_arg ar fun v0 ar => x_arg ar fun v1 ar => x_ar0 ar (
 x_bx v0 h fun v2 h2 =>
 x_bx v1 h2 fun v3 h3 =>
 x_nw (rpl 256 (I 0) []) p0 h3 fun v4 h4 =>
 x_nw (rpl 256 (I 0) []) p0 h4 fun v5 h5 =>
 x_k .makeMap h5 fun v6 h6 =>
 x_loop (jbad [2,3,4,6,7,8,14]) (fun J7 => (fun (v8 v9 v10 v11 v12 v13 v14 : AV) (h15 : KH) =>
 x_lss v14 (I 256) fun v16 =>
 x_if0 v16
 (x_fa 0 v8 fun v17 =>
 x_ixA 256 1 v17 v14 fun v18 =>
 x_ld none v18 h15 fun v19 =>
 x_fa 0 v9 fun v20 =>
 x_ixA 256 1 v20 v14 fun v21 =>
 x_ld none v21 h15 fun v22 =>
 x_bld [(I 0),(I 0)] [.mk 0 1 v19,.mk 1 1 v22] fun v23 =>
 x_nw [(I 0),(I 0)] p0 h15 fun v24 h24 =>
 x_st 2 v24 v23 h24 fun h25 =>
 x_ld (some 2) v24 h25 fun v26 =>
 x_rd (.lookup (true,[(.i .i64),(.i .i64)]) (I 0) true (.cst v13) (.cst v26)) h25 fun v27 =>
 x_ext 0 v27 fun v28 =>
 x_ext 1 v27 fun v29 =>
 x_un .not v29 fun v30 =>
 x_if v30 (fun (v31 v32 v33 v34 v35 v36 v37 v38 v39 : AV) (h40 : KH) =>
 x_ixA 256 1 v34 v37 fun v41 =>
 x_st 1 v41 v38 h40 fun h42 =>
 x_add v39 (I 1) fun v43 =>
 J7 v31 v32 v33 v34 v35 v36 v43 h42)
 (fun J31 => x_len v12 fun v32 =>
 x_ld (some 2) v24 h25 fun v33 =>
 x_k (.mapUpd (true,[(.i .i64),(.i .i64)]) (.cst v13) (.cst v33) (.cst v32)) h25 fun v34 h34 =>
 x_bsl [(I 0)] 1 [.mk 0 1 v14] h34 fun v35 h35 =>
 x_app 1 8 v12 v35 h35 fun v36 h36 =>
 J31 v8 v9 v10 v11 v36 v13 v14 v32 v14 h36)
 (fun J31 => J31 v8 v9 v10 v11 v12 v13 v14 v28 v14 h25))
 (x_ld (some 256) v11 h15 fun v17 =>
 x_st 256 v10 v17 h15 fun h18 =>
 x_ld (some 256) v10 h18 fun v19 =>
 .ret (.tup [v19,v12]) h18))) v2 v3 v4 v5 .nils v6 (I 0) h6)
def H427 : Hints := [(7,[(0,0,[],false),(1,0,[],false),(2,3,[],false),(3,7,[],false),(4,0,[],false),(5,0,[],false),(6,48,[],false),(7,112,[],false),(8,255,[],false),(9,0,[],false),(10,1023,[],true)])]
theorem S427 : SoundF Tryz.prog 427 F427 := kfun_of (fn := Tryz.f427) (n := 49) (np := 2) (hs := H427) (q := [.cell 4 (some 256),.tmp 5]) (t := (.s .l (.s .l (.s .l (.s .l (.s (.s .l (.i (.j [2,3,4,6,7,8,14] (.s .l (.s (.i .l .l) (.s (.i (.s .l (.s .l (.s .l (.s (.s .l (.j [2,3,4,6,7,8,9,11,14] (.s .l (.s .l .l)) .l)) .l)))) .l) .l))) .l) .l)) (.s .l .l))))))) mix4 (by kernel_rfl) (by kernel_rfl) (by kernel_rfl) (by kernel_rfl) (by kernel_rfl) (by kernel_rfl) (by kernel_rfl) (by kernel_rfl)
noncomputable def F428 : GF := fun cl ar h => x_arg ar fun v0 ar => x_arg ar fun v1 ar => x_ar0 ar (
 x_bx v0 h fun v2 h2 =>
 x_nw [(I 0),(I 0),(N .u64 0)] p0 h2 fun v3 h3 =>
 x_fa 258 v1 fun v4 =>
 x_ld none v4 h3 fun v5 =>
 x_fa 0 v2 fun v6 =>
 x_ld none v6 h3 fun v7 =>
 x_ixS 1 v5 v7 fun v8 =>
 x_ld none v8 h3 fun v9 =>
 x_if v9 (fun (v10 v11 : AV) (h12 : KH) =>
 x_ld (some 3) v10 h12 fun v13 =>
 x_st 3 v11 v13 h12 fun h14 =>
 x_ld (some 3) v11 h14 fun v15 =>
 .ret v15 h14)
 (fun J10 => x_fa 2 v2 fun v11 =>
 x_ixA 1 1 v11 (I 0) fun v12 =>
 x_ld none v12 h3 fun v13 =>
 x_bin .or v13 (N .u64 1) fun v14 =>
 x_fa 2 v2 fun v15 =>
 x_ixA 1 1 v15 (I 0) fun v16 =>
 x_st 1 v16 v14 h3 fun h17 =>
 J10 v2 v3 h17)
 (fun J10 => J10 v2 v3 h3))
def H428 : Hints := []
theorem S428 : SoundF Tryz.prog 428 F428 := kfun_of (fn := Tryz.f428) (n := 17) (np := 2) (hs := H428) (q := [.cell 3 (some 3)]) (t := (.s .l (.s (.s .l (.j [2,3] .l .l)) (.s .l .l)))) mix4 (by kernel_rfl) (by kernel_rfl) (by kernel_rfl) (by kernel_rfl) (by kernel_rfl) (by kernel_rfl) (by kernel_rfl) (by kernel_rfl)
noncomputable def F429 : GF := fun cl ar h => x_arg ar fun v0 ar => x_arg ar fun v1 ar => x_arg ar fun v2 ar => x_arg ar fun v3 ar => x_arg ar fun v4 ar => x_ar0 ar (
 x_bx v0 h fun v5 h5 =>
 x_nw [(I 0),(I 0),(N .u64 0)] p0 h5 fun v6 h6 =>
 x_ld none v2 h6 fun v7 =>
 x_fa 257 v3 fun v8 =>
 x_ld none v8 h6 fun v9 =>
 x_fa 0 v5 fun v10 =>
 x_ld none v10 h6 fun v11 =>
 x_ixS 1 v9 v11 fun v12 =>
 x_ld none v12 h6 fun v13 =>
 x_fa 0 v3 fun v14 =>
 x_ixA 256 1 v14 v1 fun v15 =>
 x_ld none v15 h6 fun v16 =>
 x_ixS 1 v13 v16 fun v17 =>
 x_ld none v17 h6 fun v18 =>
 x_ld (some 259) v4 h6 fun v19 =>
 x_fa 2 v5 fun v20 =>
 x_ld (some 1) v20 h6 fun v21 =>
 x_call cl 430 [v19,v21,v1] h6 fun v22 h22 =>
 x_chk (cond (koEq (kload none v17 h22) v18) (cond (koEq (kload none v15 h22) v16) (cond (koEq (kload none v12 h22) v13) (cond (koEq (kload none v10 h22) v11) (cond (koEq (kload none v8 h22) v9) (cond (koEq (kload none v2 h22) v7) true false) false) false) false) false) false) (x_bld [(I 0),(I 0),(N .u64 0)] [.mk 0 1 v18,.mk 2 1 v22] fun v23 =>
 x_cl cl v7 [v23] h22 fun v24 h24 =>
 x_chk true (x_st 3 v6 v24 h24 fun h25 =>
 x_chk true (x_ld (some 3) v6 h25 fun v26 =>
 .ret v26 h25))))
def H429 : Hints := [(1,[(0,0,[],false),(1,0,[],false),(2,2,[],false),(3,0,[],false),(4,8,[],false),(5,30,[],false),(6,62,[],false),(7,0,[],false),(8,0,[],false),(9,384,[],false),(10,896,[],false),(11,2046,[],false),(12,4094,[],false),(13,0,[],false),(14,0,[],false),(15,16384,[],false),(16,0,[],false),(17,122880,[0,2,4,6,10,12],true),(18,262142,[],false),(19,524287,[],true),(20,1048575,[],true)])]
theorem S429 : SoundF Tryz.prog 429 F429 := kfun_of (fn := Tryz.f429) (n := 28) (np := 5) (hs := H429) (q := [.cell 7 (some 3)]) (t := (.s .l (.s .l .l))) mix4 (by kernel_rfl) (by kernel_rfl) (by kernel_rfl) (by kernel_rfl) (by kernel_rfl) (by kernel_rfl) (by kernel_rfl) (by kernel_rfl)
noncomputable def F430 : GF := fun cl ar h => x_arg ar fun v0 ar => x_arg ar fun v1 ar => x_arg ar fun v2 ar => x_ar0 ar (
 x_bx v0 h fun v3 h3 =>
 x_bx v1 h3 fun v4 h4 =>
 x_nw [(N .u64 0)] p0 h4 fun v5 h5 =>
 x_nw [(N .u64 0)] p0 h5 fun v6 h6 =>
 x_fa 257 v3 fun v7 =>
 x_ld none v7 h6 fun v8 =>
 x_len v8 fun v9 =>
 x_loop (jbad [2,3,4,6,7,11,12]) (fun J10 => (fun (v11 v12 v13 v14 v15 v16 v17 : AV) (h18 : KH) =>
 x_lss v17 v16 fun v19 =>
 x_if0 v19
 (x_ixA 1 1 v13 (I 0) fun v20 =>
 x_ld none v20 h18 fun v21 =>
 x_bin .shr v21 v17 fun v22 =>
 x_bin .and v22 (N .u64 1) fun v23 =>
 x_eql v23 (N .u64 1) fun v24 =>
 x_if v24 (fun (v25 v26 v27 v28 v29 v30 v31 : AV) (h32 : KH) =>
 x_add v31 (I 1) fun v33 =>
 J10 v25 v26 v27 v28 v29 v30 v33 h32)
 (fun J25 => x_ixA 1 1 v15 (I 0) fun v26 =>
 x_ld none v26 h18 fun v27 =>
 x_fa 257 v12 fun v28 =>
 x_ld none v28 h18 fun v29 =>
 x_ixS 1 v29 v17 fun v30 =>
 x_ld none v30 h18 fun v31 =>
 x_fa 0 v12 fun v32 =>
 x_ixA 256 1 v32 v11 fun v33 =>
 x_ld none v33 h18 fun v34 =>
 x_ixS 1 v31 v34 fun v35 =>
 x_ld none v35 h18 fun v36 =>
 x_bin .shl (N .u64 1) v36 fun v37 =>
 x_bin .or v27 v37 fun v38 =>
 x_ixA 1 1 v15 (I 0) fun v39 =>
 x_st 1 v39 v38 h18 fun h40 =>
 J25 v11 v12 v13 v14 v15 v16 v17 h40)
 (fun J25 => J25 v11 v12 v13 v14 v15 v16 v17 h18))
 (x_ld (some 1) v15 h18 fun v20 =>
 x_st 1 v14 v20 h18 fun h21 =>
 x_ld (some 1) v14 h21 fun v22 =>
 .ret v22 h21))) v2 v3 v4 v5 v6 v9 (I 0) h6)
def H430 : Hints := [(6,[(0,0,[],false),(1,1,[],false),(2,0,[],false),(3,4,[],false),(4,0,[],false),(5,28,[],false),(6,60,[],false),(7,0,[],false),(8,0,[],false),(9,384,[],false),(10,896,[],false),(11,2044,[],false),(12,4092,[],false),(13,8188,[],false),(14,16383,[],false),(15,32767,[],false),(16,65535,[],true)])]
theorem S430 : SoundF Tryz.prog 430 F430 := kfun_of (fn := Tryz.f430) (n := 39) (np := 3) (hs := H430) (q := [.cell 6 (some 1)]) (t := (.s .l (.s .l (.s (.s .l (.i (.j [2,3,4,6,7,11,12] (.s .l (.s (.i .l .l) (.s (.i (.s .l (.s .l (.j [2,3,4,6,7,11,12] .l .l))) .l) .l))) .l) .l)) (.s .l .l))))) mix4 (by kernel_rfl) (by kernel_rfl) (by kernel_rfl) (by kernel_rfl) (by kernel_rfl) (by kernel_rfl) (by kernel_rfl) (by kernel_rfl)
noncomputable def F431 : GF := fun cl ar h => x_arg ar fun v0 ar => x_arg ar fun v1 ar => x_arg ar fun v2 ar => x_arg ar fun v3 ar => x_arg ar fun v4 ar => x_arg ar fun v5 ar => x_ar0 ar (
 x_bx v0 h fun v6 h6 =>
 x_bx v2 h6 fun v7 h7 =>
 x_nw (rpl 257 (I 0) (rpl 2 .nils [])) p0 h7 fun v8 h8 =>
 x_ld (some 256) v6 h8 fun v9 =>
 x_len v1 fun v10 =>
 x_bld (rpl 257 (I 0) (rpl 2 .nils [])) [.mk 0 256 v9,.mk 256 1 v10] fun v11 =>
 x_nw (rpl 257 (I 0) (rpl 2 .nils [])) p0 h8 fun v12 h12 =>
 x_st 259 v12 v11 h12 fun h13 =>
 x_k .makeMap h13 fun v14 h14 =>
 x_ld (some 3) v7 h14 fun v15 =>
 x_k (.mapUpd (true,[(.i .i64),(.i .i64),(.i .u64)]) (.cst v14) (.cst v15) (.cst (I 0))) h14 fun v16 h16 =>
 x_ld (some 3) v7 h16 fun v17 =>
 x_bsl [(I 0),(I 0),(N .u64 0)] 1 [.mk 0 3 v17] h16 fun v18 h18 =>
 x_loop (jbad [1,3,4,5,12,14,15,16,17]) (fun J19 => (fun (v20 v21 v22 v23 v24 v25 v26 v27 v28 : AV) (h29 : KH) =>
 x_len v27 fun v30 =>
 x_lss v28 v30 fun v31 =>
 x_if0 v31
 (x_len v20 fun v32 =>
 x_mks 8 [(I 0)] v32 v32 h29 fun v33 h33 =>
 x_len v20 fun v34 =>
 x_loop (jbad [1,3,4,5,12,14,15,16,17,18,42,43,44]) (fun J35 => (fun (v36 v37 v38 v39 v40 v41 v42 v43 v44 v45 v46 v47 v48 : AV) (h49 : KH) =>
 x_lss v48 v47 fun v50 =>
 x_if0 v50
 (x_ixS 1 v46 v48 fun v51 =>
 x_ld none v51 h49 fun v52 =>
 x_ixS 3 v43 v44 fun v53 =>
 x_ld (some 3) v53 h49 fun v54 =>
 x_cl cl v37 [v54,v52] h49 fun v55 h55 =>
 x_nw [(I 0),(I 0),(N .u64 0)] p0 h55 fun v56 h56 =>
 x_st 3 v56 v55 h56 fun h57 =>
 x_ld (some 3) v56 h57 fun v58 =>
 x_rd (.lookup (true,[(.i .i64),(.i .i64),(.i .u64)]) (I 0) true (.cst v42) (.cst v58)) h57 fun v59 =>
 x_ext 0 v59 fun v60 =>
 x_ext 1 v59 fun v61 =>
 x_un .not v61 fun v62 =>
 x_if v62 (fun (v63 v64 v65 v66 v67 v68 v69 v70 v71 v72 v73 v74 v75 v76 v77 : AV) (h78 : KH) =>
 x_ixS 1 v72 v73 fun v79 =>
 x_st 1 v79 v74 h78 fun h80 =>
 x_add v77 (I 1) fun v81 =>
 J35 v63 v64 v65 v66 v67 v68 v69 v70 v71 v72 v75 v76 v81 h80)
 (fun J63 => x_len v43 fun v64 =>
 x_eql v64 v39 fun v65 =>
 x_if0 v65
 (x_bld (rpl 257 (I 0) (rpl 2 .nils [])) [] fun v66 =>
 x_st 259 v40 v66 h57 fun h67 =>
 x_ld (some 259) v40 h67 fun v68 =>
 .ret (.tup [v68,(.bool false)]) h67)
 (x_ld (some 3) v56 h57 fun v66 =>
 x_k (.mapUpd (true,[(.i .i64),(.i .i64),(.i .u64)]) (.cst v42) (.cst v66) (.cst v64)) h57 fun v67 h67 =>
 x_ld (some 3) v56 h67 fun v68 =>
 x_bsl [(I 0),(I 0),(N .u64 0)] 1 [.mk 0 3 v68] h67 fun v69 h69 =>
 x_app 3 24 v43 v69 h69 fun v70 h70 =>
 J63 v36 v37 v38 v39 v40 v41 v42 v70 v44 v45 v48 v64 v46 v47 v48 h70))
 (fun J63 => J63 v36 v37 v38 v39 v40 v41 v42 v43 v44 v45 v48 v60 v46 v47 v48 h57))
 (x_fa 257 v41 fun v51 =>
 x_ld none v51 h49 fun v52 =>
 x_bsl [.nils] 1 [.mk 0 1 v45] h49 fun v53 h53 =>
 x_app 1 24 v52 v53 h53 fun v54 h54 =>
 x_fa 257 v41 fun v55 =>
 x_st 1 v55 v54 h54 fun h56 =>
 x_fa 258 v41 fun v57 =>
 x_ld none v57 h56 fun v58 =>
 x_ixS 3 v43 v44 fun v59 =>
 x_ld (some 3) v59 h56 fun v60 =>
 x_cl cl v38 [v60] h56 fun v61 h61 =>
 x_chk (cond (koEq (kload none v57 h61) v58) true false) (x_bs [(.bool false)] 1 [.mk 0 1 v61] fun c62 g62 =>  x_nw c62 g62 h61 fun v62 h62 =>
 x_app 1 1 v58 v62 h62 fun v63 h63 =>
 x_chk true (x_fa 258 v41 fun v64 =>
 x_st 1 v64 v63 h63 fun h65 =>
 x_chk true (x_add v44 (I 1) fun v66 =>
 J19 v36 v37 v38 v39 v40 v41 v42 v43 v66 h65)))))) v20 v21 v22 v23 v24 v25 v26 v27 v28 v33 v20 v34 (I 0) h33)
 (x_ld (some 259) v25 h29 fun v32 =>
 x_st 259 v24 v32 h29 fun h33 =>
 x_ld (some 259) v24 h33 fun v34 =>
 .ret (.tup [v34,(.bool true)]) h33))) v1 v3 v4 v5 v8 v12 v14 v18 (I 0) h18)
def H431 : Hints := [(22,[(0,0,[],false),(1,1,[],false),(2,0,[],false),(3,0,[],false),(4,0,[],false),(5,24,[],false),(6,56,[],false),(7,124,[1],true),(8,252,[],false),(9,511,[],true),(10,1023,[],false),(11,2047,[],true)])]
theorem S431 : SoundF Tryz.prog 431 F431 := kfun_of (fn := Tryz.f431) (n := 100) (np := 6) (hs := H431) (q := [.cell 12 (some 259),.tmp 13]) (t := (.s .l (.s .l (.s .l (.s .l (.s (.s .l (.i (.j [1,3,4,5,12,14,15,16,17] (.s (.s .l (.i .l .l)) (.s (.i (.s .l (.s (.s .l (.i (.j [1,3,4,5,12,14,15,16,17,18,42,43,44] (.s .l (.s (.i .l .l) (.s (.i (.s .l (.s .l (.s .l (.s (.s .l (.j [1,3,4,5,12,14,15,16,17,18,19,22,42,43,44] (.s .l (.s (.s .l (.i (.s .l .l) .l)) (.s .l .l))) .l)) .l)))) .l) .l))) .l) .l)) (.s .l .l))) .l) .l)) .l) .l)) (.s .l .l))))))) mix4 (by kernel_rfl) (by kernel_rfl) (by kernel_rfl) (by kernel_rfl) (by kernel_rfl) (by kernel_rfl) (by kernel_rfl) (by kernel_rfl)
noncomputable def F432 : GF := fun cl ar h => x_arg ar fun v0 ar => x_arg ar fun v1 ar => x_ar0 ar (
 x_bx v0 h fun v2 h2 =>
 x_ld (some 259) v1 h2 fun v3 =>
 x_fa 2 v2 fun v4 =>
 x_ld (some 1) v4 h2 fun v5 =>
 x_call cl 433 [v3,v5] h2 fun v6 h6 =>
 .ret v6 h6)
def H432 : Hints := []
theorem S432 : SoundF Tryz.prog 432 F432 := kfun_of (fn := Tryz.f432) (n := 8) (np := 2) (hs := H432) (q := [.tmp 3]) (t := (.s .l (.s .l .l))) mix4 (by kernel_rfl) (by kernel_rfl) (by kernel_rfl) (by kernel_rfl) (by kernel_rfl) (by kernel_rfl) (by kernel_rfl) (by kernel_rfl)
noncomputable def F433 : GF := fun cl ar h => x_arg ar fun v0 ar => x_arg ar fun v1 ar => x_ar0 ar (
 x_bx v0 h fun v2 h2 =>
 x_bx v1 h2 fun v3 h3 =>
 x_fa 258 v2 fun v4 =>
 x_ld none v4 h3 fun v5 =>
 x_len v5 fun v6 =>
 x_loop (jbad [3,8,9,10]) (fun J7 => (fun (v8 v9 v10 v11 : AV) (h12 : KH) =>
 x_lss v11 v10 fun v13 =>
 x_if0 v13
 (x_ixS 1 v9 v11 fun v14 =>
 x_ld none v14 h12 fun v15 =>
 x_grp true v15 (fun (v16 v17 v18 v19 v20 v21 : AV) (h22 : KH) =>
 x_pick v15 v21 (.bool false) fun v23 =>
 x_if0 v23
 (.ret (.bool true) h22)
 (x_add v11 (I 1) fun v24 =>
 J7 v8 v9 v10 v24 h22)) (fun J16 =>
 x_ixA 1 1 v8 (I 0) fun v17 =>
 x_ld none v17 h12 fun v18 =>
 x_bin .shr v18 v11 fun v19 =>
 x_bin .and v19 (N .u64 1) fun v20 =>
 x_eql v20 (N .u64 1) fun v21 =>
 J16 v17 v18 v11 v19 v20 v21 h12) (fun J16 => J16 aud aud aud aud aud aud h12))
 (.ret (.bool false) h12))) v3 v5 v6 (I 0) h3)
def H433 : Hints := []
theorem S433 : SoundF Tryz.prog 433 F433 := kfun_of (fn := Tryz.f433) (n := 25) (np := 2) (hs := H433) (q := [.tmp 4]) (t := (.s .l (.s (.s .l (.i (.j [3,8,9,10] (.s .l (.s (.i .l .l) (.s (.i (.s .l (.s .l (.i (.s .l .l) .l))) .l) .l))) .l) .l)) (.s .l .l)))) mix4 (by kernel_rfl) (by kernel_rfl) (by kernel_rfl) (by kernel_rfl) (by kernel_rfl) (by kernel_rfl) (by kernel_rfl) (by kernel_rfl)
noncomputable def F434 : GF := fun cl ar h => x_arg ar fun v0 ar => x_ar0 ar (
 x_bx v0 h fun v1 h1 =>
 x_nw [.nils,.nils,.nils] p0 h1 fun v2 h2 =>
 x_ld (some 259) v1 h2 fun v3 =>
 x_call cl 352 [v3] h2 fun v4 h4 =>
 x_nw [.nils,.nils,.nils] p0 h4 fun v5 h5 =>
 x_st 3 v5 v4 h5 fun h6 =>
 x_fa 1 v5 fun v7 =>
 x_ld none v7 h6 fun v8 =>
 x_len v8 fun v9 =>
 x_bin .gtr v9 (I 64) fun v10 =>
 x_if0 v10
 (x_bld [.nils,.nils,.nils] [] fun v11 =>
 x_st 3 v2 v11 h6 fun h12 =>
 x_ld (some 3) v2 h12 fun v13 =>
 .ret (.tup [v13,(I 2)]) h12)
 (x_ld (some 3) v5 h6 fun v11 =>
 x_st 3 v2 v11 h6 fun h12 =>
 x_ld (some 3) v2 h12 fun v13 =>
 .ret (.tup [v13,(I 0)]) h12))
def H434 : Hints := []
theorem S434 : SoundF Tryz.prog 434 F434 := kfun_of (fn := Tryz.f434) (n := 13) (np := 1) (hs := H434) (q := [.cell 2 (some 3),.tmp 3]) (t := (.s .l (.s .l (.s (.s .l (.i (.s .l .l) .l)) (.s .l .l))))) mix4 (by kernel_rfl) (by kernel_rfl) (by kernel_rfl) (by kernel_rfl) (by kernel_rfl) (by kernel_rfl) (by kernel_rfl) (by kernel_rfl)
noncomputable def F438 : GF := fun cl ar h => x_arg ar fun v0 ar => x_arg ar fun v1 ar => x_arg ar fun v2 ar => x_ar0 ar (
 x_bx v0 h fun v3 h3 =>
 x_bx v1 h3 fun v4 h4 =>
 x_nw [.nils,.nils,.nils] p0 h4 fun v5 h5 =>
 x_loop (jbad [3,4,6,9,10]) (fun J6 => (fun (v7 v8 v9 v10 v11 : AV) (h12 : KH) =>
 x_lss v11 v10 fun v13 =>
 x_if0 v13
 (x_ld (some 3) v7 h12 fun v14 =>
 x_ld (some 3) v8 h12 fun v15 =>
 x_call cl 283 [v14,v15] h12 fun v16 h16 =>
 x_ext 0 v16 fun v17 =>
 x_ext 1 v16 fun v18 =>
 x_st 3 v7 v17 h16 fun h19 =>
 x_neq v18 (I 0) fun v20 =>
 x_if0 v20
 (x_bld [.nils,.nils,.nils] [] fun v21 =>
 x_st 3 v9 v21 h19 fun h22 =>
 x_ld (some 3) v9 h22 fun v23 =>
 .ret (.tup [v23,v18]) h22)
 (x_add v11 (I 1) fun v21 =>
 J6 v7 v8 v9 v10 v21 h19))
 (x_ld (some 3) v7 h12 fun v14 =>
 x_st 3 v9 v14 h12 fun h15 =>
 x_ld (some 3) v9 h15 fun v16 =>
 .ret (.tup [v16,(I 0)]) h15))) v3 v4 v5 v2 (I 0) h5)
def H438 : Hints := []
theorem S438 : SoundF Tryz.prog 438 F438 := kfun_of (fn := Tryz.f438) (n := 24) (np := 3) (hs := H438) (q := [.cell 6 (some 3),.tmp 7]) (t := (.s .l (.s .l (.s (.s .l (.i (.j [3,4,6,9,10] (.s .l (.s (.i .l .l) (.s (.i (.s .l (.s .l (.i (.s .l .l) .l))) .l) .l))) .l) .l)) (.s .l .l))))) mix4 (by kernel_rfl) (by kernel_rfl) (by kernel_rfl) (by kernel_rfl) (by kernel_rfl) (by kernel_rfl) (by kernel_rfl) (by kernel_rfl)
noncomputable def F439 : GF := fun cl ar h => x_arg ar fun v0 ar => x_ar0 ar (
 x_bx v0 h fun v1 h1 =>
 x_nw [.nils,.nils,.nils] p0 h1 fun v2 h2 =>
 x_ld (some 3) v1 h2 fun v3 =>
 x_call cl 194 [v3] h2 fun v4 h4 =>
 x_un .not v4 fun v5 =>
 x_if0 v5
 (x_bld [.nils,.nils,.nils] [] fun v6 =>
 x_st 3 v2 v6 h4 fun h7 =>
 x_ld (some 3) v2 h7 fun v8 =>
 .ret (.tup [v8,(I 1)]) h7)
 (x_ld (some 3) v1 h4 fun v6 =>
 x_call cl 351 [v6] h4 fun v7 h7 =>
 x_call cl 352 [v7] h7 fun v8 h8 =>
 x_call cl 351 [v8] h8 fun v9 h9 =>
 x_nw (rpl 257 (I 0) (rpl 2 .nils [])) p0 h9 fun v10 h10 =>
 x_st 259 v10 v9 h10 fun h11 =>
 x_ld (some 259) v10 h11 fun v12 =>
 x_ld (some 259) v10 h11 fun v13 =>
 x_call cl 427 [v12,v13] h11 fun v14 h14 =>
 x_ext 0 v14 fun v15 =>
 x_ext 1 v14 fun v16 =>
 x_nw (rpl 256 (I 0) []) p0 h14 fun v17 h17 =>
 x_st 256 v17 v15 h17 fun h18 =>
 x_ld (some 256) v17 h18 fun v19 =>
 x_bld [(N .u64 0)] [.mk 0 1 (N .u64 1)] fun v20 =>
 x_bld [(I 0),(I 0),(N .u64 0)] [.mk 0 1 (I 1),.mk 2 1 v20] fun v21 =>
 x_call cl 431 [v19,v16,v21,(.fn (.func 551) [] [v10]),(.fn (.func 552) [] [v10]),(I 4096)] h18 fun v22 h22 =>
 x_ext 0 v22 fun v23 =>
 x_ext 1 v22 fun v24 =>
 x_nw (rpl 257 (I 0) (rpl 2 .nils [])) p0 h22 fun v25 h25 =>
 x_st 259 v25 v23 h25 fun h26 =>
 x_un .not v24 fun v27 =>
 x_if0 v27
 (x_bld [.nils,.nils,.nils] [] fun v28 =>
 x_st 3 v2 v28 h26 fun h29 =>
 x_ld (some 3) v2 h29 fun v30 =>
 .ret (.tup [v30,(I 2)]) h29)
 (x_ld (some 259) v25 h26 fun v28 =>
 x_call cl 434 [v28] h26 fun v29 h29 =>
 x_ext 0 v29 fun v30 =>
 x_ext 1 v29 fun v31 =>
 x_st 3 v2 v30 h29 fun h32 =>
 x_ld (some 3) v2 h32 fun v33 =>
 .ret (.tup [v33,v31]) h32)))
def H439 : Hints := []
theorem S439 : SoundF Tryz.prog 439 F439 := kfun_of (fn := Tryz.f439) (n := 42) (np := 1) (hs := H439) (q := [.cell 2 (some 3),.tmp 3]) (t := (.s .l (.s (.s .l (.i (.s .l .l) .l)) (.s .l (.s .l (.s .l (.s .l (.s (.s .l (.i (.s .l .l) .l)) (.s .l .l))))))))) mix4 (by kernel_rfl) (by kernel_rfl) (by kernel_rfl) (by kernel_rfl) (by kernel_rfl) (by kernel_rfl) (by kernel_rfl) (by kernel_rfl)
noncomputable def F443 : GF := fun cl ar h => x_arg ar fun v0 ar => x_arg ar fun v1 ar => x_arg ar fun v2 ar => x_arg ar fun v3 ar => x_arg ar fun v4 ar => x_ar0 ar (
 x_lss v2 (I 2) fun v5 =>
 x_grp false v5 (fun (v6 v7 : AV) (h8 : KH) =>
 x_pick v5 (.bool true) v7 fun v9 =>
 x_grp false v9 (fun (v10 v11 : AV) (h12 : KH) =>
 x_pick v9 (.bool true) v11 fun v13 =>
 x_if0 v13
 (x_pan (.ifc 9 (.str [115,116,114,99,111,110,118,58,32,105,108,108,101,103,97,108,32,65,112,112,101,110,100,73,110,116,47,70,111,114,109,97,116,73,110,116,32,98,97,115,101])) h12)
 (x_nw (rpl 65 (N .u8 0) []) p0 h12 fun v14 h14 =>
 x_if v3 (fun (v15 v16 v17 v18 v19 v20 v21 v22 v23 : AV) (h24 : KH) =>
 x_call cl 555 [v17] h24 fun v25 h25 =>
 x_if v25 (fun (v26 v27 v28 v29 v30 v31 v32 : AV) (h33 : KH) =>
 x_if v27 (fun (v34 v35 v36 v37 v38 v39 : AV) (h40 : KH) =>
 x_if0 v35
 (x_pu (.sliceA 65 1 (.cst v38) (some (.cst v39)) none none) fun v41 =>
 x_app 1 1 v34 v41 h40 fun v42 h42 =>
 .ret (.tup [v42,v37]) h42)
 (x_pu (.sliceA 65 1 (.cst v38) (some (.cst v39)) none none) fun v41 =>
 x_rd (.strOfBytes (.cst v41)) h40 fun v42 =>
 .ret (.tup [v36,v42]) h40))
 (fun J34 => x_bin .sub v32 (I 1) fun v35 =>
 x_ixA 65 1 v31 v35 fun v36 =>
 x_st 1 v36 (N .u8 45) h33 fun h37 =>
 J34 v26 v28 v29 v30 v31 v35 h37)
 (fun J34 => J34 v26 v28 v29 v30 v31 v32 h33))
 (fun J26 => x_conv .u64 v17 fun v27 =>
 x_call cl 556 [v27] h25 fun v28 h28 =>
 x_conv .u64 v28 fun v29 =>
 x_conv .u64 v17 fun v30 =>
 x_conv .u64 v17 fun v31 =>
 x_bin .sub v31 (N .u64 1) fun v32 =>
 x_loop (jbad [0,1,3,4,10,11,12,13,14,15,16]) (fun J33 => (fun (v34 v35 v36 v37 v38 v39 v40 v41 v42 v43 v44 : AV) (h45 : KH) =>
 x_bin .geq v35 v43 fun v46 =>
 x_if0 v46
 (x_bin .sub v41 (I 1) fun v47 =>
 x_bin .and v35 v44 fun v48 =>
 x_pu (.indexStr (.cst (.str [48,49,50,51,52,53,54,55,56,57,97,98,99,100,101,102,103,104,105,106,107,108,109,110,111,112,113,114,115,116,117,118,119,120,121,122])) (.cst v48)) fun v49 =>
 x_ixA 65 1 v40 v47 fun v50 =>
 x_st 1 v50 v49 h45 fun h51 =>
 x_bin .shr v35 v42 fun v52 =>
 J33 v34 v52 v36 v37 v38 v39 v40 v47 v42 v43 v44 h51)
 (x_bin .sub v41 (I 1) fun v47 =>
 x_pu (.indexStr (.cst (.str [48,49,50,51,52,53,54,55,56,57,97,98,99,100,101,102,103,104,105,106,107,108,109,110,111,112,113,114,115,116,117,118,119,120,121,122])) (.cst v35)) fun v48 =>
 x_ixA 65 1 v40 v47 fun v49 =>
 x_st 1 v49 v48 h45 fun h50 =>
 J26 v34 v36 v37 v38 v39 v40 v47 h50))) v15 v16 v18 v19 v20 v21 v22 v23 v29 v30 v32 h28)
 (fun J26 => x_conv .u64 v17 fun v27 =>
 x_loop (jbad [0,1,3,4,10,11,12,13,17]) (fun J28 => (fun (v29 v30 v31 v32 v33 v34 v35 v36 v37 : AV) (h38 : KH) =>
 x_bin .geq v30 v37 fun v39 =>
 x_if0 v39
 (x_bin .sub v36 (I 1) fun v40 =>
 x_bin .quo v30 v37 fun v41 =>
 x_mul v41 v37 fun v42 =>
 x_bin .sub v30 v42 fun v43 =>
 x_pu (.indexStr (.cst (.str [48,49,50,51,52,53,54,55,56,57,97,98,99,100,101,102,103,104,105,106,107,108,109,110,111,112,113,114,115,116,117,118,119,120,121,122])) (.cst v43)) fun v44 =>
 x_ixA 65 1 v35 v40 fun v45 =>
 x_st 1 v45 v44 h38 fun h46 =>
 J28 v29 v41 v31 v32 v33 v34 v35 v40 v37 h46)
 (x_bin .sub v36 (I 1) fun v40 =>
 x_pu (.indexStr (.cst (.str [48,49,50,51,52,53,54,55,56,57,97,98,99,100,101,102,103,104,105,106,107,108,109,110,111,112,113,114,115,116,117,118,119,120,121,122])) (.cst v30)) fun v41 =>
 x_ixA 65 1 v35 v40 fun v42 =>
 x_st 1 v42 v41 h38 fun h43 =>
 J26 v29 v31 v32 v33 v34 v35 v40 h43))) v15 v16 v18 v19 v20 v21 v22 v23 v27 h25))
 (fun J15 => x_un .neg v1 fun v16 =>
 J15 v0 v16 v2 v3 v4 .nils (.str []) v14 (I 65) h14)
 (fun J15 => J15 v0 v1 v2 v3 v4 .nils (.str []) v14 (I 65) h14))) (fun J10 =>
 x_bin .gtr v2 (I 36) fun v11 =>
 J10 v2 v11 h8) (fun J10 => J10 aud aud h8)) (fun J6 =>
 x_eql v2 (I 10) fun v7 =>
 J6 v2 v7 h) (fun J6 => J6 aud aud h))
def H443 : Hints := []
theorem S443 : SoundF Tryz.prog 443 F443 := kfun_of (fn := Tryz.f443) (n := 102) (np := 5) (hs := H443) (q := [.tmp 10,.tmp 11]) (t := (.s .l (.s (.s .l (.i .l .l)) (.s .l (.s .l (.s (.s .l (.j [0,1,2,3,4,10,11,12,13] .l .l)) (.s (.s .l (.j [0,3,4,10,11,12,13] (.s .l (.s .l (.s .l (.s (.i (.j [0,1,3,4,10,11,12,13,14,15,16] (.s (.s .l (.i .l .l)) (.i (.s .l (.s .l .l)) .l)) .l) .l) (.s .l .l))))) (.s .l (.s (.i (.j [0,1,3,4,10,11,12,13,17] (.s (.s .l (.i .l .l)) (.i (.s .l (.s .l (.s .l .l))) .l)) .l) .l) (.s .l .l))))) (.s (.s .l (.j [0,4,10,11,12,13] (.s .l .l) .l)) (.s (.s .l (.i (.s .l .l) .l)) (.s .l .l)))))))))) mix4 (by kernel_rfl) (by kernel_rfl) (by kernel_rfl) (by kernel_rfl) (by kernel_rfl) (by kernel_rfl) (by kernel_rfl) (by kernel_rfl)
noncomputable def F459 : GF := fun cl ar h => x_arg ar fun v0 ar => x_arg ar fun v1 ar => x_ar0 ar (
 x_un .xor v0 fun v2 =>
 .ret v2 h)
def H459 : Hints := []
theorem S459 : SoundF Tryz.prog 459 F459 := kfun_of (fn := Tryz.f459) (n := 7) (np := 2) (hs := H459) (q := [.tmp 4]) (t := (.s .l (.s .l .l))) mix4 (by kernel_rfl) (by kernel_rfl) (by kernel_rfl) (by kernel_rfl) (by kernel_rfl) (by kernel_rfl) (by kernel_rfl) (by kernel_rfl)
noncomputable def F487 : GF := fun cl ar h => x_arg ar fun v0 ar => x_ar0 ar (
 x_neq v0 v0 fun v1 =>
 .ret v1 h)
def H487 : Hints := []
theorem S487 : SoundF Tryz.prog 487 F487 := kfun_of (fn := Tryz.f487) (n := 6) (np := 1) (hs := H487) (q := [.tmp 2]) (t := (.s .l (.s .l .l))) mix4 (by kernel_rfl) (by kernel_rfl) (by kernel_rfl) (by kernel_rfl) (by kernel_rfl) (by kernel_rfl) (by kernel_rfl) (by kernel_rfl)
noncomputable def F488 : GF := fun cl ar h => x_arg ar fun v0 ar => x_arg ar fun v1 ar => x_ar0 ar (
 x_len v0 fun v2 =>
 x_loop (jbad [0,1,7,8]) (fun J3 => (fun (v4 v5 v6 v7 : AV) (h8 : KH) =>
 x_lss v7 v6 fun v9 =>
 x_if0 v9
 (x_ixS 2 v4 v7 fun v10 =>
 x_ld (some 2) v10 h8 fun v11 =>
 x_cl cl v5 [v11] h8 fun v12 h12 =>
 x_if0 v12
 (.ret v7 h12)
 (x_add v7 (I 1) fun v13 =>
 J3 v4 v5 v6 v13 h12))
 (.ret (.int .i64 (-1)) h8))) v0 v1 v2 (I 0) h)
def H488 : Hints := []
theorem S488 : SoundF Tryz.prog 488 F488 := kfun_of (fn := Tryz.f488) (n := 19) (np := 2) (hs := H488) (q := [.tmp 4]) (t := (.s .l (.s (.s .l (.i (.j [0,1,7,8] (.s .l (.s (.i .l .l) (.s (.i (.s .l (.s .l (.i (.s .l .l) .l))) .l) .l))) .l) .l)) (.s .l .l)))) mix4 (by kernel_rfl) (by kernel_rfl) (by kernel_rfl) (by kernel_rfl) (by kernel_rfl) (by kernel_rfl) (by kernel_rfl) (by kernel_rfl)
noncomputable def F489 : GF := fun cl ar h => x_arg ar fun v0 ar => x_arg ar fun v1 ar => x_ar0 ar (
 x_bin .and v0 v1 fun v2 =>
 .ret v2 h)
def H489 : Hints := []
theorem S489 : SoundF Tryz.prog 489 F489 := kfun_of (fn := Tryz.f489) (n := 8) (np := 2) (hs := H489) (q := [.tmp 4]) (t := (.s .l (.s .l .l))) mix4 (by kernel_rfl) (by kernel_rfl) (by kernel_rfl) (by kernel_rfl) (by kernel_rfl) (by kernel_rfl) (by kernel_rfl) (by kernel_rfl)
noncomputable def F494 : GF := fun cl ar h => x_arg ar fun v0 ar => x_arg ar fun v1 ar => x_ar0 ar (
 x_bin .andNot v0 v1 fun v2 =>
 .ret v2 h)
def H494 : Hints := []
theorem S494 : SoundF Tryz.prog 494 F494 := kfun_of (fn := Tryz.f494) (n := 8) (np := 2) (hs := H494) (q := [.tmp 4]) (t := (.s .l (.s .l .l))) mix4 (by kernel_rfl) (by kernel_rfl) (by kernel_rfl) (by kernel_rfl) (by kernel_rfl) (by kernel_rfl) (by kernel_rfl) (by kernel_rfl)
noncomputable def F495 : GF := fun cl ar h => x_arg ar fun v0 ar => x_arg ar fun v1 ar => x_arg ar fun v2 ar => x_arg ar fun v3 ar => x_arg ar fun v4 ar => x_ar0 ar (
 x_loop (jbad [0,1,2,3,4,10,11]) (fun J5 => (fun (v6 v7 v8 v9 v10 v11 v12 : AV) (h13 : KH) =>
 x_bin .sub v8 v7 fun v14 =>
 x_leq v14 (I 12) fun v15 =>
 x_if0 v15
 (x_call cl 577 [v6,v7,v8,v10] h13 fun v16 h16 =>
 .ret (.tup []) h16)
 (x_eql v9 (I 0) fun v16 =>
 x_if0 v16
 (x_call cl 578 [v6,v7,v8,v10] h13 fun v17 h17 =>
 .ret (.tup []) h17)
 (x_un .not v11 fun v17 =>
 x_if v17 (fun (v18 v19 v20 v21 v22 v23 v24 v25 : AV) (h26 : KH) =>
 x_call cl 580 [v18,v19,v20,v22] h26 fun v27 h27 =>
 x_ext 0 v27 fun v28 =>
 x_ext 1 v27 fun v29 =>
 x_eql v29 (I 2) fun v30 =>
 x_if v30 (fun (v31 v32 v33 v34 v35 v36 v37 v38 v39 v40 : AV) (h41 : KH) =>
 x_grp true v36 (fun (v42 : AV) (h43 : KH) =>
 x_pick v36 v42 (.bool false) fun v44 =>
 x_grp true v44 (fun (v45 v46 : AV) (h47 : KH) =>
 x_pick v44 v46 (.bool false) fun v48 =>
 x_if v48 (fun (v49 v50 v51 v52 v53 v54 v55 v56 v57 : AV) (h58 : KH) =>
 x_bin .gtr v50 (I 0) fun v59 =>
 x_grp true v59 (fun (v60 v61 v62 v63 v64 v65 v66 v67 v68 v69 v70 v71 v72 : AV) (h73 : KH) =>
 x_pick v59 v72 (.bool false) fun v74 =>
 x_if0 v74
 (x_call cl 583 [v49,v50,v51,v57,v53] h73 fun v75 h75 =>
 J5 v49 v75 v51 v52 v53 v54 v55 h75)
 (x_call cl 584 [v49,v50,v51,v57,v53] h73 fun v75 h75 =>
 x_ext 0 v75 fun v76 =>
 x_ext 1 v75 fun v77 =>
 x_bin .sub v76 v50 fun v78 =>
 x_bin .sub v51 v76 fun v79 =>
 x_bin .quo v56 (I 8) fun v80 =>
 x_lss v78 v79 fun v81 =>
 x_if0 v81
 (x_bin .geq v78 v80 fun v82 =>
 x_call cl 495 [v49,v50,v76,v52,v53] h75 fun v83 h83 =>
 x_add v76 (I 1) fun v84 =>
 J5 v49 v84 v51 v52 v53 v82 v77 h83)
 (x_bin .geq v79 v80 fun v82 =>
 x_add v76 (I 1) fun v83 =>
 x_call cl 495 [v49,v83,v51,v52,v53] h75 fun v84 h84 =>
 J5 v49 v50 v76 v52 v53 v82 v77 h84))) (fun J60 =>
 x_bin .sub v50 (I 1) fun v61 =>
 x_ixS 4 v49 v61 fun v62 =>
 x_ld (some 4) v62 h58 fun v63 =>
 x_ixS 4 v49 v57 fun v64 =>
 x_ld (some 4) v64 h58 fun v65 =>
 x_cl cl v53 [v63,v65] h58 fun v66 h66 =>
 x_lss v66 (I 0) fun v67 =>
 x_un .not v67 fun v68 =>
 J60 v53 v49 v50 v61 v62 v63 v49 v57 v64 v65 v66 v67 v68 h66) (fun J60 => J60 aud aud aud aud aud aud aud aud aud aud aud aud aud h58))
 (fun J49 => x_call cl 582 [v31,v32,v33,v35] h47 fun v50 h50 =>
 x_if0 v50
 (.ret (.tup []) h50)
 (J49 v31 v32 v33 v34 v35 v36 v37 v38 v39 h50))
 (fun J49 => J49 v31 v32 v33 v34 v35 v36 v37 v38 v39 h47)) (fun J45 =>
 x_eql v40 (I 1) fun v46 =>
 J45 v40 v46 h43) (fun J45 => J45 aud aud h43)) (fun J42 =>
 J42 v37 h41) (fun J42 => J42 aud h41))
 (fun J31 => x_call cl 581 [v18,v19,v20,v22] h27 fun v32 h32 =>
 x_bin .sub v20 (I 1) fun v33 =>
 x_bin .sub v28 v19 fun v34 =>
 x_bin .sub v33 v34 fun v35 =>
 J31 v18 v19 v20 v21 v22 v23 v24 v25 v35 (I 1) h32)
 (fun J31 => J31 v18 v19 v20 v21 v22 v23 v24 v25 v28 v29 h27))
 (fun J18 => x_call cl 579 [v6,v7,v8,v10] h13 fun v19 h19 =>
 x_bin .sub v9 (I 1) fun v20 =>
 J18 v6 v7 v8 v20 v10 v11 v12 v14 h19)
 (fun J18 => J18 v6 v7 v8 v9 v10 v11 v12 v14 h13))))) v0 v1 v2 v3 v4 (.bool true) (.bool true) h)
def H495 : Hints := [(17,[(0,0,[],false),(1,1,[],false),(2,3,[],false),(3,7,[],false),(4,7,[],false),(5,7,[],false),(6,39,[],false),(7,119,[],false),(8,247,[],false),(9,7,[],false),(10,7,[],false),(11,1543,[],false),(12,3591,[],false),(13,8191,[],true),(14,16383,[],false),(15,32767,[],false),(16,65535,[],false)])]
theorem S495 : SoundF Tryz.prog 495 F495 := kfun_of (fn := Tryz.f495) (n := 148) (np := 5) (hs := H495) (q := []) (t := (.s .l (.s .l (.i (.j [0,1,2,3,4,10,11] (.i (.s .l (.s (.s .l (.i (.s .l .l) .l)) (.s (.s .l (.i (.s .l .l) .l)) (.s (.s .l (.j [0,1,2,3,4,10,11,12] (.s .l .l) .l)) (.s .l (.s (.s .l (.j [0,1,2,3,4,10,11,12,13,14] (.s .l (.s .l .l)) .l)) (.s (.s .l (.j [0,1,2,3,4,10,11,12,13] (.s .l (.i .l .l)) .l)) (.s (.s .l (.i (.s .l (.s .l .l)) .l)) (.s .l (.s .l (.s .l (.s .l (.s .l (.i (.s .l (.s .l .l)) (.s .l (.s .l .l)))))))))))))))) .l) .l) .l)))) mix4 (by kernel_rfl) (by kernel_rfl) (by kernel_rfl) (by kernel_rfl) (by kernel_rfl) (by kernel_rfl) (by kernel_rfl) (by kernel_rfl)
noncomputable def F496 : GF := fun cl ar h => x_arg ar fun v0 ar => x_arg ar fun v1 ar => x_ar0 ar (
 x_bx v0 h fun v2 h2 =>
 x_fa 257 v2 fun v3 =>
 x_ld none v3 h2 fun v4 =>
 x_len v4 fun v5 =>
 x_mks 8 [(I 0)] v5 v5 h2 fun v6 h6 =>
 x_len v1 fun v7 =>
 x_loop (jbad [1,2,6,24,25,26]) (fun J8 => (fun (v9 v10 v11 v12 v13 v14 : AV) (h15 : KH) =>
 x_lss v14 v13 fun v16 =>
 x_if0 v16
 (x_ixS 1 v12 v14 fun v17 =>
 x_ld none v17 h15 fun v18 =>
 x_fa 258 v10 fun v19 =>
 x_ld none v19 h15 fun v20 =>
 x_ixS 1 v20 v18 fun v21 =>
 x_ld none v21 h15 fun v22 =>
 x_if v22 (fun (v23 v24 v25 v26 v27 v28 : AV) (h29 : KH) =>
 x_add v28 (I 1) fun v30 =>
 J8 v23 v24 v25 v26 v27 v30 h29)
 (fun J23 => x_ixS 1 v11 v18 fun v24 =>
 x_st 1 v24 (I 1) h15 fun h25 =>
 J23 v9 v10 v11 v12 v13 v14 h25)
 (fun J23 => J23 v9 v10 v11 v12 v13 v14 h15))
 (x_loop (jbad [1,2,6,9]) (fun J17 => (fun (v18 v19 v20 v21 : AV) (h22 : KH) =>
 x_k .makeMap h22 fun v23 h23 =>
 x_len v20 fun v24 =>
 x_mks 8 [(I 0)] v24 v24 h23 fun v25 h25 =>
 x_len v18 fun v26 =>
 x_loop (jbad [1,2,6,9,10,11,12,43,44,45]) (fun J27 => (fun (v28 v29 v30 v31 v32 v33 v34 v35 v36 v37 : AV) (h38 : KH) =>
 x_lss v37 v36 fun v39 =>
 x_if0 v39
 (x_ixS 1 v35 v37 fun v40 =>
 x_ld none v40 h38 fun v41 =>
 x_fa 257 v29 fun v42 =>
 x_ld none v42 h38 fun v43 =>
 x_ixS 1 v43 v41 fun v44 =>
 x_ld none v44 h38 fun v45 =>
 x_len v45 fun v46 =>
 x_mul (I 2) v46 fun v47 =>
 x_add (I 2) v47 fun v48 =>
 x_mks 1 [(N .u8 0)] (I 0) v48 h38 fun v49 h49 =>
 x_ixS 1 v30 v41 fun v50 =>
 x_ld none v50 h49 fun v51 =>
 x_conv .u8 v51 fun v52 =>
 x_ixS 1 v30 v41 fun v53 =>
 x_ld none v53 h49 fun v54 =>
 x_bin .shr v54 (N .u64 8) fun v55 =>
 x_conv .u8 v55 fun v56 =>
 x_bsl [(N .u8 0),(N .u8 0)] 2 [.mk 0 1 v52,.mk 1 1 v56] h49 fun v57 h57 =>
 x_app 1 1 v49 v57 h57 fun v58 h58 =>
 x_fa 257 v29 fun v59 =>
 x_ld none v59 h58 fun v60 =>
 x_ixS 1 v60 v41 fun v61 =>
 x_ld none v61 h58 fun v62 =>
 x_len v62 fun v63 =>
 x_loop (jbad [1,2,6,9,10,11,12,14,15,43,44,45,76,77,78]) (fun J64 => (fun (v65 v66 v67 v68 v69 v70 v71 v72 v73 v74 v75 v76 v77 v78 v79 : AV) (h80 : KH) =>
 x_lss v79 v78 fun v81 =>
 x_if0 v81
 (x_ixS 1 v77 v79 fun v82 =>
 x_ld none v82 h80 fun v83 =>
 x_ixS 1 v67 v83 fun v84 =>
 x_ld none v84 h80 fun v85 =>
 x_conv .u8 v85 fun v86 =>
 x_ixS 1 v67 v83 fun v87 =>
 x_ld none v87 h80 fun v88 =>
 x_bin .shr v88 (N .u64 8) fun v89 =>
 x_conv .u8 v89 fun v90 =>
 x_bsl [(N .u8 0),(N .u8 0)] 2 [.mk 0 1 v86,.mk 1 1 v90] h80 fun v91 h91 =>
 x_app 1 1 v73 v91 h91 fun v92 h92 =>
 x_add v79 (I 1) fun v93 =>
 J64 v65 v66 v67 v68 v69 v70 v71 v72 v92 v74 v75 v76 v77 v78 v93 h92)
 (x_rd (.strOfBytes (.cst v73)) h80 fun v82 =>
 x_rd (.lookup (false,[.s]) (I 0) true (.cst v69) (.cst v82)) h80 fun v83 =>
 x_ext 0 v83 fun v84 =>
 x_ext 1 v83 fun v85 =>
 x_un .not v85 fun v86 =>
 x_if v86 (fun (v87 v88 v89 v90 v91 v92 v93 v94 v95 v96 v97 v98 : AV) (h99 : KH) =>
 x_ixS 1 v92 v94 fun v100 =>
 x_st 1 v100 v95 h99 fun h101 =>
 x_add v98 (I 1) fun v102 =>
 J27 v87 v88 v89 v90 v91 v92 v93 v96 v97 v102 h101)
 (fun J87 => x_len v71 fun v88 =>
 x_rd (.strOfBytes (.cst v73)) h80 fun v89 =>
 x_k (.mapUpd (false,[.s]) (.cst v69) (.cst v89) (.cst v88)) h80 fun v90 h90 =>
 x_bsl [(I 0)] 1 [.mk 0 1 v72] h90 fun v91 h91 =>
 x_app 1 8 v71 v91 h91 fun v92 h92 =>
 J87 v65 v66 v67 v68 v69 v70 v92 v72 v88 v74 v75 v76 h92)
 (fun J87 => J87 v65 v66 v67 v68 v69 v70 v71 v72 v84 v74 v75 v76 h80)))) v28 v29 v30 v31 v32 v33 v34 v41 v58 v35 v36 v37 v62 v63 (I 0) h58)
 (x_len v34 fun v40 =>
 x_eql v40 v31 fun v41 =>
 x_if0 v41
 (.ret (.tup [v33,v34]) h38)
 (x_len v34 fun v42 =>
 J17 v28 v29 v33 v42 h38)))) v18 v19 v20 v21 v23 v25 .nils v18 v26 (I 0) h25)) v9 v10 v11 (I 0) h15))) v1 v2 v6 v1 v7 (I 0) h6)
def H496 : Hints := [(16,[(0,0,[],false),(1,0,[],false),(2,0,[],false),(3,6,[],false),(4,14,[],false),(5,30,[],false),(6,0,[],false),(7,0,[],false),(8,192,[],false),(9,448,[],false),(10,960,[],false),(11,1984,[],false),(12,4094,[],false),(13,8191,[],true),(14,16383,[],false)]),(20,[(0,0,[],false),(1,0,[],false),(2,0,[],false),(3,6,[],false),(4,14,[],false),(5,30,[],false),(6,0,[],false),(7,0,[],false),(8,192,[],false),(9,448,[],false),(10,960,[],false),(11,1984,[],false),(12,4094,[],false),(13,8191,[],true),(14,16383,[],false)])]
theorem S496 : SoundF Tryz.prog 496 F496 := kfun_of (fn := Tryz.f496) (n := 130) (np := 2) (hs := H496) (q := [.tmp 4,.tmp 5]) (t := (.s .l (.s .l (.s (.s .l (.i (.j [1,2,6,24,25,26] (.s .l (.s (.i .l .l) (.s (.i (.s .l (.s .l (.j [1,2,6,24,25,26] .l .l))) .l) .l))) .l) .l)) (.s .l (.i (.j [1,2,6,9] (.i (.s .l (.s .l (.s .l (.s (.s .l (.i (.j [1,2,6,9,10,11,12,43,44,45] (.s .l (.s (.i .l .l) (.s (.i (.s .l (.s .l (.s .l (.s (.s .l (.i (.j [1,2,6,9,10,11,12,14,15,43,44,45,76,77,78] (.s .l (.s (.i .l .l) (.s (.i (.s .l .l) .l) .l))) .l) .l)) (.s .l (.s (.s .l (.j [1,2,6,9,10,11,12,14,18,43,44,45] (.s .l (.s .l .l)) .l)) .l)))))) .l) .l))) .l) .l)) (.s (.s .l (.i (.s .l .l) .l)) .l))))) .l) .l) .l)))))) mix4 (by kernel_rfl) (by kernel_rfl) (by kernel_rfl) (by kernel_rfl) (by kernel_rfl) (by kernel_rfl) (by kernel_rfl) (by kernel_rfl)
noncomputable def F497 : GF := fun cl ar h => x_arg ar fun v0 ar => x_ar0 ar (
 x_bx v0 h fun v1 h1 =>
 x_fa 257 v1 fun v2 =>
 x_ld none v2 h1 fun v3 =>
 x_len v3 fun v4 =>
 x_mks 1 [(.bool false)] v4 v4 h1 fun v5 h5 =>
 x_ixS 1 v5 (I 0) fun v6 =>
 x_st 1 v6 (.bool true) h5 fun h7 =>
 x_bsl [(I 0)] 1 [.mk 0 1 (I 0)] h7 fun v8 h8 =>
 x_loop (jbad [1,3,4,5]) (fun J9 => (fun (v10 v11 v12 v13 : AV) (h14 : KH) =>
 x_len v12 fun v15 =>
 x_lss v13 v15 fun v16 =>
 x_if0 v16
 (x_fa 257 v10 fun v17 =>
 x_ld none v17 h14 fun v18 =>
 x_ixS 1 v12 v13 fun v19 =>
 x_ld none v19 h14 fun v20 =>
 x_ixS 1 v18 v20 fun v21 =>
 x_ld none v21 h14 fun v22 =>
 x_len v22 fun v23 =>
 x_loop (jbad [1,3,4,5,28,29,30]) (fun J24 => (fun (v25 v26 v27 v28 v29 v30 v31 : AV) (h32 : KH) =>
 x_lss v31 v30 fun v33 =>
 x_if0 v33
 (x_ixS 1 v29 v31 fun v34 =>
 x_ld none v34 h32 fun v35 =>
 x_ixS 1 v26 v35 fun v36 =>
 x_ld none v36 h32 fun v37 =>
 x_un .not v37 fun v38 =>
 x_if v38 (fun (v39 v40 v41 v42 v43 v44 v45 : AV) (h46 : KH) =>
 x_add v45 (I 1) fun v47 =>
 J24 v39 v40 v41 v42 v43 v44 v47 h46)
 (fun J39 => x_ixS 1 v26 v35 fun v40 =>
 x_st 1 v40 (.bool true) h32 fun h41 =>
 x_bsl [(I 0)] 1 [.mk 0 1 v35] h41 fun v42 h42 =>
 x_app 1 8 v27 v42 h42 fun v43 h43 =>
 J39 v25 v26 v43 v28 v29 v30 v31 h43)
 (fun J39 => J39 v25 v26 v27 v28 v29 v30 v31 h32))
 (x_add v28 (I 1) fun v34 =>
 J9 v25 v26 v27 v34 h32))) v10 v11 v12 v13 v22 v23 (I 0) h14)
 (.ret v12 h14))) v1 v5 v8 (I 0) h8)
def H497 : Hints := [(7,[(0,0,[],false),(1,1,[],false),(2,0,[],false),(3,0,[],false),(4,12,[],false),(5,28,[],false),(6,63,[],false),(7,127,[],false),(8,255,[],false),(9,0,[],false)])]
theorem S497 : SoundF Tryz.prog 497 F497 := kfun_of (fn := Tryz.f497) (n := 48) (np := 1) (hs := H497) (q := [.tmp 2]) (t := (.s .l (.s .l (.s .l (.s .l (.s (.s .l (.i (.j [1,3,4,5] (.s (.s .l (.i .l .l)) (.s (.i (.s .l (.i (.j [1,3,4,5,28,29,30] (.s .l (.s (.i .l .l) (.s (.i (.s .l (.s .l (.j [1,3,4,5,28,29,30] (.s .l .l) .l))) .l) .l))) .l) .l)) .l) .l)) .l) .l)) (.s .l .l))))))) mix4 (by kernel_rfl) (by kernel_rfl) (by kernel_rfl) (by kernel_rfl) (by kernel_rfl) (by kernel_rfl) (by kernel_rfl) (by kernel_rfl)
noncomputable def F498 : GF := fun cl ar h => x_arg ar fun v0 ar => x_arg ar fun v1 ar => x_arg ar fun v2 ar => x_ar0 ar (
 x_bx v0 h fun v3 h3 =>
 x_k .makeMap h3 fun v4 h4 =>
 x_fa 256 v3 fun v5 =>
 x_ld none v5 h4 fun v6 =>
 x_mks 8 [(I 0)] v6 v6 h4 fun v7 h7 =>
 x_len v7 fun v8 =>
 x_loop (jbad [1,2,3,8,9,10,11,26,27]) (fun J9 => (fun (v10 v11 v12 v13 v14 v15 v16 v17 v18 : AV) (h19 : KH) =>
 x_lss v18 v17 fun v20 =>
 x_if0 v20
 (x_ixS 1 v16 v18 fun v21 =>
 x_st 1 v21 (.int .i64 (-1)) h19 fun h22 =>
 x_add v18 (I 1) fun v23 =>
 J9 v10 v11 v12 v13 v14 v15 v16 v17 v23 h22)
 (x_loop (jbad [1,2,3,8,9,10,11,34]) (fun J21 => (fun (v22 v23 v24 v25 v26 v27 v28 v29 : AV) (h30 : KH) =>
 x_lss v29 (I 256) fun v31 =>
 x_if0 v31
 (x_fa 0 v24 fun v32 =>
 x_ixA 256 1 v32 v29 fun v33 =>
 x_ld none v33 h30 fun v34 =>
 x_ixS 1 v28 v34 fun v35 =>
 x_ld none v35 h30 fun v36 =>
 x_lss v36 (I 0) fun v37 =>
 x_if v37 (fun (v38 v39 v40 v41 v42 v43 v44 v45 v46 v47 : AV) (h48 : KH) =>
 x_ixS 1 v44 v46 fun v49 =>
 x_ld none v49 h48 fun v50 =>
 x_ixS 1 v44 v46 fun v51 =>
 x_ld none v51 h48 fun v52 =>
 x_ixS 4 v43 v52 fun v53 =>
 x_ld (some 4) v53 h48 fun v54 =>
 x_conv .u8 v45 fun v55 =>
 x_bs [(N .u8 0)] 1 [.mk 0 1 v55] fun c56 g56 =>  x_nw c56 g56 h48 fun v56 h56 =>
 x_call cl 63 [v56] h56 fun v57 h57 =>
 x_chk (cond (koEq (kload (some 4) v53 h57) v54) (cond (koEq (kload none v51 h57) v52) (cond (koEq (kload none v49 h57) v50) true false) false) false) (x_call cl 175 [v54,v57] h57 fun v58 h58 =>
 x_chk (cond (koEq (kload none v49 h58) v50) true false) (x_ixS 4 v43 v50 fun v59 =>
 x_st 4 v59 v58 h58 fun h60 =>
 x_chk true (x_add v47 (I 1) fun v61 =>
 J21 v38 v39 v40 v41 v42 v43 v44 v61 h60))))
 (fun J38 => x_len v23 fun v39 =>
 x_mul (I 2) v39 fun v40 =>
 x_mks 1 [(N .u8 0)] (I 0) v40 h30 fun v41 h41 =>
 x_len v23 fun v42 =>
 x_loop (jbad [1,2,3,8,9,10,11,13,14,15,34,50,51,52]) (fun J43 => (fun (v44 v45 v46 v47 v48 v49 v50 v51 v52 v53 v54 v55 v56 v57 : AV) (h58 : KH) =>
 x_lss v57 v56 fun v59 =>
 x_if0 v59
 (x_ixS 1 v55 v57 fun v60 =>
 x_ld none v60 h58 fun v61 =>
 x_fa 257 v46 fun v62 =>
 x_ld none v62 h58 fun v63 =>
 x_ixS 1 v63 v61 fun v64 =>
 x_ld none v64 h58 fun v65 =>
 x_ixS 1 v65 v52 fun v66 =>
 x_ld none v66 h58 fun v67 =>
 x_ixS 1 v44 v67 fun v68 =>
 x_ld none v68 h58 fun v69 =>
 x_conv .u8 v69 fun v70 =>
 x_bin .shr v69 (N .u64 8) fun v71 =>
 x_conv .u8 v71 fun v72 =>
 x_bsl [(N .u8 0),(N .u8 0)] 2 [.mk 0 1 v70,.mk 1 1 v72] h58 fun v73 h73 =>
 x_app 1 1 v53 v73 h73 fun v74 h74 =>
 x_add v57 (I 1) fun v75 =>
 J43 v44 v45 v46 v47 v48 v49 v50 v51 v52 v74 v54 v55 v56 v75 h74)
 (x_rd (.strOfBytes (.cst v53)) h58 fun v60 =>
 x_rd (.lookup (false,[.s]) (I 0) true (.cst v47) (.cst v60)) h58 fun v61 =>
 x_ext 0 v61 fun v62 =>
 x_ext 1 v61 fun v63 =>
 x_un .not v63 fun v64 =>
 x_if v64 (fun (v65 v66 v67 v68 v69 v70 v71 v72 v73 v74 v75 : AV) (h76 : KH) =>
 x_ixS 1 v71 v73 fun v77 =>
 x_st 1 v77 v74 h76 fun h78 =>
 J38 v65 v66 v67 v68 v69 v70 v71 v72 v73 v75 h78)
 (fun J65 => x_len v48 fun v66 =>
 x_rd (.strOfBytes (.cst v53)) h58 fun v67 =>
 x_k (.mapUpd (false,[.s]) (.cst v47) (.cst v67) (.cst v66)) h58 fun v68 h68 =>
 x_bsl [(I 0)] 1 [.mk 0 1 v52] h68 fun v69 h69 =>
 x_app 1 8 v48 v69 h69 fun v70 h70 =>
 x_bld (rpl 4 (N .u64 0) []) [] fun v71 =>
 x_bsl (rpl 4 (N .u64 0) []) 1 [.mk 0 4 v71] h70 fun v72 h72 =>
 x_app 4 32 v49 v72 h72 fun v73 h73 =>
 J65 v44 v45 v46 v47 v70 v73 v50 v51 v52 v66 v54 h73)
 (fun J65 => J65 v44 v45 v46 v47 v48 v49 v50 v51 v52 v62 v54 h58)))) v22 v23 v24 v25 v26 v27 v28 v29 v34 v41 v29 v23 v42 (I 0) h41)
 (fun J38 => J38 v22 v23 v24 v25 v26 v27 v28 v29 v34 v29 h30))
 (.ret (.tup [v26,v27]) h30))) v10 v11 v12 v13 v14 v15 v16 (I 0) h19))) v1 v2 v3 v4 .nils .nils v7 v8 (I 0) h7)
def H498 : Hints := [(29,[(0,0,[],false),(1,0,[],false),(2,0,[],false),(3,6,[],false),(4,14,[],false),(5,0,[],false),(6,0,[],false),(7,0,[],false),(8,192,[],false),(9,448,[],false),(10,992,[],false),(11,2016,[],false),(12,0,[],false),(13,4096,[],false),(14,12288,[],false),(15,28672,[4,9,11],true),(16,65504,[4],true),(17,131071,[],false),(18,262143,[],true)])]
theorem S498 : SoundF Tryz.prog 498 F498 := kfun_of (fn := Tryz.f498) (n := 124) (np := 3) (hs := H498) (q := [.tmp 6,.tmp 7]) (t := (.s .l (.s .l (.s .l (.s .l (.s .l (.s (.s .l (.i (.j [1,2,3,8,9,10,11,26,27] (.s .l (.s (.i .l .l) (.s (.i (.s .l .l) .l) .l))) .l) .l)) (.s (.s .l (.i (.j [1,2,3,8,9,10,11,34] (.s .l (.s (.i .l .l) (.s (.i (.s .l (.s .l (.s (.s .l (.j [1,2,3,8,9,10,11,13,14,34] (.s .l (.s (.s .l (.i (.j [1,2,3,8,9,10,11,13,14,15,34,50,51,52] (.s .l (.s (.i .l .l) (.s (.i (.s .l (.s .l .l)) .l) .l))) .l) .l)) (.s .l (.s (.s .l (.j [1,2,3,8,9,10,11,13,14,19,34] (.s .l (.s .l (.s .l .l))) .l)) .l)))) .l)) .l))) .l) .l))) .l) .l)) (.s .l .l))))))))) mix4 (by kernel_rfl) (by kernel_rfl) (by kernel_rfl) (by kernel_rfl) (by kernel_rfl) (by kernel_rfl) (by kernel_rfl) (by kernel_rfl)
noncomputable def F548 : GF := fun cl ar h => x_arg ar fun v0 ar => x_ar0 ar (
 x_bx v0 h fun v1 h1 =>
 x_nw (rpl 7 (I 0) (.nils :: ((.bool false) :: ((I 0) :: (rpl 2 .nils (rpl 4 (N .u64 0) (rpl 4 (I 0) ((.bool false) :: (rpl 2 .nils ((I 0) :: ((.bool false) :: (rpl 4 (I 0) (.nils :: ((.str []) :: (rpl 2 (I 0) []))))))))))))))) p0 h1 fun v2 h2 =>
 x_fa 0 v1 fun v3 =>
 x_ld none v3 h2 fun v4 =>
 x_call cl 630 [v4] h2 fun v5 h5 =>
 x_un .not v5 fun v6 =>
 x_grp true v6 (fun (v7 v8 v9 : AV) (h10 : KH) =>
 x_pick v6 v9 (.bool false) fun v11 =>
 x_grp false v11 (fun (v12 v13 v14 v15 : AV) (h16 : KH) =>
 x_grp true v15 (fun (v17 v18 v19 : AV) (h20 : KH) =>
 x_grp false v11 (fun (v21 v22 : AV) (h23 : KH) =>
 x_grp true v22 (fun (v24 v25 v26 : AV) (h27 : KH) =>
 x_grp false v11 (fun (v28 : AV) (h29 : KH) =>
 x_pick v11 (.bool true) v28 fun v30 =>
 x_if v30 (fun (v31 v32 : AV) (h33 : KH) =>
 x_fa 31 v31 fun v34 =>
 x_st 1 v34 (.int .i64 (-1)) h33 fun h35 =>
 x_fa 32 v31 fun v36 =>
 x_st 1 v36 (.int .i64 (-1)) h35 fun h37 =>
 x_fa 0 v31 fun v38 =>
 x_ld none v38 h37 fun v39 =>
 x_eql v39 (I 1) fun v40 =>
 x_if v40 (fun (v41 v42 v43 v44 : AV) (h45 : KH) =>
 x_if v44 (fun (v46 v47 : AV) (h48 : KH) =>
 x_fa 0 v46 fun v49 =>
 x_ld none v49 h48 fun v50 =>
 x_eql v50 (I 3) fun v51 =>
 x_if v51 (fun (v52 v53 : AV) (h54 : KH) =>
 x_ld (some 33) v52 h54 fun v55 =>
 x_st 33 v53 v55 h54 fun h56 =>
 x_ld (some 33) v53 h56 fun v57 =>
 .ret v57 h56)
 (fun J52 => x_fa 7 v46 fun v53 =>
 x_st 1 v53 .nils h48 fun h54 =>
 x_fa 8 v46 fun v55 =>
 x_st 1 v55 (.bool false) h54 fun h56 =>
 J52 v46 v47 h56)
 (fun J52 => x_eql v50 (I 4) fun v53 =>
 x_if v53 (fun (v54 v55 v56 v57 : AV) (h58 : KH) =>
 x_if0 v57
 (x_fa 5 v54 fun v59 =>
 x_st 1 v59 (I 0) h58 fun h60 =>
 x_fa 6 v54 fun v61 =>
 x_st 1 v61 (I 0) h60 fun h62 =>
 J52 v54 v55 h62)
 (x_eql v56 (I 5) fun v59 =>
 x_if0 v59
 (x_fa 4 v54 fun v60 =>
 x_st 1 v60 (I 0) h58 fun h61 =>
 J52 v54 v55 h61)
 (x_eql v56 (I 6) fun v60 =>
 x_if0 v60
 (x_bld [(I 0),.nils,.nils] [] fun v61 =>
 x_fa 9 v54 fun v62 =>
 x_st 3 v62 v61 h58 fun h63 =>
 J52 v54 v55 h63)
 (x_eql v56 (I 7) fun v61 =>
 x_if0 v61
 (x_bld (rpl 4 (N .u64 0) []) [] fun v62 =>
 x_fa 12 v54 fun v63 =>
 x_st 4 v63 v62 h58 fun h64 =>
 J52 v54 v55 h64)
 (x_eql v56 (I 8) fun v62 =>
 x_if0 v62
 (x_bld (rpl 4 (I 0) ((.bool false) :: [])) [] fun v63 =>
 x_fa 4 v54 fun v64 =>
 x_st 1 v64 (I 0) h58 fun h65 =>
 x_fa 16 v54 fun v66 =>
 x_st 5 v66 v63 h65 fun h67 =>
 J52 v54 v55 h67)
 (x_eql v56 (I 9) fun v63 =>
 x_if0 v63
 (x_fa 21 v54 fun v64 =>
 x_st 1 v64 .nils h58 fun h65 =>
 x_fa 22 v54 fun v66 =>
 x_st 1 v66 .nils h65 fun h67 =>
 J52 v54 v55 h67)
 (x_eql v56 (I 10) fun v64 =>
 x_if0 v64
 (x_bld ((I 0) :: ((.bool false) :: (rpl 4 (I 0) (.nils :: [])))) [] fun v65 =>
 x_fa 23 v54 fun v66 =>
 x_st 7 v66 v65 h58 fun h67 =>
 J52 v54 v55 h67)
 (x_eql v56 (I 13) fun v65 =>
 x_if0 v65
 (x_fa 30 v54 fun v66 =>
 x_st 1 v66 (.str []) h58 fun h67 =>
 J52 v54 v55 h67)
 (x_eql v56 (I 14) fun v66 =>
 x_if0 v66
 (x_fa 5 v54 fun v67 =>
 x_st 1 v67 (I 0) h58 fun h68 =>
 J52 v54 v55 h68)
 (J52 v54 v55 h58))))))))))
 (fun J54 => J54 v46 v47 v50 v53 h48)
 (fun J54 => x_eql v50 (I 11) fun v55 =>
 J54 v46 v47 v50 v55 h48)))
 (fun J46 => x_fa 1 v41 fun v47 =>
 x_st 1 v47 (I 0) h45 fun h48 =>
 x_fa 2 v41 fun v49 =>
 x_st 1 v49 (I 0) h48 fun h50 =>
 J46 v41 v42 h50)
 (fun J46 => x_eql v43 (I 2) fun v47 =>
 x_if0 v47
 (x_fa 2 v41 fun v48 =>
 x_st 1 v48 (I 0) h45 fun h49 =>
 x_fa 7 v41 fun v50 =>
 x_st 1 v50 .nils h49 fun h51 =>
 J46 v41 v42 h51)
 (x_eql v43 (I 3) fun v48 =>
 x_if v48 (fun (v49 v50 v51 v52 : AV) (h53 : KH) =>
 x_if0 v52
 (x_fa 1 v49 fun v54 =>
 x_st 1 v54 (I 0) h53 fun h55 =>
 x_fa 2 v49 fun v56 =>
 x_st 1 v56 (I 0) h55 fun h57 =>
 x_fa 3 v49 fun v58 =>
 x_st 1 v58 (I 0) h57 fun h59 =>
 J46 v49 v50 h59)
 (x_eql v51 (I 8) fun v54 =>
 x_if v54 (fun (v55 v56 v57 : AV) (h58 : KH) =>
 x_if0 v57
 (x_fa 1 v55 fun v59 =>
 x_st 1 v59 (I 0) h58 fun h60 =>
 J46 v55 v56 h60)
 (J46 v55 v56 h58))
 (fun J55 => J55 v49 v50 v54 h53)
 (fun J55 => x_eql v51 (I 9) fun v56 =>
 x_if0 v56
 (J55 v49 v50 v56 h53)
 (x_eql v51 (I 13) fun v57 =>
 J55 v49 v50 v57 h53))))
 (fun J49 => J49 v41 v42 v43 v48 h45)
 (fun J49 => x_eql v43 (I 5) fun v50 =>
 J49 v41 v42 v43 v50 h45))))
 (fun J41 => J41 v31 v32 v39 v40 h37)
 (fun J41 => x_eql v39 (I 6) fun v42 =>
 x_if0 v42
 (J41 v31 v32 v39 v42 h37)
 (x_eql v39 (I 7) fun v43 =>
 x_if0 v43
 (J41 v31 v32 v39 v43 h37)
 (x_eql v39 (I 4) fun v44 =>
 J41 v31 v32 v39 v44 h37))))
 (fun J31 => x_fa 0 v1 fun v32 =>
 x_st 1 v32 (I 0) h29 fun h33 =>
 x_fa 30 v1 fun v34 =>
 x_st 1 v34 (.str [117,110,117,115,101,100]) h33 fun h35 =>
 J31 v1 v2 h35)
 (fun J31 => J31 v1 v2 h29)) (fun J28 =>
 x_pick v22 v26 (.bool false) fun v29 =>
 J28 v29 h27) (fun J28 => J28 aud h27)) (fun J24 =>
 x_fa 31 v1 fun v25 =>
 x_ld none v25 h23 fun v26 =>
 x_neq v26 (.int .i64 (-1)) fun v27 =>
 J24 v25 v26 v27 h23) (fun J24 => J24 aud aud aud h23)) (fun J21 =>
 x_pick v15 v19 (.bool false) fun v22 =>
 J21 v22 v22 h20) (fun J21 => J21 aud aud h20)) (fun J17 =>
 x_fa 0 v1 fun v18 =>
 x_ld none v18 h16 fun v19 =>
 x_neq v19 (I 11) fun v20 =>
 J17 v18 v19 v20 h16) (fun J17 => J17 aud aud aud h16)) (fun J12 =>
 x_fa 0 v1 fun v13 =>
 x_ld none v13 h10 fun v14 =>
 x_neq v14 (I 10) fun v15 =>
 J12 v13 v14 v15 v15 h10) (fun J12 => J12 aud aud aud aud h10)) (fun J7 =>
 x_fa 32 v1 fun v8 =>
 x_ld none v8 h5 fun v9 =>
 x_neq v9 (.int .i64 (-1)) fun v10 =>
 J7 v8 v9 v10 h5) (fun J7 => J7 aud aud aud h5))
def H548 : Hints := []
theorem S548 : SoundF Tryz.prog 548 F548 := kfun_of (fn := Tryz.f548) (n := 97) (np := 1) (hs := H548) (q := [.cell 2 (some 33)]) (t := (.s .l (.s (.s .l (.j [1,2] (.s .l .l) .l)) (.s .l (.s (.s .l (.i (.s (.s .l (.j [1,2,32,33] .l (.s .l (.i .l (.s .l (.i .l .l)))))) (.j [1,2] .l (.s .l (.i .l (.s (.s .l (.j [1,2,32,44] .l .l)) (.i .l (.s (.s .l (.j [1,2,50] .l (.s .l (.i .l .l)))) (.i .l .l)))))))) .l)) (.s (.s .l (.i (.s .l (.j [1,2] .l (.s (.s .l (.j [1,2,56,61] .l .l)) (.i .l (.s .l (.i .l (.s .l (.i .l (.s .l (.i .l (.s .l (.i .l (.s .l (.i .l (.s .l (.i .l (.s .l (.i .l (.s .l (.i .l .l)))))))))))))))))))) .l)) (.s .l .l))))))) mix4 (by kernel_rfl) (by kernel_rfl) (by kernel_rfl) (by kernel_rfl) (by kernel_rfl) (by kernel_rfl) (by kernel_rfl) (by kernel_rfl)
noncomputable def F550 : GF := fun cl ar h => x_arg ar fun v0 ar => x_ar0 ar (
 x_call cl 276 [v0,(N .u8 126)] h fun v1 h1 =>
 x_if0 v1
 (x_call cl 550 [v0] h1 fun v2 h2 =>
 x_bld ((I 0) :: (rpl 4 (N .u64 0) (rpl 4 (I 0) []))) [.mk 0 1 (I 7),.mk 5 1 v2] fun v3 =>
 x_call cl 277 [v0,v3] h2 fun v4 h4 =>
 .ret v4 h4)
 (x_call cl 631 [v0] h1 fun v2 h2 =>
 x_loop (jbad [0,3]) (fun J3 => (fun (v4 v5 : AV) (h6 : KH) =>
 x_bld ((I 0) :: (rpl 4 (N .u64 0) (rpl 4 (I 0) []))) [.mk 0 1 (I 8),.mk 5 1 v5,.mk 8 1 (.int .i64 (-1))] fun v7 =>
 x_nw ((I 0) :: (rpl 4 (N .u64 0) (rpl 4 (I 0) []))) p0 h6 fun v8 h8 =>
 x_st 9 v8 v7 h8 fun h9 =>
 x_call cl 276 [v4,(N .u8 42)] h9 fun v10 h10 =>
 x_if v10 (fun (v11 v12 : AV) (h13 : KH) =>
 x_ld (some 9) v12 h13 fun v14 =>
 x_call cl 277 [v11,v14] h13 fun v15 h15 =>
 J3 v11 v15 h15)
 (fun J11 => J11 v4 v8 h10)
 (fun J11 => x_call cl 276 [v4,(N .u8 43)] h10 fun v12 h12 =>
 x_if0 v12
 (x_fa 7 v8 fun v13 =>
 x_st 1 v13 (I 1) h12 fun h14 =>
 J11 v4 v8 h14)
 (x_call cl 276 [v4,(N .u8 63)] h12 fun v13 h13 =>
 x_if0 v13
 (x_fa 8 v8 fun v14 =>
 x_st 1 v14 (I 1) h13 fun h15 =>
 J11 v4 v8 h15)
 (x_call cl 276 [v4,(N .u8 123)] h13 fun v14 h14 =>
 x_if0 v14
 (x_call cl 632 [v4] h14 fun v15 h15 =>
 x_ext 0 v15 fun v16 =>
 x_ext 1 v15 fun v17 =>
 x_fa 7 v8 fun v18 =>
 x_st 1 v18 v16 h15 fun h19 =>
 x_fa 8 v8 fun v20 =>
 x_st 1 v20 v17 h19 fun h21 =>
 J11 v4 v8 h21)
 (.ret v5 h14)))))) v0 v2 h2))
def H550 : Hints := []
theorem S550 : SoundF Tryz.prog 550 F550 := kfun_of (fn := Tryz.f550) (n := 41) (np := 1) (hs := H550) (q := [.tmp 2]) (t := (.s .l (.s (.s .l (.i (.s .l .l) .l)) (.s .l (.i (.j [0,3] (.i (.s .l (.s (.i (.s .l (.j [0,4] .l (.s .l (.i .l (.s .l (.i .l (.s .l (.i .l (.s .l .l))))))))) .l) .l)) .l) .l) .l))))) mix4 (by kernel_rfl) (by kernel_rfl) (by kernel_rfl) (by kernel_rfl) (by kernel_rfl) (by kernel_rfl) (by kernel_rfl) (by kernel_rfl)
noncomputable def F551 : GF := fun cl ar h => x_arg ar fun v0 ar => x_arg ar fun v1 ar => x_arg ar fun v2 ar => x_ar0 ar (
 x_bx v0 h fun v3 h3 =>
 x_nw [(I 0),(I 0),(N .u64 0)] p0 h3 fun v4 h4 =>
 x_ld (some 259) v2 h4 fun v5 =>
 x_fa 2 v3 fun v6 =>
 x_ld (some 1) v6 h4 fun v7 =>
 x_call cl 430 [v5,v7,v1] h4 fun v8 h8 =>
 x_nw [(N .u64 0)] p0 h8 fun v9 h9 =>
 x_st 1 v9 v8 h9 fun h10 =>
 x_ld (some 259) v2 h10 fun v11 =>
 x_ld (some 1) v9 h10 fun v12 =>
 x_call cl 433 [v11,v12] h10 fun v13 h13 =>
 x_if v13 (fun (v14 v15 : AV) (h16 : KH) =>
 x_ld (some 1) v15 h16 fun v17 =>
 x_bld [(I 0),(I 0),(N .u64 0)] [.mk 2 1 v17] fun v18 =>
 x_st 3 v14 v18 h16 fun h19 =>
 x_ld (some 3) v14 h19 fun v20 =>
 .ret v20 h19)
 (fun J14 => x_ixA 1 1 v9 (I 0) fun v15 =>
 x_ld none v15 h13 fun v16 =>
 x_bin .or v16 (N .u64 1) fun v17 =>
 x_ixA 1 1 v9 (I 0) fun v18 =>
 x_st 1 v18 v17 h13 fun h19 =>
 J14 v4 v9 h19)
 (fun J14 => J14 v4 v9 h13))
def H551 : Hints := []
theorem S551 : SoundF Tryz.prog 551 F551 := kfun_of (fn := Tryz.f551) (n := 21) (np := 3) (hs := H551) (q := [.cell 5 (some 3)]) (t := (.s .l (.s .l (.s (.s .l (.j [5,6] .l .l)) (.s .l .l))))) mix4 (by kernel_rfl) (by kernel_rfl) (by kernel_rfl) (by kernel_rfl) (by kernel_rfl) (by kernel_rfl) (by kernel_rfl) (by kernel_rfl)
noncomputable def F552 : GF := fun cl ar h => x_arg ar fun v0 ar => x_arg ar fun v1 ar => x_ar0 ar (
 x_bx v0 h fun v2 h2 =>
 x_fa 0 v2 fun v3 =>
 x_ld none v3 h2 fun v4 =>
 x_eql v4 (I 1) fun v5 =>
 x_grp false v5 (fun (v6 v7 v8 v9 : AV) (h10 : KH) =>
 x_pick v5 (.bool true) v9 fun v11 =>
 .ret v11 h10) (fun J6 =>
 x_ld (some 259) v1 h2 fun v7 =>
 x_fa 2 v2 fun v8 =>
 x_ld (some 1) v8 h2 fun v9 =>
 x_call cl 433 [v7,v9] h2 fun v10 h10 =>
 J6 v7 v8 v9 v10 h10) (fun J6 => J6 aud aud aud aud h2))
def H552 : Hints := []
theorem S552 : SoundF Tryz.prog 552 F552 := kfun_of (fn := Tryz.f552) (n := 13) (np := 2) (hs := H552) (q := [.tmp 3]) (t := (.s .l (.s .l .l))) mix4 (by kernel_rfl) (by kernel_rfl) (by kernel_rfl) (by kernel_rfl) (by kernel_rfl) (by kernel_rfl) (by kernel_rfl) (by kernel_rfl)
noncomputable def F555 : GF := fun cl ar h => x_arg ar fun v0 ar => x_ar0 ar (
 x_bin .sub v0 (I 1) fun v1 =>
 x_bin .and v0 v1 fun v2 =>
 x_eql v2 (I 0) fun v3 =>
 .ret v3 h)
def H555 : Hints := []
theorem S555 : SoundF Tryz.prog 555 F555 := kfun_of (fn := Tryz.f555) (n := 8) (np := 1) (hs := H555) (q := [.tmp 2]) (t := (.s .l (.s .l .l))) mix4 (by kernel_rfl) (by kernel_rfl) (by kernel_rfl) (by kernel_rfl) (by kernel_rfl) (by kernel_rfl) (by kernel_rfl) (by kernel_rfl)
noncomputable def F556 : GF := fun cl ar h => x_arg ar fun v0 ar => x_ar0 ar (
 x_if0 (.bool false)
 (x_conv .u32 v0 fun v1 =>
 x_call cl 633 [v1] h fun v2 h2 =>
 .ret v2 h2)
 (x_call cl 186 [v0] h fun v1 h1 =>
 .ret v1 h1))
def H556 : Hints := []
theorem S556 : SoundF Tryz.prog 556 F556 := kfun_of (fn := Tryz.f556) (n := 8) (np := 1) (hs := H556) (q := [.tmp 2]) (t := (.s .l (.s (.i (.s .l .l) .l) (.s .l .l)))) mix4 (by kernel_rfl) (by kernel_rfl) (by kernel_rfl) (by kernel_rfl) (by kernel_rfl) (by kernel_rfl) (by kernel_rfl) (by kernel_rfl)
noncomputable def F577 : GF := fun cl ar h => x_arg ar fun v0 ar => x_arg ar fun v1 ar => x_arg ar fun v2 ar => x_arg ar fun v3 ar => x_ar0 ar (
 x_add v1 (I 1) fun v4 =>
 x_loop (jbad [0,1,2,3,8]) (fun J5 => (fun (v6 v7 v8 v9 v10 : AV) (h11 : KH) =>
 x_lss v10 v8 fun v12 =>
 x_if0 v12
 (x_loop (jbad [0,1,2,3,8,9]) (fun J13 => (fun (v14 v15 v16 v17 v18 v19 : AV) (h20 : KH) =>
 x_bin .gtr v19 v15 fun v21 =>
 x_grp true v21 (fun (v22 v23 v24 v25 v26 v27 v28 v29 v30 v31 v32 v33 : AV) (h34 : KH) =>
 x_pick v21 v33 (.bool false) fun v35 =>
 x_if0 v35
 (x_bin .sub v19 (I 1) fun v36 =>
 x_bin .sub v19 (I 1) fun v37 =>
 x_ixS 4 v14 v37 fun v38 =>
 x_ld (some 4) v38 h34 fun v39 =>
 x_ixS 4 v14 v19 fun v40 =>
 x_ld (some 4) v40 h34 fun v41 =>
 x_ixS 4 v14 v19 fun v42 =>
 x_st 4 v42 v39 h34 fun h43 =>
 x_ixS 4 v14 v36 fun v44 =>
 x_st 4 v44 v41 h43 fun h45 =>
 x_bin .sub v19 (I 1) fun v46 =>
 J13 v14 v15 v16 v17 v18 v46 h45)
 (x_add v18 (I 1) fun v36 =>
 J5 v14 v15 v16 v17 v36 h34)) (fun J22 =>
 x_ixS 4 v14 v19 fun v23 =>
 x_ld (some 4) v23 h20 fun v24 =>
 x_bin .sub v19 (I 1) fun v25 =>
 x_ixS 4 v14 v25 fun v26 =>
 x_ld (some 4) v26 h20 fun v27 =>
 x_cl cl v17 [v24,v27] h20 fun v28 h28 =>
 x_lss v28 (I 0) fun v29 =>
 J22 v17 v14 v19 v23 v24 v14 v19 v25 v26 v27 v28 v29 h28) (fun J22 => J22 aud aud aud aud aud aud aud aud aud aud aud aud h20))) v6 v7 v8 v9 v10 v10 h11)
 (.ret (.tup []) h11))) v0 v1 v2 v3 v4 h)
def H577 : Hints := [(4,[(0,0,[],false),(1,0,[],false),(2,3,[],false),(3,7,[],false),(4,15,[],false),(5,15,[],false),(6,15,[],false),(7,111,[],false),(8,239,[],false),(9,15,[],false),(10,15,[],false),(11,1039,[],false),(12,3599,[],false),(13,7695,[],false),(14,16383,[],true),(15,32767,[],false),(16,65535,[],false)]),(6,[(0,0,[],false),(1,0,[],false),(2,0,[],false),(3,0,[],false),(4,8,[],false),(5,0,[],false),(6,0,[],false),(7,64,[],false),(8,224,[],false),(9,480,[],false),(10,0,[],false),(11,0,[],false),(12,3072,[],false),(13,7168,[],false),(14,16355,[],false),(15,32739,[],true),(16,65535,[],false),(17,131071,[],true)])]
theorem S577 : SoundF Tryz.prog 577 F577 := kfun_of (fn := Tryz.f577) (n := 53) (np := 4) (hs := H577) (q := []) (t := (.s .l (.i (.j [0,1,2,3,8] (.s (.s .l (.i .l .l)) (.s (.i (.s .l (.i (.j [0,1,2,3,8,9] (.s (.s .l (.i .l .l)) (.s (.i .l .l) .l)) .l) .l)) .l) .l)) .l) .l))) mix4 (by kernel_rfl) (by kernel_rfl) (by kernel_rfl) (by kernel_rfl) (by kernel_rfl) (by kernel_rfl) (by kernel_rfl) (by kernel_rfl)
noncomputable def F630 : GF := fun cl ar h => x_arg ar fun v0 ar => x_ar0 ar (
 x_eql v0 (I 3) fun v1 =>
 x_if v1 (fun (v2 : AV) (h3 : KH) =>
 x_if0 v2
 (.ret (.bool true) h3)
 (.ret (.bool false) h3))
 (fun J2 => J2 v1 h)
 (fun J2 => x_eql v0 (I 5) fun v3 =>
 x_if0 v3
 (J2 v3 h)
 (x_eql v0 (I 6) fun v4 =>
 x_if0 v4
 (J2 v4 h)
 (x_eql v0 (I 8) fun v5 =>
 x_if0 v5
 (J2 v5 h)
 (x_eql v0 (I 9) fun v6 =>
 x_if0 v6
 (J2 v6 h)
 (x_eql v0 (I 10) fun v7 =>
 J2 v7 h))))))
def H630 : Hints := []
theorem S630 : SoundF Tryz.prog 630 F630 := kfun_of (fn := Tryz.f630) (n := 11) (np := 1) (hs := H630) (q := [.tmp 2]) (t := (.s .l (.s (.s .l (.i (.s (.s .l (.j [4] .l (.s .l (.i .l (.s .l (.i .l (.s .l (.i .l (.s .l (.i .l .l)))))))))) (.i (.s .l .l) .l)) .l)) (.s .l .l)))) mix4 (by kernel_rfl) (by kernel_rfl) (by kernel_rfl) (by kernel_rfl) (by kernel_rfl) (by kernel_rfl) (by kernel_rfl) (by kernel_rfl)
noncomputable def F631 : GF := fun cl ar h => x_arg ar fun v0 ar => x_ar0 ar (
 x_call cl 276 [v0,(N .u8 46)] h fun v1 h1 =>
 x_if0 v1
 (x_call cl 294 [(N .u8 0),(N .u8 255)] h1 fun v2 h2 =>
 x_bld ((I 0) :: (rpl 4 (N .u64 0) (rpl 4 (I 0) []))) [.mk 0 1 (I 3),.mk 1 4 v2] fun v3 =>
 x_call cl 277 [v0,v3] h2 fun v4 h4 =>
 .ret v4 h4)
 (x_call cl 276 [v0,(N .u8 33)] h1 fun v2 h2 =>
 x_if0 v2
 (x_bld ((I 0) :: (rpl 4 (N .u64 0) (rpl 4 (I 0) []))) [.mk 0 1 (I 1)] fun v3 =>
 x_call cl 277 [v0,v3] h2 fun v4 h4 =>
 .ret v4 h4)
 (x_call cl 276 [v0,(N .u8 91)] h2 fun v3 h3 =>
 x_if0 v3
 (x_call cl 671 [v0] h3 fun v4 h4 =>
 x_bld ((I 0) :: (rpl 4 (N .u64 0) (rpl 4 (I 0) []))) [.mk 0 1 (I 3),.mk 1 4 v4] fun v5 =>
 x_call cl 277 [v0,v5] h4 fun v6 h6 =>
 .ret v6 h6)
 (x_call cl 276 [v0,(N .u8 40)] h3 fun v4 h4 =>
 x_if0 v4
 (x_call cl 276 [v0,(N .u8 41)] h4 fun v5 h5 =>
 x_if0 v5
 (x_bld ((I 0) :: (rpl 4 (N .u64 0) (rpl 4 (I 0) []))) [.mk 0 1 (I 2)] fun v6 =>
 x_call cl 277 [v0,v6] h5 fun v7 h7 =>
 .ret v7 h7)
 (x_call cl 168 [v0] h5 fun v6 h6 =>
 x_call cl 672 [v0,(N .u8 41)] h6 fun v7 h7 =>
 .ret v6 h7))
 (x_call cl 673 [v0] h4 fun v5 h5 =>
 x_call cl 294 [v5,v5] h5 fun v6 h6 =>
 x_bld ((I 0) :: (rpl 4 (N .u64 0) (rpl 4 (I 0) []))) [.mk 0 1 (I 3),.mk 1 4 v6] fun v7 =>
 x_call cl 277 [v0,v7] h6 fun v8 h8 =>
 .ret v8 h8)))))
def H631 : Hints := []
theorem S631 : SoundF Tryz.prog 631 F631 := kfun_of (fn := Tryz.f631) (n := 47) (np := 1) (hs := H631) (q := [.tmp 2]) (t := (.s .l (.s (.i (.s .l (.i (.s .l .l) (.s .l (.i (.s .l .l) (.s .l (.i (.s .l .l) (.s .l (.i (.s (.s .l (.i (.s .l .l) .l)) (.s .l (.s .l (.s .l .l)))) .l)))))))) .l) (.s .l (.s .l .l))))) mix4 (by kernel_rfl) (by kernel_rfl) (by kernel_rfl) (by kernel_rfl) (by kernel_rfl) (by kernel_rfl) (by kernel_rfl) (by kernel_rfl)
noncomputable def F671 : GF := fun cl ar h => x_arg ar fun v0 ar => x_ar0 ar (
 x_nw (rpl 4 (N .u64 0) []) p0 h fun v1 h1 =>
 x_call cl 276 [v0,(N .u8 94)] h1 fun v2 h2 =>
 x_nw (rpl 4 (N .u64 0) []) p0 h2 fun v3 h3 =>
 x_loop (jbad [0,2,3,4]) (fun J4 => (fun (v5 v6 v7 v8 : AV) (h9 : KH) =>
 x_call cl 276 [v5,(N .u8 93)] h9 fun v10 h10 =>
 x_un .not v10 fun v11 =>
 x_if0 v11
 (x_call cl 673 [v5] h10 fun v12 h12 =>
 x_call cl 276 [v5,(N .u8 45)] h12 fun v13 h13 =>
 x_if v13 (fun (v14 v15 v16 v17 v18 v19 : AV) (h20 : KH) =>
 x_ld (some 4) v17 h20 fun v21 =>
 x_call cl 294 [v18,v19] h20 fun v22 h22 =>
 x_chk (cond (koEq (kload (some 4) v17 h22) v21) true false) (x_call cl 175 [v21,v22] h22 fun v23 h23 =>
 x_chk true (x_st 4 v17 v23 h23 fun h24 =>
 x_chk true (J4 v14 v15 v16 v17 h24))))
 (fun J14 => x_nc v5 fun v15 =>
 x_fa 1 v15 fun v16 =>
 x_ld none v16 h13 fun v17 =>
 x_call cl 673 [v5] h13 fun v18 h18 =>
 x_lss v18 v12 fun v19 =>
 x_if0 v19
 (x_bld [(I 0),(I 0)] [.mk 0 1 (I 20),.mk 1 1 v17] fun v20 =>
 x_pan (.ifc 355 v20) h18)
 (J14 v5 v6 v7 v8 v12 v18 h18))
 (fun J14 => J14 v5 v6 v7 v8 v12 v12 h13))
 (x_if0 v7
 (x_ld (some 4) v8 h10 fun v12 =>
 x_call cl 297 [v12] h10 fun v13 h13 =>
 x_st 4 v6 v13 h13 fun h14 =>
 x_ld (some 4) v6 h14 fun v15 =>
 .ret v15 h14)
 (x_ld (some 4) v8 h10 fun v12 =>
 x_st 4 v6 v12 h10 fun h13 =>
 x_ld (some 4) v6 h13 fun v14 =>
 .ret v14 h13)))) v0 v1 v2 v3 h3)
def H671 : Hints := [(11,[(0,0,[],false),(1,0,[],false),(2,0,[],false),(3,6,[0],true),(4,15,[],true),(5,31,[],true)])]
theorem S671 : SoundF Tryz.prog 671 F671 := kfun_of (fn := Tryz.f671) (n := 39) (np := 1) (hs := H671) (q := [.cell 2 (some 4)]) (t := (.s .l (.s .l (.s .l (.s (.i (.j [0,2,3,4] (.s (.s .l (.i .l .l)) (.i (.s .l (.s .l (.s (.s .l (.j [0,2,3,4,5,6] (.s .l (.s .l (.s .l (.i .l .l)))) .l)) .l))) .l)) .l) .l) (.s (.s .l (.i (.s .l .l) .l)) (.s .l .l))))))) mix4 (by kernel_rfl) (by kernel_rfl) (by kernel_rfl) (by kernel_rfl) (by kernel_rfl) (by kernel_rfl) (by kernel_rfl) (by kernel_rfl)
noncomputable def F672 : GF := fun cl ar h => x_arg ar fun v0 ar => x_arg ar fun v1 ar => x_ar0 ar (
 x_call cl 276 [v0,v1] h fun v2 h2 =>
 x_un .not v2 fun v3 =>
 x_if0 v3
 (x_call cl 169 [v0] h2 fun v4 h4 =>
 .ret (.tup []) h4)
 (.ret (.tup []) h2))
def H672 : Hints := []
theorem S672 : SoundF Tryz.prog 672 F672 := kfun_of (fn := Tryz.f672) (n := 10) (np := 2) (hs := H672) (q := []) (t := (.s .l (.i .l .l))) mix4 (by kernel_rfl) (by kernel_rfl) (by kernel_rfl) (by kernel_rfl) (by kernel_rfl) (by kernel_rfl) (by kernel_rfl) (by kernel_rfl)
noncomputable def F673 : GF := fun cl ar h => x_arg ar fun v0 ar => x_ar0 ar (
 x_call cl 276 [v0,(N .u8 92)] h fun v1 h1 =>
 x_if0 v1
 (x_call cl 672 [v0,(N .u8 120)] h1 fun v2 h2 =>
 x_call cl 684 [v0] h2 fun v3 h3 =>
 x_mul (N .u8 16) v3 fun v4 =>
 x_call cl 684 [v0] h3 fun v5 h5 =>
 x_add v4 v5 fun v6 =>
 .ret v6 h5)
 (x_call cl 425 [v0] h1 fun v2 h2 =>
 x_lss v2 (I 0) fun v3 =>
 x_grp false v3 (fun (v4 v5 v6 v7 : AV) (h8 : KH) =>
 x_pick v3 (.bool true) v7 fun v9 =>
 x_if v9 (fun (v10 : AV) (h11 : KH) =>
 x_nc v10 fun v12 =>
 x_fa 1 v12 fun v13 =>
 x_ld none v13 h11 fun v14 =>
 x_add v14 (I 1) fun v15 =>
 x_nc v10 fun v16 =>
 x_fa 1 v16 fun v17 =>
 x_st 1 v17 v15 h11 fun h18 =>
 x_nc v10 fun v19 =>
 x_fa 0 v19 fun v20 =>
 x_ld none v20 h18 fun v21 =>
 x_nc v10 fun v22 =>
 x_fa 1 v22 fun v23 =>
 x_ld none v23 h18 fun v24 =>
 x_bin .sub v24 (I 1) fun v25 =>
 x_pu (.indexStr (.cst v21) (.cst v25)) fun v26 =>
 .ret v26 h18)
 (fun J10 => x_call cl 169 [v0] h8 fun v11 h11 =>
 J10 v0 h11)
 (fun J10 => J10 v0 h8)) (fun J4 =>
 x_conv .u8 v2 fun v5 =>
 x_call cl 685 [v5] h2 fun v6 h6 =>
 x_un .not v6 fun v7 =>
 J4 v2 v5 v6 v7 h6) (fun J4 => J4 aud aud aud aud h2)))
def H673 : Hints := [(8,[(0,0,[],false),(1,1,[],false),(2,3,[],false),(3,7,[],false),(4,0,[],false),(5,16,[],false),(6,48,[],false),(7,112,[],false),(8,240,[],false),(9,511,[],false),(10,1023,[],false)])]
theorem S673 : SoundF Tryz.prog 673 F673 := kfun_of (fn := Tryz.f673) (n := 43) (np := 1) (hs := H673) (q := [.tmp 2]) (t := (.s .l (.s (.s .l (.i (.s .l (.s .l .l)) .l)) (.s (.s .l (.s .l (.j [0] .l .l))) (.s .l (.s .l .l)))))) mix4 (by kernel_rfl) (by kernel_rfl) (by kernel_rfl) (by kernel_rfl) (by kernel_rfl) (by kernel_rfl) (by kernel_rfl) (by kernel_rfl)
noncomputable def F684 : GF := fun cl ar h => x_arg ar fun v0 ar => x_ar0 ar (
 x_call cl 425 [v0] h fun v1 h1 =>
 x_bin .geq v1 (I 48) fun v2 =>
 x_grp true v2 (fun (v3 v4 : AV) (h5 : KH) =>
 x_pick v2 v4 (.bool false) fun v6 =>
 x_if v6 (fun (v7 v8 : AV) (h9 : KH) =>
 x_nc v7 fun v10 =>
 x_fa 1 v10 fun v11 =>
 x_ld none v11 h9 fun v12 =>
 x_add v12 (I 1) fun v13 =>
 x_nc v7 fun v14 =>
 x_fa 1 v14 fun v15 =>
 x_st 1 v15 v13 h9 fun h16 =>
 x_conv .u8 v8 fun v17 =>
 .ret v17 h16)
 (fun J7 => x_bin .sub v1 (I 48) fun v8 =>
 J7 v0 v8 h5)
 (fun J7 => x_bin .geq v1 (I 97) fun v8 =>
 x_grp true v8 (fun (v9 v10 : AV) (h11 : KH) =>
 x_pick v8 v10 (.bool false) fun v12 =>
 x_if0 v12
 (x_bin .sub v1 (I 87) fun v13 =>
 J7 v0 v13 h11)
 (x_bin .geq v1 (I 65) fun v13 =>
 x_grp true v13 (fun (v14 v15 : AV) (h16 : KH) =>
 x_pick v13 v15 (.bool false) fun v17 =>
 x_if0 v17
 (x_bin .sub v1 (I 55) fun v18 =>
 J7 v0 v18 h16)
 (x_call cl 169 [v0] h16 fun v18 h18 =>
 J7 v0 v1 h18)) (fun J14 =>
 x_leq v1 (I 70) fun v15 =>
 J14 v1 v15 h11) (fun J14 => J14 aud aud h11))) (fun J9 =>
 x_leq v1 (I 102) fun v10 =>
 J9 v1 v10 h5) (fun J9 => J9 aud aud h5))) (fun J3 =>
 x_leq v1 (I 57) fun v4 =>
 J3 v1 v4 h1) (fun J3 => J3 aud aud h1))
def H684 : Hints := []
theorem S684 : SoundF Tryz.prog 684 F684 := kfun_of (fn := Tryz.f684) (n := 44) (np := 1) (hs := H684) (q := [.tmp 2]) (t := (.s .l (.s .l (.s (.i (.s .l (.j [0,3] .l (.s .l (.i .l (.s .l (.i .l .l)))))) .l) (.s .l (.s .l .l)))))) mix4 (by kernel_rfl) (by kernel_rfl) (by kernel_rfl) (by kernel_rfl) (by kernel_rfl) (by kernel_rfl) (by kernel_rfl) (by kernel_rfl)
end Go.Proofs.YtlopgbdfdfijoaaGreatDoor.San
