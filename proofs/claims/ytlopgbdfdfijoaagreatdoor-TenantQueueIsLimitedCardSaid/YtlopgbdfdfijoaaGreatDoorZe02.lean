import Derived.Test.YtlopgbdfdfijoaaGreatDoorZb03
import Derived.Test.YtlopgbdfdfijoaaGreatDoorProg
/-
  printed functions for the kernel.
-/
set_option linter.unusedSectionVars false
set_option linter.unusedVariables false
set_option linter.unusedSimpArgs false
namespace Go.Proofs.YtlopgbdfdfijoaaGreatDoor.San
open Go Go.AL
theorem mix2 : Tryz.prog.follows .mixedOrders = true := by kernel_rfl
variable [GLC]
def H167 : Hints := [(5,[(0,0,[],false),(1,1,[],false),(2,0,[],false),(3,4,[],false),(4,0,[1,3],true),(5,19,[3],true),(6,63,[],true)])]
theorem A167 : ∀ all H,all.length = 3 → ADef Tryz.prog 167 all none H fun H' => H' = H := adef_none (fn := Tryz.f167) (n := 21) (hs := H167) (ra := 6) (rb := 3) (rc := 7) (rd := 8) mix2 (by kernel_rfl) (by kernel_rfl) (by kernel_rfl) (by kernel_rfl) (by kernel_rfl) (by kernel_rfl) (by kernel_rfl) (by kernel_rfl) (by kernel_rfl)
noncomputable def F96 : GF := fun cl ar h => x_arg ar fun v0 ar => x_ar0 ar (
 x_bx v0 h fun v1 h1 =>
 x_fa 0 v1 fun v2 =>
 x_ld none v2 h1 fun v3 =>
 x_len v3 fun v4 =>
 x_bin .gtr v4 (I 64) fun v5 =>
 x_grp false v5 (fun (v6 v7 v8 v9 : AV) (h10 : KH) =>
 x_pick v5 (.bool true) v9 fun v11 =>
 x_if0 v11
 (.ret (I 2) h10)
 (x_fa 1 v1 fun v12 =>
 x_ld none v12 h10 fun v13 =>
 x_len v13 fun v14 =>
 x_eql v14 (I 0) fun v15 =>
 x_if0 v15
 (.ret (I 1) h10)
 (x_fa 0 v1 fun v16 =>
 x_ld none v16 h10 fun v17 =>
 x_len v17 fun v18 =>
 x_loop (jbad [1,21,22,23]) (fun J19 => (fun (v20 v21 v22 v23 : AV) (h24 : KH) =>
 x_lss v23 v22 fun v25 =>
 x_if0 v25
 (x_ixS 33 v21 v23 fun v26 =>
 x_ld (some 33) v26 h24 fun v27 =>
 x_nw (rpl 7 (I 0) (.nils :: ((.bool false) :: ((I 0) :: (rpl 2 .nils (rpl 4 (N .u64 0) (rpl 4 (I 0) ((.bool false) :: (rpl 2 .nils ((I 0) :: ((.bool false) :: (rpl 4 (I 0) (.nils :: ((.str []) :: (rpl 2 (I 0) []))))))))))))))) p0 h24 fun v28 h28 =>
 x_st 33 v28 v27 h28 fun h29 =>
 x_ld (some 33) v28 h29 fun v30 =>
 x_call cl 159 [v30] h29 fun v31 h31 =>
 x_neq v31 (I 0) fun v32 =>
 x_if0 v32
 (.ret v31 h31)
 (x_add v23 (I 1) fun v33 =>
 J19 v20 v21 v22 v33 h31))
 (x_ld (some 2) v20 h24 fun v26 =>
 x_call cl 160 [v26] h24 fun v27 h27 =>
 x_un .not v27 fun v28 =>
 x_if0 v28
 (.ret (I 1) h27)
 (.ret (I 0) h27)))) v1 v17 v18 (I 0) h10))) (fun J6 =>
 x_fa 1 v1 fun v7 =>
 x_ld none v7 h1 fun v8 =>
 x_len v8 fun v9 =>
 x_bin .gtr v9 (I 129) fun v10 =>
 J6 v7 v8 v9 v10 h1) (fun J6 => J6 aud aud aud aud h1))
def H96 : Hints := []
theorem S96 : SoundF Tryz.prog 96 F96 := kfun_of (fn := Tryz.f96) (n := 36) (np := 1) (hs := H96) (q := [.tmp 2]) (t := (.s .l (.s (.s .l (.i (.s .l .l) .l)) (.s (.s .l (.i (.s .l .l) .l)) (.s (.s .l (.i (.j [1,21,22,23] (.s .l (.s (.i .l .l) (.s (.i (.s .l (.s .l (.s .l (.i (.s .l .l) .l)))) .l) .l))) .l) .l)) (.s (.s .l (.i (.s .l .l) .l)) (.s .l .l))))))) mix2 (by kernel_rfl) (by kernel_rfl) (by kernel_rfl) (by kernel_rfl) (by kernel_rfl) (by kernel_rfl) (by kernel_rfl) (by kernel_rfl)
noncomputable def F97 : GF := fun cl ar h => x_arg ar fun v0 ar => x_arg ar fun v1 ar => x_ar0 ar (
 x_bx v0 h fun v2 h2 =>
 x_lss v1 (I 0) fun v3 =>
 x_if0 v3
 (.ret (I 0) h2)
 (x_fa 1 v2 fun v4 =>
 x_ld none v4 h2 fun v5 =>
 x_ixS 1 v5 v1 fun v6 =>
 x_ld none v6 h2 fun v7 =>
 x_len v7 fun v8 =>
 x_loop (jbad [2,5,17,18,19]) (fun J9 => (fun (v10 v11 v12 v13 v14 : AV) (h15 : KH) =>
 x_lss v14 v13 fun v16 =>
 x_if0 v16
 (x_ixS 1 v12 v14 fun v17 =>
 x_ld none v17 h15 fun v18 =>
 x_fa 0 v10 fun v19 =>
 x_ld none v19 h15 fun v20 =>
 x_ixS 33 v20 v18 fun v21 =>
 x_ld (some 33) v21 h15 fun v22 =>
 x_nw (rpl 7 (I 0) (.nils :: ((.bool false) :: ((I 0) :: (rpl 2 .nils (rpl 4 (N .u64 0) (rpl 4 (I 0) ((.bool false) :: (rpl 2 .nils ((I 0) :: ((.bool false) :: (rpl 4 (I 0) (.nils :: ((.str []) :: (rpl 2 (I 0) []))))))))))))))) p0 h15 fun v23 h23 =>
 x_st 33 v23 v22 h23 fun h24 =>
 x_ld (some 2) v10 h24 fun v25 =>
 x_fa 31 v23 fun v26 =>
 x_ld none v26 h24 fun v27 =>
 x_ld (some 2) v10 h24 fun v28 =>
 x_fa 32 v23 fun v29 =>
 x_ld none v29 h24 fun v30 =>
 x_call cl 97 [v25,v27] h24 fun v31 h31 =>
 x_chk (cond (koEq (kload none v29 h31) v30) (cond (koEq (kload (some 2) v10 h31) v28) true false) false) (x_call cl 97 [v28,v30] h31 fun v32 h32 =>
 x_chk true (x_fa 0 v23 fun v33 =>
 x_ld none v33 h32 fun v34 =>
 x_eql v34 (I 10) fun v35 =>
 x_if v35 (fun (v36 v37 v38 v39 v40 : AV) (h41 : KH) =>
 x_pu (.minmax false (.cst v37) (.cst (I 1099511627776))) fun v42 =>
 x_add v40 (I 1) fun v43 =>
 J9 v36 v42 v38 v39 v43 h41)
 (fun J36 => x_pu (.minmax true (.cst v31) (.cst v32)) fun v37 =>
 x_add (I 1) v37 fun v38 =>
 x_add v11 v38 fun v39 =>
 J36 v10 v39 v12 v13 v14 h32)
 (fun J36 => x_eql v34 (I 11) fun v37 =>
 x_if0 v37
 (x_fa 5 v23 fun v38 =>
 x_ld none v38 h32 fun v39 =>
 x_mul v39 v31 fun v40 =>
 x_add (I 1) v40 fun v41 =>
 x_add v11 v41 fun v42 =>
 J36 v10 v42 v12 v13 v14 h32)
 (x_add (I 1) v32 fun v38 =>
 x_add v11 v38 fun v39 =>
 J36 v10 v39 v12 v13 v14 h32)))))
 (.ret v11 h15))) v2 (I 0) v7 v8 (I 0) h2))
def H97 : Hints := [(8,[(0,0,[],false),(1,0,[],false),(2,2,[],false),(4,0,[],false),(5,0,[],false),(6,32,[],false),(3,7,[4,6],true),(7,127,[],true),(8,255,[],false),(9,511,[],false)])]
theorem S97 : SoundF Tryz.prog 97 F97 := kfun_of (fn := Tryz.f97) (n := 63) (np := 2) (hs := H97) (q := [.tmp 4]) (t := (.s .l (.s (.s .l (.i (.s .l .l) .l)) (.s .l (.s (.s .l (.i (.j [2,5,17,18,19] (.s .l (.s (.i .l .l) (.s (.i (.s .l (.s .l (.s .l (.s (.s .l (.i (.s .l (.j [2,5,17,18,19] .l (.s .l (.i .l .l)))) .l)) .l)))) .l) .l))) .l) .l)) (.s .l .l)))))) mix2 (by kernel_rfl) (by kernel_rfl) (by kernel_rfl) (by kernel_rfl) (by kernel_rfl) (by kernel_rfl) (by kernel_rfl) (by kernel_rfl)
noncomputable def F98 : GF := fun cl ar h => x_arg ar fun v0 ar => x_ar0 ar (
 x_bx v0 h fun v1 h1 =>
 x_nw [.nils,(I 0),(I 0)] p0 h1 fun v2 h2 =>
 x_fa 0 v1 fun v3 =>
 x_ld none v3 h2 fun v4 =>
 x_len v4 fun v5 =>
 x_mks 1 [(.bool false)] v5 v5 h2 fun v6 h6 =>
 x_bld [.nils,(I 0),(I 0)] [.mk 0 1 v6,.mk 1 1 (.int .i64 (-1))] fun v7 =>
 x_nw [.nils,(I 0),(I 0)] p0 h6 fun v8 h8 =>
 x_st 3 v8 v7 h8 fun h9 =>
 x_nw [.nilf] p0 h9 fun v10 h10 =>
 x_st 1 v10 (.fn (.func 161) [] [v8]) h10 fun h11 =>
 x_nw [.nilf] p0 h11 fun v12 h12 =>
 x_nw [.nilf] p0 h12 fun v13 h13 =>
 x_st 1 v13 (.fn (.func 162) [] [v1,v8,v10,v12]) h13 fun h14 =>
 x_st 1 v12 (.fn (.func 164) [] [v1,v13]) h14 fun h15 =>
 x_ld none v12 h15 fun v16 =>
 x_bs [(I 0)] 1 [.mk 0 1 (I 0)] fun c17 g17 =>  x_nw c17 g17 h15 fun v17 h17 =>
 x_call cl 99 [v17,.nils] h17 fun v18 h18 =>
 x_chk (cond (koEq (kload none v12 h18) v16) true false) (x_bld (rpl 17 (.bool false) []) [.mk 0 1 (.bool true),.mk 1 16 v18] fun v19 =>
 x_cl cl v16 [(I 0),v19,.nilp] h18 fun v20 h20 =>
 x_chk true (x_ld (some 3) v8 h20 fun v21 =>
 x_st 3 v2 v21 h20 fun h22 =>
 x_ld (some 3) v2 h22 fun v23 =>
 .ret v23 h22)))
def H98 : Hints := [(6,[(0,0,[],false),(1,0,[],false),(2,2,[0],true),(3,6,[],false),(4,15,[],true)])]
theorem S98 : SoundF Tryz.prog 98 F98 := kfun_of (fn := Tryz.f98) (n := 21) (np := 1) (hs := H98) (q := [.cell 2 (some 3)]) (t := (.s .l (.s .l (.s .l (.s .l (.s .l (.s .l (.s .l (.s .l .l))))))))) mix2 (by kernel_rfl) (by kernel_rfl) (by kernel_rfl) (by kernel_rfl) (by kernel_rfl) (by kernel_rfl) (by kernel_rfl) (by kernel_rfl)
noncomputable def F99 : GF := fun cl ar h => x_arg ar fun v0 ar => x_arg ar fun v1 ar => x_ar0 ar (
 x_nw (rpl 16 (.bool false) []) p0 h fun v2 h2 =>
 x_nw (rpl 16 (.bool false) []) p0 h2 fun v3 h3 =>
 x_len v0 fun v4 =>
 x_loop (jbad [1,4,5,10,11,12]) (fun J5 => (fun (v6 v7 v8 v9 v10 v11 : AV) (h12 : KH) =>
 x_lss v11 v10 fun v13 =>
 x_if0 v13
 (x_ixS 1 v9 v11 fun v14 =>
 x_ld none v14 h12 fun v15 =>
 x_ixA 16 1 v8 v15 fun v16 =>
 x_st 1 v16 (.bool true) h12 fun h17 =>
 x_add v11 (I 1) fun v18 =>
 J5 v6 v7 v8 v9 v10 v18 h17)
 (x_len v6 fun v14 =>
 x_loop (jbad [4,5,19,20,21]) (fun J15 => (fun (v16 v17 v18 v19 v20 : AV) (h21 : KH) =>
 x_lss v20 v19 fun v22 =>
 x_if0 v22
 (x_ixS 1 v18 v20 fun v23 =>
 x_ld none v23 h21 fun v24 =>
 x_add (I 12) v24 fun v25 =>
 x_ixA 16 1 v17 v25 fun v26 =>
 x_st 1 v26 (.bool true) h21 fun h27 =>
 x_add v20 (I 1) fun v28 =>
 J15 v16 v17 v18 v19 v28 h27)
 (x_ld (some 16) v17 h21 fun v23 =>
 x_st 16 v16 v23 h21 fun h24 =>
 x_ld (some 16) v16 h24 fun v25 =>
 .ret v25 h24))) v7 v8 v6 v14 (I 0) h12))) v1 v2 v3 v0 v4 (I 0) h3)
def H99 : Hints := []
theorem S99 : SoundF Tryz.prog 99 F99 := kfun_of (fn := Tryz.f99) (n := 30) (np := 2) (hs := H99) (q := [.cell 4 (some 16)]) (t := (.s .l (.s .l (.s (.s .l (.i (.j [1,4,5,10,11,12] (.s .l (.s (.i .l .l) (.s (.i (.s .l .l) .l) .l))) .l) .l)) (.s (.s .l (.i (.j [4,5,19,20,21] (.s .l (.s (.i .l .l) (.s (.i (.s .l .l) .l) .l))) .l) .l)) (.s .l .l)))))) mix2 (by kernel_rfl) (by kernel_rfl) (by kernel_rfl) (by kernel_rfl) (by kernel_rfl) (by kernel_rfl) (by kernel_rfl) (by kernel_rfl)
noncomputable def F100 : GF := fun cl ar h => x_arg ar fun v0 ar => x_ar0 ar (
 x_bx v0 h fun v1 h1 =>
 x_nw (rpl 16 (.bool false) []) p0 h1 fun v2 h2 =>
 x_fa 0 v1 fun v3 =>
 x_ld none v3 h2 fun v4 =>
 x_blk (fun (v5 v6 v7 : AV) (h8 : KH) =>
 x_ld (some 16) v6 h8 fun v9 =>
 x_G3 false v7 h8 (fun v10 c10 h10 =>
 x_G3 false v7 h10 (fun v11 c11 h11 =>
 x_G3 false v7 h11 (fun v12 c12 h12 =>
 x_G3 false v7 h12 (fun v13 c13 h13 =>
 x_G3 true v13 h13 (fun v14 c14 h14 =>
 x_G3 true v13 h14 (fun v15 c15 h15 =>
 x_G3 true v13 h15 (fun v16 c16 h16 =>
 x_G3 true v13 h16 (fun v17 c17 h17 =>
 x_G3 false v7 h17 (fun v18 c18 h18 =>
 x_pick v7 (.bool true) v18 fun v19 =>
 x_st 16 v6 v9 h18 fun h20 =>
 x_chk (cond (c16 h20) true false) (x_ld (some 16) v6 h20 fun v21 =>
 .ret (.tup [v21,v19]) h20)) (fun J18 =>
 x_pick v13 v17 (.bool false) fun v19 =>
 J18 v19 (fun h => ktt h) h17)) (fun J17 =>
 x_eql v16 (I 3) fun v18 =>
 J17 v18 (fun h => ktt h) h16)) (fun J16 =>
 x_ld none v15 h15 fun v17 =>
 J16 v17 (fun h => koEq (kload none v15 h) v17) h15)) (fun J15 =>
 x_fa 0 v14 fun v16 =>
 J15 v16 (fun h => ktt h) h14)) (fun J14 =>
 x_fa 9 v5 fun v15 =>
 J14 v15 (fun h => ktt h) h13)) (fun J13 =>
 J13 v12 (fun h => ktt h) h12)) (fun J12 =>
 x_eql v11 (I 6) fun v13 =>
 J12 v13 (fun h => ktt h) h11)) (fun J11 =>
 x_ld none v10 h10 fun v12 =>
 J11 v12 (fun h => koEq (kload none v10 h) v12) h10)) (fun J10 =>
 x_fa 0 v5 fun v11 =>
 J10 v11 (fun h => ktt h) h8)) fun J5 =>
 x_blk (fun (v6 v7 v8 : AV) (h9 : KH) =>
 x_fa 2 v6 fun v10 =>
 x_ld none v10 h9 fun v11 =>
 x_ixA 16 1 v7 v11 fun v12 =>
 x_st 1 v12 (.bool true) h9 fun h13 =>
 J5 v6 v7 v8 h13) fun J6 =>
 x_eql v4 (I 8) fun v7 =>
 x_if0 v7
 (x_fa 4 v1 fun v8 =>
 x_ld none v8 h2 fun v9 =>
 x_bsl [(I 0)] 1 [.mk 0 1 v9] h2 fun v10 h10 =>
 x_call cl 99 [.nils,v10] h10 fun v11 h11 =>
 x_st 16 v2 v11 h11 fun h12 =>
 x_ld (some 16) v2 h12 fun v13 =>
 .ret (.tup [v13,(.bool true)]) h12)
 (x_eql v4 (I 9) fun v8 =>
 x_if0 v8
 (x_fa 22 v1 fun v9 =>
 x_ld none v9 h2 fun v10 =>
 x_call cl 99 [v10,.nils] h2 fun v11 h11 =>
 x_st 16 v2 v11 h11 fun h12 =>
 x_ld (some 16) v2 h12 fun v13 =>
 .ret (.tup [v13,(.bool true)]) h12)
 (x_eql v4 (I 3) fun v9 =>
 x_if v9 (fun (v10 v11 v12 v13 v14 : AV) (h15 : KH) =>
 x_if0 v14
 (x_fa 3 v10 fun v16 =>
 x_ld none v16 h15 fun v17 =>
 x_ixA 16 1 v11 v17 fun v18 =>
 x_st 1 v18 (.bool true) h15 fun h19 =>
 J6 v10 v11 (.bool true) h19)
 (x_eql v13 (I 1) fun v16 =>
 x_if v16 (fun (v17 v18 v19 v20 : AV) (h21 : KH) =>
 x_if0 v20
 (J6 v17 v18 v19 h21)
 (J5 v17 v18 v19 h21))
 (fun J17 => J17 v10 v11 v12 v16 h15)
 (fun J17 => x_eql v13 (I 2) fun v18 =>
 x_if0 v18
 (J17 v10 v11 v12 v18 h15)
 (x_eql v13 (I 4) fun v19 =>
 x_if0 v19
 (J17 v10 v11 v12 v19 h15)
 (x_eql v13 (I 6) fun v20 =>
 x_if0 v20
 (J17 v10 v11 v12 v20 h15)
 (x_eql v13 (I 7) fun v21 =>
 J17 v10 v11 v12 v21 h15))))))
 (fun J10 => J10 v1 v2 (.bool false) v4 v9 h2)
 (fun J10 => x_eql v4 (I 5) fun v11 =>
 J10 v1 v2 (.bool false) v4 v11 h2))))
def H100 : Hints := [(16,[(0,0,[],false),(1,0,[],false),(2,2,[],false),(3,6,[],false),(4,14,[],false),(5,30,[],false),(6,62,[],false),(7,126,[],false),(8,254,[],false),(9,510,[],false),(10,1022,[],false),(11,2046,[],false),(12,4094,[],false),(13,127,[9],true),(14,16383,[],false)])]
theorem S100 : SoundF Tryz.prog 100 F100 := kfun_of (fn := Tryz.f100) (n := 45) (np := 1) (hs := H100) (q := [.cell 2 (some 16),.tmp 3]) (t := (.s .l (.s (.s .l (.j [1,2,3] (.s (.j [1,2,3] (.s (.i (.s (.i (.s (.i (.s (.s (.s .l (.i .l .l)) (.s (.s .l (.i .l .l)) (.s (.s (.s .l (.j [1,2,3,5,10] .l .l)) (.i .l .l)) (.s (.s .l (.j [1,2,3,13] .l (.s .l (.i .l (.s .l (.i .l (.s .l (.i .l .l)))))))) (.i .l .l))))) .l) .l) (.s (.s .l .l) .l)) .l) (.s (.s .l .l) .l)) .l) (.s .l .l)) .l) (.s .l .l)) .l)) (.s .l .l)))) mix2 (by kernel_rfl) (by kernel_rfl) (by kernel_rfl) (by kernel_rfl) (by kernel_rfl) (by kernel_rfl) (by kernel_rfl) (by kernel_rfl)
noncomputable def F101 : GF := fun cl ar h => x_arg ar fun v0 ar => x_arg ar fun v1 ar => x_ar0 ar (
 x_bx v0 h fun v2 h2 =>
 x_bx v1 h2 fun v3 h3 =>
 x_nw (rpl 16 (.bool false) []) p0 h3 fun v4 h4 =>
 x_loop (jbad [2,3,4,6]) (fun J5 => (fun (v6 v7 v8 v9 : AV) (h10 : KH) =>
 x_lss v9 (I 16) fun v11 =>
 x_if0 v11
 (x_ixA 16 1 v6 v9 fun v12 =>
 x_ld none v12 h10 fun v13 =>
 x_grp false v13 (fun (v14 v15 v16 : AV) (h17 : KH) =>
 x_pick v13 (.bool true) v16 fun v18 =>
 x_ixA 16 1 v6 v9 fun v19 =>
 x_st 1 v19 v18 h17 fun h20 =>
 x_add v9 (I 1) fun v21 =>
 J5 v6 v7 v8 v21 h20) (fun J14 =>
 x_ixA 16 1 v7 v9 fun v15 =>
 x_ld none v15 h10 fun v16 =>
 J14 v9 v15 v16 h10) (fun J14 => J14 aud aud aud h10))
 (x_ld (some 16) v6 h10 fun v12 =>
 x_st 16 v8 v12 h10 fun h13 =>
 x_ld (some 16) v8 h13 fun v14 =>
 .ret v14 h13))) v2 v3 v4 (I 0) h4)
def H101 : Hints := []
theorem S101 : SoundF Tryz.prog 101 F101 := kfun_of (fn := Tryz.f101) (n := 21) (np := 2) (hs := H101) (q := [.cell 4 (some 16)]) (t := (.s .l (.s (.s .l (.i (.j [2,3,4,6] (.s .l (.s (.i .l .l) (.s (.i (.s .l .l) .l) .l))) .l) .l)) (.s .l .l)))) mix2 (by kernel_rfl) (by kernel_rfl) (by kernel_rfl) (by kernel_rfl) (by kernel_rfl) (by kernel_rfl) (by kernel_rfl) (by kernel_rfl)
noncomputable def F102 : GF := fun cl ar h => x_arg ar fun v0 ar => x_ar0 ar (
 x_bx v0 h fun v1 h1 =>
 x_nw (rpl 16 (.bool false) []) p0 h1 fun v2 h2 =>
 x_fa 0 v1 fun v3 =>
 x_ld none v3 h2 fun v4 =>
 x_eql v4 (I 5) fun v5 =>
 x_if0 v5
 (x_fa 1 v1 fun v6 =>
 x_ld none v6 h2 fun v7 =>
 x_bsl [(I 0)] 1 [.mk 0 1 v7] h2 fun v8 h8 =>
 x_fa 4 v1 fun v9 =>
 x_ld none v9 h8 fun v10 =>
 x_bsl [(I 0)] 1 [.mk 0 1 v10] h8 fun v11 h11 =>
 x_call cl 99 [v8,v11] h11 fun v12 h12 =>
 x_st 16 v2 v12 h12 fun h13 =>
 x_ld (some 16) v2 h13 fun v14 =>
 .ret v14 h13)
 (x_eql v4 (I 10) fun v6 =>
 x_if0 v6
 (x_fa 23 v1 fun v7 =>
 x_ld (some 7) v7 h2 fun v8 =>
 x_nw ((I 0) :: ((.bool false) :: (rpl 4 (I 0) (.nils :: [])))) p0 h2 fun v9 h9 =>
 x_st 7 v9 v8 h9 fun h10 =>
 x_fa 0 v9 fun v11 =>
 x_ld none v11 h10 fun v12 =>
 x_eql v12 (I 4) fun v13 =>
 x_if0 v13
 (x_fa 4 v9 fun v14 =>
 x_ld none v14 h10 fun v15 =>
 x_bsl [(I 0)] 1 [.mk 0 1 v15] h10 fun v16 h16 =>
 x_call cl 99 [.nils,v16] h16 fun v17 h17 =>
 x_st 16 v2 v17 h17 fun h18 =>
 x_ld (some 16) v2 h18 fun v19 =>
 .ret v19 h18)
 (x_eql v12 (I 2) fun v14 =>
 x_if0 v14
 (x_fa 2 v9 fun v15 =>
 x_ld none v15 h10 fun v16 =>
 x_fa 3 v9 fun v17 =>
 x_ld none v17 h10 fun v18 =>
 x_bsl [(I 0),(I 0)] 2 [.mk 0 1 v16,.mk 1 1 v18] h10 fun v19 h19 =>
 x_call cl 99 [v19,.nils] h19 fun v20 h20 =>
 x_st 16 v2 v20 h20 fun h21 =>
 x_ld (some 16) v2 h21 fun v22 =>
 .ret v22 h21)
 (x_fa 2 v9 fun v15 =>
 x_ld none v15 h10 fun v16 =>
 x_bsl [(I 0)] 1 [.mk 0 1 v16] h10 fun v17 h17 =>
 x_call cl 99 [v17,.nils] h17 fun v18 h18 =>
 x_st 16 v2 v18 h18 fun h19 =>
 x_ld (some 16) v2 h19 fun v20 =>
 .ret v20 h19)))
 (x_eql v4 (I 2) fun v7 =>
 x_if v7 (fun (v8 v9 v10 : AV) (h11 : KH) =>
 x_if0 v10
 (x_bld (rpl 16 (.bool false) []) [] fun v12 =>
 x_st 16 v9 v12 h11 fun h13 =>
 x_ld (some 16) v9 h13 fun v14 =>
 .ret v14 h13)
 (x_fa 1 v8 fun v12 =>
 x_ld none v12 h11 fun v13 =>
 x_bsl [(I 0)] 1 [.mk 0 1 v13] h11 fun v14 h14 =>
 x_call cl 99 [v14,.nils] h14 fun v15 h15 =>
 x_st 16 v9 v15 h15 fun h16 =>
 x_ld (some 16) v9 h16 fun v17 =>
 .ret v17 h16))
 (fun J8 => J8 v1 v2 v7 h2)
 (fun J8 => x_eql v4 (I 11) fun v9 =>
 x_if0 v9
 (J8 v1 v2 v9 h2)
 (x_eql v4 (I 12) fun v10 =>
 x_if0 v10
 (J8 v1 v2 v10 h2)
 (x_eql v4 (I 14) fun v11 =>
 x_if0 v11
 (J8 v1 v2 v11 h2)
 (x_eql v4 (I 15) fun v12 =>
 J8 v1 v2 v12 h2)))))))
def H102 : Hints := []
theorem S102 : SoundF Tryz.prog 102 F102 := kfun_of (fn := Tryz.f102) (n := 50) (np := 1) (hs := H102) (q := [.cell 2 (some 16)]) (t := (.s .l (.s (.s .l (.i (.s .l (.i (.s .l .l) (.s .l (.i (.s .l (.s .l (.i (.s .l (.i (.s .l .l) (.s .l (.i (.s .l .l) (.s .l .l))))) .l))) (.s (.s .l (.j [1,2,39] .l (.s .l (.i .l (.s .l (.i .l (.s .l (.i .l .l)))))))) (.i (.s .l .l) .l)))))) .l)) (.s .l .l)))) mix2 (by kernel_rfl) (by kernel_rfl) (by kernel_rfl) (by kernel_rfl) (by kernel_rfl) (by kernel_rfl) (by kernel_rfl) (by kernel_rfl)
noncomputable def F103 : GF := fun cl ar h => x_arg ar fun v0 ar => x_ar0 ar (
 x_len v0 fun v1 =>
 x_conv .u64 v1 fun v2 =>
 x_call cl 166 [v2] h fun v3 h3 =>
 x_call cl 165 [v0,(I 0),v1,v3] h3 fun v4 h4 =>
 .ret (.tup []) h4)
def H103 : Hints := []
theorem S103 : SoundF Tryz.prog 103 F103 := kfun_of (fn := Tryz.f103) (n := 11) (np := 1) (hs := H103) (q := []) (t := (.s .l .l)) mix2 (by kernel_rfl) (by kernel_rfl) (by kernel_rfl) (by kernel_rfl) (by kernel_rfl) (by kernel_rfl) (by kernel_rfl) (by kernel_rfl)
noncomputable def F104 : GF := fun cl ar h => x_arg ar fun v0 ar => x_ar0 ar (
 x_len v0 fun v1 =>
 x_lss v1 (I 2) fun v2 =>
 x_if0 v2
 (.ret v0 h)
 (x_loop (jbad [0,3]) (fun J3 => (fun (v4 v5 : AV) (h6 : KH) =>
 x_len v4 fun v7 =>
 x_lss v5 v7 fun v8 =>
 x_if0 v8
 (x_ixS 1 v4 v5 fun v9 =>
 x_ld none v9 h6 fun v10 =>
 x_bin .sub v5 (I 1) fun v11 =>
 x_ixS 1 v4 v11 fun v12 =>
 x_ld none v12 h6 fun v13 =>
 x_eql v10 v13 fun v14 =>
 x_if0 v14
 (x_pu (.sliceS 1 (.cst v4) (some (.cst v5)) none none) fun v15 =>
 x_loop (jbad [0,3,4,5]) (fun J16 => (fun (v17 v18 v19 v20 : AV) (h21 : KH) =>
 x_len v19 fun v22 =>
 x_lss v20 v22 fun v23 =>
 x_if0 v23
 (x_ixS 1 v19 v20 fun v24 =>
 x_ld none v24 h21 fun v25 =>
 x_bin .sub v20 (I 1) fun v26 =>
 x_ixS 1 v19 v26 fun v27 =>
 x_ld none v27 h21 fun v28 =>
 x_neq v25 v28 fun v29 =>
 x_if v29 (fun (v30 v31 v32 v33 : AV) (h34 : KH) =>
 x_add v33 (I 1) fun v35 =>
 J16 v30 v31 v32 v35 h34)
 (fun J30 => x_ixS 1 v19 v20 fun v31 =>
 x_ld none v31 h21 fun v32 =>
 x_ixS 1 v17 v18 fun v33 =>
 x_st 1 v33 v32 h21 fun h34 =>
 x_add v18 (I 1) fun v35 =>
 J30 v17 v35 v19 v20 h34)
 (fun J30 => J30 v17 v18 v19 v20 h21))
 (x_pu (.sliceS 1 (.cst v17) (some (.cst v18)) none none) fun v24 =>
 x_k (.clr 1 [(.str [])] (.cst v24)) h21 fun v25 h25 =>
 x_pu (.sliceS 1 (.cst v17) none (some (.cst v18)) none) fun v26 =>
 .ret v26 h25))) v4 v5 v15 (I 1) h6)
 (x_add v5 (I 1) fun v15 =>
 J3 v4 v15 h6))
 (.ret v4 h6))) v0 (I 1) h))
def H104 : Hints := [(6,[(0,0,[],false),(1,0,[],false),(2,3,[],false),(3,7,[],false),(4,0,[],false),(5,0,[],false),(6,32,[],false),(7,112,[],false),(8,240,[],false),(9,511,[],false)]),(11,[(0,0,[],false),(1,0,[],false),(2,3,[],false),(3,7,[],false),(4,0,[],false),(5,0,[],false),(6,32,[],false),(7,112,[],false),(8,240,[],false),(9,511,[],false)])]
theorem S104 : SoundF Tryz.prog 104 F104 := kfun_of (fn := Tryz.f104) (n := 61) (np := 1) (hs := H104) (q := [.tmp 2]) (t := (.s .l (.s (.s .l (.i (.s .l .l) .l)) (.s (.s .l (.i (.j [0,3] (.s (.s .l (.i .l .l)) (.s (.i (.s .l (.i (.s .l (.s (.s .l (.i (.j [0,3,4,5] (.s (.s .l (.i .l .l)) (.s (.i (.s .l (.j [0,3,4,5] (.s .l .l) .l)) .l) .l)) .l) .l)) (.s .l (.s .l .l)))) .l)) .l) .l)) .l) .l)) (.s .l .l))))) mix2 (by kernel_rfl) (by kernel_rfl) (by kernel_rfl) (by kernel_rfl) (by kernel_rfl) (by kernel_rfl) (by kernel_rfl) (by kernel_rfl)
noncomputable def F105 : GF := fun cl ar h => x_arg ar fun v0 ar => x_arg ar fun v1 ar => x_ar0 ar (
 x_bin .quo v1 (N .u8 64) fun v2 =>
 x_nc v0 fun v3 =>
 x_ixA 4 1 v3 v2 fun v4 =>
 x_ld none v4 h fun v5 =>
 x_bin .rem v1 (N .u8 64) fun v6 =>
 x_bin .shl (N .u64 1) v6 fun v7 =>
 x_bin .or v5 v7 fun v8 =>
 x_nc v0 fun v9 =>
 x_ixA 4 1 v9 v2 fun v10 =>
 x_st 1 v10 v8 h fun h11 =>
 .ret (.tup []) h11)
def H105 : Hints := [(0,[(0,0,[],false),(1,0,[],false),(2,2,[],false),(3,1,[],false),(4,15,[],false),(5,31,[],false),(6,0,[],false),(7,64,[],false),(8,192,[],false),(9,511,[],false),(10,1,[],false),(11,2047,[],false),(12,4095,[],true)])]
theorem S105 : SoundF Tryz.prog 105 F105 := kfun_of (fn := Tryz.f105) (n := 16) (np := 2) (hs := H105) (q := []) (t := .l) mix2 (by kernel_rfl) (by kernel_rfl) (by kernel_rfl) (by kernel_rfl) (by kernel_rfl) (by kernel_rfl) (by kernel_rfl) (by kernel_rfl)
noncomputable def F106 : GF := fun cl ar h => x_arg ar fun v0 ar => x_arg ar fun v1 ar => x_arg ar fun v2 ar => x_ar0 ar (
 x_bx v1 h fun v3 h3 =>
 x_nc v0 fun v4 =>
 x_fa 0 v4 fun v5 =>
 x_fa 0 v5 fun v6 =>
 x_fa 3 v6 fun v7 =>
 x_ld none v7 h3 fun v8 =>
 x_ld (some 18) v3 h3 fun v9 =>
 x_bld ((I 0) :: (rpl 6 .nils ((I 0) :: (rpl 4 .nils (rpl 4 (I 0) ((.bool false) :: ((I 0) :: ((.bool false) :: [])))))))) [.mk 0 18 v9,.mk 18 1 v2] fun v10 =>
 x_bsl ((I 0) :: (rpl 6 .nils ((I 0) :: (rpl 4 .nils (rpl 4 (I 0) ((.bool false) :: ((I 0) :: ((.bool false) :: [])))))))) 1 [.mk 0 19 v10] h3 fun v11 h11 =>
 x_app 19 312 v8 v11 h11 fun v12 h12 =>
 x_nc v0 fun v13 =>
 x_fa 0 v13 fun v14 =>
 x_fa 0 v14 fun v15 =>
 x_fa 3 v15 fun v16 =>
 x_st 1 v16 v12 h12 fun h17 =>
 .ret (.tup []) h17)
def H106 : Hints := [(1,[(0,0,[],false),(1,0,[],false),(2,2,[],false),(3,6,[],false),(4,14,[],false),(5,30,[],false),(6,62,[],false),(7,0,[],false),(8,0,[],false),(9,384,[],false),(10,896,[],false),(11,2046,[],true),(12,4095,[],false),(13,8191,[],false),(14,16383,[],false),(15,32767,[],false),(16,65535,[],true)])]
theorem S106 : SoundF Tryz.prog 106 F106 := kfun_of (fn := Tryz.f106) (n := 22) (np := 3) (hs := H106) (q := []) (t := (.s .l .l)) mix2 (by kernel_rfl) (by kernel_rfl) (by kernel_rfl) (by kernel_rfl) (by kernel_rfl) (by kernel_rfl) (by kernel_rfl) (by kernel_rfl)
noncomputable def F107 : GF := fun cl ar h => knp (x_arg ar fun v0 ar => x_ar0 ar (
 x_nw [.nils] p0 h fun v1 h1 =>
 x_nw [(I 0)] p0 h1 fun v2 h2 =>
 x_nw [(I 0)] p0 h2 fun v3 h3 =>
 x_pu (.lenStr (.cst v0)) fun v4 =>
 x_bin .gtr v4 (I 4000) fun v5 =>
 x_if0 v5
 (x_st 1 v1 .nils h3 fun h6 =>
 x_st 1 v2 (I 0) h6 fun h7 =>
 x_st 1 v3 (I 2) h7 fun h8 =>
 KC.bad)
 (x_bld [(.str []),(I 0),.nils] [.mk 0 1 v0] fun v6 =>
 x_bx v6 h3 fun v7 h7 =>
 x_call cl 168 [v7] h7 fun v8 h8 =>
 x_nc v7 fun v9 =>
 x_fa 1 v9 fun v10 =>
 x_ld none v10 h8 fun v11 =>
 x_pu (.lenStr (.cst v0)) fun v12 =>
 x_lss v11 v12 fun v13 =>
 x_if v13 (fun (v14 v15 v16 v17 v18 : AV) (h19 : KH) =>
 x_nc v18 fun v20 =>
 x_fa 2 v20 fun v21 =>
 x_ld none v21 h19 fun v22 =>
 x_len v22 fun v23 =>
 x_bin .gtr v23 (I 200) fun v24 =>
 x_if0 v24
 (x_pu (.lenStr (.cst v14)) fun v25 =>
 x_st 1 v15 .nils h19 fun h26 =>
 x_st 1 v16 v25 h26 fun h27 =>
 x_st 1 v17 (I 2) h27 fun h28 =>
 x_ld none v15 h28 fun v29 =>
 x_ld none v16 h28 fun v30 =>
 x_ld none v17 h28 fun v31 =>
 .ret (.tup [v29,v30,v31]) h28)
 (x_nc v18 fun v25 =>
 x_fa 2 v25 fun v26 =>
 x_ld none v26 h19 fun v27 =>
 x_st 1 v15 v27 h19 fun h28 =>
 x_st 1 v16 (I 0) h28 fun h29 =>
 x_st 1 v17 (I 0) h29 fun h30 =>
 x_ld none v15 h30 fun v31 =>
 x_ld none v16 h30 fun v32 =>
 x_ld none v17 h30 fun v33 =>
 .ret (.tup [v31,v32,v33]) h30))
 (fun J14 => x_call cl 169 [v7] h8 fun v15 h15 =>
 J14 v0 v1 v2 v3 v7 h15)
 (fun J14 => J14 v0 v1 v2 v3 v7 h8))))
def H107 : Hints := []
theorem S107 : SoundF Tryz.prog 107 F107 := kfunD_of (fn := Tryz.f107) (n := 36) (np := 1) (hs := H107) (q := [.cell 2 none,.cell 3 none,.cell 4 none]) (t := 9) (g := 167) (cp := [(.tmp 2),(.tmp 3),(.tmp 4)]) (t0 := .l) (t1 := (.s .l (.i (.s .l .l) .l))) (t3 := (.s .l (.s .l (.s (.s .l (.j [0,2,3,4,5] .l .l)) (.s (.s .l (.i (.s .l .l) .l)) (.s .l .l)))))) mix2 (by kernel_rfl) (by kernel_rfl) (by kernel_rfl) (by kernel_rfl) (by kernel_rfl) (by kernel_rfl) (by kernel_rfl) (by kernel_rfl) (by kernel_rfl) (by kernel_rfl) (by kernel_rfl) (by kernel_rfl) A167 (by kernel_rfl)
noncomputable def F108 : GF := fun cl ar h => x_arg ar fun v0 ar => x_arg ar fun v1 ar => x_ar0 ar (
 x_bx v0 h fun v2 h2 =>
 x_nw [.nils,.nils,.nils] p0 h2 fun v3 h3 =>
 x_neq v1 (I 0) fun v4 =>
 x_if0 v4
 (x_bld [] [] fun v5 =>
 x_pan (.ifc 173 v5) h3)
 (x_ld (some 3) v2 h3 fun v5 =>
 x_st 3 v3 v5 h3 fun h6 =>
 x_ld (some 3) v3 h6 fun v7 =>
 .ret v7 h6))
def H108 : Hints := []
theorem S108 : SoundF Tryz.prog 108 F108 := kfun_of (fn := Tryz.f108) (n := 10) (np := 2) (hs := H108) (q := [.cell 4 (some 3)]) (t := (.s .l (.s (.s .l (.i .l .l)) (.s .l .l)))) mix2 (by kernel_rfl) (by kernel_rfl) (by kernel_rfl) (by kernel_rfl) (by kernel_rfl) (by kernel_rfl) (by kernel_rfl) (by kernel_rfl)
noncomputable def F109 : GF := fun cl ar h => x_arg ar fun v0 ar => x_ar0 ar (
 x_nw [.nils,.nils,.nils] p0 h fun v1 h1 =>
 x_call cl 170 [v0] h1 fun v2 h2 =>
 x_neq v2 (I 0) fun v3 =>
 x_if0 v3
 (x_bld [.nils,.nils,.nils] [] fun v4 =>
 x_st 3 v1 v4 h2 fun h5 =>
 x_ld (some 3) v1 h5 fun v6 =>
 .ret (.tup [v6,v2]) h5)
 (x_len v0 fun v4 =>
 x_mks 72 [.nils,.nils,.nils] v4 v4 h2 fun v5 h5 =>
 x_len v0 fun v6 =>
 x_loop (jbad [2,5,19,20,21]) (fun J7 => (fun (v8 v9 v10 v11 v12 : AV) (h13 : KH) =>
 x_lss v12 v11 fun v14 =>
 x_if0 v14
 (x_ixS 9 v10 v12 fun v15 =>
 x_ld (some 9) v15 h13 fun v16 =>
 x_nw ((I 0) :: (rpl 4 (N .u64 0) (rpl 4 (I 0) []))) p0 h13 fun v17 h17 =>
 x_st 9 v17 v16 h17 fun h18 =>
 x_ld (some 9) v17 h18 fun v19 =>
 x_call cl 171 [v19,v9] h18 fun v20 h20 =>
 x_ext 0 v20 fun v21 =>
 x_ext 1 v20 fun v22 =>
 x_nw [.nils,.nils,.nils] p0 h20 fun v23 h23 =>
 x_st 3 v23 v21 h23 fun h24 =>
 x_neq v22 (I 0) fun v25 =>
 x_if0 v25
 (x_bld [.nils,.nils,.nils] [] fun v26 =>
 x_st 3 v8 v26 h24 fun h27 =>
 x_ld (some 3) v8 h27 fun v28 =>
 .ret (.tup [v28,v22]) h27)
 (x_ld (some 3) v23 h24 fun v26 =>
 x_ixS 3 v9 v12 fun v27 =>
 x_st 3 v27 v26 h24 fun h28 =>
 x_add v12 (I 1) fun v29 =>
 J7 v8 v9 v10 v11 v29 h28))
 (x_len v9 fun v15 =>
 x_bin .sub v15 (I 1) fun v16 =>
 x_ixS 3 v9 v16 fun v17 =>
 x_ld (some 3) v17 h13 fun v18 =>
 x_st 3 v8 v18 h13 fun h19 =>
 x_ld (some 3) v8 h19 fun v20 =>
 .ret (.tup [v20,(I 0)]) h19))) v1 v5 v0 v6 (I 0) h5))
def H109 : Hints := []
theorem S109 : SoundF Tryz.prog 109 F109 := kfun_of (fn := Tryz.f109) (n := 47) (np := 1) (hs := H109) (q := [.cell 2 (some 3),.tmp 3]) (t := (.s .l (.s (.s .l (.s .l (.i (.s .l .l) .l))) (.s .l (.s (.s .l (.i (.j [2,5,19,20,21] (.s .l (.s (.i .l .l) (.s (.i (.s .l (.s .l (.s (.s .l (.i (.s .l .l) .l)) .l))) .l) .l))) .l) .l)) (.s .l .l)))))) mix2 (by kernel_rfl) (by kernel_rfl) (by kernel_rfl) (by kernel_rfl) (by kernel_rfl) (by kernel_rfl) (by kernel_rfl) (by kernel_rfl)
noncomputable def F110 : GF := fun cl ar h => x_arg ar fun v0 ar => x_ar0 ar (
 x_len v0 fun v1 =>
 x_loop (jbad [3,6,7,8]) (fun J2 => (fun (v3 v4 v5 v6 : AV) (h7 : KH) =>
 x_lss v6 v5 fun v8 =>
 x_if0 v8
 (x_ixS 1 v4 v6 fun v9 =>
 x_ld none v9 h7 fun v10 =>
 x_conv .i64 v10 fun v11 =>
 x_add v11 (I 256) fun v12 =>
 x_call cl 172 [v12,(I 16)] h7 fun v13 h13 =>
 x_pu (.sliceStr (.cst v13) (some (.cst (I 1))) none) fun v14 =>
 x_add (.str [92,120]) v14 fun v15 =>
 x_add v3 v15 fun v16 =>
 x_add v6 (I 1) fun v17 =>
 J2 v16 v4 v5 v17 h13)
 (.ret v3 h7))) (.str []) v0 v1 (I 0) h)
def H110 : Hints := []
theorem S110 : SoundF Tryz.prog 110 F110 := kfun_of (fn := Tryz.f110) (n := 22) (np := 1) (hs := H110) (q := [.tmp 2]) (t := (.s .l (.s .l (.s (.s .l (.i (.j [3,6,7,8] (.s .l (.s (.i .l .l) (.s (.i (.s .l .l) .l) .l))) .l) .l)) (.s .l .l))))) mix2 (by kernel_rfl) (by kernel_rfl) (by kernel_rfl) (by kernel_rfl) (by kernel_rfl) (by kernel_rfl) (by kernel_rfl) (by kernel_rfl)
noncomputable def F111 : GF := fun cl ar h => x_arg ar fun v0 ar => x_arg ar fun v1 ar => x_ar0 ar (
 x_nc v1 fun v2 =>
 x_fa 0 v2 fun v3 =>
 x_fa 0 v3 fun v4 =>
 x_fa 1 v4 fun v5 =>
 x_ld none v5 h fun v6 =>
 x_len v6 fun v7 =>
 x_nc v1 fun v8 =>
 x_fa 0 v8 fun v9 =>
 x_fa 0 v9 fun v10 =>
 x_fa 2 v10 fun v11 =>
 x_ld none v11 h fun v12 =>
 x_len v12 fun v13 =>
 x_add v7 v13 fun v14 =>
 x_bin .gtr v14 (I 12) fun v15 =>
 x_grp false v15 (fun (v16 v17 v18 v19 v20 v21 v22 v23 : AV) (h24 : KH) =>
 x_pick v15 (.bool true) v23 fun v25 =>
 x_grp false v25 (fun (v26 v27 v28 v29 v30 v31 v32 v33 : AV) (h34 : KH) =>
 x_pick v25 (.bool true) v33 fun v35 =>
 x_grp false v35 (fun (v36 v37 v38 v39 v40 v41 : AV) (h42 : KH) =>
 x_pick v35 (.bool true) v41 fun v43 =>
 x_grp false v43 (fun (v44 v45 v46 v47 v48 v49 : AV) (h50 : KH) =>
 x_pick v43 (.bool true) v49 fun v51 =>
 x_if0 v51
 (x_bld [] [] fun v52 =>
 x_pan (.ifc 173 v52) h50)
 (x_nc v1 fun v52 =>
 x_fa 11 v52 fun v53 =>
 x_ld (some 24) v53 h50 fun v54 =>
 x_loop (jbad [4,64,65]) (fun J55 => (fun (v56 v57 v58 : AV) (h59 : KH) =>
 x_lss v58 (I 12) fun v60 =>
 x_if0 v60
 (x_pu (.indexA 12 2 (some 2) (.cst v57) (.cst v58)) fun v61 =>
 x_nw [.nils,(I 0)] p0 h59 fun v62 h62 =>
 x_st 2 v62 v61 h62 fun h63 =>
 x_fa 1 v62 fun v64 =>
 x_ld none v64 h63 fun v65 =>
 x_cl cl v56 [v65] h63 fun v66 h66 =>
 x_if0 v66
 (x_bld [] [] fun v67 =>
 x_pan (.ifc 173 v67) h66)
 (x_add v58 (I 1) fun v67 =>
 J55 v56 v57 v67 h66))
 (.ret (.tup []) h59))) (.fn (.func 173) [] []) v54 (I 0) h50)) (fun J44 =>
 x_nc v0 fun v45 =>
 x_fa 2 v45 fun v46 =>
 x_ld none v46 h42 fun v47 =>
 x_len v47 fun v48 =>
 x_bin .gtr v48 (I 64) fun v49 =>
 J44 v0 v45 v46 v47 v48 v49 h42) (fun J44 => J44 aud aud aud aud aud aud h42)) (fun J36 =>
 x_nc v1 fun v37 =>
 x_fa 39 v37 fun v38 =>
 x_ld (some 4) v38 h34 fun v39 =>
 x_call cl 174 [v39] h34 fun v40 h40 =>
 x_bin .gtr v40 (I 16) fun v41 =>
 J36 v1 v37 v38 v39 v40 v41 h40) (fun J36 => J36 aud aud aud aud aud aud h34)) (fun J26 =>
 x_nc v1 fun v27 =>
 x_fa 0 v27 fun v28 =>
 x_fa 0 v28 fun v29 =>
 x_fa 1 v29 fun v30 =>
 x_ld none v30 h24 fun v31 =>
 x_call cl 34 [v31,(.fn (.func 173) [] [])] h24 fun v32 h32 =>
 J26 v1 v27 v28 v29 v30 v31 (.fn (.func 173) [] []) v32 h32) (fun J26 => J26 aud aud aud aud aud aud aud aud h24)) (fun J16 =>
 x_nc v1 fun v17 =>
 x_fa 0 v17 fun v18 =>
 x_fa 0 v18 fun v19 =>
 x_fa 3 v19 fun v20 =>
 x_ld none v20 h fun v21 =>
 x_len v21 fun v22 =>
 x_bin .gtr v22 (I 40) fun v23 =>
 J16 v1 v17 v18 v19 v20 v21 v22 v23 h) (fun J16 => J16 aud aud aud aud aud aud aud aud h))
def H111 : Hints := [(1,[(0,0,[],false),(1,1,[],false),(2,3,[],false),(3,7,[],false),(4,15,[],false),(5,31,[],false),(6,63,[],false),(7,0,[],false),(8,128,[],false),(9,384,[],false),(10,896,[],false),(11,1920,[],false),(12,3968,[],false),(13,8064,[],false),(14,16383,[],false),(15,32767,[],false),(16,65535,[],false),(17,131071,[],false),(18,262143,[],false),(19,524287,[],false),(20,1048575,[],false),(21,2097151,[],false),(22,4194303,[],false),(23,8388607,[],false),(24,16777215,[],false),(25,33554431,[],false),(26,67108863,[],false),(27,134217727,[],false),(28,268435455,[],false),(29,536870911,[],false),(30,1073741823,[],false),(31,2147483647,[],false),(32,4294967295,[],false),(33,134217727,[],false),(34,17179869183,[],true),(35,34359738367,[],false),(36,68719476735,[],false),(37,137438953471,[],false),(38,274877906943,[],false),(39,549755813887,[],false),(40,1099511627775,[],false),(41,2199023255551,[],true),(42,4398046511103,[],false),(43,8796093022207,[],false),(44,17592186044415,[],false),(45,35184372088831,[],false),(46,70368744177663,[],false),(47,140737488355327,[],false),(48,281474976710655,[],false),(49,562949953421311,[],false),(50,1125899906842623,[],false),(51,2251799813685247,[],false)])]
theorem S111 : SoundF Tryz.prog 111 F111 := kfun_of (fn := Tryz.f111) (n := 75) (np := 2) (hs := H111) (q := []) (t := (.s .l (.s (.s .l (.i .l .l)) (.s .l (.i (.j [4,64,65] (.s .l (.s (.i .l .l) (.s (.i (.s .l (.s .l (.i .l .l))) .l) .l))) .l) .l))))) mix2 (by kernel_rfl) (by kernel_rfl) (by kernel_rfl) (by kernel_rfl) (by kernel_rfl) (by kernel_rfl) (by kernel_rfl) (by kernel_rfl)
noncomputable def F112 : GF := fun cl ar h => x_arg ar fun v0 ar => x_arg ar fun v1 ar => x_ar0 ar (
 x_bx v1 h fun v2 h2 =>
 x_fa 0 v2 fun v3 =>
 x_ld none v3 h2 fun v4 =>
 x_eql v4 (I 2) fun v5 =>
 x_if v5 (fun (v6 v7 : AV) (h8 : KH) =>
 x_fa 0 v7 fun v9 =>
 x_ld none v9 h8 fun v10 =>
 x_neq v10 (I 6) fun v11 =>
 x_if0 v11
 (.ret (.tup []) h8)
 (x_fa 9 v7 fun v12 =>
 x_fa 2 v12 fun v13 =>
 x_ld none v13 h8 fun v14 =>
 x_call cl 55 [v14] h8 fun v15 h15 =>
 x_nc v6 fun v16 =>
 x_fa 39 v16 fun v17 =>
 x_ld (some 4) v17 h15 fun v18 =>
 x_call cl 72 [v18] h15 fun v19 h19 =>
 x_len v19 fun v20 =>
 x_loop (jbad [0,3,4,5,40,41,42]) (fun J21 => (fun (v22 v23 v24 v25 v26 v27 v28 : AV) (h29 : KH) =>
 x_lss v28 v27 fun v30 =>
 x_if0 v30
 (x_ixS 1 v26 v28 fun v31 =>
 x_ld none v31 h29 fun v32 =>
 x_fa 9 v23 fun v33 =>
 x_fa 0 v33 fun v34 =>
 x_ld none v34 h29 fun v35 =>
 x_eql v35 (I 1) fun v36 =>
 x_if v36 (fun (v37 v38 v39 v40 v41 v42 v43 v44 v45 v46 : AV) (h47 : KH) =>
 x_if v46 (fun (v48 v49 v50 v51 v52 v53 v54 : AV) (h55 : KH) =>
 x_add v54 (I 1) fun v56 =>
 J21 v48 v49 v50 v51 v52 v53 v56 h55)
 (fun J48 => x_fa 9 v38 fun v49 =>
 x_ld (some 3) v49 h47 fun v50 =>
 x_bsl [(N .u8 0)] 1 [.mk 0 1 v41] h47 fun v51 h51 =>
 x_call cl 176 [v50,v51] h51 fun v52 h52 =>
 x_ext 0 v52 fun v53 =>
 x_ext 1 v52 fun v54 =>
 x_app 1 1 v39 v53 h52 fun v55 h55 =>
 J48 v37 v38 v55 v40 v42 v43 v44 h55)
 (fun J48 => x_eql v45 (I 3) fun v49 =>
 x_if v49 (fun (v50 v51 v52 v53 v54 v55 v56 v57 v58 : AV) (h59 : KH) =>
 x_if0 v58
 (x_len v53 fun v60 =>
 x_loop (jbad [0,3,4,5,7,40,41,42,66,67,68]) (fun J61 => (fun (v62 v63 v64 v65 v66 v67 v68 v69 v70 v71 v72 : AV) (h73 : KH) =>
 x_lss v72 v71 fun v74 =>
 x_if0 v74
 (x_ixS 1 v70 v72 fun v75 =>
 x_ld none v75 h73 fun v76 =>
 x_bld [(I 0),.nils,.nils] [.mk 0 1 (I 3)] fun v77 =>
 x_bsl [(N .u8 0),(N .u8 0),(N .u8 0)] 3 [.mk 0 1 (N .u8 37),.mk 1 1 v66,.mk 2 1 v76] h73 fun v78 h78 =>
 x_call cl 176 [v77,v78] h78 fun v79 h79 =>
 x_ext 0 v79 fun v80 =>
 x_ext 1 v79 fun v81 =>
 x_grp true v81 (fun (v82 v83 v84 v85 v86 : AV) (h87 : KH) =>
 x_pick v81 v86 (.bool false) fun v88 =>
 x_if v88 (fun (v89 v90 v91 v92 v93 v94 v95 v96 v97 v98 v99 : AV) (h100 : KH) =>
 x_add v99 (I 1) fun v101 =>
 J61 v89 v90 v91 v92 v93 v94 v95 v96 v97 v98 v101 h100)
 (fun J89 => x_app 1 1 v64 v80 h87 fun v90 h90 =>
 J89 v62 v63 v90 v65 v66 v67 v68 v69 v70 v71 v72 h90)
 (fun J89 => J89 v62 v63 v64 v65 v66 v67 v68 v69 v70 v71 v72 h87)) (fun J82 =>
 x_nc v62 fun v83 =>
 x_fa 39 v83 fun v84 =>
 x_ld (some 4) v84 h79 fun v85 =>
 x_call cl 177 [v85,(N .u8 37)] h79 fun v86 h86 =>
 J82 v62 v83 v84 v85 v86 h86) (fun J82 => J82 aud aud aud aud aud h79))
 (J48 v62 v63 v64 v65 v67 v68 v69 h73))) v50 v51 v52 v53 v54 v55 v56 v57 v53 v60 (I 0) h59)
 (J48 v50 v51 v52 v53 v55 v56 v57 h59))
 (fun J50 => J50 v37 v38 v39 v40 v41 v42 v43 v44 v49 h47)
 (fun J50 => x_eql v45 (I 4) fun v51 =>
 J50 v37 v38 v39 v40 v41 v42 v43 v44 v51 h47)))
 (fun J37 => J37 v22 v23 v24 v25 v32 v26 v27 v28 v35 v36 h29)
 (fun J37 => x_eql v35 (I 2) fun v38 =>
 J37 v22 v23 v24 v25 v32 v26 v27 v28 v35 v38 h29))
 (x_nc v22 fun v31 =>
 x_fa 39 v31 fun v32 =>
 x_ld (some 4) v32 h29 fun v33 =>
 x_call cl 63 [v24] h29 fun v34 h34 =>
 x_chk (cond (koEq (kload (some 4) v32 h34) v33) true false) (x_call cl 175 [v33,v34] h34 fun v35 h35 =>
 x_chk true (x_nc v22 fun v36 =>
 x_fa 39 v36 fun v37 =>
 x_st 4 v37 v35 h35 fun h38 =>
 x_chk true (.ret (.tup []) h38)))))) v6 v7 v15 v19 v19 v20 (I 0) h19))
 (fun J6 => x_nc v0 fun v7 =>
 x_fa 39 v7 fun v8 =>
 x_ld (some 4) v8 h2 fun v9 =>
 x_fa 7 v2 fun v10 =>
 x_ld none v10 h2 fun v11 =>
 x_call cl 63 [v11] h2 fun v12 h12 =>
 x_chk (cond (koEq (kload (some 4) v8 h12) v9) true false) (x_call cl 175 [v9,v12] h12 fun v13 h13 =>
 x_chk true (x_nc v0 fun v14 =>
 x_fa 39 v14 fun v15 =>
 x_st 4 v15 v13 h13 fun h16 =>
 x_chk true (J6 v0 v2 h16))))
 (fun J6 => J6 v0 v2 h2))
def H112 : Hints := [(2,[(0,0,[],false),(1,0,[],false),(2,2,[],false),(3,6,[],false),(4,14,[],false),(5,0,[],false),(6,32,[],false),(7,96,[4],true),(8,254,[],true),(9,511,[],false),(10,1023,[],false),(11,2047,[],true)]),(24,[(0,0,[],false),(1,0,[],false),(2,2,[],false),(3,6,[],false),(4,14,[],false),(5,0,[],false),(6,32,[4],true),(7,126,[],true),(8,255,[],false),(9,511,[],false),(10,1023,[],true)])]
theorem S112 : SoundF Tryz.prog 112 F112 := kfun_of (fn := Tryz.f112) (n := 103) (np := 2) (hs := H112) (q := []) (t := (.s .l (.s (.s .l (.j [0,3] .l .l)) (.s (.s .l (.i .l .l)) (.s .l (.s .l (.s (.s .l (.i (.j [0,3,4,5,40,41,42] (.s .l (.s (.i .l .l) (.s (.i (.s .l (.s .l (.i (.s (.s .l (.j [0,3,4,5,7,40,41,42,48,49] .l .l)) (.j [0,3,4,5,40,41,42] (.s .l .l) (.s (.s .l (.j [0,3,4,5,7,40,41,42,63] .l .l)) (.i (.s .l (.i (.j [0,3,4,5,7,40,41,42,66,67,68] (.s .l (.s (.i .l .l) (.s (.i (.s .l (.s .l (.s .l (.j [0,3,4,5,7,40,41,42,66,67,68] .l .l)))) .l) .l))) .l) .l)) .l)))) .l))) .l) .l))) .l) .l)) .l))))))) mix2 (by kernel_rfl) (by kernel_rfl) (by kernel_rfl) (by kernel_rfl) (by kernel_rfl) (by kernel_rfl) (by kernel_rfl) (by kernel_rfl)
noncomputable def F113 : GF := fun cl ar h => x_arg ar fun v0 ar => x_arg ar fun v1 ar => x_arg ar fun v2 ar => x_ar0 ar (
 x_bx v2 h fun v3 h3 =>
 x_fa 0 v3 fun v4 =>
 x_ld none v4 h3 fun v5 =>
 x_eql v5 (I 2) fun v6 =>
 x_if v6 (fun (h7 : KH) =>
 .ret (.bool true) h7)
 (fun J7 => x_fa 2 v3 fun v8 =>
 x_ld none v8 h3 fun v9 =>
 x_fa 7 v3 fun v10 =>
 x_ld none v10 h3 fun v11 =>
 x_fa 7 v3 fun v12 =>
 x_ld none v12 h3 fun v13 =>
 x_len v13 fun v14 =>
 x_nc v1 fun v15 =>
 x_fa 11 v15 fun v16 =>
 x_call cl 178 [v11] h3 fun v17 h17 =>
 x_chk (cond (koEq (kload none v12 h17) v13) (cond (koEq (kload none v8 h17) v9) true false) false) (x_bld [.nils,(I 0)] [.mk 0 1 v17,.mk 1 1 v14] fun v18 =>
 x_ixA 12 2 v16 v9 fun v19 =>
 x_st 2 v19 v18 h17 fun h20 =>
 x_chk true (J7 h20)))
 (fun J7 => x_eql v5 (I 1) fun v8 =>
 x_if0 v8
 (x_fa 2 v3 fun v9 =>
 x_ld none v9 h3 fun v10 =>
 x_fa 1 v3 fun v11 =>
 x_ld none v11 h3 fun v12 =>
 x_nc v1 fun v13 =>
 x_fa 11 v13 fun v14 =>
 x_ixA 12 2 v14 v12 fun v15 =>
 x_ld (some 2) v15 h3 fun v16 =>
 x_nc v1 fun v17 =>
 x_fa 11 v17 fun v18 =>
 x_ixA 12 2 v18 v10 fun v19 =>
 x_st 2 v19 v16 h3 fun h20 =>
 J7 h20)
 (x_eql v5 (I 4) fun v9 =>
 x_if0 v9
 (x_ld (some 33) v3 h3 fun v10 =>
 x_call cl 179 [v0,v1,v10] h3 fun v11 h11 =>
 J7 h11)
 (x_eql v5 (I 7) fun v10 =>
 x_if0 v10
 (x_ld (some 33) v3 h3 fun v11 =>
 x_call cl 180 [v0,v1,v11] h3 fun v12 h12 =>
 J7 h12)
 (x_eql v5 (I 11) fun v11 =>
 x_if0 v11
 (x_nc v1 fun v12 =>
 x_fa 43 v12 fun v13 =>
 x_ld none v13 h3 fun v14 =>
 x_fa 31 v3 fun v15 =>
 x_ld none v15 h3 fun v16 =>
 x_nc v1 fun v17 =>
 x_fa 0 v17 fun v18 =>
 x_fa 9 v18 fun v19 =>
 x_ld none v19 h3 fun v20 =>
 x_nc v1 fun v21 =>
 x_fa 0 v21 fun v22 =>
 x_fa 9 v22 fun v23 =>
 x_ld none v23 h3 fun v24 =>
 x_len v24 fun v25 =>
 x_bin .sub v25 (I 1) fun v26 =>
 x_ixS 1 v20 v26 fun v27 =>
 x_ld none v27 h3 fun v28 =>
 x_fa 5 v3 fun v29 =>
 x_ld none v29 h3 fun v30 =>
 x_bld (rpl 4 (I 0) []) [.mk 0 1 v16,.mk 2 1 v28,.mk 3 1 v30] fun v31 =>
 x_bsl (rpl 4 (I 0) []) 1 [.mk 0 4 v31] h3 fun v32 h32 =>
 x_app 4 32 v14 v32 h32 fun v33 h33 =>
 x_nc v1 fun v34 =>
 x_fa 43 v34 fun v35 =>
 x_st 1 v35 v33 h33 fun h36 =>
 J7 h36)
 (x_eql v5 (I 12) fun v12 =>
 x_if0 v12
 (x_loop (jbad [1]) (fun J13 => (fun (v14 : AV) (h15 : KH) =>
 x_nc v14 fun v16 =>
 x_fa 43 v16 fun v17 =>
 x_ld none v17 h15 fun v18 =>
 x_nc v14 fun v19 =>
 x_fa 43 v19 fun v20 =>
 x_ld none v20 h15 fun v21 =>
 x_len v21 fun v22 =>
 x_bin .sub v22 (I 1) fun v23 =>
 x_ixS 4 v18 v23 fun v24 =>
 x_fa 2 v24 fun v25 =>
 x_ld none v25 h15 fun v26 =>
 x_lss v26 (I 0) fun v27 =>
 x_if0 v27
 (x_nc v14 fun v28 =>
 x_fa 43 v28 fun v29 =>
 x_ld none v29 h15 fun v30 =>
 x_nc v14 fun v31 =>
 x_fa 43 v31 fun v32 =>
 x_ld none v32 h15 fun v33 =>
 x_len v33 fun v34 =>
 x_bin .sub v34 (I 1) fun v35 =>
 x_pu (.sliceS 4 (.cst v30) none (some (.cst v35)) none) fun v36 =>
 x_nc v14 fun v37 =>
 x_fa 43 v37 fun v38 =>
 x_st 1 v38 v36 h15 fun h39 =>
 J13 v14 h39)
 (x_nc v14 fun v28 =>
 x_fa 43 v28 fun v29 =>
 x_ld none v29 h15 fun v30 =>
 x_nc v14 fun v31 =>
 x_fa 43 v31 fun v32 =>
 x_ld none v32 h15 fun v33 =>
 x_len v33 fun v34 =>
 x_bin .sub v34 (I 1) fun v35 =>
 x_pu (.sliceS 4 (.cst v30) none (some (.cst v35)) none) fun v36 =>
 x_nc v14 fun v37 =>
 x_fa 43 v37 fun v38 =>
 x_st 1 v38 v36 h15 fun h39 =>
 J7 h39))) v1 h3)
 (x_eql v5 (I 13) fun v13 =>
 x_if0 v13
 (x_nc v1 fun v14 =>
 x_fa 0 v14 fun v15 =>
 x_fa 8 v15 fun v16 =>
 x_ld none v16 h3 fun v17 =>
 x_len v17 fun v18 =>
 x_eql v18 (I 16) fun v19 =>
 x_if0 v19
 (x_call cl 114 [v0,v1,(.int .i64 (-1))] h3 fun v20 h20 =>
 .ret (.bool false) h20)
 (x_nc v1 fun v20 =>
 x_fa 0 v20 fun v21 =>
 x_fa 8 v21 fun v22 =>
 x_ld none v22 h3 fun v23 =>
 x_fa 30 v3 fun v24 =>
 x_ld none v24 h3 fun v25 =>
 x_fa 1 v3 fun v26 =>
 x_ld none v26 h3 fun v27 =>
 x_nc v1 fun v28 =>
 x_fa 11 v28 fun v29 =>
 x_ixA 12 2 v29 v27 fun v30 =>
 x_fa 0 v30 fun v31 =>
 x_ld none v31 h3 fun v32 =>
 x_bld [(.str []),.nils] [.mk 0 1 v25,.mk 1 1 v32] fun v33 =>
 x_bsl [(.str []),.nils] 1 [.mk 0 2 v33] h3 fun v34 h34 =>
 x_app 2 40 v23 v34 h34 fun v35 h35 =>
 x_nc v1 fun v36 =>
 x_fa 0 v36 fun v37 =>
 x_fa 8 v37 fun v38 =>
 x_st 1 v38 v35 h35 fun h39 =>
 J7 h39))
 (x_eql v5 (I 14) fun v14 =>
 x_if0 v14
 (x_fa 5 v3 fun v15 =>
 x_ld none v15 h3 fun v16 =>
 x_call cl 114 [v0,v1,v16] h3 fun v17 h17 =>
 .ret (.bool false) h17)
 (x_eql v5 (I 15) fun v15 =>
 x_if0 v15
 (x_nc v1 fun v16 =>
 x_fa 43 v16 fun v17 =>
 x_st 1 v17 .nils h3 fun h18 =>
 J7 h18)
 (x_eql v5 (I 10) fun v16 =>
 x_if0 v16
 (x_ld (some 33) v3 h3 fun v17 =>
 x_call cl 181 [v0,v1,v17] h3 fun v18 h18 =>
 .ret (.bool false) h18)
 (x_eql v5 (I 3) fun v17 =>
 x_if v17 (fun (v18 v19 v20 v21 : AV) (h22 : KH) =>
 x_if0 v21
 (x_ld (some 33) v20 h22 fun v23 =>
 x_call cl 182 [v18,v19,v23] h22 fun v24 h24 =>
 .ret (.bool false) h24)
 (x_ld (some 33) v20 h22 fun v23 =>
 x_call cl 183 [v18,v19,v23] h22 fun v24 h24 =>
 .ret (.bool false) h24))
 (fun J18 => J18 v0 v1 v3 v17 h3)
 (fun J18 => x_eql v5 (I 5) fun v19 =>
 x_if0 v19
 (J18 v0 v1 v3 v19 h3)
 (x_eql v5 (I 6) fun v20 =>
 x_if0 v20
 (J18 v0 v1 v3 v20 h3)
 (x_eql v5 (I 8) fun v21 =>
 J18 v0 v1 v3 v21 h3))))))))))))))
def H113 : Hints := [(5,[(0,0,[],false),(1,0,[],false),(2,2,[],false),(3,0,[],false),(4,8,[],false),(6,0,[],false),(7,64,[],false),(8,192,[],false),(10,1,[],false),(11,1025,[],false),(5,24,[2,7],true),(9,504,[],false),(12,4095,[],false),(13,8191,[],true)]),(7,[(0,0,[],false),(1,0,[],false),(2,2,[],false),(3,0,[],false),(4,0,[],false),(5,16,[],false),(6,8,[],false),(7,72,[],false),(8,248,[],false),(9,504,[],false),(10,1,[],false),(11,1025,[],false),(12,4095,[],false),(13,8191,[],true)]),(13,[(0,0,[],false),(1,0,[],false),(2,2,[],false),(3,6,[],false),(4,14,[],false),(5,0,[],false),(6,32,[],false),(7,0,[],false),(8,128,[],false),(9,384,[],false),(10,896,[],false),(11,1920,[],false),(12,0,[],false),(13,4096,[],false),(14,12288,[],false),(15,28672,[],false),(16,61440,[],false),(17,126976,[],false),(18,258048,[],false),(19,524160,[],false),(20,1048448,[],false),(21,0,[],false),(22,2097152,[],false),(23,8388576,[],false),(24,16777184,[],false),(25,33554430,[],true),(26,67108863,[],false),(27,134217727,[],false),(28,268435455,[],true)]),(15,[(0,0,[],false),(1,1,[],false),(2,3,[],false),(3,7,[],false),(4,0,[],false),(5,16,[],false),(6,48,[],false),(7,112,[],false),(8,240,[],false),(9,496,[],false),(10,1023,[],false),(11,2047,[],false),(12,4095,[],false),(13,8191,[],false)]),(16,[(0,0,[],false),(1,0,[],false),(2,2,[],false),(3,6,[],false),(4,14,[],false),(5,0,[],false),(6,32,[],false),(7,96,[],false),(8,224,[],false),(9,480,[],false),(10,992,[],false),(11,2046,[],false),(12,4095,[],false),(13,8191,[],false),(14,16383,[],true)]),(17,[(0,0,[],false),(1,0,[],false),(2,2,[],false),(3,6,[],false),(4,14,[],false),(5,0,[],false),(6,32,[],false),(7,96,[],false),(8,224,[],false),(9,480,[],false),(10,992,[],false),(11,2046,[],false),(12,4095,[],false),(13,8191,[],false),(14,16383,[],true)]),(22,[(0,0,[],false),(1,0,[],false),(2,2,[],false),(3,6,[],false),(4,14,[],false),(5,30,[],false),(6,0,[],false),(7,64,[],false),(8,0,[],false),(9,0,[],false),(10,512,[],false),(11,256,[],false),(12,2304,[],false),(13,7936,[],false),(14,16128,[],false),(15,32512,[],false),(16,65472,[],false),(17,131008,[],false),(18,262142,[],true),(19,524287,[],false),(20,1048575,[],false),(21,2097151,[],false),(22,4194303,[],true)])]
theorem S113 : SoundF Tryz.prog 113 F113 := kfun_of (fn := Tryz.f113) (n := 190) (np := 3) (hs := H113) (q := [.tmp 6]) (t := (.s .l (.s (.s .l (.i (.s .l (.j [] .l (.s .l (.i .l (.s .l (.i .l (.s .l (.i .l (.s .l (.i .l (.s .l (.i (.s (.i (.j [1] (.s (.s .l (.i .l .l)) (.i .l .l)) .l) .l) .l) (.s .l (.i (.s (.s .l (.i (.s .l (.s .l .l)) .l)) .l) (.s .l (.i (.s .l (.s .l .l)) (.s .l (.i .l (.s .l (.i (.s .l (.s .l .l)) (.s (.s .l (.j [0,1,5,181] .l (.s .l (.i .l (.s .l (.i .l .l)))))) (.i (.s .l (.s .l .l)) (.s .l (.s .l .l)))))))))))))))))))))))) .l)) (.s .l .l)))) mix2 (by kernel_rfl) (by kernel_rfl) (by kernel_rfl) (by kernel_rfl) (by kernel_rfl) (by kernel_rfl) (by kernel_rfl) (by kernel_rfl)
noncomputable def F115 : GF := fun cl ar h => x_arg ar fun v0 ar => x_ar0 ar (
 x_call cl 184 [.nils,v0] h fun v1 h1 =>
 .ret v1 h1)
def H115 : Hints := []
theorem S115 : SoundF Tryz.prog 115 F115 := kfun_of (fn := Tryz.f115) (n := 5) (np := 1) (hs := H115) (q := [.tmp 2]) (t := (.s .l (.s .l .l))) mix2 (by kernel_rfl) (by kernel_rfl) (by kernel_rfl) (by kernel_rfl) (by kernel_rfl) (by kernel_rfl) (by kernel_rfl) (by kernel_rfl)
noncomputable def F116 : GF := fun cl ar h => x_arg ar fun v0 ar => x_ar0 ar (
 x_bx v0 h fun v1 h1 =>
 .ret (.fn (.func 185) [] [v1]) h1)
def H116 : Hints := []
theorem S116 : SoundF Tryz.prog 116 F116 := kfun_of (fn := Tryz.f116) (n := 4) (np := 1) (hs := H116) (q := [.tmp 2]) (t := (.s .l (.s .l .l))) mix2 (by kernel_rfl) (by kernel_rfl) (by kernel_rfl) (by kernel_rfl) (by kernel_rfl) (by kernel_rfl) (by kernel_rfl) (by kernel_rfl)
noncomputable def F117 : GF := fun cl ar h => x_arg ar fun v0 ar => x_ar0 ar (
 x_pu (.eq false .slice (.cst v0) (.cst .nils)) fun v1 =>
 x_if0 v1
 (.ret .nils h)
 (x_bsl [] 0 [] h fun v2 h2 =>
 x_app 4 32 v2 v0 h2 fun v3 h3 =>
 .ret v3 h3))
def H117 : Hints := []
theorem S117 : SoundF Tryz.prog 117 F117 := kfun_of (fn := Tryz.f117) (n := 8) (np := 1) (hs := H117) (q := [.tmp 2]) (t := (.s .l (.s (.s .l (.i (.s .l .l) .l)) (.s .l .l)))) mix2 (by kernel_rfl) (by kernel_rfl) (by kernel_rfl) (by kernel_rfl) (by kernel_rfl) (by kernel_rfl) (by kernel_rfl) (by kernel_rfl)
noncomputable def F118 : GF := fun cl ar h => x_arg ar fun v0 ar => x_ar0 ar (
 x_pu (.eq false .slice (.cst v0) (.cst .nils)) fun v1 =>
 x_if0 v1
 (.ret .nils h)
 (x_bsl [] 0 [] h fun v2 h2 =>
 x_app 1 1 v2 v0 h2 fun v3 h3 =>
 .ret v3 h3))
def H118 : Hints := []
theorem S118 : SoundF Tryz.prog 118 F118 := kfun_of (fn := Tryz.f118) (n := 8) (np := 1) (hs := H118) (q := [.tmp 2]) (t := (.s .l (.s (.s .l (.i (.s .l .l) .l)) (.s .l .l)))) mix2 (by kernel_rfl) (by kernel_rfl) (by kernel_rfl) (by kernel_rfl) (by kernel_rfl) (by kernel_rfl) (by kernel_rfl) (by kernel_rfl)
noncomputable def F119 : GF := fun cl ar h => x_arg ar fun v0 ar => x_ar0 ar (
 x_pu (.eq false .slice (.cst v0) (.cst .nils)) fun v1 =>
 x_if0 v1
 (.ret .nils h)
 (x_bsl [] 0 [] h fun v2 h2 =>
 x_app 1 24 v2 v0 h2 fun v3 h3 =>
 .ret v3 h3))
def H119 : Hints := []
theorem S119 : SoundF Tryz.prog 119 F119 := kfun_of (fn := Tryz.f119) (n := 8) (np := 1) (hs := H119) (q := [.tmp 2]) (t := (.s .l (.s (.s .l (.i (.s .l .l) .l)) (.s .l .l)))) mix2 (by kernel_rfl) (by kernel_rfl) (by kernel_rfl) (by kernel_rfl) (by kernel_rfl) (by kernel_rfl) (by kernel_rfl) (by kernel_rfl)
noncomputable def F120 : GF := fun cl ar h => x_arg ar fun v0 ar => x_ar0 ar (
 x_pu (.eq false .slice (.cst v0) (.cst .nils)) fun v1 =>
 x_if0 v1
 (.ret .nils h)
 (x_bsl [] 0 [] h fun v2 h2 =>
 x_app 1 24 v2 v0 h2 fun v3 h3 =>
 .ret v3 h3))
def H120 : Hints := []
theorem S120 : SoundF Tryz.prog 120 F120 := kfun_of (fn := Tryz.f120) (n := 8) (np := 1) (hs := H120) (q := [.tmp 2]) (t := (.s .l (.s (.s .l (.i (.s .l .l) .l)) (.s .l .l)))) mix2 (by kernel_rfl) (by kernel_rfl) (by kernel_rfl) (by kernel_rfl) (by kernel_rfl) (by kernel_rfl) (by kernel_rfl) (by kernel_rfl)
noncomputable def F121 : GF := fun cl ar h => x_arg ar fun v0 ar => x_ar0 ar (
 x_pu (.eq false .slice (.cst v0) (.cst .nils)) fun v1 =>
 x_if0 v1
 (.ret .nils h)
 (x_bsl [] 0 [] h fun v2 h2 =>
 x_app 1 24 v2 v0 h2 fun v3 h3 =>
 .ret v3 h3))
def H121 : Hints := []
theorem S121 : SoundF Tryz.prog 121 F121 := kfun_of (fn := Tryz.f121) (n := 8) (np := 1) (hs := H121) (q := [.tmp 2]) (t := (.s .l (.s (.s .l (.i (.s .l .l) .l)) (.s .l .l)))) mix2 (by kernel_rfl) (by kernel_rfl) (by kernel_rfl) (by kernel_rfl) (by kernel_rfl) (by kernel_rfl) (by kernel_rfl) (by kernel_rfl)
noncomputable def F124 : GF := fun cl ar h => x_arg ar fun v0 ar => x_ar0 ar (
 x_len v0 fun v1 =>
 x_loop (jbad [0,3,9,10,11]) (fun J2 => (fun (v3 v4 v5 v6 v7 : AV) (h8 : KH) =>
 x_lss v7 v6 fun v9 =>
 x_if0 v9
 (x_ixS 1 v5 v7 fun v10 =>
 x_ld none v10 h8 fun v11 =>
 x_len v11 fun v12 =>
 x_add v4 v12 fun v13 =>
 x_lss v13 (I 0) fun v14 =>
 x_if0 v14
 (x_pan (.ifc 9 (.str [108,101,110,32,111,117,116,32,111,102,32,114,97,110,103,101])) h8)
 (x_add v7 (I 1) fun v15 =>
 J2 v3 v13 v5 v6 v15 h8))
 (x_call cl 187 [.nils,v4] h8 fun v10 h10 =>
 x_len v3 fun v11 =>
 x_loop (jbad [6,25,26,27]) (fun J12 => (fun (v13 v14 v15 v16 : AV) (h17 : KH) =>
 x_lss v16 v15 fun v18 =>
 x_if0 v18
 (x_ixS 1 v14 v16 fun v19 =>
 x_ld none v19 h17 fun v20 =>
 x_app 1 1 v13 v20 h17 fun v21 h21 =>
 x_add v16 (I 1) fun v22 =>
 J12 v21 v14 v15 v22 h21)
 (.ret v13 h17))) v10 v3 v11 (I 0) h10))) v0 (I 0) v0 v1 (I 0) h)
def H124 : Hints := []
theorem S124 : SoundF Tryz.prog 124 F124 := kfun_of (fn := Tryz.f124) (n := 36) (np := 1) (hs := H124) (q := [.tmp 2]) (t := (.s .l (.s .l (.s (.s .l (.i (.j [0,3,9,10,11] (.s .l (.s (.i .l .l) (.s (.i (.s .l (.s .l (.s .l (.i .l .l)))) .l) .l))) .l) .l)) (.s .l (.s (.s .l (.i (.j [6,25,26,27] (.s .l (.s (.i .l .l) (.s (.i (.s .l .l) .l) .l))) .l) .l)) (.s .l .l))))))) mix2 (by kernel_rfl) (by kernel_rfl) (by kernel_rfl) (by kernel_rfl) (by kernel_rfl) (by kernel_rfl) (by kernel_rfl) (by kernel_rfl)
noncomputable def F125 : GF := fun cl ar h => x_arg ar fun v0 ar => x_ar0 ar (
 x_len v0 fun v1 =>
 x_conv .u64 v1 fun v2 =>
 x_call cl 166 [v2] h fun v3 h3 =>
 x_call cl 188 [v0,(I 0),v1,v3] h3 fun v4 h4 =>
 .ret (.tup []) h4)
def H125 : Hints := []
theorem S125 : SoundF Tryz.prog 125 F125 := kfun_of (fn := Tryz.f125) (n := 11) (np := 1) (hs := H125) (q := []) (t := (.s .l .l)) mix2 (by kernel_rfl) (by kernel_rfl) (by kernel_rfl) (by kernel_rfl) (by kernel_rfl) (by kernel_rfl) (by kernel_rfl) (by kernel_rfl)
noncomputable def F126 : GF := fun cl ar h => x_arg ar fun v0 ar => x_ar0 ar (
 x_len v0 fun v1 =>
 x_lss v1 (I 2) fun v2 =>
 x_if0 v2
 (.ret v0 h)
 (x_loop (jbad [0,3]) (fun J3 => (fun (v4 v5 : AV) (h6 : KH) =>
 x_len v4 fun v7 =>
 x_lss v5 v7 fun v8 =>
 x_if0 v8
 (x_ixS 1 v4 v5 fun v9 =>
 x_ld none v9 h6 fun v10 =>
 x_bin .sub v5 (I 1) fun v11 =>
 x_ixS 1 v4 v11 fun v12 =>
 x_ld none v12 h6 fun v13 =>
 x_eql v10 v13 fun v14 =>
 x_if0 v14
 (x_pu (.sliceS 1 (.cst v4) (some (.cst v5)) none none) fun v15 =>
 x_loop (jbad [0,3,4,5]) (fun J16 => (fun (v17 v18 v19 v20 : AV) (h21 : KH) =>
 x_len v19 fun v22 =>
 x_lss v20 v22 fun v23 =>
 x_if0 v23
 (x_ixS 1 v19 v20 fun v24 =>
 x_ld none v24 h21 fun v25 =>
 x_bin .sub v20 (I 1) fun v26 =>
 x_ixS 1 v19 v26 fun v27 =>
 x_ld none v27 h21 fun v28 =>
 x_neq v25 v28 fun v29 =>
 x_if v29 (fun (v30 v31 v32 v33 : AV) (h34 : KH) =>
 x_add v33 (I 1) fun v35 =>
 J16 v30 v31 v32 v35 h34)
 (fun J30 => x_ixS 1 v19 v20 fun v31 =>
 x_ld none v31 h21 fun v32 =>
 x_ixS 1 v17 v18 fun v33 =>
 x_st 1 v33 v32 h21 fun h34 =>
 x_add v18 (I 1) fun v35 =>
 J30 v17 v35 v19 v20 h34)
 (fun J30 => J30 v17 v18 v19 v20 h21))
 (x_pu (.sliceS 1 (.cst v17) (some (.cst v18)) none none) fun v24 =>
 x_k (.clr 1 [(N .u8 0)] (.cst v24)) h21 fun v25 h25 =>
 x_pu (.sliceS 1 (.cst v17) none (some (.cst v18)) none) fun v26 =>
 .ret v26 h25))) v4 v5 v15 (I 1) h6)
 (x_add v5 (I 1) fun v15 =>
 J3 v4 v15 h6))
 (.ret v4 h6))) v0 (I 1) h))
def H126 : Hints := [(6,[(0,0,[],false),(1,0,[],false),(2,3,[],false),(3,7,[],false),(4,0,[],false),(5,0,[],false),(6,32,[],false),(7,112,[],false),(8,240,[],false),(9,511,[],false)]),(11,[(0,0,[],false),(1,0,[],false),(2,3,[],false),(3,7,[],false),(4,0,[],false),(5,0,[],false),(6,32,[],false),(7,112,[],false),(8,240,[],false),(9,511,[],false)])]
theorem S126 : SoundF Tryz.prog 126 F126 := kfun_of (fn := Tryz.f126) (n := 61) (np := 1) (hs := H126) (q := [.tmp 2]) (t := (.s .l (.s (.s .l (.i (.s .l .l) .l)) (.s (.s .l (.i (.j [0,3] (.s (.s .l (.i .l .l)) (.s (.i (.s .l (.i (.s .l (.s (.s .l (.i (.j [0,3,4,5] (.s (.s .l (.i .l .l)) (.s (.i (.s .l (.j [0,3,4,5] (.s .l .l) .l)) .l) .l)) .l) .l)) (.s .l (.s .l .l)))) .l)) .l) .l)) .l) .l)) (.s .l .l))))) mix2 (by kernel_rfl) (by kernel_rfl) (by kernel_rfl) (by kernel_rfl) (by kernel_rfl) (by kernel_rfl) (by kernel_rfl) (by kernel_rfl)
noncomputable def F127 : GF := fun cl ar h => x_arg ar fun v0 ar => x_ar0 ar (
 x_len v0 fun v1 =>
 x_loop (jbad [0,3,9,10,11]) (fun J2 => (fun (v3 v4 v5 v6 v7 : AV) (h8 : KH) =>
 x_lss v7 v6 fun v9 =>
 x_if0 v9
 (x_ixS 1 v5 v7 fun v10 =>
 x_ld none v10 h8 fun v11 =>
 x_len v11 fun v12 =>
 x_add v4 v12 fun v13 =>
 x_lss v13 (I 0) fun v14 =>
 x_if0 v14
 (x_pan (.ifc 9 (.str [108,101,110,32,111,117,116,32,111,102,32,114,97,110,103,101])) h8)
 (x_add v7 (I 1) fun v15 =>
 J2 v3 v13 v5 v6 v15 h8))
 (x_call cl 189 [.nils,v4] h8 fun v10 h10 =>
 x_len v3 fun v11 =>
 x_loop (jbad [6,25,26,27]) (fun J12 => (fun (v13 v14 v15 v16 : AV) (h17 : KH) =>
 x_lss v16 v15 fun v18 =>
 x_if0 v18
 (x_ixS 1 v14 v16 fun v19 =>
 x_ld none v19 h17 fun v20 =>
 x_app 1 8 v13 v20 h17 fun v21 h21 =>
 x_add v16 (I 1) fun v22 =>
 J12 v21 v14 v15 v22 h21)
 (.ret v13 h17))) v10 v3 v11 (I 0) h10))) v0 (I 0) v0 v1 (I 0) h)
def H127 : Hints := []
theorem S127 : SoundF Tryz.prog 127 F127 := kfun_of (fn := Tryz.f127) (n := 36) (np := 1) (hs := H127) (q := [.tmp 2]) (t := (.s .l (.s .l (.s (.s .l (.i (.j [0,3,9,10,11] (.s .l (.s (.i .l .l) (.s (.i (.s .l (.s .l (.s .l (.i .l .l)))) .l) .l))) .l) .l)) (.s .l (.s (.s .l (.i (.j [6,25,26,27] (.s .l (.s (.i .l .l) (.s (.i (.s .l .l) .l) .l))) .l) .l)) (.s .l .l))))))) mix2 (by kernel_rfl) (by kernel_rfl) (by kernel_rfl) (by kernel_rfl) (by kernel_rfl) (by kernel_rfl) (by kernel_rfl) (by kernel_rfl)
noncomputable def F128 : GF := fun cl ar h => x_arg ar fun v0 ar => x_ar0 ar (
 .ret v0 h)
def H128 : Hints := []
theorem S128 : SoundF Tryz.prog 128 F128 := kfun_of (fn := Tryz.f128) (n := 4) (np := 1) (hs := H128) (q := [.tmp 2]) (t := (.s .l (.s .l .l))) mix2 (by kernel_rfl) (by kernel_rfl) (by kernel_rfl) (by kernel_rfl) (by kernel_rfl) (by kernel_rfl) (by kernel_rfl) (by kernel_rfl)
noncomputable def F129 : GF := fun cl ar h => x_arg ar fun v0 ar => x_arg ar fun v1 ar => x_arg ar fun v2 ar => x_arg ar fun v3 ar => x_ar0 ar (
 x_bx v1 h fun v4 h4 =>
 x_fa 3 v4 fun v5 =>
 x_ld none v5 h4 fun v6 =>
 x_len v6 fun v7 =>
 x_loop (jbad [0,2,3,5,15,16,17]) (fun J8 => (fun (v9 v10 v11 v12 v13 v14 v15 : AV) (h16 : KH) =>
 x_lss v15 v14 fun v17 =>
 x_if0 v17
 (x_ixS 19 v13 v15 fun v18 =>
 x_ld (some 19) v18 h16 fun v19 =>
 x_nw ((I 0) :: (rpl 6 .nils ((I 0) :: (rpl 4 .nils (rpl 4 (I 0) ((.bool false) :: ((I 0) :: ((.bool false) :: [])))))))) p0 h16 fun v20 h20 =>
 x_st 19 v20 v19 h20 fun h21 =>
 x_fa 0 v20 fun v22 =>
 x_nc v22 fun v23 =>
 x_fa 1 v23 fun v24 =>
 x_ld none v24 h21 fun v25 =>
 x_nc v22 fun v26 =>
 x_fa 2 v26 fun v27 =>
 x_ld none v27 h21 fun v28 =>
 x_call cl 77 [v25,v10] h21 fun v29 h29 =>
 x_chk (cond (koEq (kload none v27 h29) v28) true false) (x_call cl 77 [v28,v10] h29 fun v30 h30 =>
 x_chk true (x_nc v22 fun v31 =>
 x_fa 1 v31 fun v32 =>
 x_st 1 v32 v29 h30 fun h33 =>
 x_chk true (x_nc v22 fun v34 =>
 x_fa 2 v34 fun v35 =>
 x_st 1 v35 v30 h33 fun h36 =>
 x_chk true (x_nc v22 fun v37 =>
 x_fa 0 v37 fun v38 =>
 x_ld none v38 h36 fun v39 =>
 x_eql v39 (I 3) fun v40 =>
 x_if v40 (fun (v41 v42 v43 v44 v45 v46 v47 v48 : AV) (h49 : KH) =>
 x_nc v41 fun v50 =>
 x_fa 0 v50 fun v51 =>
 x_fa 3 v51 fun v52 =>
 x_ld none v52 h49 fun v53 =>
 x_ld (some 19) v45 h49 fun v54 =>
 x_bsl ((I 0) :: (rpl 6 .nils ((I 0) :: (rpl 4 .nils (rpl 4 (I 0) ((.bool false) :: ((I 0) :: ((.bool false) :: [])))))))) 1 [.mk 0 19 v54] h49 fun v55 h55 =>
 x_app 19 312 v53 v55 h55 fun v56 h56 =>
 x_nc v41 fun v57 =>
 x_fa 0 v57 fun v58 =>
 x_fa 3 v58 fun v59 =>
 x_st 1 v59 v56 h56 fun h60 =>
 x_add v48 (I 1) fun v61 =>
 J8 v41 v42 v43 v44 v46 v47 v61 h60)
 (fun J41 => x_nc v9 fun v42 =>
 x_fa 0 v42 fun v43 =>
 x_fa 1 v43 fun v44 =>
 x_ld none v44 h36 fun v45 =>
 x_len v45 fun v46 =>
 x_nc v9 fun v47 =>
 x_fa 0 v47 fun v48 =>
 x_fa 2 v48 fun v49 =>
 x_ld none v49 h36 fun v50 =>
 x_len v50 fun v51 =>
 x_add v46 v51 fun v52 =>
 x_mks 8 [(I 0)] v52 v52 h36 fun v53 h53 =>
 x_nc v22 fun v54 =>
 x_fa 6 v54 fun v55 =>
 x_fa 0 v55 fun v56 =>
 x_ld none v56 h53 fun v57 =>
 x_len v57 fun v58 =>
 x_loop (jbad [0,2,3,5,9,10,11,15,16,17,64,65,66]) (fun J59 => (fun (v60 v61 v62 v63 v64 v65 v66 v67 v68 v69 v70 v71 v72 : AV) (h73 : KH) =>
 x_lss v72 v71 fun v74 =>
 x_if0 v74
 (x_ixS 1 v70 v72 fun v75 =>
 x_ld none v75 h73 fun v76 =>
 x_fa 1 v63 fun v77 =>
 x_ld none v77 h73 fun v78 =>
 x_len v78 fun v79 =>
 x_lss v72 v79 fun v80 =>
 x_if v80 (fun (v81 v82 v83 v84 v85 v86 v87 v88 v89 v90 v91 v92 v93 : AV) (h94 : KH) =>
 x_add v93 (I 1) fun v95 =>
 J59 v81 v82 v83 v84 v85 v86 v87 v88 v89 v90 v91 v92 v95 h94)
 (fun J81 => x_cl cl v61 [v72] h73 fun v82 h82 =>
 x_ixS 1 v66 v82 fun v83 =>
 x_st 1 v83 v76 h82 fun h84 =>
 J81 v60 v61 v62 v63 v64 v65 v66 v67 v68 v69 v70 v71 v72 h84)
 (fun J81 => x_nc v60 fun v82 =>
 x_fa 0 v82 fun v83 =>
 x_fa 1 v83 fun v84 =>
 x_ld none v84 h73 fun v85 =>
 x_len v85 fun v86 =>
 x_fa 1 v63 fun v87 =>
 x_ld none v87 h73 fun v88 =>
 x_len v88 fun v89 =>
 x_bin .sub v72 v89 fun v90 =>
 x_cl cl v62 [v90] h73 fun v91 h91 =>
 x_chk (cond (koEq (kload none v84 h91) v85) true false) (x_add v86 v91 fun v92 =>
 x_ixS 1 v66 v92 fun v93 =>
 x_st 1 v93 v76 h91 fun h94 =>
 x_chk true (J81 v60 v61 v62 v63 v64 v65 v66 v67 v68 v69 v70 v71 v72 h94))))
 (x_nc v65 fun v75 =>
 x_fa 6 v75 fun v76 =>
 x_fa 0 v76 fun v77 =>
 x_st 1 v77 v66 h73 fun h78 =>
 J41 v60 v61 v62 v63 v64 v67 v68 v69 h78))) v9 v10 v11 v12 v20 v22 v53 v13 v14 v15 v57 v58 (I 0) h53)
 (fun J41 => x_eql v39 (I 5) fun v42 =>
 x_if0 v42
 (x_nc v22 fun v43 =>
 x_fa 17 v43 fun v44 =>
 x_ld none v44 h36 fun v45 =>
 x_cl cl v11 [v45] h36 fun v46 h46 =>
 x_nc v22 fun v47 =>
 x_fa 17 v47 fun v48 =>
 x_st 1 v48 v46 h46 fun h49 =>
 J41 v9 v10 v11 v12 v20 v13 v14 v15 h49)
 (J41 v9 v10 v11 v12 v20 v13 v14 v15 h36)))))))
 (.ret (.tup []) h16))) v0 v2 v3 v4 v6 v7 (I 0) h4)
def H129 : Hints := [(5,[(0,0,[],false),(1,0,[],false),(2,0,[],false),(3,4,[],false),(4,12,[],false),(5,28,[],false),(6,0,[],false),(8,0,[],false),(9,256,[],false),(10,768,[],false),(11,1792,[],false),(12,0,[],false),(7,124,[11],true),(13,8188,[],true),(14,16381,[],false),(15,32765,[],false),(16,65533,[],true),(17,131071,[],false),(18,262143,[],false),(19,524287,[],true)]),(8,[(0,0,[],false),(1,1,[],false),(2,3,[],false),(3,7,[],false),(4,15,[],false),(5,31,[],false),(6,0,[],false),(7,64,[],false),(8,192,[],false),(9,448,[],false),(10,960,[],false),(11,1984,[],false),(12,4095,[],false),(13,8191,[],false),(14,16383,[],false)]),(14,[(0,0,[],false),(1,0,[],false),(2,2,[],false),(3,6,[],false),(4,14,[],false),(5,30,[],false),(6,62,[],false),(7,0,[],false),(8,0,[],false),(9,0,[],false),(10,512,[],false),(11,1536,[],false),(12,3840,[],false),(15,0,[],false),(13,8064,[5],true),(14,16382,[],false),(16,65535,[],false),(17,131071,[],true)]),(19,[(0,0,[],false),(1,0,[],false),(2,2,[],false),(3,6,[],false),(4,14,[],false),(5,30,[],false),(6,0,[],false),(7,64,[],false),(8,254,[],true),(9,511,[],false),(10,1023,[],false),(11,2047,[],false),(12,4095,[],true)])]
theorem S129 : SoundF Tryz.prog 129 F129 := kfun_of (fn := Tryz.f129) (n := 129) (np := 4) (hs := H129) (q := []) (t := (.s .l (.s .l (.i (.j [0,2,3,5,15,16,17] (.s .l (.s (.i .l .l) (.s (.i (.s .l (.s .l (.s .l (.s (.s .l (.i (.s .l (.j [0,2,3,5,9,15,16,17] (.s .l (.s (.s .l (.i (.j [0,2,3,5,9,10,11,15,16,17,64,65,66] (.s .l (.s (.i .l .l) (.s (.i (.s .l (.s .l (.j [0,2,3,5,9,10,11,15,16,17,64,65,66] .l .l))) .l) .l))) .l) .l)) .l)) (.s .l (.i .l .l)))) .l)) .l)))) .l) .l))) .l) .l)))) mix2 (by kernel_rfl) (by kernel_rfl) (by kernel_rfl) (by kernel_rfl) (by kernel_rfl) (by kernel_rfl) (by kernel_rfl) (by kernel_rfl)
noncomputable def F131 : GF := fun cl ar h => x_arg ar fun v0 ar => x_arg ar fun v1 ar => x_arg ar fun v2 ar => x_ar0 ar (
 x_leq v1 v0 fun v3 =>
 x_grp true v3 (fun (v4 v5 v6 : AV) (h7 : KH) =>
 x_pick v3 v6 (.bool false) fun v8 =>
 .ret v8 h7) (fun J4 =>
 x_leq v0 v2 fun v5 =>
 J4 v0 v2 v5 h) (fun J4 => J4 aud aud aud h))
def H131 : Hints := []
theorem S131 : SoundF Tryz.prog 131 F131 := kfun_of (fn := Tryz.f131) (n := 15) (np := 3) (hs := H131) (q := [.tmp 6]) (t := (.s .l (.s .l .l))) mix2 (by kernel_rfl) (by kernel_rfl) (by kernel_rfl) (by kernel_rfl) (by kernel_rfl) (by kernel_rfl) (by kernel_rfl) (by kernel_rfl)
noncomputable def F132 : GF := fun cl ar h => x_arg ar fun v0 ar => x_arg ar fun v1 ar => x_arg ar fun v2 ar => x_ar0 ar (
 x_bx v0 h fun v3 h3 =>
 x_fa 0 v3 fun v4 =>
 x_ld none v4 h3 fun v5 =>
 x_call cl 131 [v5,(I 1),(I 5)] h3 fun v6 h6 =>
 x_un .not v6 fun v7 =>
 x_if v7 (fun (v8 v9 v10 v11 : AV) (h12 : KH) =>
 x_if0 v11
 (.ret (.bool false) h12)
 (x_fa 0 v10 fun v13 =>
 x_ld none v13 h12 fun v14 =>
 x_eql v14 (I 3) fun v15 =>
 x_grp true v15 (fun (v16 v17 v18 v19 : AV) (h20 : KH) =>
 x_pick v15 v19 (.bool false) fun v21 =>
 x_if v21 (fun (v22 v23 v24 v25 : AV) (h26 : KH) =>
 x_if0 v25
 (.ret (.bool false) h26)
 (x_fa 0 v24 fun v27 =>
 x_ld none v27 h26 fun v28 =>
 x_neq v28 (I 1) fun v29 =>
 x_grp true v29 (fun (v30 v31 v32 v33 : AV) (h34 : KH) =>
 x_pick v29 v33 (.bool false) fun v35 =>
 x_if v35 (fun (v36 v37 v38 v39 : AV) (h40 : KH) =>
 x_if0 v39
 (.ret (.bool false) h40)
 (x_fa 0 v38 fun v41 =>
 x_ld none v41 h40 fun v42 =>
 x_neq v42 (I 5) fun v43 =>
 x_grp true v43 (fun (v44 v45 v46 v47 v48 : AV) (h49 : KH) =>
 x_grp false v48 (fun (v50 v51 v52 : AV) (h53 : KH) =>
 x_grp true v43 (fun (v54 : AV) (h55 : KH) =>
 x_pick v43 v54 (.bool false) fun v56 =>
 x_if0 v56
 (.ret (.bool false) h55)
 (x_fa 0 v38 fun v57 =>
 x_ld none v57 h55 fun v58 =>
 x_eql v58 (I 1) fun v59 =>
 x_if0 v59
 (x_fa 3 v38 fun v60 =>
 x_ld (some 3) v60 h55 fun v61 =>
 x_call cl 194 [v61] h55 fun v62 h62 =>
 .ret v62 h62)
 (x_eql v58 (I 4) fun v60 =>
 x_if0 v60
 (x_fa 8 v38 fun v61 =>
 x_ld (some 4) v61 h55 fun v62 =>
 x_call cl 195 [v62] h55 fun v63 h63 =>
 .ret v63 h63)
 (x_eql v58 (I 5) fun v61 =>
 x_if0 v61
 (x_fa 12 v38 fun v62 =>
 x_ld (some 5) v62 h55 fun v63 =>
 x_call cl 196 [v63] h55 fun v64 h64 =>
 x_eql v64 (I 0) fun v65 =>
 x_grp true v65 (fun (v66 v67 v68 v69 v70 : AV) (h71 : KH) =>
 x_pick v65 v70 (.bool false) fun v72 =>
 .ret v72 h71) (fun J66 =>
 x_fa 17 v38 fun v67 =>
 x_ld none v67 h64 fun v68 =>
 x_bin .sub v37 (I 1) fun v69 =>
 x_call cl 131 [v68,(I 0),v69] h64 fun v70 h70 =>
 J66 v67 v68 v37 v69 v70 h70) (fun J66 => J66 aud aud aud aud aud h64))
 (x_eql v58 (I 3) fun v62 =>
 x_if0 v62
 (x_fa 6 v38 fun v63 =>
 x_fa 0 v63 fun v64 =>
 x_ld none v64 h55 fun v65 =>
 x_len v65 fun v66 =>
 x_add v36 v37 fun v67 =>
 x_eql v66 v67 fun v68 =>
 x_grp true v68 (fun (v69 v70 v71 v72 v73 v74 : AV) (h75 : KH) =>
 x_pick v68 v74 (.bool false) fun v76 =>
 x_grp true v76 (fun (v77 v78 v79 v80 : AV) (h81 : KH) =>
 x_pick v76 v80 (.bool false) fun v82 =>
 .ret v82 h81) (fun J77 =>
 x_fa 6 v38 fun v78 =>
 x_fa 1 v78 fun v79 =>
 x_ld none v79 h75 fun v80 =>
 x_call cl 131 [v80,(.int .i64 (-1000)),(I 999)] h75 fun v81 h81 =>
 J77 v78 v79 v80 v81 h81) (fun J77 => J77 aud aud aud aud h75)) (fun J69 =>
 x_fa 6 v38 fun v70 =>
 x_fa 0 v70 fun v71 =>
 x_ld none v71 h55 fun v72 =>
 x_call cl 34 [v72,(.fn (.func 197) [] [])] h55 fun v73 h73 =>
 x_un .not v73 fun v74 =>
 J69 v70 v71 v72 (.fn (.func 197) [] []) v73 v74 h73) (fun J69 => J69 aud aud aud aud aud aud h55))
 (.ret (.bool true) h55)))))) (fun J54 =>
 x_pick v48 (.bool true) v52 fun v55 =>
 J54 v55 h53) (fun J54 => J54 aud h53)) (fun J50 =>
 x_fa 17 v38 fun v51 =>
 x_ld none v51 h49 fun v52 =>
 x_neq v52 (I 0) fun v53 =>
 J50 v51 v52 v53 h49) (fun J50 => J50 aud aud aud h49)) (fun J44 =>
 x_fa 12 v38 fun v45 =>
 x_ld (some 5) v45 h40 fun v46 =>
 x_bld (rpl 4 (I 0) ((.bool false) :: [])) [] fun v47 =>
 x_pu (.eq true (.wide (true,[(.i .i64),(.i .i64),(.i .i64),(.i .i64),.b])) (.cst v46) (.cst v47)) fun v48 =>
 J44 v45 v46 v47 v48 v48 h40) (fun J44 => J44 aud aud aud aud aud h40)))
 (fun J36 => J36 v22 v23 v24 v35 h34)
 (fun J36 => x_fa 0 v24 fun v37 =>
 x_ld none v37 h34 fun v38 =>
 x_neq v38 (I 3) fun v39 =>
 x_grp true v39 (fun (v40 v41 v42 v43 : AV) (h44 : KH) =>
 x_pick v39 v43 (.bool false) fun v45 =>
 x_if0 v45
 (J36 v22 v23 v24 v45 h44)
 (x_fa 0 v24 fun v46 =>
 x_ld none v46 h44 fun v47 =>
 x_neq v47 (I 4) fun v48 =>
 x_grp true v48 (fun (v49 v50 v51 v52 : AV) (h53 : KH) =>
 x_pick v48 v52 (.bool false) fun v54 =>
 J36 v22 v23 v24 v54 h53) (fun J49 =>
 x_fa 8 v24 fun v50 =>
 x_ld (some 4) v50 h44 fun v51 =>
 x_call cl 193 [v51] h44 fun v52 h52 =>
 x_un .not v52 fun v53 =>
 J49 v50 v51 v52 v53 h52) (fun J49 => J49 aud aud aud aud h44))) (fun J40 =>
 x_fa 6 v24 fun v41 =>
 x_ld (some 2) v41 h34 fun v42 =>
 x_call cl 192 [v42] h34 fun v43 h43 =>
 x_un .not v43 fun v44 =>
 J40 v41 v42 v43 v44 h43) (fun J40 => J40 aud aud aud aud h34))) (fun J30 =>
 x_fa 3 v24 fun v31 =>
 x_ld (some 3) v31 h26 fun v32 =>
 x_call cl 191 [v32] h26 fun v33 h33 =>
 x_un .not v33 fun v34 =>
 J30 v31 v32 v33 v34 h33) (fun J30 => J30 aud aud aud aud h26)))
 (fun J22 => J22 v8 v9 v10 v21 h20)
 (fun J22 => x_fa 0 v10 fun v23 =>
 x_ld none v23 h20 fun v24 =>
 x_neq v24 (I 2) fun v25 =>
 x_grp true v25 (fun (v26 v27 v28 : AV) (h29 : KH) =>
 x_pick v25 v28 (.bool false) fun v30 =>
 x_grp true v30 (fun (v31 v32 v33 v34 : AV) (h35 : KH) =>
 x_pick v30 v34 (.bool false) fun v36 =>
 J22 v8 v9 v10 v36 h35) (fun J31 =>
 x_fa 2 v10 fun v32 =>
 x_ld none v32 h29 fun v33 =>
 x_len v33 fun v34 =>
 x_bin .gtr v34 (I 0) fun v35 =>
 J31 v32 v33 v34 v35 h29) (fun J31 => J31 aud aud aud aud h29)) (fun J26 =>
 x_fa 0 v10 fun v27 =>
 x_ld none v27 h20 fun v28 =>
 x_neq v28 (I 4) fun v29 =>
 J26 v27 v28 v29 h20) (fun J26 => J26 aud aud aud h20))) (fun J16 =>
 x_fa 1 v10 fun v17 =>
 x_ld none v17 h12 fun v18 =>
 x_len v18 fun v19 =>
 x_bin .gtr v19 (I 0) fun v20 =>
 J16 v17 v18 v19 v20 h12) (fun J16 => J16 aud aud aud aud h12)))
 (fun J8 => J8 v1 v2 v3 v7 h6)
 (fun J8 => x_fa 1 v3 fun v9 =>
 x_ld none v9 h6 fun v10 =>
 x_call cl 190 [v10,v1] h6 fun v11 h11 =>
 x_un .not v11 fun v12 =>
 x_if0 v12
 (J8 v1 v2 v3 v12 h11)
 (x_fa 2 v3 fun v13 =>
 x_ld none v13 h11 fun v14 =>
 x_call cl 190 [v14,v1] h11 fun v15 h15 =>
 x_un .not v15 fun v16 =>
 J8 v1 v2 v3 v16 h15)))
def H132 : Hints := []
theorem S132 : SoundF Tryz.prog 132 F132 := kfun_of (fn := Tryz.f132) (n := 139) (np := 3) (hs := H132) (q := [.tmp 6]) (t := (.s .l (.s (.i (.s (.s .l (.j [1,2,3,8] .l (.s .l (.i .l .l)))) (.i (.s .l .l) (.s (.s .l (.j [1,2,3,23] .l .l)) (.i (.s .l .l) (.s (.s .l (.j [1,2,3,47] .l (.s .l (.i .l .l)))) (.i (.s .l .l) (.s .l (.i (.s .l .l) .l)))))))) .l) (.s (.s .l (.i (.s .l (.i (.s .l .l) (.s .l (.i (.s .l .l) (.s .l (.i (.s .l .l) (.s .l (.i (.s .l (.s .l .l)) .l)))))))) .l)) (.s .l .l))))) mix2 (by kernel_rfl) (by kernel_rfl) (by kernel_rfl) (by kernel_rfl) (by kernel_rfl) (by kernel_rfl) (by kernel_rfl) (by kernel_rfl)
noncomputable def F159 : GF := fun cl ar h => x_arg ar fun v0 ar => x_ar0 ar (
 x_bx v0 h fun v1 h1 =>
 x_ld (some 33) v1 h1 fun v2 =>
 x_call cl 258 [v2] h1 fun v3 h3 =>
 x_un .not v3 fun v4 =>
 x_if0 v4
 (.ret (I 1) h3)
 (x_fa 0 v1 fun v5 =>
 x_ld none v5 h3 fun v6 =>
 x_eql v6 (I 6) fun v7 =>
 x_if0 v7
 (x_fa 9 v1 fun v8 =>
 x_ld (some 3) v8 h3 fun v9 =>
 x_call cl 259 [v9] h3 fun v10 h10 =>
 .ret v10 h10)
 (x_eql v6 (I 8) fun v8 =>
 x_if0 v8
 (x_fa 16 v1 fun v9 =>
 x_ld (some 5) v9 h3 fun v10 =>
 x_call cl 196 [v10] h3 fun v11 h11 =>
 .ret v11 h11)
 (x_eql v6 (I 9) fun v9 =>
 x_if v9 (fun (h10 : KH) =>
 .ret (I 0) h10)
 (fun J10 => x_fa 21 v1 fun v11 =>
 x_ld none v11 h3 fun v12 =>
 x_call cl 260 [v12] h3 fun v13 h13 =>
 x_neq v13 (I 0) fun v14 =>
 x_if0 v14
 (.ret v13 h13)
 (x_fa 22 v1 fun v15 =>
 x_ld none v15 h13 fun v16 =>
 x_len v16 fun v17 =>
 x_fa 21 v1 fun v18 =>
 x_ld none v18 h13 fun v19 =>
 x_len v19 fun v20 =>
 x_neq v17 v20 fun v21 =>
 x_if0 v21
 (.ret (I 1) h13)
 (J10 h13)))
 (fun J10 => x_eql v6 (I 10) fun v11 =>
 x_if0 v11
 (x_fa 23 v1 fun v12 =>
 x_fa 0 v12 fun v13 =>
 x_ld none v13 h3 fun v14 =>
 x_eql v14 (I 1) fun v15 =>
 x_if0 v15
 (x_fa 23 v1 fun v16 =>
 x_fa 6 v16 fun v17 =>
 x_ld none v17 h3 fun v18 =>
 x_call cl 109 [v18] h3 fun v19 h19 =>
 x_ext 0 v19 fun v20 =>
 x_ext 1 v19 fun v21 =>
 x_nw [.nils,.nils,.nils] p0 h19 fun v22 h22 =>
 x_st 3 v22 v20 h22 fun h23 =>
 .ret v21 h23)
 (J10 h3))
 (J10 h3))))))
def H159 : Hints := []
theorem S159 : SoundF Tryz.prog 159 F159 := kfun_of (fn := Tryz.f159) (n := 50) (np := 1) (hs := H159) (q := [.tmp 2]) (t := (.s .l (.s (.s .l (.i (.s .l .l) .l)) (.s (.s .l (.i (.s .l (.i (.s .l .l) (.s .l (.i (.s .l .l) (.s .l (.j [] (.s (.s .l (.s .l (.i (.s .l .l) .l))) (.s .l (.i (.s .l .l) .l))) (.s .l (.i (.s .l (.i (.s .l (.s .l .l)) .l)) .l)))))))) .l)) (.s .l .l))))) mix2 (by kernel_rfl) (by kernel_rfl) (by kernel_rfl) (by kernel_rfl) (by kernel_rfl) (by kernel_rfl) (by kernel_rfl) (by kernel_rfl)
noncomputable def F160 : GF := fun cl ar h => x_arg ar fun v0 ar => x_ar0 ar (
 x_bx v0 h fun v1 h1 =>
 x_fa 1 v1 fun v2 =>
 x_ld none v2 h1 fun v3 =>
 x_len v3 fun v4 =>
 x_mks 1 [(.bool false)] v4 v4 h1 fun v5 h5 =>
 x_fa 0 v1 fun v6 =>
 x_ld none v6 h5 fun v7 =>
 x_len v7 fun v8 =>
 x_mks 1 [(.bool false)] v8 v8 h5 fun v9 h9 =>
 x_call cl 261 [v5,(I 0)] h9 fun v10 h10 =>
 x_bsl [(I 0)] 1 [.mk 0 1 (I 0)] h10 fun v11 h11 =>
 x_loop (jbad [1,3,4,5,6]) (fun J12 => (fun (v13 v14 v15 v16 v17 : AV) (h18 : KH) =>
 x_len v17 fun v19 =>
 x_bin .gtr v19 (I 0) fun v20 =>
 x_if0 v20
 (x_ixS 1 v17 (I 0) fun v21 =>
 x_ld none v21 h18 fun v22 =>
 x_pu (.sliceS 1 (.cst v17) (some (.cst (I 1))) none none) fun v23 =>
 x_fa 1 v13 fun v24 =>
 x_ld none v24 h18 fun v25 =>
 x_ixS 1 v25 v22 fun v26 =>
 x_ld none v26 h18 fun v27 =>
 x_len v27 fun v28 =>
 x_loop (jbad [1,3,4,5,6,36,37,38]) (fun J29 => (fun (v30 v31 v32 v33 v34 v35 v36 v37 : AV) (h38 : KH) =>
 x_lss v37 v36 fun v39 =>
 x_if0 v39
 (x_ixS 1 v35 v37 fun v40 =>
 x_ld none v40 h38 fun v41 =>
 x_cl cl v33 [v32,v41] h38 fun v42 h42 =>
 x_un .not v42 fun v43 =>
 x_if0 v43
 (.ret (.bool false) h42)
 (x_fa 0 v30 fun v44 =>
 x_ld none v44 h42 fun v45 =>
 x_ixS 33 v45 v41 fun v46 =>
 x_fa 31 v46 fun v47 =>
 x_ld none v47 h42 fun v48 =>
 x_fa 0 v30 fun v49 =>
 x_ld none v49 h42 fun v50 =>
 x_ixS 33 v50 v41 fun v51 =>
 x_fa 32 v51 fun v52 =>
 x_ld none v52 h42 fun v53 =>
 x_bsl [(I 0),(I 0)] 2 [.mk 0 1 v48,.mk 1 1 v53] h42 fun v54 h54 =>
 x_len v54 fun v55 =>
 x_loop (jbad [1,3,4,5,6,36,37,38,59,60,61]) (fun J56 => (fun (v57 v58 v59 v60 v61 v62 v63 v64 v65 v66 v67 : AV) (h68 : KH) =>
 x_lss v67 v66 fun v69 =>
 x_if0 v69
 (x_blk (fun (v70 v71 v72 v73 v74 v75 v76 v77 v78 v79 v80 : AV) (h81 : KH) =>
 x_add v80 (I 1) fun v82 =>
 J56 v70 v71 v72 v73 v74 v75 v76 v77 v78 v79 v82 h81) fun J70 =>
 x_ixS 1 v65 v67 fun v71 =>
 x_ld none v71 h68 fun v72 =>
 x_eql v72 (.int .i64 (-1)) fun v73 =>
 x_if0 v73
 (J70 v57 v58 v59 v60 v61 v62 v63 v64 v65 v66 v67 h68)
 (x_cl cl v60 [v58,v72] h68 fun v74 h74 =>
 x_un .not v74 fun v75 =>
 x_if0 v75
 (.ret (.bool false) h74)
 (x_bsl [(I 0)] 1 [.mk 0 1 v72] h74 fun v76 h76 =>
 x_app 1 8 v61 v76 h76 fun v77 h77 =>
 J70 v57 v58 v59 v60 v77 v62 v63 v64 v65 v66 v67 h77)))
 (x_add v64 (I 1) fun v70 =>
 J29 v57 v58 v59 v60 v61 v62 v63 v70 h68))) v30 v31 v32 v33 v34 v35 v36 v37 v54 v55 (I 0) h54))
 (J12 v30 v31 v32 v33 v34 h38))) v13 v14 v15 v16 v23 v27 v28 (I 0) h18)
 (x_call cl 262 [v14,(.bool false)] h18 fun v21 h21 =>
 x_un .not v21 fun v22 =>
 x_grp true v22 (fun (v23 v24 v25 : AV) (h26 : KH) =>
 x_pick v22 v25 (.bool false) fun v27 =>
 .ret v27 h26) (fun J23 =>
 x_call cl 262 [v15,(.bool false)] h21 fun v24 h24 =>
 x_un .not v24 fun v25 =>
 J23 v15 v24 v25 h24) (fun J23 => J23 aud aud aud h21)))) v1 v5 v9 (.fn (.func 261) [] []) v11 h11)
def H160 : Hints := [(1,[(0,0,[],false),(1,1,[],false),(2,3,[],false),(3,7,[],false),(4,0,[],false),(5,16,[],false),(6,48,[],false),(7,112,[],false),(8,15,[],false),(9,511,[],false)]),(13,[(0,0,[],false),(1,1,[],false),(2,0,[],false),(3,7,[],false),(4,15,[],false),(5,31,[],false),(6,0,[],false),(7,64,[],false),(8,0,[],false),(9,448,[],false),(10,960,[],false),(11,1984,[],false),(12,4095,[],false),(13,8191,[],false),(14,0,[],false)])]
theorem S160 : SoundF Tryz.prog 160 F160 := kfun_of (fn := Tryz.f160) (n := 86) (np := 1) (hs := H160) (q := [.tmp 2]) (t := (.s .l (.s .l (.s .l (.s .l (.s .l (.s (.i (.j [1,3,4,5,6] (.s (.s .l (.i .l .l)) (.i (.s .l (.s .l (.s .l (.i (.j [1,3,4,5,6,36,37,38] (.s .l (.s (.i .l .l) (.s (.i (.s .l (.s (.s .l (.i (.s .l .l) .l)) (.s .l (.i (.j [1,3,4,5,6,36,37,38,59,60,61] (.s .l (.s (.i .l .l) (.s (.j [1,3,4,5,6,36,37,38,59,60,61] (.s .l (.s (.s .l (.i .l .l)) (.s (.s .l (.i (.s .l .l) .l)) .l))) .l) .l))) .l) .l)))) .l) .l))) .l) .l)))) .l)) .l) .l) (.s .l .l)))))))) mix2 (by kernel_rfl) (by kernel_rfl) (by kernel_rfl) (by kernel_rfl) (by kernel_rfl) (by kernel_rfl) (by kernel_rfl) (by kernel_rfl)
noncomputable def F162 : GF := fun cl ar h => x_arg ar fun v0 ar => x_arg ar fun v1 ar => x_arg ar fun v2 ar => x_arg ar fun v3 ar => x_arg ar fun v4 ar => x_arg ar fun v5 ar => x_arg ar fun v6 ar => x_ar0 ar (
 x_bx v1 h fun v7 h7 =>
 x_nw (rpl 17 (.bool false) []) p0 h7 fun v8 h8 =>
 x_fa 0 v3 fun v9 =>
 x_ld none v9 h8 fun v10 =>
 x_ixS 33 v10 v0 fun v11 =>
 x_ld (some 33) v11 h8 fun v12 =>
 x_nw (rpl 7 (I 0) (.nils :: ((.bool false) :: ((I 0) :: (rpl 2 .nils (rpl 4 (N .u64 0) (rpl 4 (I 0) ((.bool false) :: (rpl 2 .nils ((I 0) :: ((.bool false) :: (rpl 4 (I 0) (.nils :: ((.str []) :: (rpl 2 (I 0) []))))))))))))))) p0 h8 fun v13 h13 =>
 x_st 33 v13 v12 h13 fun h14 =>
 x_fa 0 v4 fun v15 =>
 x_ld none v15 h14 fun v16 =>
 x_fa 0 v7 fun v17 =>
 x_ld none v17 h14 fun v18 =>
 x_ixS 1 v16 v0 fun v19 =>
 x_st 1 v19 v18 h14 fun h20 =>
 x_fa 0 v13 fun v21 =>
 x_ld none v21 h20 fun v22 =>
 x_eql v22 (I 12) fun v23 =>
 x_grp true v23 (fun (v24 v25 : AV) (h26 : KH) =>
 x_pick v23 v25 (.bool false) fun v27 =>
 x_if v27 (fun (v28 v29 v30 v31 v32 : AV) (h33 : KH) =>
 x_fa 0 v32 fun v34 =>
 x_ld none v34 h33 fun v35 =>
 x_eql v35 (I 10) fun v36 =>
 x_if0 v36
 (x_ld none v29 h33 fun v37 =>
 x_fa 31 v32 fun v38 =>
 x_ld none v38 h33 fun v39 =>
 x_ld (some 17) v30 h33 fun v40 =>
 x_cl cl v37 [v39,v40,v28] h33 fun v41 h41 =>
 x_nw (rpl 17 (.bool false) []) p0 h41 fun v42 h42 =>
 x_st 17 v42 v41 h42 fun h43 =>
 x_ld (some 17) v42 h43 fun v44 =>
 x_ld none v29 h43 fun v45 =>
 x_fa 32 v32 fun v46 =>
 x_ld none v46 h43 fun v47 =>
 x_ld (some 17) v30 h43 fun v48 =>
 x_cl cl v45 [v47,v48,v28] h43 fun v49 h49 =>
 x_chk (cond (koEq (kload (some 17) v42 h49) v44) true false) (x_call cl 163 [v44,v49] h49 fun v50 h50 =>
 x_chk true (x_st 17 v31 v50 h50 fun h51 =>
 x_chk true (x_ld (some 17) v31 h51 fun v52 =>
 .ret v52 h51))))
 (x_eql v35 (I 11) fun v37 =>
 x_if0 v37
 (x_nw [(.bool false)] p0 h33 fun v38 h38 =>
 x_st 1 v38 (.bool false) h38 fun h39 =>
 x_ld none v29 h39 fun v40 =>
 x_fa 31 v32 fun v41 =>
 x_ld none v41 h39 fun v42 =>
 x_ld (some 17) v30 h39 fun v43 =>
 x_cl cl v40 [v42,v43,v38] h39 fun v44 h44 =>
 x_ld none v38 h44 fun v45 =>
 x_fa 1 v30 fun v46 =>
 x_ld (some 16) v46 h44 fun v47 =>
 x_bld (rpl 17 (.bool false) []) [.mk 0 1 v45,.mk 1 16 v47] fun v48 =>
 x_st 17 v31 v48 h44 fun h49 =>
 x_ld (some 17) v31 h49 fun v50 =>
 .ret v50 h49)
 (x_eql v35 (I 12) fun v38 =>
 x_if0 v38
 (x_pu (.eq true .ptr (.cst v28) (.cst .nilp)) fun v39 =>
 x_grp true v39 (fun (v40 v41 : AV) (h42 : KH) =>
 x_pick v39 v41 (.bool false) fun v43 =>
 x_if v43 (fun (v44 : AV) (h45 : KH) =>
 x_bld (rpl 17 (.bool false) []) [] fun v46 =>
 x_st 17 v44 v46 h45 fun h47 =>
 x_ld (some 17) v44 h47 fun v48 =>
 .ret v48 h47)
 (fun J44 => x_nc v28 fun v45 =>
 x_st 1 v45 (.bool true) h42 fun h46 =>
 J44 v31 h46)
 (fun J44 => J44 v31 h42)) (fun J40 =>
 x_fa 0 v30 fun v41 =>
 x_ld none v41 h33 fun v42 =>
 J40 v41 v42 h33) (fun J40 => J40 aud aud h33))
 (x_eql v35 (I 14) fun v39 =>
 x_if v39 (fun (v40 v41 v42 v43 v44 v45 : AV) (h46 : KH) =>
 x_if0 v45
 (x_bld (rpl 17 (.bool false) []) [] fun v47 =>
 x_st 17 v43 v47 h46 fun h48 =>
 x_ld (some 17) v43 h48 fun v49 =>
 .ret v49 h48)
 (x_ld (some 33) v44 h46 fun v47 =>
 x_call cl 100 [v47] h46 fun v48 h48 =>
 x_ext 0 v48 fun v49 =>
 x_ext 1 v48 fun v50 =>
 x_nw (rpl 16 (.bool false) []) p0 h48 fun v51 h51 =>
 x_st 16 v51 v49 h51 fun h52 =>
 x_fa 0 v42 fun v53 =>
 x_ld none v53 h52 fun v54 =>
 x_fa 1 v42 fun v55 =>
 x_ld (some 16) v55 h52 fun v56 =>
 x_ld (some 16) v51 h52 fun v57 =>
 x_nw (rpl 17 (.bool false) []) p0 h52 fun v58 h58 =>
 x_call cl 101 [v56,v57] h58 fun v59 h59 =>
 x_chk (cond (knwc h52.nx (rpl 17 (.bool false) []) h59) (cond (koEq (kload none v53 h59) v54) true false) false) (x_bld (rpl 17 (.bool false) []) [.mk 0 1 v54,.mk 1 16 v59] fun v60 =>
 x_st 17 v58 v60 h59 fun h61 =>
 x_chk true (x_if0 v50
 (x_ld (some 17) v58 h61 fun v62 =>
 x_ld none v41 h61 fun v63 =>
 x_fa 32 v44 fun v64 =>
 x_ld none v64 h61 fun v65 =>
 x_ld (some 17) v42 h61 fun v66 =>
 x_cl cl v63 [v65,v66,v40] h61 fun v67 h67 =>
 x_chk (cond (koEq (kload (some 17) v58 h67) v62) true false) (x_call cl 163 [v62,v67] h67 fun v68 h68 =>
 x_chk true (x_st 17 v43 v68 h68 fun h69 =>
 x_chk true (x_ld (some 17) v43 h69 fun v70 =>
 .ret v70 h69))))
 (x_ld none v41 h61 fun v62 =>
 x_fa 32 v44 fun v63 =>
 x_ld none v63 h61 fun v64 =>
 x_fa 1 v42 fun v65 =>
 x_ld (some 16) v65 h61 fun v66 =>
 x_bld (rpl 17 (.bool false) []) [.mk 0 1 (.bool false),.mk 1 16 v66] fun v67 =>
 x_cl cl v62 [v64,v67,v40] h61 fun v68 h68 =>
 x_ld (some 17) v58 h68 fun v69 =>
 x_st 17 v43 v69 h68 fun h70 =>
 x_ld (some 17) v43 h70 fun v71 =>
 .ret v71 h70)))))
 (fun J40 => J40 v28 v29 v30 v31 v32 v39 h33)
 (fun J40 => x_eql v35 (I 15) fun v41 =>
 J40 v28 v29 v30 v31 v32 v41 h33)))))
 (fun J28 => x_ld none v5 h26 fun v29 =>
 x_cl cl v29 [v0,(I 171)] h26 fun v30 h30 =>
 J28 v2 v6 v7 v8 v13 h30)
 (fun J28 => x_fa 0 v7 fun v29 =>
 x_ld none v29 h26 fun v30 =>
 x_G3 true v30 h26 (fun v31 c31 h31 =>
 x_G3 true v30 h31 (fun v32 c32 h32 =>
 x_G3 true v30 h32 (fun v33 c33 h33 =>
 x_G3 true v30 h33 (fun v34 c34 h34 =>
 x_G3 true v30 h34 (fun v35 c35 h35 =>
 x_G3 true v30 h35 (fun v36 c36 h36 =>
 x_G3 true v30 h36 (fun v37 c37 h37 =>
 x_G3 true v30 h37 (fun v38 c38 h38 =>
 x_pick v30 v38 (.bool false) fun v39 =>
 x_if0 v39
 (x_ld none v5 h38 fun v40 =>
 x_cl cl v40 [v0,(I 170)] h38 fun v41 h41 =>
 J28 v2 v6 v7 v8 v13 h41)
 (J28 v2 v6 v7 v8 v13 h38)) (fun J38 =>
 x_pu (.eq true (.wide (true,[.b,.b,.b,.b,.b,.b,.b,.b,.b,.b,.b,.b,.b,.b,.b,.b])) (.cst v37) (.cst v35)) fun v39 =>
 J38 v39 (fun h => ktt h) h37)) (fun J37 =>
 x_call cl 101 [v32,v36] h36 fun v38 h38 =>
 x_chk (cond (c35 h38) true false) (J37 v38 (fun h => ktt h) h38))) (fun J36 =>
 x_call cl 102 [v33] h35 fun v37 h37 =>
 x_chk (cond (c35 h37) (cond (c32 h37) true false) false) (J36 v37 (fun h => ktt h) h37))) (fun J35 =>
 x_ld (some 16) v34 h34 fun v36 =>
 J35 v36 (fun h => koEq (kload (some 16) v34 h) v36) h34)) (fun J34 =>
 x_fa 1 v7 fun v35 =>
 J34 v35 (fun h => ktt h) h33)) (fun J33 =>
 x_ld (some 33) v13 h32 fun v34 =>
 J33 v34 (fun h => koEq (kload (some 33) v13 h) v34) h32)) (fun J32 =>
 x_ld (some 16) v31 h31 fun v33 =>
 J32 v33 (fun h => koEq (kload (some 16) v31 h) v33) h31)) (fun J31 =>
 x_fa 1 v7 fun v32 =>
 J31 v32 (fun h => ktt h) h26))) (fun J24 =>
 x_pu (.eq false .ptr (.cst v2) (.cst .nilp)) fun v25 =>
 J24 v2 v25 h20) (fun J24 => J24 aud aud h20))
def H162 : Hints := [(5,[(0,0,[],false),(1,1,[],false),(2,3,[],false),(3,7,[],false),(4,15,[],false),(5,7,[],false),(8,7,[],false),(9,263,[],false),(6,39,[4,9],true),(7,127,[9],true),(10,1023,[],false),(11,2047,[],false)]),(10,[(0,0,[],false),(1,0,[],false),(2,0,[],false),(3,4,[],false),(4,0,[],false),(5,0,[],false),(6,62,[0],true),(7,127,[],true),(8,255,[],true)]),(23,[(0,0,[],false),(1,1,[],false),(2,0,[],false),(3,4,[],false),(4,0,[],false),(7,0,[],false),(5,28,[1,7],true),(6,63,[],false),(8,255,[],true)]),(25,[(0,0,[],false),(1,0,[],false),(2,0,[],false),(3,4,[],false),(4,0,[],false),(5,0,[],false),(6,62,[0],true),(7,127,[],true),(8,255,[],true)])]
theorem S162 : SoundF Tryz.prog 162 F162 := kfun_of (fn := Tryz.f162) (n := 127) (np := 7) (hs := H162) (q := [.cell 10 (some 17)]) (t := (.s .l (.s .l (.s .l (.s (.s .l (.j [2,6,8,10,11] .l (.s .l (.i .l .l)))) (.s (.s .l (.i (.s .l (.i (.s .l (.s .l .l)) (.s .l (.i (.s .l (.s .l (.s .l .l))) (.s .l (.i (.s (.s .l (.j [10] .l .l)) (.s .l .l)) (.s (.s .l (.j [2,6,8,10,11,93] .l .l)) (.i (.s .l .l) .l)))))))) .l)) (.s .l (.s .l (.s (.s .l (.i (.s .l .l) .l)) (.s .l (.s .l .l))))))))))) mix2 (by kernel_rfl) (by kernel_rfl) (by kernel_rfl) (by kernel_rfl) (by kernel_rfl) (by kernel_rfl) (by kernel_rfl) (by kernel_rfl)
noncomputable def F164 : GF := fun cl ar h => x_arg ar fun v0 ar => x_arg ar fun v1 ar => x_arg ar fun v2 ar => x_arg ar fun v3 ar => x_arg ar fun v4 ar => x_ar0 ar (
 x_bx v1 h fun v5 h5 =>
 x_nw (rpl 17 (.bool false) []) p0 h5 fun v6 h6 =>
 x_lss v0 (I 0) fun v7 =>
 x_if0 v7
 (x_ld (some 17) v5 h6 fun v8 =>
 x_st 17 v6 v8 h6 fun h9 =>
 x_ld (some 17) v6 h9 fun v10 =>
 .ret v10 h9)
 (x_fa 1 v3 fun v8 =>
 x_ld none v8 h6 fun v9 =>
 x_ixS 1 v9 v0 fun v10 =>
 x_ld none v10 h6 fun v11 =>
 x_len v11 fun v12 =>
 x_loop (jbad [2,4,6,8,18,19,20]) (fun J13 => (fun (v14 v15 v16 v17 v18 v19 v20 : AV) (h21 : KH) =>
 x_lss v20 v19 fun v22 =>
 x_if0 v22
 (x_ixS 1 v18 v20 fun v23 =>
 x_ld none v23 h21 fun v24 =>
 x_ld none v15 h21 fun v25 =>
 x_ld (some 17) v16 h21 fun v26 =>
 x_cl cl v25 [v24,v26,v14] h21 fun v27 h27 =>
 x_st 17 v16 v27 h27 fun h28 =>
 x_add v20 (I 1) fun v29 =>
 J13 v14 v15 v16 v17 v18 v19 v29 h28)
 (x_ld (some 17) v16 h21 fun v23 =>
 x_st 17 v17 v23 h21 fun h24 =>
 x_ld (some 17) v17 h24 fun v25 =>
 .ret v25 h24))) v2 v4 v5 v6 v11 v12 (I 0) h6))
def H164 : Hints := []
theorem S164 : SoundF Tryz.prog 164 F164 := kfun_of (fn := Tryz.f164) (n := 31) (np := 5) (hs := H164) (q := [.cell 8 (some 17)]) (t := (.s .l (.s (.s .l (.i (.s .l .l) .l)) (.s (.s .l (.i (.j [2,4,6,8,18,19,20] (.s .l (.s (.i .l .l) (.s (.i (.s .l .l) .l) .l))) .l) .l)) (.s .l .l))))) mix2 (by kernel_rfl) (by kernel_rfl) (by kernel_rfl) (by kernel_rfl) (by kernel_rfl) (by kernel_rfl) (by kernel_rfl) (by kernel_rfl)
noncomputable def F165 : GF := fun cl ar h => x_arg ar fun v0 ar => x_arg ar fun v1 ar => x_arg ar fun v2 ar => x_arg ar fun v3 ar => x_ar0 ar (
 x_loop (jbad [0,1,2,3,8,9]) (fun J4 => (fun (v5 v6 v7 v8 v9 v10 : AV) (h11 : KH) =>
 x_bin .sub v7 v6 fun v12 =>
 x_leq v12 (I 12) fun v13 =>
 x_if0 v13
 (x_call cl 264 [v5,v6,v7] h11 fun v14 h14 =>
 .ret (.tup []) h14)
 (x_eql v8 (I 0) fun v14 =>
 x_if0 v14
 (x_call cl 265 [v5,v6,v7] h11 fun v15 h15 =>
 .ret (.tup []) h15)
 (x_un .not v9 fun v15 =>
 x_if v15 (fun (v16 v17 v18 v19 v20 v21 v22 : AV) (h23 : KH) =>
 x_call cl 267 [v16,v17,v18] h23 fun v24 h24 =>
 x_ext 0 v24 fun v25 =>
 x_ext 1 v24 fun v26 =>
 x_eql v26 (I 2) fun v27 =>
 x_if v27 (fun (v28 v29 v30 v31 v32 v33 v34 v35 v36 : AV) (h37 : KH) =>
 x_grp true v32 (fun (v38 : AV) (h39 : KH) =>
 x_pick v32 v38 (.bool false) fun v40 =>
 x_grp true v40 (fun (v41 v42 : AV) (h43 : KH) =>
 x_pick v40 v42 (.bool false) fun v44 =>
 x_if v44 (fun (v45 v46 v47 v48 v49 v50 v51 v52 : AV) (h53 : KH) =>
 x_bin .gtr v46 (I 0) fun v54 =>
 x_grp true v54 (fun (v55 v56 v57 v58 v59 v60 v61 v62 v63 v64 v65 : AV) (h66 : KH) =>
 x_pick v54 v65 (.bool false) fun v67 =>
 x_if0 v67
 (x_call cl 271 [v45,v46,v47,v52] h66 fun v68 h68 =>
 J4 v45 v68 v47 v48 v49 v50 h68)
 (x_call cl 272 [v45,v46,v47,v52] h66 fun v68 h68 =>
 x_ext 0 v68 fun v69 =>
 x_ext 1 v68 fun v70 =>
 x_bin .sub v69 v46 fun v71 =>
 x_bin .sub v47 v69 fun v72 =>
 x_bin .quo v51 (I 8) fun v73 =>
 x_lss v71 v72 fun v74 =>
 x_if0 v74
 (x_bin .geq v71 v73 fun v75 =>
 x_call cl 165 [v45,v46,v69,v48] h68 fun v76 h76 =>
 x_add v69 (I 1) fun v77 =>
 J4 v45 v77 v47 v48 v75 v70 h76)
 (x_bin .geq v72 v73 fun v75 =>
 x_add v69 (I 1) fun v76 =>
 x_call cl 165 [v45,v76,v47,v48] h68 fun v77 h77 =>
 J4 v45 v46 v69 v48 v75 v70 h77))) (fun J55 =>
 x_bin .sub v46 (I 1) fun v56 =>
 x_ixS 1 v45 v56 fun v57 =>
 x_ld none v57 h53 fun v58 =>
 x_ixS 1 v45 v52 fun v59 =>
 x_ld none v59 h53 fun v60 =>
 x_call cl 270 [v58,v60] h53 fun v61 h61 =>
 x_un .not v61 fun v62 =>
 J55 v45 v46 v56 v57 v58 v45 v52 v59 v60 v61 v62 h61) (fun J55 => J55 aud aud aud aud aud aud aud aud aud aud aud h53))
 (fun J45 => x_call cl 269 [v28,v29,v30] h43 fun v46 h46 =>
 x_if0 v46
 (.ret (.tup []) h46)
 (J45 v28 v29 v30 v31 v32 v33 v34 v35 h46))
 (fun J45 => J45 v28 v29 v30 v31 v32 v33 v34 v35 h43)) (fun J41 =>
 x_eql v36 (I 1) fun v42 =>
 J41 v36 v42 h39) (fun J41 => J41 aud aud h39)) (fun J38 =>
 J38 v33 h37) (fun J38 => J38 aud h37))
 (fun J28 => x_call cl 268 [v16,v17,v18] h24 fun v29 h29 =>
 x_bin .sub v18 (I 1) fun v30 =>
 x_bin .sub v25 v17 fun v31 =>
 x_bin .sub v30 v31 fun v32 =>
 J28 v16 v17 v18 v19 v20 v21 v22 v32 (I 1) h29)
 (fun J28 => J28 v16 v17 v18 v19 v20 v21 v22 v25 v26 h24))
 (fun J16 => x_call cl 266 [v5,v6,v7] h11 fun v17 h17 =>
 x_bin .sub v8 (I 1) fun v18 =>
 J16 v5 v6 v7 v18 v9 v10 v12 h17)
 (fun J16 => J16 v5 v6 v7 v8 v9 v10 v12 h11))))) v0 v1 v2 v3 (.bool true) (.bool true) h)
def H165 : Hints := [(17,[(0,0,[],false),(1,1,[],false),(2,3,[],false),(3,7,[],false),(4,7,[],false),(5,23,[],false),(6,63,[],false),(7,127,[],false),(8,7,[],false),(9,7,[],false),(10,775,[],false),(11,1799,[],false),(12,4095,[],true),(13,8191,[],false),(14,16383,[],false)])]
theorem S165 : SoundF Tryz.prog 165 F165 := kfun_of (fn := Tryz.f165) (n := 134) (np := 4) (hs := H165) (q := []) (t := (.s .l (.s .l (.i (.j [0,1,2,3,8,9] (.i (.s .l (.s (.s .l (.i (.s .l .l) .l)) (.s (.s .l (.i (.s .l .l) .l)) (.s (.s .l (.j [0,1,2,3,8,9,10] (.s .l .l) .l)) (.s .l (.s (.s .l (.j [0,1,2,3,8,9,10,11,12] (.s .l (.s .l .l)) .l)) (.s (.s .l (.j [0,1,2,3,8,9,10,11] (.s .l (.i .l .l)) .l)) (.s (.s .l (.i (.s .l (.s .l .l)) .l)) (.s .l (.s .l (.s .l (.s .l (.s .l (.i (.s .l (.s .l .l)) (.s .l (.s .l .l)))))))))))))))) .l) .l) .l)))) mix2 (by kernel_rfl) (by kernel_rfl) (by kernel_rfl) (by kernel_rfl) (by kernel_rfl) (by kernel_rfl) (by kernel_rfl) (by kernel_rfl)
end Go.Proofs.YtlopgbdfdfijoaaGreatDoor.San
