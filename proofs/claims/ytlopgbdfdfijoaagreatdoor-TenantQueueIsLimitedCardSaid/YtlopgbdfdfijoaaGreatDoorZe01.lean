import Derived.Test.YtlopgbdfdfijoaaGreatDoorZb03
import Derived.Test.YtlopgbdfdfijoaaGreatDoorProg
/-
  printed functions for the kernel.
-/
set_option linter.unusedSectionVars false
set_option linter.unusedVariables false
set_option linter.unusedSimpArgs false
namespace Go.Proofs.YtlopgbdfdfijoaaGreatDoor.San
open Go Go.AL
theorem mix1 : Tryz.prog.follows .mixedOrders = true := by kernel_rfl
variable [GLC]
def H62 : Hints := []
theorem A62 : ∀ all H,all.length = 2 → ADef Tryz.prog 62 all none H fun H' => H' = H := adef_none (fn := Tryz.f62) (n := 16) (hs := H62) (ra := 5) (rb := 2) (rc := 6) (rd := 7) mix1 (by kernel_rfl) (by kernel_rfl) (by kernel_rfl) (by kernel_rfl) (by kernel_rfl) (by kernel_rfl) (by kernel_rfl) (by kernel_rfl) (by kernel_rfl)
noncomputable def F8 : GF := fun cl ar h => x_arg ar fun v0 ar => x_ar0 ar (
 x_nw [.nils,.nils] p0 h fun v1 h1 =>
 x_bld (rpl 7 (I 0) (.nils :: ((.bool false) :: ((I 0) :: (rpl 2 .nils (rpl 4 (N .u64 0) (rpl 4 (I 0) ((.bool false) :: (rpl 2 .nils ((I 0) :: ((.bool false) :: (rpl 4 (I 0) (.nils :: ((.str []) :: (rpl 2 (I 0) []))))))))))))))) [.mk 0 1 (I 13),.mk 30 1 (.str [120])] fun v2 =>
 x_nw (rpl 7 (I 0) (.nils :: ((.bool false) :: ((I 0) :: (rpl 2 .nils (rpl 4 (N .u64 0) (rpl 4 (I 0) ((.bool false) :: (rpl 2 .nils ((I 0) :: ((.bool false) :: (rpl 4 (I 0) (.nils :: ((.str []) :: (rpl 2 (I 0) []))))))))))))))) p0 h1 fun v3 h3 =>
 x_st 33 v3 v2 h3 fun h4 =>
 x_bld (rpl 7 (I 0) (.nils :: ((.bool false) :: ((I 0) :: (rpl 2 .nils (rpl 4 (N .u64 0) (rpl 4 (I 0) ((.bool false) :: (rpl 2 .nils ((I 0) :: ((.bool false) :: (rpl 4 (I 0) (.nils :: ((.str []) :: (rpl 2 (I 0) []))))))))))))))) [.mk 0 1 (I 13),.mk 30 1 (.str [120]),.mk 1 1 (I 1)] fun v5 =>
 x_nw (rpl 7 (I 0) (.nils :: ((.bool false) :: ((I 0) :: (rpl 2 .nils (rpl 4 (N .u64 0) (rpl 4 (I 0) ((.bool false) :: (rpl 2 .nils ((I 0) :: ((.bool false) :: (rpl 4 (I 0) (.nils :: ((.str []) :: (rpl 2 (I 0) []))))))))))))))) p0 h4 fun v6 h6 =>
 x_st 33 v6 v5 h6 fun h7 =>
 x_bld (rpl 7 (I 0) (.nils :: ((.bool false) :: ((I 0) :: (rpl 2 .nils (rpl 4 (N .u64 0) (rpl 4 (I 0) ((.bool false) :: (rpl 2 .nils ((I 0) :: ((.bool false) :: (rpl 4 (I 0) (.nils :: ((.str []) :: (rpl 2 (I 0) []))))))))))))))) [.mk 0 1 (I 13),.mk 30 1 (.str [121]),.mk 1 1 (I 2)] fun v8 =>
 x_nw (rpl 7 (I 0) (.nils :: ((.bool false) :: ((I 0) :: (rpl 2 .nils (rpl 4 (N .u64 0) (rpl 4 (I 0) ((.bool false) :: (rpl 2 .nils ((I 0) :: ((.bool false) :: (rpl 4 (I 0) (.nils :: ((.str []) :: (rpl 2 (I 0) []))))))))))))))) p0 h7 fun v9 h9 =>
 x_st 33 v9 v8 h9 fun h10 =>
 x_bsl [(N .u8 0)] 1 [.mk 0 1 (N .u8 97)] h10 fun v11 h11 =>
 x_bld (rpl 7 (I 0) (.nils :: ((.bool false) :: ((I 0) :: (rpl 2 .nils (rpl 4 (N .u64 0) (rpl 4 (I 0) ((.bool false) :: (rpl 2 .nils ((I 0) :: ((.bool false) :: (rpl 4 (I 0) (.nils :: ((.str []) :: (rpl 2 (I 0) []))))))))))))))) [.mk 0 1 (I 3),.mk 2 1 (I 1),.mk 3 1 (I 2),.mk 7 1 v11] fun v12 =>
 x_nw (rpl 7 (I 0) (.nils :: ((.bool false) :: ((I 0) :: (rpl 2 .nils (rpl 4 (N .u64 0) (rpl 4 (I 0) ((.bool false) :: (rpl 2 .nils ((I 0) :: ((.bool false) :: (rpl 4 (I 0) (.nils :: ((.str []) :: (rpl 2 (I 0) []))))))))))))))) p0 h11 fun v13 h13 =>
 x_st 33 v13 v12 h13 fun h14 =>
 x_ld (some 33) v13 h14 fun v15 =>
 x_nw (rpl 7 (I 0) (.nils :: ((.bool false) :: ((I 0) :: (rpl 2 .nils (rpl 4 (N .u64 0) (rpl 4 (I 0) ((.bool false) :: (rpl 2 .nils ((I 0) :: ((.bool false) :: (rpl 4 (I 0) (.nils :: ((.str []) :: (rpl 2 (I 0) []))))))))))))))) p0 h14 fun v16 h16 =>
 x_st 33 v16 v15 h16 fun h17 =>
 x_fa 8 v16 fun v18 =>
 x_st 1 v18 (.bool true) h17 fun h19 =>
 x_bin .rem v0 (N .u8 14) fun v20 =>
 x_eql v20 (N .u8 0) fun v21 =>
 x_if0 v21
 (x_ld (some 33) v3 h19 fun v22 =>
 x_bsl (rpl 7 (I 0) (.nils :: ((.bool false) :: ((I 0) :: (rpl 2 .nils (rpl 4 (N .u64 0) (rpl 4 (I 0) ((.bool false) :: (rpl 2 .nils ((I 0) :: ((.bool false) :: (rpl 4 (I 0) (.nils :: ((.str []) :: (rpl 2 (I 0) []))))))))))))))) 1 [.mk 0 33 v22] h19 fun v23 h23 =>
 x_call cl 19 [v23] h23 fun v24 h24 =>
 x_st 2 v1 v24 h24 fun h25 =>
 x_ld (some 2) v1 h25 fun v26 =>
 .ret v26 h25)
 (x_eql v20 (N .u8 1) fun v22 =>
 x_if0 v22
 (x_ld (some 33) v13 h19 fun v23 =>
 x_ld (some 33) v6 h19 fun v24 =>
 x_ld (some 33) v9 h19 fun v25 =>
 x_bsl (rpl 7 (I 0) (.nils :: ((.bool false) :: ((I 0) :: (rpl 2 .nils (rpl 4 (N .u64 0) (rpl 4 (I 0) ((.bool false) :: (rpl 2 .nils ((I 0) :: ((.bool false) :: (rpl 4 (I 0) (.nils :: ((.str []) :: (rpl 9 (I 0) (.nils :: ((.bool false) :: ((I 0) :: (rpl 2 .nils (rpl 4 (N .u64 0) (rpl 4 (I 0) ((.bool false) :: (rpl 2 .nils ((I 0) :: ((.bool false) :: (rpl 4 (I 0) (.nils :: ((.str []) :: (rpl 9 (I 0) (.nils :: ((.bool false) :: ((I 0) :: (rpl 2 .nils (rpl 4 (N .u64 0) (rpl 4 (I 0) ((.bool false) :: (rpl 2 .nils ((I 0) :: ((.bool false) :: (rpl 4 (I 0) (.nils :: ((.str []) :: (rpl 2 (I 0) []))))))))))))))))))))))))))))))))))))))))))) 3 [.mk 0 33 v23,.mk 33 33 v24,.mk 66 33 v25] h19 fun v26 h26 =>
 x_call cl 20 [v26] h26 fun v27 h27 =>
 x_st 2 v1 v27 h27 fun h28 =>
 x_ld (some 2) v1 h28 fun v29 =>
 .ret v29 h28)
 (x_eql v20 (N .u8 2) fun v23 =>
 x_if0 v23
 (x_ld (some 33) v16 h19 fun v24 =>
 x_ld (some 33) v6 h19 fun v25 =>
 x_ld (some 33) v9 h19 fun v26 =>
 x_bsl (rpl 7 (I 0) (.nils :: ((.bool false) :: ((I 0) :: (rpl 2 .nils (rpl 4 (N .u64 0) (rpl 4 (I 0) ((.bool false) :: (rpl 2 .nils ((I 0) :: ((.bool false) :: (rpl 4 (I 0) (.nils :: ((.str []) :: (rpl 9 (I 0) (.nils :: ((.bool false) :: ((I 0) :: (rpl 2 .nils (rpl 4 (N .u64 0) (rpl 4 (I 0) ((.bool false) :: (rpl 2 .nils ((I 0) :: ((.bool false) :: (rpl 4 (I 0) (.nils :: ((.str []) :: (rpl 9 (I 0) (.nils :: ((.bool false) :: ((I 0) :: (rpl 2 .nils (rpl 4 (N .u64 0) (rpl 4 (I 0) ((.bool false) :: (rpl 2 .nils ((I 0) :: ((.bool false) :: (rpl 4 (I 0) (.nils :: ((.str []) :: (rpl 2 (I 0) []))))))))))))))))))))))))))))))))))))))))))) 3 [.mk 0 33 v24,.mk 33 33 v25,.mk 66 33 v26] h19 fun v27 h27 =>
 x_call cl 20 [v27] h27 fun v28 h28 =>
 x_st 2 v1 v28 h28 fun h29 =>
 x_ld (some 2) v1 h29 fun v30 =>
 .ret v30 h29)
 (x_eql v20 (N .u8 3) fun v24 =>
 x_if0 v24
 (x_ld (some 33) v6 h19 fun v25 =>
 x_call cl 21 [(I 1)] h19 fun v26 h26 =>
 x_chk (cond (koEq (kload (some 33) v6 h26) v25) true false) (x_bld (rpl 7 (I 0) (.nils :: ((.bool false) :: ((I 0) :: (rpl 2 .nils (rpl 4 (N .u64 0) (rpl 4 (I 0) ((.bool false) :: (rpl 2 .nils ((I 0) :: ((.bool false) :: (rpl 4 (I 0) (.nils :: ((.str []) :: (rpl 2 (I 0) []))))))))))))))) [.mk 0 1 (I 7),.mk 2 1 (I 1),.mk 12 4 v26] fun v27 =>
 x_bs (rpl 7 (I 0) (.nils :: ((.bool false) :: ((I 0) :: (rpl 2 .nils (rpl 4 (N .u64 0) (rpl 4 (I 0) ((.bool false) :: (rpl 2 .nils ((I 0) :: ((.bool false) :: (rpl 4 (I 0) (.nils :: ((.str []) :: (rpl 9 (I 0) (.nils :: ((.bool false) :: ((I 0) :: (rpl 2 .nils (rpl 4 (N .u64 0) (rpl 4 (I 0) ((.bool false) :: (rpl 2 .nils ((I 0) :: ((.bool false) :: (rpl 4 (I 0) (.nils :: ((.str []) :: (rpl 2 (I 0) []))))))))))))))))))))))))))))) 2 [.mk 0 33 v27,.mk 33 33 v25] fun c28 g28 =>  x_nw c28 g28 h26 fun v28 h28 =>
 x_call cl 19 [v28] h28 fun v29 h29 =>
 x_chk true (x_st 2 v1 v29 h29 fun h30 =>
 x_chk true (x_ld (some 2) v1 h30 fun v31 =>
 .ret v31 h30))))
 (x_eql v20 (N .u8 4) fun v25 =>
 x_if0 v25
 (x_ld (some 33) v6 h19 fun v26 =>
 x_call cl 22 [(I 2)] h19 fun v27 h27 =>
 x_chk (cond (koEq (kload (some 33) v6 h27) v26) true false) (x_bld (rpl 7 (I 0) (.nils :: ((.bool false) :: ((I 0) :: (rpl 2 .nils (rpl 4 (N .u64 0) (rpl 4 (I 0) ((.bool false) :: (rpl 2 .nils ((I 0) :: ((.bool false) :: (rpl 4 (I 0) (.nils :: ((.str []) :: (rpl 2 (I 0) []))))))))))))))) [.mk 0 1 (I 6),.mk 2 1 (I 1),.mk 9 3 v27] fun v28 =>
 x_bs (rpl 7 (I 0) (.nils :: ((.bool false) :: ((I 0) :: (rpl 2 .nils (rpl 4 (N .u64 0) (rpl 4 (I 0) ((.bool false) :: (rpl 2 .nils ((I 0) :: ((.bool false) :: (rpl 4 (I 0) (.nils :: ((.str []) :: (rpl 9 (I 0) (.nils :: ((.bool false) :: ((I 0) :: (rpl 2 .nils (rpl 4 (N .u64 0) (rpl 4 (I 0) ((.bool false) :: (rpl 2 .nils ((I 0) :: ((.bool false) :: (rpl 4 (I 0) (.nils :: ((.str []) :: (rpl 2 (I 0) []))))))))))))))))))))))))))))) 2 [.mk 0 33 v28,.mk 33 33 v26] fun c29 g29 =>  x_nw c29 g29 h27 fun v29 h29 =>
 x_call cl 19 [v29] h29 fun v30 h30 =>
 x_chk true (x_st 2 v1 v30 h30 fun h31 =>
 x_chk true (x_ld (some 2) v1 h31 fun v32 =>
 .ret v32 h31))))
 (x_eql v20 (N .u8 5) fun v26 =>
 x_if0 v26
 (x_ld (some 33) v6 h19 fun v27 =>
 x_call cl 22 [(I 3)] h19 fun v28 h28 =>
 x_chk (cond (koEq (kload (some 33) v6 h28) v27) true false) (x_bld (rpl 7 (I 0) (.nils :: ((.bool false) :: ((I 0) :: (rpl 2 .nils (rpl 4 (N .u64 0) (rpl 4 (I 0) ((.bool false) :: (rpl 2 .nils ((I 0) :: ((.bool false) :: (rpl 4 (I 0) (.nils :: ((.str []) :: (rpl 2 (I 0) []))))))))))))))) [.mk 0 1 (I 6),.mk 2 1 (I 1),.mk 9 3 v28] fun v29 =>
 x_bs (rpl 7 (I 0) (.nils :: ((.bool false) :: ((I 0) :: (rpl 2 .nils (rpl 4 (N .u64 0) (rpl 4 (I 0) ((.bool false) :: (rpl 2 .nils ((I 0) :: ((.bool false) :: (rpl 4 (I 0) (.nils :: ((.str []) :: (rpl 9 (I 0) (.nils :: ((.bool false) :: ((I 0) :: (rpl 2 .nils (rpl 4 (N .u64 0) (rpl 4 (I 0) ((.bool false) :: (rpl 2 .nils ((I 0) :: ((.bool false) :: (rpl 4 (I 0) (.nils :: ((.str []) :: (rpl 2 (I 0) []))))))))))))))))))))))))))))) 2 [.mk 0 33 v29,.mk 33 33 v27] fun c30 g30 =>  x_nw c30 g30 h28 fun v30 h30 =>
 x_call cl 19 [v30] h30 fun v31 h31 =>
 x_chk true (x_st 2 v1 v31 h31 fun h32 =>
 x_chk true (x_ld (some 2) v1 h32 fun v33 =>
 .ret v33 h32))))
 (x_eql v20 (N .u8 6) fun v27 =>
 x_if0 v27
 (x_call cl 24 [(I 0)] h19 fun v28 h28 =>
 x_bld ((I 0) :: ((.bool false) :: (rpl 4 (I 0) (.nils :: [])))) [.mk 0 1 (I 1),.mk 6 1 v28] fun v29 =>
 x_call cl 23 [v29] h28 fun v30 h30 =>
 x_st 2 v1 v30 h30 fun h31 =>
 x_ld (some 2) v1 h31 fun v32 =>
 .ret v32 h31)
 (x_eql v20 (N .u8 7) fun v28 =>
 x_if0 v28
 (x_bld (rpl 7 (I 0) (.nils :: ((.bool false) :: ((I 0) :: (rpl 2 .nils (rpl 4 (N .u64 0) (rpl 4 (I 0) ((.bool false) :: (rpl 2 .nils ((I 0) :: ((.bool false) :: (rpl 4 (I 0) (.nils :: ((.str []) :: (rpl 2 (I 0) []))))))))))))))) [.mk 0 1 (I 4),.mk 2 1 (I 1),.mk 5 1 (I 0),.mk 6 1 (I 1)] fun v29 =>
 x_ld (some 33) v6 h19 fun v30 =>
 x_bsl (rpl 7 (I 0) (.nils :: ((.bool false) :: ((I 0) :: (rpl 2 .nils (rpl 4 (N .u64 0) (rpl 4 (I 0) ((.bool false) :: (rpl 2 .nils ((I 0) :: ((.bool false) :: (rpl 4 (I 0) (.nils :: ((.str []) :: (rpl 9 (I 0) (.nils :: ((.bool false) :: ((I 0) :: (rpl 2 .nils (rpl 4 (N .u64 0) (rpl 4 (I 0) ((.bool false) :: (rpl 2 .nils ((I 0) :: ((.bool false) :: (rpl 4 (I 0) (.nils :: ((.str []) :: (rpl 2 (I 0) []))))))))))))))))))))))))))))) 2 [.mk 0 33 v29,.mk 33 33 v30] h19 fun v31 h31 =>
 x_call cl 19 [v31] h31 fun v32 h32 =>
 x_st 2 v1 v32 h32 fun h33 =>
 x_ld (some 2) v1 h33 fun v34 =>
 .ret v34 h33)
 (x_eql v20 (N .u8 8) fun v29 =>
 x_if0 v29
 (x_bld (rpl 7 (I 0) (.nils :: ((.bool false) :: ((I 0) :: (rpl 2 .nils (rpl 4 (N .u64 0) (rpl 4 (I 0) ((.bool false) :: (rpl 2 .nils ((I 0) :: ((.bool false) :: (rpl 4 (I 0) (.nils :: ((.str []) :: (rpl 2 (I 0) []))))))))))))))) [.mk 0 1 (I 4),.mk 2 1 (I 1),.mk 5 1 (I 1),.mk 6 1 (.int .i64 (-1))] fun v30 =>
 x_ld (some 33) v6 h19 fun v31 =>
 x_bsl (rpl 7 (I 0) (.nils :: ((.bool false) :: ((I 0) :: (rpl 2 .nils (rpl 4 (N .u64 0) (rpl 4 (I 0) ((.bool false) :: (rpl 2 .nils ((I 0) :: ((.bool false) :: (rpl 4 (I 0) (.nils :: ((.str []) :: (rpl 9 (I 0) (.nils :: ((.bool false) :: ((I 0) :: (rpl 2 .nils (rpl 4 (N .u64 0) (rpl 4 (I 0) ((.bool false) :: (rpl 2 .nils ((I 0) :: ((.bool false) :: (rpl 4 (I 0) (.nils :: ((.str []) :: (rpl 2 (I 0) []))))))))))))))))))))))))))))) 2 [.mk 0 33 v30,.mk 33 33 v31] h19 fun v32 h32 =>
 x_call cl 19 [v32] h32 fun v33 h33 =>
 x_st 2 v1 v33 h33 fun h34 =>
 x_ld (some 2) v1 h34 fun v35 =>
 .ret v35 h34)
 (x_eql v20 (N .u8 9) fun v30 =>
 x_if0 v30
 (x_call cl 25 [] h19 fun v31 h31 =>
 x_st 2 v1 v31 h31 fun h32 =>
 x_ld (some 2) v1 h32 fun v33 =>
 .ret v33 h32)
 (x_eql v20 (N .u8 10) fun v31 =>
 x_if0 v31
 (x_bs [(I 0),(I 0)] 2 [.mk 0 1 (I 1),.mk 1 1 (I 2)] fun c32 g32 =>  x_nw c32 g32 h19 fun v32 h32 =>
 x_ld (some 33) v6 h32 fun v33 =>
 x_call cl 24 [(I 0)] h32 fun v34 h34 =>
 x_chk (cond (koEq (kload (some 33) v6 h34) v33) (cond (knwc h19.nx c32 h34) true false) false) (x_bld [.nils,(.bool false)] [.mk 0 1 v34] fun v35 =>
 x_call cl 26 [] h34 fun v36 h36 =>
 x_chk (cond (koEq (kload (some 33) v6 h36) v33) (cond (knwc h19.nx c32 h36) true false) false) (x_bld [.nils,(.bool false)] [.mk 0 1 v36] fun v37 =>
 x_bs [.nils,(.bool false),.nils,(.bool false)] 2 [.mk 0 2 v35,.mk 2 2 v37] fun c38 g38 =>  x_nw c38 g38 h36 fun v38 h38 =>
 x_bld (rpl 7 (I 0) (.nils :: ((.bool false) :: ((I 0) :: (rpl 2 .nils (rpl 4 (N .u64 0) (rpl 4 (I 0) ((.bool false) :: (rpl 2 .nils ((I 0) :: ((.bool false) :: (rpl 4 (I 0) (.nils :: ((.str []) :: (rpl 2 (I 0) []))))))))))))))) [.mk 0 1 (I 9),.mk 21 1 v38,.mk 22 1 v32] fun v39 =>
 x_bs (rpl 7 (I 0) (.nils :: ((.bool false) :: ((I 0) :: (rpl 2 .nils (rpl 4 (N .u64 0) (rpl 4 (I 0) ((.bool false) :: (rpl 2 .nils ((I 0) :: ((.bool false) :: (rpl 4 (I 0) (.nils :: ((.str []) :: (rpl 9 (I 0) (.nils :: ((.bool false) :: ((I 0) :: (rpl 2 .nils (rpl 4 (N .u64 0) (rpl 4 (I 0) ((.bool false) :: (rpl 2 .nils ((I 0) :: ((.bool false) :: (rpl 4 (I 0) (.nils :: ((.str []) :: (rpl 2 (I 0) []))))))))))))))))))))))))))))) 2 [.mk 0 33 v39,.mk 33 33 v33] fun c40 g40 =>  x_nw c40 g40 h38 fun v40 h40 =>
 x_call cl 20 [v40] h40 fun v41 h41 =>
 x_chk true (x_st 2 v1 v41 h41 fun h42 =>
 x_chk true (x_ld (some 2) v1 h42 fun v43 =>
 .ret v43 h42)))))
 (x_eql v20 (N .u8 11) fun v32 =>
 x_if0 v32
 (x_bs [(I 0),(I 0)] 2 [.mk 0 1 (I 1),.mk 1 1 (I 2)] fun c33 g33 =>  x_nw c33 g33 h19 fun v33 h33 =>
 x_ld (some 33) v6 h33 fun v34 =>
 x_call cl 26 [] h33 fun v35 h35 =>
 x_chk (cond (koEq (kload (some 33) v6 h35) v34) (cond (knwc h19.nx c33 h35) true false) false) (x_bld [.nils,(.bool false)] [.mk 0 1 v35,.mk 1 1 (.bool true)] fun v36 =>
 x_call cl 21 [(I 2)] h35 fun v37 h37 =>
 x_chk (cond (koEq (kload (some 33) v6 h37) v34) (cond (knwc h19.nx c33 h37) true false) false) (x_call cl 27 [v37,(I 0)] h37 fun v38 h38 =>
 x_chk (cond (koEq (kload (some 33) v6 h38) v34) (cond (knwc h19.nx c33 h38) true false) false) (x_bld [.nils,(.bool false)] [.mk 0 1 v38] fun v39 =>
 x_bs [.nils,(.bool false),.nils,(.bool false)] 2 [.mk 0 2 v36,.mk 2 2 v39] fun c40 g40 =>  x_nw c40 g40 h38 fun v40 h40 =>
 x_bld (rpl 7 (I 0) (.nils :: ((.bool false) :: ((I 0) :: (rpl 2 .nils (rpl 4 (N .u64 0) (rpl 4 (I 0) ((.bool false) :: (rpl 2 .nils ((I 0) :: ((.bool false) :: (rpl 4 (I 0) (.nils :: ((.str []) :: (rpl 2 (I 0) []))))))))))))))) [.mk 0 1 (I 9),.mk 21 1 v40,.mk 22 1 v33] fun v41 =>
 x_bs (rpl 7 (I 0) (.nils :: ((.bool false) :: ((I 0) :: (rpl 2 .nils (rpl 4 (N .u64 0) (rpl 4 (I 0) ((.bool false) :: (rpl 2 .nils ((I 0) :: ((.bool false) :: (rpl 4 (I 0) (.nils :: ((.str []) :: (rpl 9 (I 0) (.nils :: ((.bool false) :: ((I 0) :: (rpl 2 .nils (rpl 4 (N .u64 0) (rpl 4 (I 0) ((.bool false) :: (rpl 2 .nils ((I 0) :: ((.bool false) :: (rpl 4 (I 0) (.nils :: ((.str []) :: (rpl 2 (I 0) []))))))))))))))))))))))))))))) 2 [.mk 0 33 v41,.mk 33 33 v34] fun c42 g42 =>  x_nw c42 g42 h40 fun v42 h42 =>
 x_call cl 20 [v42] h42 fun v43 h43 =>
 x_chk true (x_st 2 v1 v43 h43 fun h44 =>
 x_chk true (x_ld (some 2) v1 h44 fun v45 =>
 .ret v45 h44))))))
 (x_eql v20 (N .u8 12) fun v33 =>
 x_if0 v33
 (x_bld ((I 0) :: ((.bool false) :: (rpl 4 (I 0) (.nils :: [])))) [.mk 0 1 (I 3),.mk 5 1 (I 2)] fun v34 =>
 x_call cl 23 [v34] h19 fun v35 h35 =>
 x_st 2 v1 v35 h35 fun h36 =>
 x_ld (some 2) v1 h36 fun v37 =>
 .ret v37 h36)
 (x_bld (rpl 4 (I 0) ((.bool false) :: [])) [.mk 0 1 (I 16),.mk 1 1 (I 2),.mk 2 1 (I 11),.mk 3 1 (I 2)] fun v34 =>
 x_bld (rpl 7 (I 0) (.nils :: ((.bool false) :: ((I 0) :: (rpl 2 .nils (rpl 4 (N .u64 0) (rpl 4 (I 0) ((.bool false) :: (rpl 2 .nils ((I 0) :: ((.bool false) :: (rpl 4 (I 0) (.nils :: ((.str []) :: (rpl 2 (I 0) []))))))))))))))) [.mk 0 1 (I 8),.mk 16 5 v34] fun v35 =>
 x_ld (some 33) v3 h19 fun v36 =>
 x_bsl (rpl 7 (I 0) (.nils :: ((.bool false) :: ((I 0) :: (rpl 2 .nils (rpl 4 (N .u64 0) (rpl 4 (I 0) ((.bool false) :: (rpl 2 .nils ((I 0) :: ((.bool false) :: (rpl 4 (I 0) (.nils :: ((.str []) :: (rpl 9 (I 0) (.nils :: ((.bool false) :: ((I 0) :: (rpl 2 .nils (rpl 4 (N .u64 0) (rpl 4 (I 0) ((.bool false) :: (rpl 2 .nils ((I 0) :: ((.bool false) :: (rpl 4 (I 0) (.nils :: ((.str []) :: (rpl 2 (I 0) []))))))))))))))))))))))))))))) 2 [.mk 0 33 v35,.mk 33 33 v36] h19 fun v37 h37 =>
 x_call cl 20 [v37] h37 fun v38 h38 =>
 x_st 2 v1 v38 h38 fun h39 =>
 x_ld (some 2) v1 h39 fun v40 =>
 .ret v40 h39))))))))))))))
def H8 : Hints := [(15,[(2,0,[],false),(0,0,[2],true),(1,1,[],false),(3,7,[],false),(4,15,[],true),(5,31,[],true)]),(17,[(2,0,[],false),(0,0,[2],true),(1,1,[],false),(3,7,[],false),(4,15,[],true),(5,31,[],true)]),(19,[(2,0,[],false),(0,0,[2],true),(1,1,[],false),(3,7,[],false),(4,15,[],true),(5,31,[],true)]),(29,[(5,0,[],false),(7,0,[],false),(0,0,[5,7],true),(1,1,[],false),(2,1,[5,7],true),(3,5,[],false),(4,15,[],false),(6,63,[],false),(8,255,[],false),(9,511,[],true),(10,1023,[],true)]),(31,[(6,0,[],false),(8,0,[],false),(0,0,[6,8],true),(1,1,[],false),(2,1,[6,8],true),(3,5,[6,8],true),(4,13,[],false),(5,31,[],false),(7,127,[],false),(9,511,[],false),(10,1023,[],true),(11,2047,[],true)])]
theorem S8 : SoundF Tryz.prog 8 F8 := kfun_of (fn := Tryz.f8) (n := 111) (np := 1) (hs := H8) (q := [.cell 2 (some 2)]) (t := (.s .l (.s .l (.s .l (.s .l (.s .l (.s .l (.s .l (.s (.s .l (.i (.s .l (.i (.s .l .l) (.s .l (.i (.s .l .l) (.s .l (.i (.s .l .l) (.s .l (.i (.s .l .l) (.s .l (.i (.s .l .l) (.s .l (.i (.s .l .l) (.s .l (.i (.s .l .l) (.s .l (.i (.s .l .l) (.s .l (.i (.s .l .l) (.s .l (.i (.s .l .l) (.s .l (.i (.s .l .l) (.s .l (.i (.s .l .l) (.s .l (.i (.s .l .l) .l)))))))))))))))))))))))))) .l)) (.s .l .l)))))))))) mix1 (by kernel_rfl) (by kernel_rfl) (by kernel_rfl) (by kernel_rfl) (by kernel_rfl) (by kernel_rfl) (by kernel_rfl) (by kernel_rfl)
noncomputable def F9 : GF := fun cl ar h => x_arg ar fun v0 ar => x_ar0 ar (
 x_bx v0 h fun v1 h1 =>
 x_fa 0 v1 fun v2 =>
 x_ld (some 2) v2 h1 fun v3 =>
 x_fa 4 v1 fun v4 =>
 x_ld (some 2) v4 h1 fun v5 =>
 x_call cl 28 [v3,v5] h1 fun v6 h6 =>
 x_ext 0 v6 fun v7 =>
 x_ext 1 v6 fun v8 =>
 x_neq v8 (I 0) fun v9 =>
 x_if0 v9
 (.ret (.tup [(I 0),v8]) h6)
 (x_fa 2 v1 fun v10 =>
 x_ld (some 2) v10 h6 fun v11 =>
 x_fa 4 v1 fun v12 =>
 x_ld (some 2) v12 h6 fun v13 =>
 x_call cl 28 [v11,v13] h6 fun v14 h14 =>
 x_ext 0 v14 fun v15 =>
 x_ext 1 v14 fun v16 =>
 x_neq v16 (I 0) fun v17 =>
 x_if0 v17
 (.ret (.tup [(I 0),v16]) h14)
 (x_len v7 fun v18 =>
 x_loop (jbad [1,6,7,36,37]) (fun J19 => (fun (v20 v21 v22 v23 v24 : AV) (h25 : KH) =>
 x_lss v24 v23 fun v26 =>
 x_if0 v26
 (x_len v21 fun v27 =>
 x_loop (jbad [1,6,7,8,36,37,41,42]) (fun J28 => (fun (v29 v30 v31 v32 v33 v34 v35 v36 : AV) (h37 : KH) =>
 x_lss v36 v35 fun v38 =>
 x_if0 v38
 (x_ld (some 6) v29 h37 fun v39 =>
 x_call cl 29 [v39,v32,v36] h37 fun v40 h40 =>
 x_ext 0 v40 fun v41 =>
 x_ext 1 v40 fun v42 =>
 x_neq v42 (I 0) fun v43 =>
 x_if0 v43
 (.ret (.tup [(I 0),v42]) h40)
 (x_len v41 fun v44 =>
 x_add v31 v44 fun v45 =>
 x_add v36 (I 1) fun v46 =>
 J28 v29 v30 v45 v32 v33 v34 v35 v46 h40))
 (x_add v34 (I 1) fun v39 =>
 J19 v29 v30 v31 v33 v39 h37))) v20 v21 v22 v24 v23 v24 v27 (I 0) h25)
 (x_mul (I 262144) v22 fun v27 =>
 x_fa 4 v20 fun v28 =>
 x_ld (some 2) v28 h25 fun v29 =>
 x_call cl 30 [v29] h25 fun v30 h30 =>
 x_add v27 v30 fun v31 =>
 x_bin .gtr v31 (I 1073741824) fun v32 =>
 x_if0 v32
 (.ret (.tup [(I 0),(I 2)]) h30)
 (.ret (.tup [v31,(I 0)]) h30)))) v1 v15 (I 0) v18 (I 0) h14)))
def H9 : Hints := []
theorem S9 : SoundF Tryz.prog 9 F9 := kfun_of (fn := Tryz.f9) (n := 70) (np := 1) (hs := H9) (q := [.tmp 2,.tmp 3]) (t := (.s .l (.s .l (.s (.s .l (.i (.s .l .l) .l)) (.s .l (.s (.s .l (.i (.s .l .l) .l)) (.s .l (.s (.s .l (.i (.j [1,6,7,36,37] (.s .l (.s (.i .l .l) (.s (.i (.s .l (.s .l (.i (.j [1,6,7,8,36,37,41,42] (.s .l (.s (.i .l .l) (.s (.i (.s .l (.s .l (.s (.s .l (.i (.s .l .l) .l)) .l))) .l) .l))) .l) .l))) .l) .l))) .l) .l)) (.s .l (.s (.s .l (.i (.s .l .l) .l)) (.s .l .l))))))))))) mix1 (by kernel_rfl) (by kernel_rfl) (by kernel_rfl) (by kernel_rfl) (by kernel_rfl) (by kernel_rfl) (by kernel_rfl) (by kernel_rfl)
noncomputable def F10 : GF := fun cl ar h => x_arg ar fun v0 ar => x_ar0 ar (
 x_pu (.eq false .slice (.cst v0) (.cst .nils)) fun v1 =>
 x_if0 v1
 (.ret .nils h)
 (x_bsl [] 0 [] h fun v2 h2 =>
 x_app 1 8 v2 v0 h2 fun v3 h3 =>
 .ret v3 h3))
def H10 : Hints := []
theorem S10 : SoundF Tryz.prog 10 F10 := kfun_of (fn := Tryz.f10) (n := 8) (np := 1) (hs := H10) (q := [.tmp 2]) (t := (.s .l (.s (.s .l (.i (.s .l .l) .l)) (.s .l .l)))) mix1 (by kernel_rfl) (by kernel_rfl) (by kernel_rfl) (by kernel_rfl) (by kernel_rfl) (by kernel_rfl) (by kernel_rfl) (by kernel_rfl)
noncomputable def F19 : GF := fun cl ar h => x_arg ar fun v0 ar => x_ar0 ar (
 x_nw [.nils,.nils] p0 h fun v1 h1 =>
 x_bsl [] 0 [] h1 fun v2 h2 =>
 x_bsl [.nils] 1 [.mk 0 1 v2] h2 fun v3 h3 =>
 x_bld [.nils,.nils] [.mk 1 1 v3] fun v4 =>
 x_nw [.nils,.nils] p0 h3 fun v5 h5 =>
 x_st 2 v5 v4 h5 fun h6 =>
 x_loop (jbad [0,2,3,4]) (fun J7 => (fun (v8 v9 v10 v11 : AV) (h12 : KH) =>
 x_len v8 fun v13 =>
 x_lss v11 v13 fun v14 =>
 x_if0 v14
 (x_ixS 33 v8 v11 fun v15 =>
 x_fa 31 v15 fun v16 =>
 x_st 1 v16 (.int .i64 (-1)) h12 fun h17 =>
 x_ixS 33 v8 v11 fun v18 =>
 x_fa 32 v18 fun v19 =>
 x_st 1 v19 (.int .i64 (-1)) h17 fun h20 =>
 x_fa 0 v10 fun v21 =>
 x_ld none v21 h20 fun v22 =>
 x_ixS 33 v8 v11 fun v23 =>
 x_ld (some 33) v23 h20 fun v24 =>
 x_bsl (rpl 7 (I 0) (.nils :: ((.bool false) :: ((I 0) :: (rpl 2 .nils (rpl 4 (N .u64 0) (rpl 4 (I 0) ((.bool false) :: (rpl 2 .nils ((I 0) :: ((.bool false) :: (rpl 4 (I 0) (.nils :: ((.str []) :: (rpl 2 (I 0) []))))))))))))))) 1 [.mk 0 33 v24] h20 fun v25 h25 =>
 x_app 33 368 v22 v25 h25 fun v26 h26 =>
 x_fa 0 v10 fun v27 =>
 x_st 1 v27 v26 h26 fun h28 =>
 x_fa 1 v10 fun v29 =>
 x_ld none v29 h28 fun v30 =>
 x_fa 1 v10 fun v31 =>
 x_ld none v31 h28 fun v32 =>
 x_ixS 1 v32 (I 0) fun v33 =>
 x_ld none v33 h28 fun v34 =>
 x_bs [(I 0)] 1 [.mk 0 1 v11] fun c35 g35 =>  x_nw c35 g35 h28 fun v35 h35 =>
 x_app 1 8 v34 v35 h35 fun v36 h36 =>
 x_chk (cond (koEq (kload none v29 h36) v30) true false) (x_ixS 1 v30 (I 0) fun v37 =>
 x_st 1 v37 v36 h36 fun h38 =>
 x_chk true (x_add v11 (I 1) fun v39 =>
 J7 v8 v9 v10 v39 h38)))
 (x_ld (some 2) v10 h12 fun v15 =>
 x_st 2 v9 v15 h12 fun h16 =>
 x_ld (some 2) v9 h16 fun v17 =>
 .ret v17 h16))) v0 v1 v5 (I 0) h6)
def H19 : Hints := [(7,[(0,0,[],false),(1,1,[],false),(2,0,[],false),(3,0,[],false),(4,12,[],false),(5,28,[],false),(6,60,[],false),(7,127,[],true),(8,255,[],false),(9,511,[],true)]),(8,[(0,0,[],false),(1,1,[],false),(2,0,[],false),(3,4,[],false),(4,12,[],false),(5,28,[],false),(6,0,[],false),(7,64,[],false),(8,252,[1],true),(9,511,[],false),(10,1023,[],true)])]
theorem S19 : SoundF Tryz.prog 19 F19 := kfun_of (fn := Tryz.f19) (n := 42) (np := 1) (hs := H19) (q := [.cell 2 (some 2)]) (t := (.s .l (.s .l (.s (.s .l (.i (.j [0,2,3,4] (.s (.s .l (.i .l .l)) (.s (.i (.s .l (.s .l (.s .l .l))) .l) .l)) .l) .l)) (.s .l .l))))) mix1 (by kernel_rfl) (by kernel_rfl) (by kernel_rfl) (by kernel_rfl) (by kernel_rfl) (by kernel_rfl) (by kernel_rfl) (by kernel_rfl)
noncomputable def F28 : GF := fun cl ar h => x_arg ar fun v0 ar => x_arg ar fun v1 ar => x_ar0 ar (
 x_bx v0 h fun v2 h2 =>
 x_bx v1 h2 fun v3 h3 =>
 x_ld (some 2) v2 h3 fun v4 =>
 x_ld (some 2) v3 h3 fun v5 =>
 x_call cl 46 [v4,v5,.nils] h3 fun v6 h6 =>
 x_ext 0 v6 fun v7 =>
 x_ext 1 v6 fun v8 =>
 x_neq v8 (I 0) fun v9 =>
 x_if0 v9
 (.ret (.tup [.nils,v8]) h6)
 (x_len v7 fun v10 =>
 x_loop (jbad [8,20,21,22]) (fun J11 => (fun (v12 v13 v14 v15 : AV) (h16 : KH) =>
 x_lss v15 v14 fun v17 =>
 x_if0 v17
 (x_ixS 1 v13 v15 fun v18 =>
 x_ld none v18 h16 fun v19 =>
 x_call cl 47 [v19] h16 fun v20 h20 =>
 x_bsl (rpl 6 .nils ((.bool false) :: ((I 0) :: (rpl 2 .nils [])))) 1 [.mk 0 10 v20] h20 fun v21 h21 =>
 x_app 10 208 v12 v21 h21 fun v22 h22 =>
 x_add v15 (I 1) fun v23 =>
 J11 v22 v13 v14 v23 h22)
 (.ret (.tup [v12,(I 0)]) h16))) .nils v7 v10 (I 0) h6))
def H28 : Hints := []
theorem S28 : SoundF Tryz.prog 28 F28 := kfun_of (fn := Tryz.f28) (n := 33) (np := 2) (hs := H28) (q := [.tmp 4,.tmp 5]) (t := (.s .l (.s .l (.s (.s .l (.i (.s .l .l) .l)) (.s .l (.s (.s .l (.i (.j [8,20,21,22] (.s .l (.s (.i .l .l) (.s (.i (.s .l .l) .l) .l))) .l) .l)) (.s .l .l))))))) mix1 (by kernel_rfl) (by kernel_rfl) (by kernel_rfl) (by kernel_rfl) (by kernel_rfl) (by kernel_rfl) (by kernel_rfl) (by kernel_rfl)
noncomputable def F29 : GF := fun cl ar h => x_arg ar fun v0 ar => x_arg ar fun v1 ar => x_arg ar fun v2 ar => x_ar0 ar (
 x_bx v0 h fun v3 h3 =>
 x_ld (some 6) v3 h3 fun v4 =>
 x_call cl 48 [v4] h3 fun v5 h5 =>
 x_ext 0 v5 fun v6 =>
 x_ext 1 v5 fun v7 =>
 x_ext 2 v5 fun v8 =>
 x_neq v8 (I 0) fun v9 =>
 x_if0 v9
 (.ret (.tup [.nils,v8]) h5)
 (x_lss v1 (I 0) fun v10 =>
 x_grp false v10 (fun (v11 v12 : AV) (h13 : KH) =>
 x_pick v10 (.bool true) v12 fun v14 =>
 x_grp false v14 (fun (v15 v16 v17 v18 : AV) (h19 : KH) =>
 x_pick v14 (.bool true) v18 fun v20 =>
 x_grp false v20 (fun (v21 v22 v23 v24 : AV) (h25 : KH) =>
 x_pick v20 (.bool true) v24 fun v26 =>
 x_if0 v26
 (.ret (.tup [.nils,(I 3)]) h25)
 (x_ixS 10 v6 v1 fun v27 =>
 x_ld (some 10) v27 h25 fun v28 =>
 x_ixS 10 v7 v2 fun v29 =>
 x_ld (some 10) v29 h25 fun v30 =>
 x_call cl 49 [v28,v30] h25 fun v31 h31 =>
 x_ext 0 v31 fun v32 =>
 x_ext 1 v31 fun v33 =>
 .ret (.tup [v32,v33]) h31)) (fun J21 =>
 x_len v7 fun v22 =>
 x_bin .geq v2 v22 fun v23 =>
 J21 v2 v7 v22 v23 h19) (fun J21 => J21 aud aud aud aud h19)) (fun J15 =>
 x_len v6 fun v16 =>
 x_bin .geq v1 v16 fun v17 =>
 J15 v1 v6 v16 v17 h13) (fun J15 => J15 aud aud aud aud h13)) (fun J11 =>
 x_lss v2 (I 0) fun v12 =>
 J11 v2 v12 h5) (fun J11 => J11 aud aud h5)))
def H29 : Hints := [(6,[(0,0,[],false),(1,0,[],false),(2,3,[],false),(3,7,[],false),(4,0,[],false),(5,0,[],false),(6,48,[],false),(7,112,[],false),(8,255,[],true),(9,511,[],false),(10,511,[],false),(11,2047,[],false),(12,4095,[],false)])]
theorem S29 : SoundF Tryz.prog 29 F29 := kfun_of (fn := Tryz.f29) (n := 49) (np := 3) (hs := H29) (q := [.tmp 6,.tmp 7]) (t := (.s .l (.s .l (.s (.s .l (.i (.s .l .l) .l)) (.s (.s .l (.i (.s .l .l) .l)) (.s .l .l)))))) mix1 (by kernel_rfl) (by kernel_rfl) (by kernel_rfl) (by kernel_rfl) (by kernel_rfl) (by kernel_rfl) (by kernel_rfl) (by kernel_rfl)
noncomputable def F30 : GF := fun cl ar h => x_arg ar fun v0 ar => x_ar0 ar (
 x_bx v0 h fun v1 h1 =>
 x_fa 1 v1 fun v2 =>
 x_ld none v2 h1 fun v3 =>
 x_loop (jbad [1,3,4,6,7]) (fun J4 => (fun (v5 v6 v7 v8 v9 : AV) (h10 : KH) =>
 x_lss v9 v8 fun v11 =>
 x_if0 v11
 (x_fa 0 v5 fun v12 =>
 x_ld none v12 h10 fun v13 =>
 x_len v13 fun v14 =>
 x_mul v7 v14 fun v15 =>
 x_add v6 v15 fun v16 =>
 x_add v9 (I 1) fun v17 =>
 J4 v5 v16 v15 v8 v17 h10)
 (.ret v6 h10))) v1 (I 1) (I 1) v3 (I 0) h1)
def H30 : Hints := []
theorem S30 : SoundF Tryz.prog 30 F30 := kfun_of (fn := Tryz.f30) (n := 19) (np := 1) (hs := H30) (q := [.tmp 2]) (t := (.s .l (.s .l (.s (.s .l (.i (.j [1,3,4,6,7] (.s .l (.s (.i .l .l) (.s (.i (.s .l .l) .l) .l))) .l) .l)) (.s .l .l))))) mix1 (by kernel_rfl) (by kernel_rfl) (by kernel_rfl) (by kernel_rfl) (by kernel_rfl) (by kernel_rfl) (by kernel_rfl) (by kernel_rfl)
noncomputable def F34 : GF := fun cl ar h => x_arg ar fun v0 ar => x_arg ar fun v1 ar => x_ar0 ar (
 x_call cl 50 [v0,v1] h fun v2 h2 =>
 x_bin .geq v2 (I 0) fun v3 =>
 .ret v3 h2)
def H34 : Hints := []
theorem S34 : SoundF Tryz.prog 34 F34 := kfun_of (fn := Tryz.f34) (n := 9) (np := 2) (hs := H34) (q := [.tmp 4]) (t := (.s .l (.s .l .l))) mix1 (by kernel_rfl) (by kernel_rfl) (by kernel_rfl) (by kernel_rfl) (by kernel_rfl) (by kernel_rfl) (by kernel_rfl) (by kernel_rfl)
noncomputable def F46 : GF := fun cl ar h => knp (x_arg ar fun v0 ar => x_arg ar fun v1 ar => x_arg ar fun v2 ar => x_ar0 ar (
 x_bx v0 h fun v3 h3 =>
 x_bx v1 h3 fun v4 h4 =>
 x_nw [.nils] p0 h4 fun v5 h5 =>
 x_nw [(I 0)] p0 h5 fun v6 h6 =>
 x_ld (some 2) v3 h6 fun v7 =>
 x_call cl 60 [v7] h6 fun v8 h8 =>
 x_ext 0 v8 fun v9 =>
 x_ext 1 v8 fun v10 =>
 x_nw [(I 0),(I 0),.nils] p0 h8 fun v11 h11 =>
 x_st 3 v11 v9 h11 fun h12 =>
 x_neq v10 (I 0) fun v13 =>
 x_grp false v13 (fun (v14 v15 v16 : AV) (h17 : KH) =>
 x_pick v13 (.bool true) v16 fun v18 =>
 x_if0 v18
 (x_st 1 v5 .nils h17 fun h19 =>
 x_st 1 v6 (I 1) h19 fun h20 =>
 KC.bad)
 (x_ld (some 2) v3 h17 fun v19 =>
 x_bld [.nils,.nils,.nils] [.mk 0 2 v19] fun v20 =>
 x_bx v20 h17 fun v21 h21 =>
 x_fa 0 v4 fun v22 =>
 x_ld none v22 h21 fun v23 =>
 x_call cl 63 [v23] h21 fun v24 h24 =>
 x_bld (rpl 6 .nils ((.bool false) :: ((I 0) :: (rpl 4 .nils ((I 0) :: (.nils :: ((I 0) :: (.nils :: ((I 0) :: (.nils :: ((I 0) :: (.nils :: ((I 0) :: (.nils :: ((I 0) :: (.nils :: ((I 0) :: (.nils :: ((I 0) :: (.nils :: ((I 0) :: (.nils :: ((I 0) :: (.nils :: ((I 0) :: (.nils :: (rpl 5 (I 0) (rpl 4 (N .u64 0) (.nils :: (rpl 2 (.bool false) (rpl 2 .nils []))))))))))))))))))))))))))))))) [.mk 39 4 v24,.mk 45 1 (.bool true)] fun v25 =>
 x_bx v25 h24 fun v26 h26 =>
 x_fa 1 v4 fun v27 =>
 x_ld none v27 h26 fun v28 =>
 x_call cl 64 [v26,v28,v2] h26 fun v29 h29 =>
 x_nw [(I 0),(N .u8 0)] p0 h29 fun v30 h30 =>
 x_st 2 v30 v29 h30 fun h31 =>
 x_ld (some 2) v30 h31 fun v32 =>
 x_bs [(I 0),(N .u8 0)] 1 [.mk 0 2 v32] fun c33 g33 =>  x_nw c33 g33 h31 fun v33 h33 =>
 x_nc v26 fun v34 =>
 x_fa 39 v34 fun v35 =>
 x_ld (some 4) v35 h33 fun v36 =>
 x_call cl 67 [v36] h33 fun v37 h37 =>
 x_chk (cond (knwc h31.nx c33 h37) (cond (koEq (kload (some 2) v30 h37) v32) true false) false) (x_add v37 (.str [42]) fun v38 =>
 x_call cl 66 [v38] h37 fun v39 h39 =>
 x_chk (cond (knwc h31.nx c33 h39) (cond (koEq (kload (some 2) v30 h39) v32) true false) false) (x_call cl 65 [v26,v33,v39,(.bool false)] h39 fun v40 h40 =>
 x_chk true (x_ld (some 2) v30 h40 fun v41 =>
 x_call cl 68 [v26,(I 0),v41] h40 fun v42 h42 =>
 x_call cl 70 [v26,(I 0)] h42 fun v43 h43 =>
 x_call cl 69 [v21,v43] h43 fun v44 h44 =>
 x_nc v21 fun v45 =>
 x_fa 2 v45 fun v46 =>
 x_ld none v46 h44 fun v47 =>
 x_len v47 fun v48 =>
 x_bin .gtr v48 (I 64) fun v49 =>
 x_if0 v49
 (x_st 1 v5 .nils h44 fun h50 =>
 x_st 1 v6 (I 2) h50 fun h51 =>
 x_ld none v5 h51 fun v52 =>
 x_ld none v6 h51 fun v53 =>
 .ret (.tup [v52,v53]) h51)
 (x_nc v21 fun v50 =>
 x_fa 2 v50 fun v51 =>
 x_ld none v51 h44 fun v52 =>
 x_st 1 v5 v52 h44 fun h53 =>
 x_st 1 v6 (I 0) h53 fun h54 =>
 x_ld none v5 h54 fun v55 =>
 x_ld none v6 h54 fun v56 =>
 .ret (.tup [v55,v56]) h54)))))) (fun J14 =>
 x_ld (some 2) v4 h12 fun v15 =>
 x_call cl 61 [v15] h12 fun v16 h16 =>
 x_un .not v16 fun v17 =>
 J14 v15 v16 v17 h16) (fun J14 => J14 aud aud aud h12)))
def H46 : Hints := [(8,[(0,0,[],false),(1,0,[],false),(2,2,[],false),(3,0,[],false),(4,8,[],false),(5,24,[],false),(6,56,[],false),(7,120,[1,2],true),(8,248,[],false),(9,504,[1,2],true),(10,1023,[],true)])]
theorem S46 : SoundF Tryz.prog 46 F46 := kfunD_of (fn := Tryz.f46) (n := 67) (np := 3) (hs := H46) (q := [.cell 6 none,.cell 7 none]) (t := 25) (g := 62) (cp := [(.tmp 6),(.tmp 7)]) (t0 := .l) (t1 := (.s .l (.s .l (.i (.s .l .l) .l)))) (t3 := (.s .l (.s .l (.s .l (.s .l (.s .l (.s .l (.s (.s .l (.i (.s .l .l) .l)) (.s .l .l))))))))) mix1 (by kernel_rfl) (by kernel_rfl) (by kernel_rfl) (by kernel_rfl) (by kernel_rfl) (by kernel_rfl) (by kernel_rfl) (by kernel_rfl) (by kernel_rfl) (by kernel_rfl) (by kernel_rfl) (by kernel_rfl) A62 (by kernel_rfl)
noncomputable def F47 : GF := fun cl ar h => x_arg ar fun v0 ar => x_ar0 ar (
 x_nw (rpl 6 .nils ((.bool false) :: ((I 0) :: (rpl 2 .nils [])))) p0 h fun v1 h1 =>
 x_nc v0 fun v2 =>
 x_fa 0 v2 fun v3 =>
 x_ld (some 10) v3 h1 fun v4 =>
 x_nw (rpl 6 .nils ((.bool false) :: ((I 0) :: (rpl 2 .nils [])))) p0 h1 fun v5 h5 =>
 x_st 10 v5 v4 h5 fun h6 =>
 x_nc v0 fun v7 =>
 x_fa 0 v7 fun v8 =>
 x_fa 9 v8 fun v9 =>
 x_ld none v9 h6 fun v10 =>
 x_call cl 10 [v10] h6 fun v11 h11 =>
 x_fa 9 v5 fun v12 =>
 x_st 1 v12 v11 h11 fun h13 =>
 x_fa 8 v5 fun v14 =>
 x_st 1 v14 .nils h13 fun h15 =>
 x_nc v0 fun v16 =>
 x_fa 0 v16 fun v17 =>
 x_fa 8 v17 fun v18 =>
 x_ld none v18 h15 fun v19 =>
 x_len v19 fun v20 =>
 x_loop (jbad [0,2,3,31,32,33]) (fun J21 => (fun (v22 v23 v24 v25 v26 v27 : AV) (h28 : KH) =>
 x_lss v27 v26 fun v29 =>
 x_if0 v29
 (x_ixS 2 v25 v27 fun v30 =>
 x_ld (some 2) v30 h28 fun v31 =>
 x_nw [(.str []),.nils] p0 h28 fun v32 h32 =>
 x_st 2 v32 v31 h32 fun h33 =>
 x_fa 8 v24 fun v34 =>
 x_ld none v34 h33 fun v35 =>
 x_fa 0 v32 fun v36 =>
 x_ld none v36 h33 fun v37 =>
 x_fa 1 v32 fun v38 =>
 x_ld none v38 h33 fun v39 =>
 x_call cl 71 [v39] h33 fun v40 h40 =>
 x_chk (cond (koEq (kload none v36 h40) v37) (cond (koEq (kload none v34 h40) v35) true false) false) (x_bld [(.str []),.nils] [.mk 0 1 v37,.mk 1 1 v40] fun v41 =>
 x_bs [(.str []),.nils] 1 [.mk 0 2 v41] fun c42 g42 =>  x_nw c42 g42 h40 fun v42 h42 =>
 x_app 2 40 v35 v42 h42 fun v43 h43 =>
 x_chk true (x_fa 8 v24 fun v44 =>
 x_st 1 v44 v43 h43 fun h45 =>
 x_chk true (x_add v27 (I 1) fun v46 =>
 J21 v22 v23 v24 v25 v26 v46 h45))))
 (x_nc v22 fun v30 =>
 x_fa 39 v30 fun v31 =>
 x_ld (some 4) v31 h28 fun v32 =>
 x_nc v22 fun v33 =>
 x_fa 0 v33 fun v34 =>
 x_fa 0 v34 fun v35 =>
 x_fa 1 v35 fun v36 =>
 x_ld none v36 h28 fun v37 =>
 x_nc v22 fun v38 =>
 x_fa 0 v38 fun v39 =>
 x_fa 0 v39 fun v40 =>
 x_fa 2 v40 fun v41 =>
 x_ld none v41 h28 fun v42 =>
 x_call cl 72 [v32] h28 fun v43 h43 =>
 x_chk (cond (koEq (kload none v41 h43) v42) (cond (koEq (kload none v36 h43) v37) true false) false) (x_call cl 10 [v37] h43 fun v44 h44 =>
 x_chk (cond (koEq (kload none v41 h44) v42) true false) (x_call cl 10 [v42] h44 fun v45 h45 =>
 x_chk true (x_bld (rpl 6 .nils []) [.mk 0 1 v43,.mk 1 1 v44,.mk 2 1 v45] fun v46 =>
 x_fa 0 v24 fun v47 =>
 x_st 6 v47 v46 h45 fun h48 =>
 x_chk true (x_nc v22 fun v49 =>
 x_fa 0 v49 fun v50 =>
 x_fa 0 v50 fun v51 =>
 x_fa 3 v51 fun v52 =>
 x_ld none v52 h48 fun v53 =>
 x_len v53 fun v54 =>
 x_loop (jbad [0,2,3,75,76,77]) (fun J55 => (fun (v56 v57 v58 v59 v60 v61 : AV) (h62 : KH) =>
 x_lss v61 v60 fun v63 =>
 x_if0 v63
 (x_ixS 19 v59 v61 fun v64 =>
 x_ld (some 19) v64 h62 fun v65 =>
 x_nw ((I 0) :: (rpl 6 .nils ((I 0) :: (rpl 4 .nils (rpl 4 (I 0) ((.bool false) :: ((I 0) :: ((.bool false) :: [])))))))) p0 h62 fun v66 h66 =>
 x_st 19 v66 v65 h66 fun h67 =>
 x_fa 0 v58 fun v68 =>
 x_fa 3 v68 fun v69 =>
 x_ld none v69 h67 fun v70 =>
 x_ld (some 19) v66 h67 fun v71 =>
 x_call cl 73 [v71] h67 fun v72 h72 =>
 x_chk (cond (koEq (kload none v69 h72) v70) true false) (x_bs ((I 0) :: (rpl 6 .nils ((I 0) :: (rpl 4 .nils (rpl 4 (I 0) ((.bool false) :: ((I 0) :: ((.bool false) :: [])))))))) 1 [.mk 0 19 v72] fun c73 g73 =>  x_nw c73 g73 h72 fun v73 h73 =>
 x_app 19 312 v70 v73 h73 fun v74 h74 =>
 x_chk true (x_fa 0 v58 fun v75 =>
 x_fa 3 v75 fun v76 =>
 x_st 1 v76 v74 h74 fun h77 =>
 x_chk true (x_add v61 (I 1) fun v78 =>
 J55 v56 v57 v58 v59 v60 v78 h77))))
 (x_nc v56 fun v64 =>
 x_fa 10 v64 fun v65 =>
 x_ld none v65 h62 fun v66 =>
 x_len v66 fun v67 =>
 x_loop (jbad [0,2,3,94,95,96]) (fun J68 => (fun (v69 v70 v71 v72 v73 v74 : AV) (h75 : KH) =>
 x_lss v74 v73 fun v76 =>
 x_if0 v76
 (x_ixS 3 v72 v74 fun v77 =>
 x_ld (some 3) v77 h75 fun v78 =>
 x_nw [(I 0),.nilm,.nilm] p0 h75 fun v79 h79 =>
 x_st 3 v79 v78 h79 fun h80 =>
 x_nc v69 fun v81 =>
 x_fa 0 v81 fun v82 =>
 x_fa 0 v82 fun v83 =>
 x_fa 1 v83 fun v84 =>
 x_ld none v84 h80 fun v85 =>
 x_len v85 fun v86 =>
 x_nc v69 fun v87 =>
 x_fa 0 v87 fun v88 =>
 x_fa 0 v88 fun v89 =>
 x_fa 2 v89 fun v90 =>
 x_ld none v90 h80 fun v91 =>
 x_len v91 fun v92 =>
 x_add v86 v92 fun v93 =>
 x_mks 8 [(I 0)] v93 v93 h80 fun v94 h94 =>
 x_fa 1 v79 fun v95 =>
 x_ld none v95 h94 fun v96 =>
 x_pan .unk h94)
 (x_ld (some 10) v71 h75 fun v77 =>
 x_st 10 v70 v77 h75 fun h78 =>
 x_ld (some 10) v70 h78 fun v79 =>
 .ret v79 h78))) v56 v57 v58 v66 v67 (I 0) h62))) v22 v23 v24 v53 v54 (I 0) h48))))))) v0 v1 v5 v19 v20 (I 0) h15)
def H47 : Hints := [(7,[(0,0,[],false),(1,1,[],false),(2,0,[],false),(3,4,[],false),(4,0,[],false),(5,16,[],false),(6,48,[1,3],true),(7,124,[],false),(8,252,[],false),(9,511,[],true),(10,1023,[],false),(11,2047,[],true)]),(9,[(0,0,[],false),(1,1,[],false),(2,3,[],false),(3,7,[],false),(5,0,[],false),(6,32,[],false),(7,96,[],false),(8,224,[],false),(9,480,[],false),(10,992,[],false),(12,0,[],false),(13,4096,[],false),(14,12288,[],false),(15,28672,[],false),(16,61440,[],false),(17,126976,[],false),(4,15,[10,17],true),(11,2047,[17],true),(18,262143,[],true),(19,524287,[],false),(20,1048575,[],false),(21,2097151,[],true)]),(13,[(0,0,[],false),(1,1,[],false),(2,3,[],false),(3,0,[],false),(4,8,[2],true),(5,24,[],false),(6,63,[],true),(7,127,[],false),(8,255,[],false),(9,511,[],true)]),(18,[(0,0,[],false),(1,1,[],false),(2,3,[],false),(3,7,[],false),(4,15,[],false),(5,31,[],false),(6,63,[],false),(7,0,[],false),(8,128,[],false),(9,384,[],false),(10,896,[],false),(11,1920,[],false),(12,3968,[],false),(13,8064,[],false),(14,16383,[],false),(15,32767,[],false),(16,65535,[],false)])]
theorem S47 : SoundF Tryz.prog 47 F47 := kfun_of (fn := Tryz.f47) (n := 160) (np := 1) (hs := H47) (q := [.cell 2 (some 10)]) (t := (.s .l (.s .l (.s .l (.s .l (.s (.s .l (.i (.j [0,2,3,31,32,33] (.s .l (.s (.i .l .l) (.s (.i (.s .l .l) .l) .l))) .l) .l)) (.s .l (.s (.s .l (.i (.j [0,2,3,75,76,77] (.s .l (.s (.i .l .l) (.s (.i (.s .l .l) .l) .l))) .l) .l)) (.s (.s .l (.i (.j [0,2,3,94,95,96] (.s .l (.s (.i .l .l) (.s (.i (.s .l (.s .l (.s (.s .l (.i (.j [0,2,3,9,10,94,95,96] (.s .l (.s (.i .l .l) (.i (.s .l .l) .l))) .l) .l)) (.s (.s .l (.i (.j [0,2,3,9,10,94,95,96] (.s .l (.s (.i .l .l) (.i (.s .l .l) .l))) .l) .l)) .l)))) .l) .l))) .l) .l)) (.s .l .l)))))))))) mix1 (by kernel_rfl) (by kernel_rfl) (by kernel_rfl) (by kernel_rfl) (by kernel_rfl) (by kernel_rfl) (by kernel_rfl) (by kernel_rfl)
noncomputable def F48 : GF := fun cl ar h => x_arg ar fun v0 ar => x_ar0 ar (
 x_bx v0 h fun v1 h1 =>
 x_fa 0 v1 fun v2 =>
 x_ld (some 2) v2 h1 fun v3 =>
 x_fa 4 v1 fun v4 =>
 x_ld (some 2) v4 h1 fun v5 =>
 x_call cl 28 [v3,v5] h1 fun v6 h6 =>
 x_ext 0 v6 fun v7 =>
 x_ext 1 v6 fun v8 =>
 x_neq v8 (I 0) fun v9 =>
 x_if0 v9
 (.ret (.tup [.nils,.nils,v8]) h6)
 (x_fa 2 v1 fun v10 =>
 x_ld (some 2) v10 h6 fun v11 =>
 x_fa 4 v1 fun v12 =>
 x_ld (some 2) v12 h6 fun v13 =>
 x_call cl 28 [v11,v13] h6 fun v14 h14 =>
 x_ext 0 v14 fun v15 =>
 x_ext 1 v14 fun v16 =>
 x_neq v16 (I 0) fun v17 =>
 x_if0 v17
 (.ret (.tup [.nils,.nils,v16]) h14)
 (.ret (.tup [v7,v15,(I 0)]) h14)))
def H48 : Hints := []
theorem S48 : SoundF Tryz.prog 48 F48 := kfun_of (fn := Tryz.f48) (n := 32) (np := 1) (hs := H48) (q := [.tmp 2,.tmp 3,.tmp 4]) (t := (.s .l (.s .l (.s (.s .l (.i (.s .l .l) .l)) (.s .l (.s (.s .l (.i (.s .l .l) .l)) (.s .l .l))))))) mix1 (by kernel_rfl) (by kernel_rfl) (by kernel_rfl) (by kernel_rfl) (by kernel_rfl) (by kernel_rfl) (by kernel_rfl) (by kernel_rfl)
noncomputable def F49 : GF := fun cl ar h => x_arg ar fun v0 ar => x_arg ar fun v1 ar => x_ar0 ar (
 x_bx v0 h fun v2 h2 =>
 x_bx v1 h2 fun v3 h3 =>
 x_fa 6 v2 fun v4 =>
 x_ld none v4 h3 fun v5 =>
 x_un .not v5 fun v6 =>
 x_grp true v6 (fun (v7 v8 v9 : AV) (h10 : KH) =>
 x_pick v6 v9 (.bool false) fun v11 =>
 x_if0 v11
 (.ret (.tup [.nils,(I 0)]) h10)
 (x_fa 0 v2 fun v12 =>
 x_ld (some 6) v12 h10 fun v13 =>
 x_fa 0 v3 fun v14 =>
 x_ld (some 6) v14 h10 fun v15 =>
 x_call cl 74 [v13,v15] h10 fun v16 h16 =>
 x_nc v16 fun v17 =>
 x_fa 0 v17 fun v18 =>
 x_ld (some 6) v18 h16 fun v19 =>
 x_bsl (rpl 6 .nils []) 1 [.mk 0 6 v19] h16 fun v20 h20 =>
 x_fa 6 v2 fun v21 =>
 x_ld none v21 h20 fun v22 =>
 x_fa 6 v3 fun v23 =>
 x_ld none v23 h20 fun v24 =>
 x_pu (.eq false .bool (.cst v22) (.cst v24)) fun v25 =>
 x_grp true v25 (fun (v26 v27 v28 v29 v30 v31 : AV) (h32 : KH) =>
 x_pick v25 v31 (.bool false) fun v33 =>
 x_if v33 (fun (v34 : AV) (h35 : KH) =>
 x_len v34 fun v36 =>
 x_loop (jbad [8,88,89,90]) (fun J37 => (fun (v38 v39 v40 v41 : AV) (h42 : KH) =>
 x_lss v41 v40 fun v43 =>
 x_if0 v43
 (x_ixS 6 v39 v41 fun v44 =>
 x_ld (some 6) v44 h42 fun v45 =>
 x_nw (rpl 6 .nils []) p0 h42 fun v46 h46 =>
 x_st 6 v46 v45 h46 fun h47 =>
 x_ld (some 6) v46 h47 fun v48 =>
 x_call cl 80 [v48] h47 fun v49 h49 =>
 x_neq v49 (I 0) fun v50 =>
 x_if0 v50
 (.ret (.tup [.nils,v49]) h49)
 (x_add v41 (I 1) fun v51 =>
 J37 v38 v39 v40 v51 h49))
 (.ret (.tup [v38,(I 0)]) h42))) v34 v34 v36 (I 0) h35)
 (fun J34 => x_fa 8 v2 fun v35 =>
 x_ld none v35 h32 fun v36 =>
 x_len v36 fun v37 =>
 x_loop (jbad [3,6,8,48,49,50]) (fun J38 => (fun (v39 v40 v41 v42 v43 v44 : AV) (h45 : KH) =>
 x_lss v44 v43 fun v46 =>
 x_if0 v46
 (x_ixS 2 v42 v44 fun v47 =>
 x_ld (some 2) v47 h45 fun v48 =>
 x_nw [(.str []),.nils] p0 h45 fun v49 h49 =>
 x_st 2 v49 v48 h49 fun h50 =>
 x_fa 1 v49 fun v51 =>
 x_ld none v51 h50 fun v52 =>
 x_fa 8 v39 fun v53 =>
 x_ld none v53 h50 fun v54 =>
 x_ixS 2 v54 v44 fun v55 =>
 x_fa 1 v55 fun v56 =>
 x_ld none v56 h50 fun v57 =>
 x_nw ((I 0) :: (rpl 6 .nils ((I 0) :: (rpl 4 .nils (rpl 4 (I 0) ((.bool false) :: ((I 0) :: ((.bool false) :: [])))))))) p0 h50 fun v58 h58 =>
 x_call cl 71 [v52] h58 fun v59 h59 =>
 x_chk (cond (knwc h50.nx ((I 0) :: (rpl 6 .nils ((I 0) :: (rpl 4 .nils (rpl 4 (I 0) ((.bool false) :: ((I 0) :: ((.bool false) :: [])))))))) h59) (cond (koEq (kload none v56 h59) v57) (cond (koEq (kload none v53 h59) v54) true false) false) false) (x_call cl 77 [v57,(.fn (.func 78) [v40] [])] h59 fun v60 h60 =>
 x_chk (cond (knwc h50.nx ((I 0) :: (rpl 6 .nils ((I 0) :: (rpl 4 .nils (rpl 4 (I 0) ((.bool false) :: ((I 0) :: ((.bool false) :: [])))))))) h60) true false) (x_bld ((I 0) :: (rpl 6 .nils ((I 0) :: (rpl 4 .nils (rpl 4 (I 0) ((.bool false) :: ((I 0) :: []))))))) [.mk 0 1 (I 2),.mk 1 1 v59,.mk 2 1 v60] fun v61 =>
 x_bld ((I 0) :: (rpl 6 .nils ((I 0) :: (rpl 4 .nils (rpl 4 (I 0) ((.bool false) :: ((I 0) :: ((.bool false) :: [])))))))) [.mk 0 18 v61,.mk 18 1 (.bool true)] fun v62 =>
 x_st 19 v58 v62 h60 fun h63 =>
 x_chk true (x_nc v40 fun v64 =>
 x_fa 0 v64 fun v65 =>
 x_ld (some 6) v65 h63 fun v66 =>
 x_nw (rpl 6 .nils []) p0 h63 fun v67 h67 =>
 x_st 6 v67 v66 h67 fun h68 =>
 x_nc v40 fun v69 =>
 x_fa 0 v69 fun v70 =>
 x_fa 3 v70 fun v71 =>
 x_ld none v71 h68 fun v72 =>
 x_ld (some 19) v58 h68 fun v73 =>
 x_bs ((I 0) :: (rpl 6 .nils ((I 0) :: (rpl 4 .nils (rpl 4 (I 0) ((.bool false) :: ((I 0) :: ((.bool false) :: [])))))))) 1 [.mk 0 19 v73] fun c74 g74 =>  x_nw c74 g74 h68 fun v74 h74 =>
 x_call cl 79 [v72] h74 fun v75 h75 =>
 x_chk (cond (knwc h68.nx c74 h75) (cond (koEq (kload (some 19) v58 h75) v73) true false) false) (x_app 19 312 v75 v74 h75 fun v76 h76 =>
 x_chk true (x_fa 3 v67 fun v77 =>
 x_st 1 v77 v76 h76 fun h78 =>
 x_chk true (x_ld (some 6) v67 h78 fun v79 =>
 x_bsl (rpl 6 .nils []) 1 [.mk 0 6 v79] h78 fun v80 h80 =>
 x_app 6 144 v41 v80 h80 fun v81 h81 =>
 x_add v44 (I 1) fun v82 =>
 J38 v39 v40 v81 v42 v43 v82 h81)))))))
 (J34 v41 h45))) v3 v16 .nils v36 v37 (I 0) h32)
 (fun J34 => J34 v20 h32)) (fun J26 =>
 x_fa 8 v2 fun v27 =>
 x_ld none v27 h20 fun v28 =>
 x_fa 8 v3 fun v29 =>
 x_ld none v29 h20 fun v30 =>
 x_call cl 76 [v28,v30,(.fn (.func 75) [] [])] h20 fun v31 h31 =>
 J26 v27 v28 v29 v30 (.fn (.func 75) [] []) v31 h31) (fun J26 => J26 aud aud aud aud aud aud h20))) (fun J7 =>
 x_fa 6 v3 fun v8 =>
 x_ld none v8 h3 fun v9 =>
 x_un .not v9 fun v10 =>
 J7 v8 v9 v10 h3) (fun J7 => J7 aud aud aud h3))
def H49 : Hints := [(11,[(0,0,[],false),(1,1,[],false),(3,0,[],false),(4,8,[],false),(5,0,[],false),(6,56,[],false),(7,120,[],false),(8,248,[],false),(9,0,[],false),(10,512,[],false),(14,0,[],false),(2,3,[4,8,14],true),(11,2047,[14],true),(12,4095,[],false),(13,8191,[],false),(15,32767,[],true)]),(13,[(0,0,[],false),(1,1,[],false),(2,3,[],false),(3,7,[],false),(4,15,[],false),(6,0,[],false),(7,64,[],false),(5,31,[6,7],true),(8,255,[],true),(9,511,[],false),(10,1023,[],true)])]
theorem S49 : SoundF Tryz.prog 49 F49 := kfun_of (fn := Tryz.f49) (n := 101) (np := 2) (hs := H49) (q := [.tmp 4,.tmp 5]) (t := (.s .l (.s (.s .l (.i (.s .l .l) .l)) (.s .l (.s .l (.s .l (.s (.s .l (.j [8] (.s .l (.s .l (.i (.j [3,6,8,48,49,50] (.s .l (.s (.i .l .l) (.s (.i (.s .l (.s .l (.s .l (.s .l .l)))) .l) .l))) .l) .l))) .l)) (.s (.s .l (.i (.j [8,88,89,90] (.s .l (.s (.i .l .l) (.s (.i (.s .l (.s .l (.s .l (.i (.s .l .l) .l)))) .l) .l))) .l) .l)) (.s .l .l))))))))) mix1 (by kernel_rfl) (by kernel_rfl) (by kernel_rfl) (by kernel_rfl) (by kernel_rfl) (by kernel_rfl) (by kernel_rfl) (by kernel_rfl)
noncomputable def F50 : GF := fun cl ar h => x_arg ar fun v0 ar => x_arg ar fun v1 ar => x_ar0 ar (
 x_len v0 fun v2 =>
 x_loop (jbad [0,1,7,8]) (fun J3 => (fun (v4 v5 v6 v7 : AV) (h8 : KH) =>
 x_lss v7 v6 fun v9 =>
 x_if0 v9
 (x_ixS 1 v4 v7 fun v10 =>
 x_ld none v10 h8 fun v11 =>
 x_cl cl v5 [v11] h8 fun v12 h12 =>
 x_if0 v12
 (.ret v7 h12)
 (x_add v7 (I 1) fun v13 =>
 J3 v4 v5 v6 v13 h12))
 (.ret (.int .i64 (-1)) h8))) v0 v1 v2 (I 0) h)
def H50 : Hints := []
theorem S50 : SoundF Tryz.prog 50 F50 := kfun_of (fn := Tryz.f50) (n := 19) (np := 2) (hs := H50) (q := [.tmp 4]) (t := (.s .l (.s (.s .l (.i (.j [0,1,7,8] (.s .l (.s (.i .l .l) (.s (.i (.s .l (.s .l (.i (.s .l .l) .l))) .l) .l))) .l) .l)) (.s .l .l)))) mix1 (by kernel_rfl) (by kernel_rfl) (by kernel_rfl) (by kernel_rfl) (by kernel_rfl) (by kernel_rfl) (by kernel_rfl) (by kernel_rfl)
noncomputable def F60 : GF := fun cl ar h => x_arg ar fun v0 ar => x_ar0 ar (
 x_bx v0 h fun v1 h1 =>
 x_nw [(I 0),(I 0),.nils] p0 h1 fun v2 h2 =>
 x_ld (some 2) v1 h2 fun v3 =>
 x_call cl 96 [v3] h2 fun v4 h4 =>
 x_neq v4 (I 0) fun v5 =>
 x_if0 v5
 (x_bld [(I 0),(I 0),.nils] [] fun v6 =>
 x_st 3 v2 v6 h4 fun h7 =>
 x_ld (some 3) v2 h7 fun v8 =>
 .ret (.tup [v8,v4]) h7)
 (x_ld (some 2) v1 h4 fun v6 =>
 x_call cl 97 [v6,(I 0)] h4 fun v7 h7 =>
 x_bin .gtr v7 (I 262144) fun v8 =>
 x_if0 v8
 (x_bld [(I 0),(I 0),.nils] [] fun v9 =>
 x_st 3 v2 v9 h7 fun h10 =>
 x_ld (some 3) v2 h10 fun v11 =>
 .ret (.tup [v11,(I 2)]) h10)
 (x_ld (some 2) v1 h7 fun v9 =>
 x_call cl 98 [v9] h7 fun v10 h10 =>
 x_nw [.nils,(I 0),(I 0)] p0 h10 fun v11 h11 =>
 x_st 3 v11 v10 h11 fun h12 =>
 x_fa 2 v11 fun v13 =>
 x_ld none v13 h12 fun v14 =>
 x_neq v14 (I 0) fun v15 =>
 x_if0 v15
 (x_bld [(I 0),(I 0),.nils] [] fun v16 =>
 x_fa 2 v11 fun v17 =>
 x_ld none v17 h12 fun v18 =>
 x_st 3 v2 v16 h12 fun h19 =>
 x_chk (cond (koEq (kload none v17 h19) v18) true false) (x_ld (some 3) v2 h19 fun v20 =>
 .ret (.tup [v20,v18]) h19))
 (x_bsl [(I 0)] 1 [.mk 0 1 (I 0)] h12 fun v16 h16 =>
 x_call cl 99 [v16,.nils] h16 fun v17 h17 =>
 x_nw (rpl 16 (.bool false) []) p0 h17 fun v18 h18 =>
 x_st 16 v18 v17 h18 fun h19 =>
 x_nw [(I 0),(I 0),.nils] p0 h19 fun v20 h20 =>
 x_fa 0 v1 fun v21 =>
 x_ld none v21 h20 fun v22 =>
 x_len v22 fun v23 =>
 x_loop (jbad [2,6,7,35,36,37]) (fun J24 => (fun (v25 v26 v27 v28 v29 v30 : AV) (h31 : KH) =>
 x_lss v30 v29 fun v32 =>
 x_if0 v32
 (x_ixS 33 v28 v30 fun v33 =>
 x_ld (some 33) v33 h31 fun v34 =>
 x_nw (rpl 7 (I 0) (.nils :: ((.bool false) :: ((I 0) :: (rpl 2 .nils (rpl 4 (N .u64 0) (rpl 4 (I 0) ((.bool false) :: (rpl 2 .nils ((I 0) :: ((.bool false) :: (rpl 4 (I 0) (.nils :: ((.str []) :: (rpl 2 (I 0) []))))))))))))))) p0 h31 fun v35 h35 =>
 x_st 33 v35 v34 h35 fun h36 =>
 x_ld (some 33) v35 h36 fun v37 =>
 x_call cl 100 [v37] h36 fun v38 h38 =>
 x_ext 0 v38 fun v39 =>
 x_ext 1 v38 fun v40 =>
 x_nw (rpl 16 (.bool false) []) p0 h38 fun v41 h41 =>
 x_st 16 v41 v39 h41 fun h42 =>
 x_ld (some 16) v26 h42 fun v43 =>
 x_ld (some 33) v35 h42 fun v44 =>
 x_ld (some 16) v41 h42 fun v45 =>
 x_call cl 102 [v44] h42 fun v46 h46 =>
 x_chk (cond (koEq (kload (some 16) v41 h46) v45) (cond (koEq (kload (some 16) v26 h46) v43) true false) false) (x_call cl 101 [v43,v46] h46 fun v47 h47 =>
 x_chk (cond (koEq (kload (some 16) v41 h47) v45) true false) (x_call cl 101 [v47,v45] h47 fun v48 h48 =>
 x_chk true (x_st 16 v26 v48 h48 fun h49 =>
 x_chk true (x_fa 0 v35 fun v50 =>
 x_ld none v50 h49 fun v51 =>
 x_eql v51 (I 13) fun v52 =>
 x_if v52 (fun (v53 v54 v55 v56 v57 v58 : AV) (h59 : KH) =>
 x_add v58 (I 1) fun v60 =>
 J24 v53 v54 v55 v56 v57 v60 h59)
 (fun J53 => x_fa 2 v27 fun v54 =>
 x_ld none v54 h49 fun v55 =>
 x_fa 30 v35 fun v56 =>
 x_ld none v56 h49 fun v57 =>
 x_bsl [(.str [])] 1 [.mk 0 1 v57] h49 fun v58 h58 =>
 x_app 1 16 v55 v58 h58 fun v59 h59 =>
 x_fa 2 v27 fun v60 =>
 x_st 1 v60 v59 h59 fun h61 =>
 J53 v25 v26 v27 v28 v29 v30 h61)
 (fun J53 => J53 v25 v26 v27 v28 v29 v30 h49))))))
 (x_fa 2 v27 fun v33 =>
 x_ld none v33 h31 fun v34 =>
 x_call cl 103 [v34] h31 fun v35 h35 =>
 x_fa 2 v27 fun v36 =>
 x_ld none v36 h35 fun v37 =>
 x_call cl 104 [v37] h35 fun v38 h38 =>
 x_fa 2 v27 fun v39 =>
 x_st 1 v39 v38 h38 fun h40 =>
 x_ld (some 16) v26 h40 fun v41 =>
 x_loop (jbad [2,7,70,71]) (fun J42 => (fun (v43 v44 v45 v46 : AV) (h47 : KH) =>
 x_lss v46 (I 16) fun v48 =>
 x_if0 v48
 (x_pu (.indexA 16 1 none (.cst v45) (.cst v46)) fun v49 =>
 x_grp true v49 (fun (v50 v51 : AV) (h52 : KH) =>
 x_pick v49 v51 (.bool false) fun v53 =>
 x_if v53 (fun (v54 v55 v56 v57 : AV) (h58 : KH) =>
 x_add v57 (I 1) fun v59 =>
 J42 v54 v55 v56 v59 h58)
 (fun J54 => x_add v46 (I 1) fun v55 =>
 x_fa 0 v44 fun v56 =>
 x_st 1 v56 v55 h52 fun h57 =>
 J54 v43 v44 v45 v46 h57)
 (fun J54 => x_if0 v49
 (x_add v46 (I 1) fun v55 =>
 x_bin .sub v55 (I 12) fun v56 =>
 x_fa 1 v44 fun v57 =>
 x_st 1 v57 v56 h52 fun h58 =>
 J54 v43 v44 v45 v46 h58)
 (J54 v43 v44 v45 v46 h52))) (fun J50 =>
 x_lss v46 (I 12) fun v51 =>
 J50 v46 v51 h47) (fun J50 => J50 aud aud h47))
 (x_ld (some 3) v44 h47 fun v49 =>
 x_st 3 v43 v49 h47 fun h50 =>
 x_ld (some 3) v43 h50 fun v51 =>
 .ret (.tup [v51,(I 0)]) h50))) v25 v27 v41 (I 0) h40))) v2 v18 v20 v22 v23 (I 0) h20))))
def H60 : Hints := [(8,[(0,0,[],false),(1,0,[],false),(2,2,[],false),(3,1,[2],true),(4,15,[],false)]),(15,[(0,0,[],false),(1,0,[],false),(4,0,[],false),(2,2,[0,4],true),(3,7,[4],true),(5,31,[],true),(6,63,[],true)])]
theorem S60 : SoundF Tryz.prog 60 F60 := kfun_of (fn := Tryz.f60) (n := 92) (np := 1) (hs := H60) (q := [.cell 2 (some 3),.tmp 3]) (t := (.s .l (.s (.s .l (.s .l (.i (.s .l .l) .l))) (.s (.s .l (.i (.s .l .l) .l)) (.s (.s .l (.s .l (.i (.s .l .l) .l))) (.s .l (.s .l (.s (.s .l (.i (.j [2,6,7,35,36,37] (.s .l (.s (.i .l .l) (.s (.i (.s .l (.s .l (.s .l (.s .l (.j [2,6,7,35,36,37] .l .l))))) .l) .l))) .l) .l)) (.s .l (.s .l (.s (.s .l (.i (.j [2,7,70,71] (.s .l (.s (.i .l .l) (.s (.i (.s .l (.i (.s .l (.j [2,7,70,71] .l (.s .l (.i .l .l)))) .l)) .l) .l))) .l) .l)) (.s .l .l)))))))))))) mix1 (by kernel_rfl) (by kernel_rfl) (by kernel_rfl) (by kernel_rfl) (by kernel_rfl) (by kernel_rfl) (by kernel_rfl) (by kernel_rfl)
noncomputable def F61 : GF := fun cl ar h => x_arg ar fun v0 ar => x_ar0 ar (
 x_bx v0 h fun v1 h1 =>
 x_fa 0 v1 fun v2 =>
 x_ld none v2 h1 fun v3 =>
 x_len v3 fun v4 =>
 x_loop (jbad [1,3,4]) (fun J5 => (fun (v6 v7 v8 : AV) (h9 : KH) =>
 x_lss v8 v7 fun v10 =>
 x_if0 v10
 (x_fa 0 v6 fun v11 =>
 x_ld none v11 h9 fun v12 =>
 x_bin .sub v8 (I 1) fun v13 =>
 x_ixS 1 v12 v13 fun v14 =>
 x_ld none v14 h9 fun v15 =>
 x_fa 0 v6 fun v16 =>
 x_ld none v16 h9 fun v17 =>
 x_ixS 1 v17 v8 fun v18 =>
 x_ld none v18 h9 fun v19 =>
 x_bin .geq v15 v19 fun v20 =>
 x_if0 v20
 (.ret (.bool false) h9)
 (x_add v8 (I 1) fun v21 =>
 J5 v6 v7 v21 h9))
 (x_bin .gtr v7 (I 0) fun v11 =>
 x_grp true v11 (fun (v12 v13 : AV) (h14 : KH) =>
 x_pick v11 v13 (.bool false) fun v15 =>
 x_grp true v15 (fun (v16 v17 v18 : AV) (h19 : KH) =>
 x_pick v15 v18 (.bool false) fun v20 =>
 x_grp true v20 (fun (v21 v22 v23 : AV) (h24 : KH) =>
 x_pick v20 v23 (.bool false) fun v25 =>
 .ret v25 h24) (fun J21 =>
 x_fa 1 v6 fun v22 =>
 x_ld none v22 h19 fun v23 =>
 x_leq v23 (I 8) fun v24 =>
 J21 v22 v23 v24 h19) (fun J21 => J21 aud aud aud h19)) (fun J16 =>
 x_fa 1 v6 fun v17 =>
 x_ld none v17 h14 fun v18 =>
 x_bin .geq v18 (I 0) fun v19 =>
 J16 v17 v18 v19 h14) (fun J16 => J16 aud aud aud h14)) (fun J12 =>
 x_leq v7 (I 4) fun v13 =>
 J12 v7 v13 h9) (fun J12 => J12 aud aud h9)))) v1 v4 (I 1) h1)
def H61 : Hints := [(5,[(0,0,[],false),(1,1,[],false),(2,0,[],false),(3,4,[],false),(4,15,[],false),(5,31,[],false),(6,0,[],false),(7,64,[],false),(8,0,[],false),(9,448,[],false),(10,960,[],false),(11,2047,[],false)])]
theorem S61 : SoundF Tryz.prog 61 F61 := kfun_of (fn := Tryz.f61) (n := 41) (np := 1) (hs := H61) (q := [.tmp 2]) (t := (.s .l (.s .l (.s (.s .l (.i (.j [1,3,4] (.s (.s .l (.i .l .l)) (.s (.i (.s .l (.i (.s .l .l) .l)) .l) .l)) .l) .l)) (.s .l .l))))) mix1 (by kernel_rfl) (by kernel_rfl) (by kernel_rfl) (by kernel_rfl) (by kernel_rfl) (by kernel_rfl) (by kernel_rfl) (by kernel_rfl)
noncomputable def F63 : GF := fun cl ar h => x_arg ar fun v0 ar => x_ar0 ar (
 x_nw (rpl 4 (N .u64 0) []) p0 h fun v1 h1 =>
 x_nw (rpl 4 (N .u64 0) []) p0 h1 fun v2 h2 =>
 x_len v0 fun v3 =>
 x_loop (jbad [2,3,6,7,8]) (fun J4 => (fun (v5 v6 v7 v8 v9 : AV) (h10 : KH) =>
 x_lss v9 v8 fun v11 =>
 x_if0 v11
 (x_ixS 1 v7 v9 fun v12 =>
 x_ld none v12 h10 fun v13 =>
 x_call cl 105 [v6,v13] h10 fun v14 h14 =>
 x_add v9 (I 1) fun v15 =>
 J4 v5 v6 v7 v8 v15 h14)
 (x_ld (some 4) v6 h10 fun v12 =>
 x_st 4 v5 v12 h10 fun h13 =>
 x_ld (some 4) v5 h13 fun v14 =>
 .ret v14 h13))) v1 v2 v0 v3 (I 0) h2)
def H63 : Hints := []
theorem S63 : SoundF Tryz.prog 63 F63 := kfun_of (fn := Tryz.f63) (n := 16) (np := 1) (hs := H63) (q := [.cell 2 (some 4)]) (t := (.s .l (.s .l (.s (.s .l (.i (.j [2,3,6,7,8] (.s .l (.s (.i .l .l) (.s (.i (.s .l .l) .l) .l))) .l) .l)) (.s .l .l))))) mix1 (by kernel_rfl) (by kernel_rfl) (by kernel_rfl) (by kernel_rfl) (by kernel_rfl) (by kernel_rfl) (by kernel_rfl) (by kernel_rfl)
noncomputable def F64 : GF := fun cl ar h => x_arg ar fun v0 ar => x_arg ar fun v1 ar => x_arg ar fun v2 ar => x_ar0 ar (
 x_nw [(I 0),(N .u8 0)] p0 h fun v3 h3 =>
 x_nc v0 fun v4 =>
 x_fa 0 v4 fun v5 =>
 x_fa 0 v5 fun v6 =>
 x_fa 1 v6 fun v7 =>
 x_ld none v7 h3 fun v8 =>
 x_pu (.minmax true (.cst v1) (.cst (I 0))) fun v9 =>
 x_bsl [(I 0)] 1 [.mk 0 1 v9] h3 fun v10 h10 =>
 x_app 1 8 v8 v10 h10 fun v11 h11 =>
 x_nc v0 fun v12 =>
 x_fa 0 v12 fun v13 =>
 x_fa 0 v13 fun v14 =>
 x_fa 1 v14 fun v15 =>
 x_st 1 v15 v11 h11 fun h16 =>
 x_nc v0 fun v17 =>
 x_fa 46 v17 fun v18 =>
 x_fa 0 v18 fun v19 =>
 x_ld none v19 h16 fun v20 =>
 x_bsl [.nils] 1 [.mk 0 1 v2] h16 fun v21 h21 =>
 x_app 1 24 v20 v21 h21 fun v22 h22 =>
 x_nc v0 fun v23 =>
 x_fa 46 v23 fun v24 =>
 x_fa 0 v24 fun v25 =>
 x_st 1 v25 v22 h22 fun h26 =>
 x_nc v0 fun v27 =>
 x_fa 0 v27 fun v28 =>
 x_fa 0 v28 fun v29 =>
 x_fa 1 v29 fun v30 =>
 x_ld none v30 h26 fun v31 =>
 x_len v31 fun v32 =>
 x_bin .sub v32 (I 1) fun v33 =>
 x_bld [(I 0),(N .u8 0)] [.mk 0 1 v33] fun v34 =>
 x_st 2 v3 v34 h26 fun h35 =>
 x_ld (some 2) v3 h35 fun v36 =>
 .ret v36 h35)
def H64 : Hints := []
theorem S64 : SoundF Tryz.prog 64 F64 := kfun_of (fn := Tryz.f64) (n := 43) (np := 3) (hs := H64) (q := [.cell 6 (some 2)]) (t := (.s .l (.s .l (.s .l (.s .l .l))))) mix1 (by kernel_rfl) (by kernel_rfl) (by kernel_rfl) (by kernel_rfl) (by kernel_rfl) (by kernel_rfl) (by kernel_rfl) (by kernel_rfl)
noncomputable def F65 : GF := fun cl ar h => x_arg ar fun v0 ar => x_arg ar fun v1 ar => x_arg ar fun v2 ar => x_arg ar fun v3 ar => x_ar0 ar (
 x_bx v2 h fun v4 h4 =>
 x_ld (some 3) v4 h4 fun v5 =>
 x_bld ((I 0) :: (rpl 6 .nils ((I 0) :: (rpl 4 .nils (rpl 4 (I 0) ((.bool false) :: ((I 0) :: []))))))) [.mk 0 1 (I 1),.mk 1 1 v1,.mk 3 3 v5] fun v6 =>
 x_call cl 106 [v0,v6,v3] h4 fun v7 h7 =>
 .ret (.tup []) h7)
def H65 : Hints := []
theorem S65 : SoundF Tryz.prog 65 F65 := kfun_of (fn := Tryz.f65) (n := 14) (np := 4) (hs := H65) (q := []) (t := (.s .l .l)) mix1 (by kernel_rfl) (by kernel_rfl) (by kernel_rfl) (by kernel_rfl) (by kernel_rfl) (by kernel_rfl) (by kernel_rfl) (by kernel_rfl)
noncomputable def F66 : GF := fun cl ar h => x_arg ar fun v0 ar => x_ar0 ar (
 x_nw [.nils,.nils,.nils] p0 h fun v1 h1 =>
 x_call cl 107 [v0] h1 fun v2 h2 =>
 x_ext 0 v2 fun v3 =>
 x_ext 1 v2 fun v4 =>
 x_ext 2 v2 fun v5 =>
 x_neq v5 (I 0) fun v6 =>
 x_if0 v6
 (x_bld [] [] fun v7 =>
 x_pan (.ifc 173 v7) h2)
 (x_call cl 109 [v3] h2 fun v7 h7 =>
 x_ext 0 v7 fun v8 =>
 x_ext 1 v7 fun v9 =>
 x_call cl 108 [v8,v9] h7 fun v10 h10 =>
 x_st 3 v1 v10 h10 fun h11 =>
 x_ld (some 3) v1 h11 fun v12 =>
 .ret v12 h11))
def H66 : Hints := []
theorem S66 : SoundF Tryz.prog 66 F66 := kfun_of (fn := Tryz.f66) (n := 21) (np := 1) (hs := H66) (q := [.cell 2 (some 3)]) (t := (.s .l (.s .l (.s (.s .l (.i .l .l)) (.s .l .l))))) mix1 (by kernel_rfl) (by kernel_rfl) (by kernel_rfl) (by kernel_rfl) (by kernel_rfl) (by kernel_rfl) (by kernel_rfl) (by kernel_rfl)
noncomputable def F67 : GF := fun cl ar h => x_arg ar fun v0 ar => x_ar0 ar (
 x_bx v0 h fun v1 h1 =>
 x_ld (some 4) v1 h1 fun v2 =>
 x_call cl 72 [v2] h1 fun v3 h3 =>
 x_len v3 fun v4 =>
 x_loop (jbad [3,7,8,9]) (fun J5 => (fun (v6 v7 v8 v9 : AV) (h10 : KH) =>
 x_lss v9 v8 fun v11 =>
 x_if0 v11
 (x_ixS 1 v7 v9 fun v12 =>
 x_ld none v12 h10 fun v13 =>
 x_bsl [(N .u8 0)] 1 [.mk 0 1 v13] h10 fun v14 h14 =>
 x_call cl 110 [v14] h14 fun v15 h15 =>
 x_add v6 v15 fun v16 =>
 x_add v9 (I 1) fun v17 =>
 J5 v16 v7 v8 v17 h15)
 (x_add v6 (.str [93]) fun v12 =>
 .ret v12 h10))) (.str [91]) v3 v4 (I 0) h3)
def H67 : Hints := []
theorem S67 : SoundF Tryz.prog 67 F67 := kfun_of (fn := Tryz.f67) (n := 21) (np := 1) (hs := H67) (q := [.tmp 2]) (t := (.s .l (.s .l (.s (.s .l (.i (.j [3,7,8,9] (.s .l (.s (.i .l .l) (.s (.i (.s .l .l) .l) .l))) .l) .l)) (.s .l .l))))) mix1 (by kernel_rfl) (by kernel_rfl) (by kernel_rfl) (by kernel_rfl) (by kernel_rfl) (by kernel_rfl) (by kernel_rfl) (by kernel_rfl)
noncomputable def F68 : GF := fun cl ar h => x_arg ar fun v0 ar => x_arg ar fun v1 ar => x_arg ar fun v2 ar => x_ar0 ar (
 x_bx v2 h fun v3 h3 =>
 x_ld (some 2) v3 h3 fun v4 =>
 x_bsl [(I 0),(N .u8 0)] 1 [.mk 0 2 v4] h3 fun v5 h5 =>
 x_nc v0 fun v6 =>
 x_fa 0 v6 fun v7 =>
 x_fa 0 v7 fun v8 =>
 x_fa 1 v8 fun v9 =>
 x_ld none v9 h5 fun v10 =>
 x_fa 0 v3 fun v11 =>
 x_ld none v11 h5 fun v12 =>
 x_ixS 1 v10 v12 fun v13 =>
 x_ld none v13 h5 fun v14 =>
 x_bld [.nils,(I 0)] [.mk 0 1 v5,.mk 1 1 v14] fun v15 =>
 x_nc v0 fun v16 =>
 x_fa 11 v16 fun v17 =>
 x_ixA 12 2 v17 v1 fun v18 =>
 x_st 2 v18 v15 h5 fun h19 =>
 .ret (.tup []) h19)
def H68 : Hints := [(1,[(0,0,[],false),(1,0,[],false),(2,0,[],false),(3,4,[],false),(4,0,[],false),(5,16,[],false),(6,48,[],false),(7,112,[],false),(8,240,[],false),(9,496,[],false),(10,0,[],false),(11,1024,[],false),(12,4080,[],false),(13,8176,[],false),(14,16380,[],false),(15,1,[],false),(16,32769,[],false),(17,131071,[],false),(18,262143,[],true)])]
theorem S68 : SoundF Tryz.prog 68 F68 := kfun_of (fn := Tryz.f68) (n := 24) (np := 3) (hs := H68) (q := []) (t := (.s .l .l)) mix1 (by kernel_rfl) (by kernel_rfl) (by kernel_rfl) (by kernel_rfl) (by kernel_rfl) (by kernel_rfl) (by kernel_rfl) (by kernel_rfl)
noncomputable def F69 : GF := fun cl ar h => x_arg ar fun v0 ar => x_arg ar fun v1 ar => x_ar0 ar (
 x_loop (jbad [0,1]) (fun J2 => (fun (v3 v4 : AV) (h5 : KH) =>
 x_call cl 111 [v3,v4] h5 fun v6 h6 =>
 x_nc v4 fun v7 =>
 x_fa 43 v7 fun v8 =>
 x_ld none v8 h6 fun v9 =>
 x_len v9 fun v10 =>
 x_bin .sub v10 (I 1) fun v11 =>
 x_lss v11 (I 0) fun v12 =>
 x_if0 v12
 (x_nc v4 fun v13 =>
 x_fa 0 v13 fun v14 =>
 x_fa 6 v14 fun v15 =>
 x_st 1 v15 (.bool true) h6 fun h16 =>
 x_nc v3 fun v17 =>
 x_fa 2 v17 fun v18 =>
 x_ld none v18 h16 fun v19 =>
 x_bsl [.nilp] 1 [.mk 0 1 v4] h16 fun v20 h20 =>
 x_app 1 8 v19 v20 h20 fun v21 h21 =>
 x_nc v3 fun v22 =>
 x_fa 2 v22 fun v23 =>
 x_st 1 v23 v21 h21 fun h24 =>
 .ret (.tup []) h24)
 (x_nc v4 fun v13 =>
 x_fa 43 v13 fun v14 =>
 x_ld none v14 h6 fun v15 =>
 x_ixS 4 v15 v11 fun v16 =>
 x_nc v3 fun v17 =>
 x_fa 0 v17 fun v18 =>
 x_fa 1 v18 fun v19 =>
 x_ld none v19 h6 fun v20 =>
 x_nc v16 fun v21 =>
 x_fa 0 v21 fun v22 =>
 x_ld none v22 h6 fun v23 =>
 x_ixS 1 v20 v23 fun v24 =>
 x_ld none v24 h6 fun v25 =>
 x_nc v16 fun v26 =>
 x_fa 1 v26 fun v27 =>
 x_ld none v27 h6 fun v28 =>
 x_len v25 fun v29 =>
 x_lss v28 v29 fun v30 =>
 x_if0 v30
 (x_nc v16 fun v31 =>
 x_fa 1 v31 fun v32 =>
 x_ld none v32 h6 fun v33 =>
 x_ixS 1 v25 v33 fun v34 =>
 x_ld none v34 h6 fun v35 =>
 x_nc v16 fun v36 =>
 x_fa 1 v36 fun v37 =>
 x_ld none v37 h6 fun v38 =>
 x_add v38 (I 1) fun v39 =>
 x_nc v16 fun v40 =>
 x_fa 1 v40 fun v41 =>
 x_st 1 v41 v39 h6 fun h42 =>
 x_nc v4 fun v43 =>
 x_fa 0 v43 fun v44 =>
 x_fa 9 v44 fun v45 =>
 x_ld none v45 h42 fun v46 =>
 x_bsl [(I 0)] 1 [.mk 0 1 v35] h42 fun v47 h47 =>
 x_app 1 8 v46 v47 h47 fun v48 h48 =>
 x_nc v4 fun v49 =>
 x_fa 0 v49 fun v50 =>
 x_fa 9 v50 fun v51 =>
 x_st 1 v51 v48 h48 fun h52 =>
 x_nc v3 fun v53 =>
 x_fa 0 v53 fun v54 =>
 x_fa 0 v54 fun v55 =>
 x_ld none v55 h52 fun v56 =>
 x_ixS 33 v56 v35 fun v57 =>
 x_ld (some 33) v57 h52 fun v58 =>
 x_call cl 112 [v4,v58] h52 fun v59 h59 =>
 x_nc v3 fun v60 =>
 x_fa 0 v60 fun v61 =>
 x_fa 0 v61 fun v62 =>
 x_ld none v62 h59 fun v63 =>
 x_ixS 33 v63 v35 fun v64 =>
 x_ld (some 33) v64 h59 fun v65 =>
 x_call cl 113 [v3,v4,v65] h59 fun v66 h66 =>
 x_un .not v66 fun v67 =>
 x_if0 v67
 (.ret (.tup []) h66)
 (J2 v3 v4 h66))
 (x_nc v16 fun v31 =>
 x_fa 2 v31 fun v32 =>
 x_ld none v32 h6 fun v33 =>
 x_lss v33 (I 0) fun v34 =>
 x_if0 v34
 (x_nc v4 fun v35 =>
 x_fa 43 v35 fun v36 =>
 x_ld none v36 h6 fun v37 =>
 x_pu (.sliceS 4 (.cst v37) none (some (.cst v11)) none) fun v38 =>
 x_nc v4 fun v39 =>
 x_fa 43 v39 fun v40 =>
 x_st 1 v40 v38 h6 fun h41 =>
 J2 v3 v4 h41)
 (x_nc v16 fun v35 =>
 x_fa 3 v35 fun v36 =>
 x_ld none v36 h6 fun v37 =>
 x_bin .gtr v37 (I 1) fun v38 =>
 x_if0 v38
 (x_nc v16 fun v39 =>
 x_fa 3 v39 fun v40 =>
 x_ld none v40 h6 fun v41 =>
 x_bin .sub v41 (I 1) fun v42 =>
 x_nc v16 fun v43 =>
 x_fa 1 v43 fun v44 =>
 x_st 1 v44 (I 0) h6 fun h45 =>
 x_nc v16 fun v46 =>
 x_fa 3 v46 fun v47 =>
 x_st 1 v47 v42 h45 fun h48 =>
 J2 v3 v4 h48)
 (x_nc v4 fun v39 =>
 x_fa 44 v39 fun v40 =>
 x_st 1 v40 (.bool true) h6 fun h41 =>
 x_nc v3 fun v42 =>
 x_fa 0 v42 fun v43 =>
 x_fa 0 v43 fun v44 =>
 x_ld none v44 h41 fun v45 =>
 x_nc v16 fun v46 =>
 x_fa 2 v46 fun v47 =>
 x_ld none v47 h41 fun v48 =>
 x_ixS 33 v45 v48 fun v49 =>
 x_fa 6 v49 fun v50 =>
 x_ld none v50 h41 fun v51 =>
 x_call cl 114 [v3,v4,v51] h41 fun v52 h52 =>
 .ret (.tup []) h52)))))) v0 v1 h)
def H69 : Hints := [(6,[(0,0,[],false),(1,1,[],false),(2,3,[],false),(3,7,[],false),(4,15,[],false),(5,0,[],false),(6,32,[],false),(7,96,[],false),(8,224,[],false),(9,511,[],false),(10,1023,[],false),(11,2047,[],false)]),(8,[(0,0,[],false),(1,0,[],false),(2,0,[],false),(3,4,[],false),(4,12,[],false),(5,28,[],false),(6,60,[],false),(7,0,[],false),(8,128,[],false),(9,384,[],false),(10,896,[],false),(11,2044,[],false),(12,4092,[],false),(13,8188,[],false),(14,16383,[],true)])]
theorem S69 : SoundF Tryz.prog 69 F69 := kfun_of (fn := Tryz.f69) (n := 156) (np := 2) (hs := H69) (q := []) (t := (.i (.j [0,1] (.i (.s .l (.s .l (.s (.s .l (.i (.s .l (.s .l .l)) .l)) (.s .l (.s .l (.i (.s .l (.i (.s .l (.s .l (.s .l (.s .l (.s .l (.i .l .l)))))) (.s .l (.i .l (.s .l (.i .l (.s .l (.s .l .l)))))))) .l)))))) .l) .l) .l)) mix1 (by kernel_rfl) (by kernel_rfl) (by kernel_rfl) (by kernel_rfl) (by kernel_rfl) (by kernel_rfl) (by kernel_rfl) (by kernel_rfl)
noncomputable def F70 : GF := fun cl ar h => x_arg ar fun v0 ar => x_arg ar fun v1 ar => x_ar0 ar (
 x_bin .geq v1 (I 0) fun v2 =>
 x_if v2 (fun (v3 : AV) (h4 : KH) =>
 .ret v3 h4)
 (fun J3 => x_nc v0 fun v4 =>
 x_fa 43 v4 fun v5 =>
 x_ld none v5 h fun v6 =>
 x_bld (rpl 4 (I 0) []) [.mk 0 1 v1,.mk 2 1 (.int .i64 (-1))] fun v7 =>
 x_bsl (rpl 4 (I 0) []) 1 [.mk 0 4 v7] h fun v8 h8 =>
 x_app 4 32 v6 v8 h8 fun v9 h9 =>
 x_nc v0 fun v10 =>
 x_fa 43 v10 fun v11 =>
 x_st 1 v11 v9 h9 fun h12 =>
 J3 v0 h12)
 (fun J3 => J3 v0 h))
def H70 : Hints := []
theorem S70 : SoundF Tryz.prog 70 F70 := kfun_of (fn := Tryz.f70) (n := 19) (np := 2) (hs := H70) (q := [.tmp 4]) (t := (.s .l (.s (.s .l (.j [0] .l .l)) (.s .l .l)))) mix1 (by kernel_rfl) (by kernel_rfl) (by kernel_rfl) (by kernel_rfl) (by kernel_rfl) (by kernel_rfl) (by kernel_rfl) (by kernel_rfl)
noncomputable def F71 : GF := fun cl ar h => x_arg ar fun v0 ar => x_ar0 ar (
 x_pu (.eq false .slice (.cst v0) (.cst .nils)) fun v1 =>
 x_if0 v1
 (.ret .nils h)
 (x_bsl [] 0 [] h fun v2 h2 =>
 x_app 2 16 v2 v0 h2 fun v3 h3 =>
 .ret v3 h3))
def H71 : Hints := []
theorem S71 : SoundF Tryz.prog 71 F71 := kfun_of (fn := Tryz.f71) (n := 8) (np := 1) (hs := H71) (q := [.tmp 2]) (t := (.s .l (.s (.s .l (.i (.s .l .l) .l)) (.s .l .l)))) mix1 (by kernel_rfl) (by kernel_rfl) (by kernel_rfl) (by kernel_rfl) (by kernel_rfl) (by kernel_rfl) (by kernel_rfl) (by kernel_rfl)
noncomputable def F72 : GF := fun cl ar h => x_arg ar fun v0 ar => x_ar0 ar (
 x_bx v0 h fun v1 h1 =>
 x_ld (some 4) v1 h1 fun v2 =>
 x_call cl 116 [v2] h1 fun v3 h3 =>
 x_call cl 115 [v3] h3 fun v4 h4 =>
 .ret v4 h4)
def H72 : Hints := []
theorem S72 : SoundF Tryz.prog 72 F72 := kfun_of (fn := Tryz.f72) (n := 6) (np := 1) (hs := H72) (q := [.tmp 2]) (t := (.s .l (.s .l .l))) mix1 (by kernel_rfl) (by kernel_rfl) (by kernel_rfl) (by kernel_rfl) (by kernel_rfl) (by kernel_rfl) (by kernel_rfl) (by kernel_rfl)
noncomputable def F73 : GF := fun cl ar h => x_arg ar fun v0 ar => x_ar0 ar (
 x_bx v0 h fun v1 h1 =>
 x_nw ((I 0) :: (rpl 6 .nils ((I 0) :: (rpl 4 .nils (rpl 4 (I 0) ((.bool false) :: ((I 0) :: ((.bool false) :: [])))))))) p0 h1 fun v2 h2 =>
 x_fa 0 v1 fun v3 =>
 x_nc v3 fun v4 =>
 x_fa 1 v4 fun v5 =>
 x_ld none v5 h2 fun v6 =>
 x_nc v3 fun v7 =>
 x_fa 2 v7 fun v8 =>
 x_ld none v8 h2 fun v9 =>
 x_call cl 71 [v6] h2 fun v10 h10 =>
 x_chk (cond (koEq (kload none v8 h10) v9) true false) (x_call cl 71 [v9] h10 fun v11 h11 =>
 x_chk true (x_nc v3 fun v12 =>
 x_fa 1 v12 fun v13 =>
 x_st 1 v13 v10 h11 fun h14 =>
 x_chk true (x_nc v3 fun v15 =>
 x_fa 2 v15 fun v16 =>
 x_st 1 v16 v11 h14 fun h17 =>
 x_chk true (x_nc v3 fun v18 =>
 x_fa 3 v18 fun v19 =>
 x_fa 0 v19 fun v20 =>
 x_ld none v20 h17 fun v21 =>
 x_nc v3 fun v22 =>
 x_fa 3 v22 fun v23 =>
 x_fa 2 v23 fun v24 =>
 x_ld none v24 h17 fun v25 =>
 x_call cl 117 [v21] h17 fun v26 h26 =>
 x_chk (cond (koEq (kload none v24 h26) v25) true false) (x_call cl 118 [v25] h26 fun v27 h27 =>
 x_chk true (x_nc v3 fun v28 =>
 x_fa 3 v28 fun v29 =>
 x_fa 0 v29 fun v30 =>
 x_st 1 v30 v26 h27 fun h31 =>
 x_chk true (x_nc v3 fun v32 =>
 x_fa 3 v32 fun v33 =>
 x_fa 2 v33 fun v34 =>
 x_st 1 v34 v27 h31 fun h35 =>
 x_chk true (x_nc v3 fun v36 =>
 x_fa 3 v36 fun v37 =>
 x_fa 1 v37 fun v38 =>
 x_ld none v38 h35 fun v39 =>
 x_call cl 119 [v39] h35 fun v40 h40 =>
 x_nc v3 fun v41 =>
 x_fa 3 v41 fun v42 =>
 x_fa 1 v42 fun v43 =>
 x_st 1 v43 v40 h40 fun h44 =>
 x_nc v3 fun v45 =>
 x_fa 3 v45 fun v46 =>
 x_fa 1 v46 fun v47 =>
 x_ld none v47 h44 fun v48 =>
 x_len v48 fun v49 =>
 x_loop (jbad [1,2,3,59,60]) (fun J50 => (fun (v51 v52 v53 v54 v55 : AV) (h56 : KH) =>
 x_lss v55 v54 fun v57 =>
 x_if0 v57
 (x_nc v53 fun v58 =>
 x_fa 3 v58 fun v59 =>
 x_fa 1 v59 fun v60 =>
 x_ld none v60 h56 fun v61 =>
 x_nc v53 fun v62 =>
 x_fa 3 v62 fun v63 =>
 x_fa 1 v63 fun v64 =>
 x_ld none v64 h56 fun v65 =>
 x_ixS 1 v65 v55 fun v66 =>
 x_ld none v66 h56 fun v67 =>
 x_call cl 10 [v67] h56 fun v68 h68 =>
 x_chk (cond (koEq (kload none v60 h68) v61) true false) (x_ixS 1 v61 v55 fun v69 =>
 x_st 1 v69 v68 h68 fun h70 =>
 x_chk true (x_add v55 (I 1) fun v71 =>
 J50 v51 v52 v53 v54 v71 h70)))
 (x_nc v53 fun v58 =>
 x_fa 8 v58 fun v59 =>
 x_fa 0 v59 fun v60 =>
 x_ld none v60 h56 fun v61 =>
 x_nc v53 fun v62 =>
 x_fa 8 v62 fun v63 =>
 x_fa 2 v63 fun v64 =>
 x_ld none v64 h56 fun v65 =>
 x_call cl 117 [v61] h56 fun v66 h66 =>
 x_chk (cond (koEq (kload none v64 h66) v65) true false) (x_call cl 118 [v65] h66 fun v67 h67 =>
 x_chk true (x_nc v53 fun v68 =>
 x_fa 8 v68 fun v69 =>
 x_fa 0 v69 fun v70 =>
 x_st 1 v70 v66 h67 fun h71 =>
 x_chk true (x_nc v53 fun v72 =>
 x_fa 8 v72 fun v73 =>
 x_fa 2 v73 fun v74 =>
 x_st 1 v74 v67 h71 fun h75 =>
 x_chk true (x_nc v53 fun v76 =>
 x_fa 8 v76 fun v77 =>
 x_fa 1 v77 fun v78 =>
 x_ld none v78 h75 fun v79 =>
 x_nc v53 fun v80 =>
 x_fa 8 v80 fun v81 =>
 x_fa 3 v81 fun v82 =>
 x_ld none v82 h75 fun v83 =>
 x_call cl 120 [v79] h75 fun v84 h84 =>
 x_chk (cond (koEq (kload none v82 h84) v83) true false) (x_call cl 121 [v83] h84 fun v85 h85 =>
 x_chk true (x_nc v53 fun v86 =>
 x_fa 8 v86 fun v87 =>
 x_fa 1 v87 fun v88 =>
 x_st 1 v88 v84 h85 fun h89 =>
 x_chk true (x_nc v53 fun v90 =>
 x_fa 8 v90 fun v91 =>
 x_fa 3 v91 fun v92 =>
 x_st 1 v92 v85 h89 fun h93 =>
 x_chk true (x_nc v53 fun v94 =>
 x_fa 8 v94 fun v95 =>
 x_fa 1 v95 fun v96 =>
 x_ld none v96 h93 fun v97 =>
 x_len v97 fun v98 =>
 x_loop (jbad [1,2,3,125,126]) (fun J99 => (fun (v100 v101 v102 v103 v104 : AV) (h105 : KH) =>
 x_lss v104 v103 fun v106 =>
 x_if0 v106
 (x_nc v102 fun v107 =>
 x_fa 8 v107 fun v108 =>
 x_fa 1 v108 fun v109 =>
 x_ld none v109 h105 fun v110 =>
 x_nc v102 fun v111 =>
 x_fa 8 v111 fun v112 =>
 x_fa 1 v112 fun v113 =>
 x_ld none v113 h105 fun v114 =>
 x_ixS 1 v114 v104 fun v115 =>
 x_ld none v115 h105 fun v116 =>
 x_call cl 122 [v116] h105 fun v117 h117 =>
 x_chk (cond (koEq (kload none v109 h117) v110) true false) (x_ixS 1 v110 v104 fun v118 =>
 x_st 1 v118 v117 h117 fun h119 =>
 x_chk true (x_nc v102 fun v120 =>
 x_fa 8 v120 fun v121 =>
 x_fa 1 v121 fun v122 =>
 x_ld none v122 h119 fun v123 =>
 x_ixS 1 v123 v104 fun v124 =>
 x_ld none v124 h119 fun v125 =>
 x_len v125 fun v126 =>
 x_loop (jbad [1,2,3,5,125,126,153,154]) (fun J127 => (fun (v128 v129 v130 v131 v132 v133 v134 v135 : AV) (h136 : KH) =>
 x_lss v135 v134 fun v137 =>
 x_if0 v137
 (x_nc v130 fun v138 =>
 x_fa 8 v138 fun v139 =>
 x_fa 1 v139 fun v140 =>
 x_ld none v140 h136 fun v141 =>
 x_ixS 1 v141 v131 fun v142 =>
 x_ld none v142 h136 fun v143 =>
 x_nc v130 fun v144 =>
 x_fa 8 v144 fun v145 =>
 x_fa 1 v145 fun v146 =>
 x_ld none v146 h136 fun v147 =>
 x_ixS 1 v147 v131 fun v148 =>
 x_ld none v148 h136 fun v149 =>
 x_ixS 2 v149 v135 fun v150 =>
 x_fa 1 v150 fun v151 =>
 x_ld none v151 h136 fun v152 =>
 x_call cl 123 [v152] h136 fun v153 h153 =>
 x_chk (cond (koEq (kload none v142 h153) v143) (cond (koEq (kload none v140 h153) v141) true false) false) (x_ixS 2 v143 v135 fun v154 =>
 x_fa 1 v154 fun v155 =>
 x_st 1 v155 v153 h153 fun h156 =>
 x_chk true (x_add v135 (I 1) fun v157 =>
 J127 v128 v129 v130 v131 v132 v133 v134 v157 h156)))
 (x_nc v130 fun v138 =>
 x_fa 8 v138 fun v139 =>
 x_fa 3 v139 fun v140 =>
 x_ld none v140 h136 fun v141 =>
 x_nc v130 fun v142 =>
 x_fa 8 v142 fun v143 =>
 x_fa 3 v143 fun v144 =>
 x_ld none v144 h136 fun v145 =>
 x_ixS 1 v145 v131 fun v146 =>
 x_ld none v146 h136 fun v147 =>
 x_call cl 55 [v147] h136 fun v148 h148 =>
 x_chk (cond (koEq (kload none v140 h148) v141) true false) (x_ixS 1 v141 v131 fun v149 =>
 x_st 1 v149 v148 h148 fun h150 =>
 x_chk true (x_add v133 (I 1) fun v151 =>
 J99 v128 v129 v130 v132 v151 h150))))) v100 v101 v102 v104 v103 v104 v126 (I 0) h119)))
 (x_ld (some 19) v100 h105 fun v107 =>
 x_st 19 v101 v107 h105 fun h108 =>
 x_ld (some 19) v101 h108 fun v109 =>
 .ret v109 h108))) v51 v52 v53 v98 (I 0) h93))))))))))) v1 v2 v3 v49 (I 0) h44)))))))))
def H73 : Hints := [(2,[(0,0,[],false),(1,0,[],false),(2,0,[],false),(3,4,[],false),(4,12,[],false),(5,28,[],false),(7,0,[],false),(8,128,[],false),(9,384,[],false),(10,896,[],false),(6,60,[10],true),(11,2044,[],true),(12,4093,[],false),(13,8189,[],false),(14,16381,[],true),(15,32767,[],false),(16,65535,[],false),(17,131071,[],true)]),(3,[(0,0,[],false),(1,0,[],false),(2,0,[],false),(3,4,[],false),(4,12,[],false),(5,28,[],false),(6,60,[],false),(8,0,[],false),(9,256,[],false),(10,768,[],false),(11,1792,[],false),(12,3840,[],false),(7,124,[12],true),(13,8188,[],true),(14,16381,[],false),(15,32765,[],false),(16,65533,[],false),(17,131069,[],true),(18,262143,[],false),(19,524287,[],false),(20,1048575,[],false),(21,2097151,[],true)]),(8,[(0,0,[],false),(1,1,[],false),(2,3,[],false),(3,7,[],false),(4,15,[],false),(5,0,[],false),(6,0,[],false),(7,64,[],false),(8,192,[],false),(9,448,[],false),(10,960,[],false),(11,0,[],false),(12,4032,[],false),(13,8128,[],false),(14,16320,[4],true),(15,32767,[],false),(16,65535,[],true)]),(10,[(0,0,[],false),(1,0,[],false),(2,0,[],false),(3,4,[],false),(4,12,[],false),(5,28,[],false),(6,60,[],false),(8,0,[],false),(9,256,[],false),(10,768,[],false),(11,1792,[],false),(12,3840,[],false),(7,124,[12],true),(13,8188,[],true),(14,16381,[],false),(15,32765,[],false),(16,65533,[],false),(17,131069,[],true),(18,262143,[],false),(19,524287,[],false),(20,1048575,[],false),(21,2097151,[],true)]),(11,[(0,0,[],false),(1,0,[],false),(2,0,[],false),(3,4,[],false),(4,12,[],false),(5,28,[],false),(6,60,[],false),(8,0,[],false),(9,256,[],false),(10,768,[],false),(11,1792,[],false),(12,3840,[],false),(7,124,[12],true),(13,8188,[],true),(14,16381,[],false),(15,32765,[],false),(16,65533,[],false),(17,131069,[],true),(18,262143,[],false),(19,524287,[],false),(20,1048575,[],false),(21,2097151,[],true)]),(15,[(0,0,[],false),(1,1,[],false),(2,3,[],false),(3,7,[],false),(4,15,[],false),(5,0,[],false),(6,0,[],false),(7,64,[],false),(8,192,[],false),(9,448,[],false),(10,960,[],false),(11,0,[],false),(12,4032,[],false),(13,8128,[],false),(14,16320,[4],true),(15,32767,[],false),(16,65535,[],true)]),(19,[(0,0,[],false),(1,1,[],false),(2,3,[],false),(3,7,[],false),(4,15,[],false),(5,0,[],false),(6,63,[],false),(7,127,[],false),(8,0,[],false),(9,0,[],false),(10,512,[],false),(11,1536,[],false),(12,3584,[],false),(13,7680,[],false),(14,0,[],false),(15,32256,[],false),(16,65024,[],false),(17,0,[],false),(18,261632,[],false),(19,523776,[],false),(20,1048064,[],false),(21,2096640,[4,7],true),(22,4194303,[],false),(23,8388607,[],false),(24,16777215,[],true)]),(21,[(0,0,[],false),(1,1,[],false),(2,3,[],false),(3,7,[],false),(4,15,[],false),(5,0,[],false),(6,0,[],false),(7,64,[],false),(8,192,[],false),(9,448,[],false),(10,960,[],false),(11,0,[],false),(12,4032,[],false),(13,8128,[],false),(14,16320,[4],true),(15,32767,[],false),(16,65535,[],true)])]
theorem S73 : SoundF Tryz.prog 73 F73 := kfun_of (fn := Tryz.f73) (n := 200) (np := 1) (hs := H73) (q := [.cell 2 (some 19)]) (t := (.s .l (.s .l (.s .l (.s .l (.s .l (.s (.s .l (.i (.j [1,2,3,59,60] (.s .l (.s (.i .l .l) (.s (.i (.s .l .l) .l) .l))) .l) .l)) (.s .l (.s .l (.s (.s .l (.i (.j [1,2,3,125,126] (.s .l (.s (.i .l .l) (.s (.i (.s .l (.s .l (.s (.s .l (.i (.j [1,2,3,5,125,126,153,154] (.s .l (.s (.i .l .l) (.s (.i (.s .l .l) .l) .l))) .l) .l)) .l))) .l) .l))) .l) .l)) (.s .l .l))))))))))) mix1 (by kernel_rfl) (by kernel_rfl) (by kernel_rfl) (by kernel_rfl) (by kernel_rfl) (by kernel_rfl) (by kernel_rfl) (by kernel_rfl)
noncomputable def F74 : GF := fun cl ar h => x_arg ar fun v0 ar => x_arg ar fun v1 ar => x_ar0 ar (
 x_bx v0 h fun v2 h2 =>
 x_bx v1 h2 fun v3 h3 =>
 x_fa 1 v2 fun v4 =>
 x_ld none v4 h3 fun v5 =>
 x_len v5 fun v6 =>
 x_fa 2 v2 fun v7 =>
 x_ld none v7 h3 fun v8 =>
 x_len v8 fun v9 =>
 x_bld (rpl 6 .nils (rpl 2 (I 0) [])) [.mk 6 1 v6,.mk 7 1 v9] fun v10 =>
 x_bx v10 h3 fun v11 h11 =>
 x_nw [.nilp] p0 h11 fun v12 h12 =>
 x_st 1 v12 v11 h12 fun h13 =>
 x_ld none v12 h13 fun v14 =>
 x_fa 0 v2 fun v15 =>
 x_ld none v15 h13 fun v16 =>
 x_fa 0 v3 fun v17 =>
 x_ld none v17 h13 fun v18 =>
 x_bs [.nils,.nils] 2 [.mk 0 1 v16,.mk 1 1 v18] fun c19 g19 =>  x_nw c19 g19 h13 fun v19 h19 =>
 x_call cl 124 [v19] h19 fun v20 h20 =>
 x_chk (cond (koEq (kload none v12 h20) v14) true false) (x_nc v14 fun v21 =>
 x_fa 0 v21 fun v22 =>
 x_fa 0 v22 fun v23 =>
 x_st 1 v23 v20 h20 fun h24 =>
 x_chk true (x_ld none v12 h24 fun v25 =>
 x_nc v25 fun v26 =>
 x_fa 0 v26 fun v27 =>
 x_fa 0 v27 fun v28 =>
 x_ld none v28 h24 fun v29 =>
 x_call cl 125 [v29] h24 fun v30 h30 =>
 x_ld none v12 h30 fun v31 =>
 x_ld none v12 h30 fun v32 =>
 x_nc v32 fun v33 =>
 x_fa 0 v33 fun v34 =>
 x_fa 0 v34 fun v35 =>
 x_ld none v35 h30 fun v36 =>
 x_call cl 126 [v36] h30 fun v37 h37 =>
 x_chk (cond (koEq (kload none v12 h37) v31) true false) (x_nc v31 fun v38 =>
 x_fa 0 v38 fun v39 =>
 x_fa 0 v39 fun v40 =>
 x_st 1 v40 v37 h37 fun h41 =>
 x_chk true (x_ld none v12 h41 fun v42 =>
 x_fa 1 v2 fun v43 =>
 x_ld none v43 h41 fun v44 =>
 x_fa 1 v3 fun v45 =>
 x_ld none v45 h41 fun v46 =>
 x_pu (.sliceS 1 (.cst v46) (some (.cst (I 1))) none none) fun v47 =>
 x_bs [.nils,.nils] 2 [.mk 0 1 v44,.mk 1 1 v47] fun c48 g48 =>  x_nw c48 g48 h41 fun v48 h48 =>
 x_call cl 127 [v48] h48 fun v49 h49 =>
 x_chk (cond (koEq (kload none v12 h49) v42) true false) (x_nc v42 fun v50 =>
 x_fa 0 v50 fun v51 =>
 x_fa 1 v51 fun v52 =>
 x_st 1 v52 v49 h49 fun h53 =>
 x_chk true (x_ld none v12 h53 fun v54 =>
 x_fa 2 v2 fun v55 =>
 x_ld none v55 h53 fun v56 =>
 x_fa 2 v3 fun v57 =>
 x_ld none v57 h53 fun v58 =>
 x_bs [.nils,.nils] 2 [.mk 0 1 v56,.mk 1 1 v58] fun c59 g59 =>  x_nw c59 g59 h53 fun v59 h59 =>
 x_call cl 127 [v59] h59 fun v60 h60 =>
 x_chk (cond (koEq (kload none v12 h60) v54) true false) (x_nc v54 fun v61 =>
 x_fa 0 v61 fun v62 =>
 x_fa 2 v62 fun v63 =>
 x_st 1 v63 v60 h60 fun h64 =>
 x_chk true (x_ld none v12 h64 fun v65 =>
 x_ld (some 6) v2 h64 fun v66 =>
 x_call cl 129 [v65,v66,(.fn (.func 128) [] []),(.fn (.func 128) [] [])] h64 fun v67 h67 =>
 x_ld none v12 h67 fun v68 =>
 x_ld (some 6) v3 h67 fun v69 =>
 x_ld none v12 h67 fun v70 =>
 x_call cl 129 [v68,v69,(.fn (.func 78) [v70] []),(.fn (.func 130) [] [v12])] h67 fun v71 h71 =>
 x_ld none v12 h71 fun v72 =>
 .ret v72 h71)))))))))
def H74 : Hints := [(2,[(0,0,[],false),(1,0,[],false),(2,2,[],false),(3,0,[],false),(4,8,[],false),(5,30,[],false),(6,62,[0],true),(7,127,[],false),(8,255,[],false),(9,511,[],false),(10,1023,[],true)]),(4,[(0,0,[],false),(1,0,[],false),(2,2,[],false),(3,6,[],false),(4,14,[],false),(5,30,[],false),(6,62,[0],true),(7,127,[],false),(8,255,[],false),(9,511,[],false),(10,1023,[],true)]),(5,[(0,0,[],false),(1,0,[],false),(2,2,[],false),(3,0,[],false),(4,8,[],false),(5,24,[],false),(6,62,[],false),(7,126,[0],true),(8,255,[],false),(9,511,[],false),(10,1023,[],false),(11,2047,[],true)]),(6,[(0,0,[],false),(1,0,[],false),(2,2,[],false),(3,0,[],false),(4,8,[],false),(5,30,[],false),(6,62,[0],true),(7,127,[],false),(8,255,[],false),(9,511,[],false),(10,1023,[],true)])]
theorem S74 : SoundF Tryz.prog 74 F74 := kfun_of (fn := Tryz.f74) (n := 74) (np := 2) (hs := H74) (q := [.tmp 4]) (t := (.s .l (.s .l (.s .l (.s .l (.s .l (.s .l (.s .l (.s .l (.s .l (.s .l (.s .l .l)))))))))))) mix1 (by kernel_rfl) (by kernel_rfl) (by kernel_rfl) (by kernel_rfl) (by kernel_rfl) (by kernel_rfl) (by kernel_rfl) (by kernel_rfl)
noncomputable def F75 : GF := fun cl ar h => x_arg ar fun v0 ar => x_arg ar fun v1 ar => x_ar0 ar (
 x_bx v0 h fun v2 h2 =>
 x_bx v1 h2 fun v3 h3 =>
 x_fa 0 v2 fun v4 =>
 x_ld none v4 h3 fun v5 =>
 x_fa 0 v3 fun v6 =>
 x_ld none v6 h3 fun v7 =>
 x_eql v5 v7 fun v8 =>
 .ret v8 h3)
def H75 : Hints := []
theorem S75 : SoundF Tryz.prog 75 F75 := kfun_of (fn := Tryz.f75) (n := 10) (np := 2) (hs := H75) (q := [.tmp 4]) (t := (.s .l (.s .l .l))) mix1 (by kernel_rfl) (by kernel_rfl) (by kernel_rfl) (by kernel_rfl) (by kernel_rfl) (by kernel_rfl) (by kernel_rfl) (by kernel_rfl)
noncomputable def F76 : GF := fun cl ar h => x_arg ar fun v0 ar => x_arg ar fun v1 ar => x_arg ar fun v2 ar => x_ar0 ar (
 x_len v0 fun v3 =>
 x_len v1 fun v4 =>
 x_neq v3 v4 fun v5 =>
 x_if0 v5
 (.ret (.bool false) h)
 (x_len v0 fun v6 =>
 x_loop (jbad [1,2,15,16,17]) (fun J7 => (fun (v8 v9 v10 v11 v12 : AV) (h13 : KH) =>
 x_lss v12 v11 fun v14 =>
 x_if0 v14
 (x_ixS 2 v10 v12 fun v15 =>
 x_ld (some 2) v15 h13 fun v16 =>
 x_nw [(.str []),.nils] p0 h13 fun v17 h17 =>
 x_st 2 v17 v16 h17 fun h18 =>
 x_ixS 2 v8 v12 fun v19 =>
 x_ld (some 2) v19 h18 fun v20 =>
 x_nw [(.str []),.nils] p0 h18 fun v21 h21 =>
 x_st 2 v21 v20 h21 fun h22 =>
 x_ld (some 2) v17 h22 fun v23 =>
 x_ld (some 2) v21 h22 fun v24 =>
 x_cl cl v9 [v23,v24] h22 fun v25 h25 =>
 x_un .not v25 fun v26 =>
 x_if0 v26
 (.ret (.bool false) h25)
 (x_add v12 (I 1) fun v27 =>
 J7 v8 v9 v10 v11 v27 h25))
 (.ret (.bool true) h13))) v1 v2 v0 v6 (I 0) h))
def H76 : Hints := []
theorem S76 : SoundF Tryz.prog 76 F76 := kfun_of (fn := Tryz.f76) (n := 32) (np := 3) (hs := H76) (q := [.tmp 6]) (t := (.s .l (.s (.s .l (.i (.s .l .l) .l)) (.s (.s .l (.i (.j [1,2,15,16,17] (.s .l (.s (.i .l .l) (.s (.i (.s .l (.s .l (.s .l (.i (.s .l .l) .l)))) .l) .l))) .l) .l)) (.s .l .l))))) mix1 (by kernel_rfl) (by kernel_rfl) (by kernel_rfl) (by kernel_rfl) (by kernel_rfl) (by kernel_rfl) (by kernel_rfl) (by kernel_rfl)
noncomputable def F77 : GF := fun cl ar h => x_arg ar fun v0 ar => x_arg ar fun v1 ar => x_ar0 ar (
 x_len v0 fun v2 =>
 x_loop (jbad [1,5,8,9,10]) (fun J3 => (fun (v4 v5 v6 v7 v8 : AV) (h9 : KH) =>
 x_lss v8 v7 fun v10 =>
 x_if0 v10
 (x_ixS 2 v6 v8 fun v11 =>
 x_ld (some 2) v11 h9 fun v12 =>
 x_nw [(I 0),(N .u8 0)] p0 h9 fun v13 h13 =>
 x_st 2 v13 v12 h13 fun h14 =>
 x_fa 0 v13 fun v15 =>
 x_ld none v15 h14 fun v16 =>
 x_cl cl v4 [v16] h14 fun v17 h17 =>
 x_fa 0 v13 fun v18 =>
 x_st 1 v18 v17 h17 fun h19 =>
 x_ld (some 2) v13 h19 fun v20 =>
 x_bsl [(I 0),(N .u8 0)] 1 [.mk 0 2 v20] h19 fun v21 h21 =>
 x_app 2 16 v5 v21 h21 fun v22 h22 =>
 x_add v8 (I 1) fun v23 =>
 J3 v4 v22 v6 v7 v23 h22)
 (.ret v5 h9))) v1 .nils v0 v2 (I 0) h)
def H77 : Hints := []
theorem S77 : SoundF Tryz.prog 77 F77 := kfun_of (fn := Tryz.f77) (n := 25) (np := 2) (hs := H77) (q := [.tmp 4]) (t := (.s .l (.s .l (.s (.s .l (.i (.j [1,5,8,9,10] (.s .l (.s (.i .l .l) (.s (.i (.s .l (.s .l .l)) .l) .l))) .l) .l)) (.s .l .l))))) mix1 (by kernel_rfl) (by kernel_rfl) (by kernel_rfl) (by kernel_rfl) (by kernel_rfl) (by kernel_rfl) (by kernel_rfl) (by kernel_rfl)
noncomputable def F78 : GF := fun cl ar h => x_arg ar fun v0 ar => x_arg ar fun v1 ar => x_ar0 ar (
 x_leq v1 (I 0) fun v2 =>
 x_if0 v2
 (.ret v1 h)
 (x_nc v0 fun v3 =>
 x_fa 6 v3 fun v4 =>
 x_ld none v4 h fun v5 =>
 x_add v1 v5 fun v6 =>
 x_bin .sub v6 (I 1) fun v7 =>
 .ret v7 h))
def H78 : Hints := []
theorem S78 : SoundF Tryz.prog 78 F78 := kfun_of (fn := Tryz.f78) (n := 15) (np := 2) (hs := H78) (q := [.tmp 4]) (t := (.s .l (.s (.s .l (.i (.s .l .l) .l)) (.s .l .l)))) mix1 (by kernel_rfl) (by kernel_rfl) (by kernel_rfl) (by kernel_rfl) (by kernel_rfl) (by kernel_rfl) (by kernel_rfl) (by kernel_rfl)
noncomputable def F79 : GF := fun cl ar h => x_arg ar fun v0 ar => x_ar0 ar (
 x_pu (.eq false .slice (.cst v0) (.cst .nils)) fun v1 =>
 x_if0 v1
 (.ret .nils h)
 (x_bsl [] 0 [] h fun v2 h2 =>
 x_app 19 312 v2 v0 h2 fun v3 h3 =>
 .ret v3 h3))
def H79 : Hints := []
theorem S79 : SoundF Tryz.prog 79 F79 := kfun_of (fn := Tryz.f79) (n := 8) (np := 1) (hs := H79) (q := [.tmp 2]) (t := (.s .l (.s (.s .l (.i (.s .l .l) .l)) (.s .l .l)))) mix1 (by kernel_rfl) (by kernel_rfl) (by kernel_rfl) (by kernel_rfl) (by kernel_rfl) (by kernel_rfl) (by kernel_rfl) (by kernel_rfl)
noncomputable def F80 : GF := fun cl ar h => x_arg ar fun v0 ar => x_ar0 ar (
 x_bx v0 h fun v1 h1 =>
 x_fa 1 v1 fun v2 =>
 x_ld none v2 h1 fun v3 =>
 x_len v3 fun v4 =>
 x_fa 2 v1 fun v5 =>
 x_ld none v5 h1 fun v6 =>
 x_len v6 fun v7 =>
 x_fa 5 v1 fun v8 =>
 x_ld none v8 h1 fun v9 =>
 x_len v9 fun v10 =>
 x_blk (fun (v11 v12 v13 v14 : AV) (h15 : KH) =>
 x_fa 0 v11 fun v16 =>
 x_ld none v16 h15 fun v17 =>
 x_len v17 fun v18 =>
 x_bin .gtr v18 (I 16) fun v19 =>
 x_grp false v19 (fun (v20 v21 : AV) (h22 : KH) =>
 x_pick v19 (.bool true) v21 fun v23 =>
 x_grp false v23 (fun (v24 v25 v26 v27 : AV) (h28 : KH) =>
 x_pick v23 (.bool true) v27 fun v29 =>
 x_grp false v29 (fun (v30 v31 v32 v33 v34 v35 v36 v37 v38 : AV) (h39 : KH) =>
 x_pick v29 (.bool true) v38 fun v40 =>
 x_if0 v40
 (.ret (I 2) h39)
 (x_fa 0 v11 fun v41 =>
 x_ld none v41 h39 fun v42 =>
 x_len v42 fun v43 =>
 x_bin .gtr v43 (I 0) fun v44 =>
 x_loop (jbad [1,3,4,8,9]) (fun J45 => (fun (v46 v47 v48 v49 v50 : AV) (h51 : KH) =>
 x_fa 0 v46 fun v52 =>
 x_ld none v52 h51 fun v53 =>
 x_len v53 fun v54 =>
 x_lss v50 v54 fun v55 =>
 x_if0 v55
 (x_grp true v49 (fun (v56 v57 v58 v59 v60 v61 v62 v63 v64 v65 v66 v67 : AV) (h68 : KH) =>
 x_pick v49 v67 (.bool false) fun v69 =>
 x_add v50 (I 1) fun v70 =>
 J45 v46 v47 v48 v69 v70 h68) (fun J56 =>
 x_fa 0 v46 fun v57 =>
 x_ld none v57 h51 fun v58 =>
 x_bin .sub v50 (I 1) fun v59 =>
 x_ixS 1 v58 v59 fun v60 =>
 x_ld none v60 h51 fun v61 =>
 x_fa 0 v46 fun v62 =>
 x_ld none v62 h51 fun v63 =>
 x_ixS 1 v63 v50 fun v64 =>
 x_ld none v64 h51 fun v65 =>
 x_lss v61 v65 fun v66 =>
 J56 v57 v58 v50 v59 v60 v61 v62 v63 v50 v64 v65 v66 h51) (fun J56 => J56 aud aud aud aud aud aud aud aud aud aud aud aud h51))
 (x_fa 1 v46 fun v56 =>
 x_ld none v56 h51 fun v57 =>
 x_len v57 fun v58 =>
 x_loop (jbad [1,3,4,8,92,93,94]) (fun J59 => (fun (v60 v61 v62 v63 v64 v65 v66 : AV) (h67 : KH) =>
 x_lss v66 v65 fun v68 =>
 x_if0 v68
 (x_ixS 1 v64 v66 fun v69 =>
 x_ld none v69 h67 fun v70 =>
 x_grp true v63 (fun (v71 v72 : AV) (h73 : KH) =>
 x_pick v63 v72 (.bool false) fun v74 =>
 x_add v66 (I 1) fun v75 =>
 J59 v60 v61 v62 v74 v64 v65 v75 h73) (fun J71 =>
 x_call cl 131 [v70,(I 0),(I 8)] h67 fun v72 h72 =>
 J71 v70 v72 h72) (fun J71 => J71 aud aud h67))
 (x_fa 2 v60 fun v69 =>
 x_ld none v69 h67 fun v70 =>
 x_len v70 fun v71 =>
 x_loop (jbad [1,3,4,8,105,106,107]) (fun J72 => (fun (v73 v74 v75 v76 v77 v78 v79 : AV) (h80 : KH) =>
 x_lss v79 v78 fun v81 =>
 x_if0 v81
 (x_ixS 1 v77 v79 fun v82 =>
 x_ld none v82 h80 fun v83 =>
 x_grp true v76 (fun (v84 v85 : AV) (h86 : KH) =>
 x_pick v76 v85 (.bool false) fun v87 =>
 x_add v79 (I 1) fun v88 =>
 J72 v73 v74 v75 v87 v77 v78 v88 h86) (fun J84 =>
 x_call cl 131 [v83,(I 0),(I 64)] h80 fun v85 h85 =>
 J84 v83 v85 h85) (fun J84 => J84 aud aud h80))
 (x_fa 3 v73 fun v82 =>
 x_ld none v82 h80 fun v83 =>
 x_len v83 fun v84 =>
 x_loop (jbad [1,3,4,8,118,119,120]) (fun J85 => (fun (v86 v87 v88 v89 v90 v91 v92 : AV) (h93 : KH) =>
 x_lss v92 v91 fun v94 =>
 x_if0 v94
 (x_ixS 19 v90 v92 fun v95 =>
 x_ld (some 19) v95 h93 fun v96 =>
 x_nw ((I 0) :: (rpl 6 .nils ((I 0) :: (rpl 4 .nils (rpl 4 (I 0) ((.bool false) :: ((I 0) :: ((.bool false) :: [])))))))) p0 h93 fun v97 h97 =>
 x_st 19 v97 v96 h97 fun h98 =>
 x_grp true v89 (fun (v99 v100 v101 v102 v103 : AV) (h104 : KH) =>
 x_pick v89 v103 (.bool false) fun v105 =>
 x_add v92 (I 1) fun v106 =>
 J85 v86 v87 v88 v105 v90 v91 v106 h104) (fun J99 =>
 x_fa 0 v97 fun v100 =>
 x_ld (some 18) v100 h98 fun v101 =>
 x_call cl 132 [v101,v87,v88] h98 fun v102 h102 =>
 J99 v100 v101 v87 v88 v102 h102) (fun J99 => J99 aud aud aud aud aud h98))
 (x_fa 4 v86 fun v95 =>
 x_ld none v95 h93 fun v96 =>
 x_len v96 fun v97 =>
 x_loop (jbad [1,3,4,8,134,135,136]) (fun J98 => (fun (v99 v100 v101 v102 v103 v104 v105 : AV) (h106 : KH) =>
 x_lss v105 v104 fun v107 =>
 x_if0 v107
 (x_ixS 18 v103 v105 fun v108 =>
 x_ld (some 18) v108 h106 fun v109 =>
 x_nw ((I 0) :: (rpl 6 .nils ((I 0) :: (rpl 4 .nils (rpl 4 (I 0) ((.bool false) :: ((I 0) :: []))))))) p0 h106 fun v110 h110 =>
 x_st 18 v110 v109 h110 fun h111 =>
 x_grp true v102 (fun (v112 v113 v114 v115 : AV) (h116 : KH) =>
 x_pick v102 v115 (.bool false) fun v117 =>
 x_add v105 (I 1) fun v118 =>
 J98 v99 v100 v101 v117 v103 v104 v118 h116) (fun J112 =>
 x_ld (some 18) v110 h111 fun v113 =>
 x_call cl 132 [v113,v100,v101] h111 fun v114 h114 =>
 J112 v113 v100 v101 v114 h114) (fun J112 => J112 aud aud aud aud h111))
 (x_fa 5 v99 fun v108 =>
 x_ld none v108 h106 fun v109 =>
 x_len v109 fun v110 =>
 x_loop (jbad [1,8,149,150,151]) (fun J111 => (fun (v112 v113 v114 v115 v116 : AV) (h117 : KH) =>
 x_lss v116 v115 fun v118 =>
 x_if0 v118
 (x_ixS 1 v114 v116 fun v119 =>
 x_ld none v119 h117 fun v120 =>
 x_grp true v113 (fun (v121 v122 v123 v124 v125 : AV) (h126 : KH) =>
 x_pick v113 v125 (.bool false) fun v127 =>
 x_add v116 (I 1) fun v128 =>
 J111 v112 v127 v114 v115 v128 h126) (fun J121 =>
 x_fa 4 v112 fun v122 =>
 x_ld none v122 h117 fun v123 =>
 x_len v123 fun v124 =>
 x_call cl 133 [v120,v124] h117 fun v125 h125 =>
 J121 v120 v122 v123 v124 v125 h125) (fun J121 => J121 aud aud aud aud aud h117))
 (x_un .not v113 fun v119 =>
 x_if0 v119
 (.ret (I 1) h117)
 (.ret (I 0) h117)))) v99 v102 v109 v110 (I 0) h106))) v86 v87 v88 v89 v96 v97 (I 0) h93))) v73 v74 v75 v76 v83 v84 (I 0) h80))) v60 v61 v62 v63 v70 v71 (I 0) h67))) v46 v47 v48 v49 v57 v58 (I 0) h51))) v11 v12 v13 v44 (I 1) h39)) (fun J30 =>
 x_fa 3 v11 fun v31 =>
 x_ld none v31 h28 fun v32 =>
 x_len v32 fun v33 =>
 x_fa 4 v11 fun v34 =>
 x_ld none v34 h28 fun v35 =>
 x_len v35 fun v36 =>
 x_pu (.minmax3 true (.cst v33) (.cst v36) (.cst v14)) fun v37 =>
 x_bin .gtr v37 (I 40) fun v38 =>
 J30 v31 v32 v33 v34 v35 v36 v14 v37 v38 h28) (fun J30 => J30 aud aud aud aud aud aud aud aud aud h28)) (fun J24 =>
 x_bin .sub (I 12) v12 fun v25 =>
 x_bin .gtr v13 v25 fun v26 =>
 J24 v13 v12 v25 v26 h22) (fun J24 => J24 aud aud aud aud h22)) (fun J20 =>
 x_bin .gtr v12 (I 12) fun v21 =>
 J20 v12 v21 h15) (fun J20 => J20 aud aud h15)) fun J11 =>
 x_loop (jbad [1,3,4,5,27,28,29]) (fun J12 => (fun (v13 v14 v15 v16 v17 v18 v19 : AV) (h20 : KH) =>
 x_lss v19 v18 fun v21 =>
 x_if0 v21
 (x_ixS 1 v17 v19 fun v22 =>
 x_ld none v22 h20 fun v23 =>
 x_len v23 fun v24 =>
 x_add v16 v24 fun v25 =>
 x_bin .gtr v25 (I 40) fun v26 =>
 x_if0 v26
 (J11 v13 v14 v15 v25 h20)
 (x_add v19 (I 1) fun v27 =>
 J12 v13 v14 v15 v25 v17 v18 v27 h20))
 (J11 v13 v14 v15 v16 h20))) v1 v4 v7 (I 0) v9 v10 (I 0) h1)
def H80 : Hints := [(1,[(0,0,[],false),(1,1,[],false),(2,3,[],false),(3,0,[],false),(4,8,[],false),(5,24,[],false),(6,7,[],false),(7,127,[],false),(8,255,[],false)]),(14,[(0,0,[],false),(1,1,[],false),(2,3,[],false),(3,7,[],false),(4,3,[],false),(5,19,[],false),(6,63,[],false),(7,127,[],false),(8,3,[],false),(9,259,[],false),(10,3,[],false),(11,1795,[],false),(12,3843,[],false),(13,8191,[],false),(14,16383,[],false),(15,32767,[],false)])]
theorem S80 : SoundF Tryz.prog 80 F80 := kfun_of (fn := Tryz.f80) (n := 166) (np := 1) (hs := H80) (q := [.tmp 2]) (t := (.s .l (.s .l (.s (.s .l (.j [1,3,4,5] (.j [1,3,4,5,27,28,29] (.s .l (.s (.i .l .l) (.s (.i (.s .l (.s .l (.s .l (.i .l .l)))) .l) .l))) .l) .l)) (.s (.s .l (.i (.s .l .l) .l)) (.s .l (.s (.s .l (.i (.j [1,3,4,8,9] (.s (.s .l (.i .l .l)) (.s (.i .l .l) .l)) .l) .l)) (.s (.s .l (.i (.j [1,3,4,8,92,93,94] (.s .l (.s (.i .l .l) (.s (.i (.s .l .l) .l) .l))) .l) .l)) (.s (.s .l (.i (.j [1,3,4,8,105,106,107] (.s .l (.s (.i .l .l) (.s (.i (.s .l .l) .l) .l))) .l) .l)) (.s (.s .l (.i (.j [1,3,4,8,118,119,120] (.s .l (.s (.i .l .l) (.s (.i (.s .l .l) .l) .l))) .l) .l)) (.s (.s .l (.i (.j [1,3,4,8,134,135,136] (.s .l (.s (.i .l .l) (.s (.i (.s .l .l) .l) .l))) .l) .l)) (.s (.s .l (.i (.j [1,8,149,150,151] (.s .l (.s (.i .l .l) (.s (.i (.s .l .l) .l) .l))) .l) .l)) (.s (.s .l (.i (.s .l .l) .l)) (.s .l .l)))))))))))))) mix1 (by kernel_rfl) (by kernel_rfl) (by kernel_rfl) (by kernel_rfl) (by kernel_rfl) (by kernel_rfl) (by kernel_rfl) (by kernel_rfl)
end Go.Proofs.YtlopgbdfdfijoaaGreatDoor.San
