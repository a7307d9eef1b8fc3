import Derived.Test.YtdcdbabponelcaaGreatDoorZe04
/-
  rows of the sanity run.
-/
set_option linter.unusedSectionVars false
set_option linter.unusedVariables false
set_option linter.unusedSimpArgs false
namespace Go.Proofs.YtdcdbabponelcaaGreatDoor.San
open Go Go.AL
variable [BY]
theorem W9:BV kT db (Bg EX BG 90 197 kT KH.emp)=true:=by kernel_rfl
theorem E9 (h:BD Tryz.prog BG) (H:AH) (hg:H.gl=BY.G):Ca Tryz.prog 197 kT H db H:=Aq (BC Bp h 90) W9 H hg
end Go.Proofs.YtdcdbabponelcaaGreatDoor.San
namespace Go.Proofs.YtdcdbabponelcaaGreatDoor.San
open Go Go.AL
variable [BY]
theorem si:BV kO da (Bg EX BG 90 197 kO KH.emp)=true:=by kernel_rfl
theorem uu (h:BD Tryz.prog BG) (H:AH) (hg:H.gl=BY.G):Ca Tryz.prog 197 kO H da H:=Aq (BC Bp h 90) si H hg
end Go.Proofs.YtdcdbabponelcaaGreatDoor.San
namespace Go.Proofs.YtdcdbabponelcaaGreatDoor.San
open Go Go.AL
variable [BY]
theorem W2:BV A5 R6 (Bg EX BG 90 197 A5 KH.emp)=true:=by kernel_rfl
theorem E2 (h:BD Tryz.prog BG) (H:AH) (hg:H.gl=BY.G):Ca Tryz.prog 197 A5 H R6 H:=Aq (BC Bp h 90) W2 H hg
theorem sk:BV kQ da (Bg EX BG 90 286 kQ KH.emp)=true:=by kernel_rfl
theorem uw (h:BD Tryz.prog BG) (H:AH) (hg:H.gl=BY.G):Ca Tryz.prog 286 kQ H da H:=Aq (BC Bp h 90) sk H hg
theorem W7:BV A9 de (Bg EX BG 90 286 A9 KH.emp)=true:=by kernel_rfl
theorem E7 (h:BD Tryz.prog BG) (H:AH) (hg:H.gl=BY.G):Ca Tryz.prog 286 A9 H de H:=Aq (BC Bp h 90) W7 H hg
end Go.Proofs.YtdcdbabponelcaaGreatDoor.San
namespace Go.Proofs.YtdcdbabponelcaaGreatDoor.San
open Go Go.AL
variable [BY]
theorem sm:BV ZO ny (Bg EX BG 90 285 ZO KH.emp)=true:=by kernel_rfl
theorem ux (h:BD Tryz.prog BG) (H:AH) (hg:H.gl=BY.G):Ca Tryz.prog 285 ZO H ny H:=Aq (BC Bp h 90) sm H hg
theorem W0:BV A3 R4 (Bg EX BG 90 184 A3 KH.emp)=true:=by kernel_rfl
theorem E0 (h:BD Tryz.prog BG) (H:AH) (hg:H.gl=BY.G):Ca Tryz.prog 184 A3 H R4 H:=Aq (BC Bp h 90) W0 H hg
theorem sd:BV ie R4 (Bg EX BG 90 184 ie KH.emp)=true:=by kernel_rfl
theorem rS (h:BD Tryz.prog BG) (H:AH) (hg:H.gl=BY.G):Ca Tryz.prog 184 ie H R4 H:=Aq (BC Bp h 90) sd H hg
theorem sX:BV ZN R4 (Bg EX BG 90 184 ZN KH.emp)=true:=by kernel_rfl
theorem uh (h:BD Tryz.prog BG) (H:AH) (hg:H.gl=BY.G):Ca Tryz.prog 184 ZN H R4 H:=Aq (BC Bp h 90) sX H hg
end Go.Proofs.YtdcdbabponelcaaGreatDoor.San
namespace Go.Proofs.YtdcdbabponelcaaGreatDoor.San
open Go Go.AL
variable [BY]
theorem sR:BV ZL de (Bg EX BG 90 184 ZL KH.emp)=true:=by kernel_rfl
theorem ub (h:BD Tryz.prog BG) (H:AH) (hg:H.gl=BY.G):Ca Tryz.prog 184 ZL H de H:=Aq (BC Bp h 90) sR H hg
theorem sQ:BV ZK db (Bg EX BG 90 184 ZK KH.emp)=true:=by kernel_rfl
theorem ua (h:BD Tryz.prog BG) (H:AH) (hg:H.gl=BY.G):Ca Tryz.prog 184 ZK H db H:=Aq (BC Bp h 90) sQ H hg
theorem W6:BV A7 R9 (Bg EX BG 90 285 A7 KH.emp)=true:=by kernel_rfl
theorem E6 (h:BD Tryz.prog BG) (H:AH) (hg:H.gl=BY.G):Ca Tryz.prog 285 A7 H R9 H:=Aq (BC Bp h 90) W6 H hg
theorem sW:BV ZM R6 (Bg EX BG 90 184 ZM KH.emp)=true:=by kernel_rfl
theorem ug (h:BD Tryz.prog BG) (H:AH) (hg:H.gl=BY.G):Ca Tryz.prog 184 ZM H R6 H:=Aq (BC Bp h 90) sW H hg
theorem sr:BV kS SJ (Bg EX BG 90 198 kS KH.emp)=true:=by kernel_rfl
theorem u_ (h:BD Tryz.prog BG) (H:AH) (hg:H.gl=BY.G):Ca Tryz.prog 198 kS H SJ H:=Aq (BC Bp h 90) sr H hg
end Go.Proofs.YtdcdbabponelcaaGreatDoor.San
