import Derived.Test.YtdcdbabponelcaaGreatDoorZe04
import Derived.Test.YtdcdbabponelcaaGreatDoorZe05
/-
  rows of the sanity run.
-/
set_option linter.unusedSectionVars false
set_option linter.unusedVariables false
set_option linter.unusedSimpArgs false
namespace Go.Proofs.YtdcdbabponelcaaGreatDoor.San
open Go Go.AL
variable [BY]
theorem sU:BV kK SJ (Bg EX BG 90 198 kK KH.emp)=true:=by kernel_rfl
theorem ue (h:BD Tryz.prog BG) (H:AH) (hg:H.gl=BY.G):Ca Tryz.prog 198 kK H SJ H:=Aq (BC Bp h 90) sU H hg
theorem so:BV kR R8 (Bg EX BG 90 198 kR KH.emp)=true:=by kernel_rfl
theorem uy (h:BD Tryz.prog BG) (H:AH) (hg:H.gl=BY.G):Ca Tryz.prog 198 kR H R8 H:=Aq (BC Bp h 90) so H hg
theorem se:BV kN R8 (Bg EX BG 90 198 kN KH.emp)=true:=by kernel_rfl
theorem uq (h:BD Tryz.prog BG) (H:AH) (hg:H.gl=BY.G):Ca Tryz.prog 198 kN H R8 H:=Aq (BC Bp h 90) se H hg
theorem sS:BV kJ R8 (Bg EX BG 90 198 kJ KH.emp)=true:=by kernel_rfl
theorem uc (h:BD Tryz.prog BG) (H:AH) (hg:H.gl=BY.G):Ca Tryz.prog 198 kJ H R8 H:=Aq (BC Bp h 90) sS H hg
theorem sO:BV kH R8 (Bg EX BG 90 198 kH KH.emp)=true:=by kernel_rfl
theorem uY (h:BD Tryz.prog BG) (H:AH) (hg:H.gl=BY.G):Ca Tryz.prog 198 kH H R8 H:=Aq (BC Bp h 90) sO H hg
theorem W3:BV A6 R7 (Bg EX BG 90 198 A6 KH.emp)=true:=by kernel_rfl
theorem E3 (h:BD Tryz.prog BG) (H:AH) (hg:H.gl=BY.G):Ca Tryz.prog 198 A6 H R7 H:=Aq (BC Bp h 90) W3 H hg
theorem sa:BV kM R7 (Bg EX BG 90 198 kM KH.emp)=true:=by kernel_rfl
theorem um (h:BD Tryz.prog BG) (H:AH) (hg:H.gl=BY.G):Ca Tryz.prog 198 kM H R7 H:=Aq (BC Bp h 90) sa H hg
end Go.Proofs.YtdcdbabponelcaaGreatDoor.San
namespace Go.Proofs.YtdcdbabponelcaaGreatDoor.San
open Go Go.AL
variable [BY]
theorem W5:BV A8 R8 (Bg EX BG 90 198 A8 KH.emp)=true:=by kernel_rfl
theorem E5 (h:BD Tryz.prog BG) (H:AH) (hg:H.gl=BY.G):Ca Tryz.prog 198 A8 H R8 H:=Aq (BC Bp h 90) W5 H hg
theorem sY:BV kL R8 (Bg EX BG 90 198 kL KH.emp)=true:=by kernel_rfl
theorem uj (h:BD Tryz.prog BG) (H:AH) (hg:H.gl=BY.G):Ca Tryz.prog 198 kL H R8 H:=Aq (BC Bp h 90) sY H hg
theorem W8:BV kU R7 (Bg EX BG 90 196 kU KH.emp)=true:=by kernel_rfl
theorem E8 (h:BD Tryz.prog BG) (H:AH) (hg:H.gl=BY.G):Ca Tryz.prog 196 kU H R7 H:=Aq (BC Bp h 90) W8 H hg
theorem sq:BV ZO R7 (Bg EX BG 90 196 ZO KH.emp)=true:=by kernel_rfl
theorem uz (h:BD Tryz.prog BG) (H:AH) (hg:H.gl=BY.G):Ca Tryz.prog 196 ZO H R7 H:=Aq (BC Bp h 90) sq H hg
theorem sj:BV kP SJ (Bg EX BG 90 196 kP KH.emp)=true:=by kernel_rfl
theorem uv (h:BD Tryz.prog BG) (H:AH) (hg:H.gl=BY.G):Ca Tryz.prog 196 kP H SJ H:=Aq (BC Bp h 90) sj H hg
theorem sV:BV ZL R7 (Bg EX BG 90 196 ZL KH.emp)=true:=by kernel_rfl
theorem uf (h:BD Tryz.prog BG) (H:AH) (hg:H.gl=BY.G):Ca Tryz.prog 196 ZL H R7 H:=Aq (BC Bp h 90) sV H hg
theorem sT:BV ZK R7 (Bg EX BG 90 196 ZK KH.emp)=true:=by kernel_rfl
theorem ud (h:BD Tryz.prog BG) (H:AH) (hg:H.gl=BY.G):Ca Tryz.prog 196 ZK H R7 H:=Aq (BC Bp h 90) sT H hg
theorem sP:BV kI SJ (Bg EX BG 90 196 kI KH.emp)=true:=by kernel_rfl
theorem uZ (h:BD Tryz.prog BG) (H:AH) (hg:H.gl=BY.G):Ca Tryz.prog 196 kI H SJ H:=Aq (BC Bp h 90) sP H hg
theorem W1:BV A4 R5 (Bg EX BG 90 196 A4 KH.emp)=true:=by kernel_rfl
theorem E1 (h:BD Tryz.prog BG) (H:AH) (hg:H.gl=BY.G):Ca Tryz.prog 196 A4 H R5 H:=Aq (BC Bp h 90) W1 H hg
theorem sb:BV ZN R5 (Bg EX BG 90 196 ZN KH.emp)=true:=by kernel_rfl
theorem uo (h:BD Tryz.prog BG) (H:AH) (hg:H.gl=BY.G):Ca Tryz.prog 196 ZN H R5 H:=Aq (BC Bp h 90) sb H hg
theorem W4:BV A7 R5 (Bg EX BG 90 196 A7 KH.emp)=true:=by kernel_rfl
theorem E4 (h:BD Tryz.prog BG) (H:AH) (hg:H.gl=BY.G):Ca Tryz.prog 196 A7 H R5 H:=Aq (BC Bp h 90) W4 H hg
theorem sZ:BV ZM R5 (Bg EX BG 90 196 ZM KH.emp)=true:=by kernel_rfl
theorem uk (h:BD Tryz.prog BG) (H:AH) (hg:H.gl=BY.G):Ca Tryz.prog 196 ZM H R5 H:=Aq (BC Bp h 90) sZ H hg
end Go.Proofs.YtdcdbabponelcaaGreatDoor.San
namespace Go.Proofs.YtdcdbabponelcaaGreatDoor.San
open Go Go.AL
variable [BY]
noncomputable def CH:Bq:=(NR 184 [351,347,342,337,349,335] ie R4 (NR 184 [884,880,874,868,882,858] A3 R4 (Bo 198 kH R8 (Bo 196 kI SJ (Bo 184 ZK db (Bo 184 ZL de (Bo 198 kJ R8 (Bo 196 ZK R7 (Bo 198 kK SJ (Bo 196 ZL R7 (Bo 184 ZM R6 (Bo 184 ZN R4 (Bo 198 kL R8 (Bo 196 ZM R5 (Bo 198 kM R7 (Bo 196 ZN R5 (Bo 184 ie R4 (Bo 198 kN R8 (Bo 197 kO da (Bo 196 kP SJ (Bo 286 kQ da (Bo 285 ZO ny (Bo 198 kR R8 (Bo 196 ZO R7 (Bo 198 kS SJ (Bo 197 kT db (Bo 196 kU R7 (Bo 286 A9 de (Bo 285 A7 R9 (Bo 198 A8 R8 (Bo 196 A7 R5 (Bo 198 A6 R7 (Bo 197 A5 R6 (Bo 196 A4 R5 (Bo 184 A3 R4 (Bo 328 A2 R3 (Bo 328 A1 R2 (Bg EX BG 90))))))))))))))))))))))))))))))))))))))
theorem iN (h:BD Tryz.prog BG) (hL0:∀H:AH,H.gl=BY.G→Ca Tryz.prog 328 A1 H R2 H) (hL1:∀H:AH,H.gl=BY.G→Ca Tryz.prog 328 A2 H R3 H):BD Tryz.prog CH:=(Mi (Mi (BL (BL (BL (BL (BL (BL (BL (BL (BL (BL (BL (BL (BL (BL (BL (BL (BL (BL (BL (BL (BL (BL (BL (BL (BL (BL (BL (BL (BL (BL (BL (BL (BL (BL (BL (BC Bp h 90) hL0) hL1) (E0 h)) (E1 h)) (E2 h)) (E3 h)) (E4 h)) (E5 h)) (E6 h)) (E7 h)) (E8 h)) (E9 h)) (u_ h)) (uz h)) (uy h)) (ux h)) (uw h)) (uv h)) (uu h)) (uq h)) (rS h)) (uo h)) (um h)) (uk h)) (uj h)) (uh h)) (ug h)) (uf h)) (ue h)) (ud h)) (uc h)) (ub h)) (ua h)) (uZ h)) (uY h)) (E0 h)) (rS h))
end Go.Proofs.YtdcdbabponelcaaGreatDoor.San
