import Derived.Test.YtlmkmpomgdbjhaaGreatDoorZa15
/-
  a part of the proof.
-/
set_option linter.unusedSectionVars false
set_option linter.unusedVariables false
set_option linter.unusedSimpArgs false
namespace Go.Proofs.YtlmkmpomgdbjhaaGreatDoor.San
open Tryz
noncomputable section
open Go Go.AL
variable [BX]
set_option maxRecDepth 1000000
def nU:AV:=(.agg [gX,WH,.nils,(.sim [(I 1),Jr,.nils,Ho,Yk,MT,.nils,(I 0),.nils,.nils,.nils,.nils,(I 0),(I 0),(I 0),(I 0),(.bool false),(I 0),(.bool false),(I 1),Jr,.nils,Ho,Yk,MT,.nils,(I 0),.nils,.nils,.nils,.nils,(I 0),(I 0),(I 0),(I 0),(.bool false),(I 0),(.bool false),(I 2),Jr,Jr,.nils,.nils,.nils,.nils,(I 0),.nils,.nils,.nils,.nils,(I 0),(I 0),(I 0),(I 0),(.bool false),(I 0),(.bool true)] 3 false),.nils,.nils])
def QD:AV:=(.sim [(I 2)] 1 true)
def nT:AV:=(.sim [(I 8),(I 1),(I 0),(I 0),(I 1),WJ,.nils,Ho,bw,Yl,.nils,(I 0),.nils,.nils,.nils,.nils,(I 0),(I 0),(I 0),(I 0),(.bool false),(I 0),(.bool false),.nils,.nils,.nils,.nils,(I 9),(I 2),(I 0),(I 0),(I 3),.nils,.nils,.nils,.nils,.nils,TD,(I 0),.nils,.nils,.nils,.nils,(I 0),(I 0),(I 0),(I 0),(.bool false),(I 0),(.bool false),Us,.nils,.nils,.nils,(I 9),(I 3),(I 0),(I 0),(I 3),.nils,.nils,.nils,.nils,.nils,TD,(I 0),.nils,.nils,.nils,.nils,(I 0),(I 0),(I 0),(I 0),(.bool false),(I 0),(.bool false),TD,.nils,.nils,.nils,(I 1),(I 4),(I 5),(I 0),(I 1),WJ,.nils,WG,fG,MT,.nils,(I 0),.nils,.nils,.nils,.nils,(I 0),(I 0),(I 0),(I 0),(.bool false),(I 0),(.bool false),.nils,.nils,.nils,.nils,(I 3),(I 0),(I 0),(I 0),(I 0),.nils,.nils,.nils,.nils,.nils,.nils,(I 0),.nils,.nils,.nils,.nils,(I 0),(I 0),(I 0),(I 0),(.bool false),(I 0),(.bool false),QD,.nils,.nils,.nils,(I 10),(I 6),(I 0),(I 0),(I 1),WJ,.nils,Ho,bw,fH,.nils,(I 0),.nils,.nils,.nils,.nils,(I 0),(I 0),(I 0),(I 0),(.bool false),(I 0),(.bool false),(.sim [(I 3),(I 6)] 2 true),.nils,.nils,.nils,(I 3),(I 0),(I 0),(I 0),(I 0),.nils,.nils,.nils,.nils,.nils,.nils,(I 0),.nils,.nils,.nils,.nils,(I 0),(I 0),(I 0),(I 0),(.bool false),(I 0),(.bool false),QD,.nils,.nils,.nils] 7 false)
def Y27:List AV:=[nU,nT]
def R27:AV:=(I 0)
def yH:Ag:=Aq 81 Y27 R27 yI
theorem kZ [Bw] [Bp]:AW prog yH:=rR func81 ka (by kernel_rfl)
def Y28:List AV:=[(.sim [(I 0),(I 0),(I 0),(I 0),(I 1),Jr,.nils,Ho,Yk,MT,.nils,(I 0),.nils,.nils,.nils,.nils,(I 0),(I 0),(I 0),(I 0),(.bool false),(I 0),(.bool false),.nils,.nils,.nils,.nils,(I 0),(I 0),(I 0),(I 0),(I 1),Jr,.nils,Ho,Yk,MT,.nils,(I 0),.nils,.nils,.nils,.nils,(I 0),(I 0),(I 0),(I 0),(.bool false),(I 0),(.bool false),.nils,.nils,.nils,.nils,(I 0),(I 0),(I 0),(I 0),(I 2),Jr,Jr,.nils,.nils,.nils,.nils,(I 0),.nils,.nils,.nils,.nils,(I 0),(I 0),(I 0),(I 0),(.bool false),(I 0),(.bool true),.nils,.nils,.nils,.nils] 3 true)]
def nf:AV:=(.sim (bN 234 0x100000000000000000000000000000000000200000204000000000000000000000000000000000000000000000104020204000204040000000000000000000000000000000000000002000000000000000000000000fffffffffffffffffffffffffffffffffffffffdffffffffffffffffffffffff040000000202000000000000000000000000000000000000000000000104020204000204040000000000000000000000000000000000000002000000000000000000000000fffffffffffffffffffffffffffffffffffffffdffffffffffffffffffffffff0400000002020000000006) 234 false)
def R28:AV:=nf
def yG:Ag:=Aq 26 Y28 R28 yH
theorem kY [Bw] [Bp]:AW prog yG:=rR func26 kZ (by kernel_rfl)
def gY:AV:=(.sim (bN 8 0x1) 8 false)
def nZ:AV:=(.sim [gY,gX,gY,(.sim [(N .u8 1)] 1 true),(.sim (bN 8 0x0) 8 false),Ut,(.sim (bN 8 0xea) 8 false),nf] 8 false)
def Y29:List AV:=[nZ]
def oG:AV:=(.agg (bN 32 0xe9b15aae01e5b21f65dd674c43592f0501c14142e55f485bd068dbda0270870c))
def R29:AV:=oG
def yF:Ag:=Aq 88 Y29 R29 yG
theorem kX [Bw] [Bp]:AW prog yF:=rH kY (by kernel_rfl)
def Y30:List AV:=[nZ]
def R30:AV:=oG
def yE:Ag:=Aq 88 Y30 R30 yF
theorem kW [Bw] [Bp]:AW prog yE:=rH kX (by kernel_rfl)
def Y31:List AV:=[nT]
def nY:AV:=(.sim (bN 394 0x40200000000000000000000000000000000000000000000060000000c06040000000000000000000000000001000006020204020204040204060000000000000000000000000000000000000002000000000000000000000000fffffffffffffffffffffffffffffffffffffffdffffffffffffffffffffffff04000000020200000c140000000402000000000000000000000000000000000000000000000600000000000000000000000000000000000001040202020204ffffffffffffffffffffffffffffffffffffffffffffffffffffffffffffffff020000000202000a080200000002020000000000000000000000000202000000000006000006120000000002000000000000000000000000020200000000000600000412000000000000000000000000000000000001000106020204020204040204060000000000000000000000000000000000000002000000000000000000000000fffffffffffffffffffffffffffffffffffffffdffffffffffffffffffffffff040000000202000002100e) 394 false)
def R31:AV:=nY
def yD:Ag:=Aq 26 Y31 R31 yE
theorem kV [Bw] [Bp]:AW prog yD:=rR func26 kW (by kernel_rfl)
def jT:AV:=(.sim (bN 64 0x36363636363636363636363636363636363636363636363636363636363636363636363636363636363636363636363636363636363636363636363636353437) 64 true)
def nX:AV:=(.sim (bN 458 0x40200000000000000000000000000000000000000000000060000000c06040000000000000000000000000001000006020204020204040204060000000000000000000000000000000000000002000000000000000000000000fffffffffffffffffffffffffffffffffffffffdffffffffffffffffffffffff04000000020200000c140000000402000000000000000000000000000000000000000000000600000000000000000000000000000000000001040202020204ffffffffffffffffffffffffffffffffffffffffffffffffffffffffffffffff020000000202000a080200000002020000000000000000000000000202000000000006000006120000000002000000000000000000000000020200000000000600000412000000000000000000000000000000000001000106020204020204040204060000000000000000000000000000000000000002000000000000000000000000fffffffffffffffffffffffffffffffffffffffdffffffffffffffffffffffff040000000202000002100e000000000000018a000000000000000100000000000000000000000000000000e9b15aae01e5b21f65dd674c43592f0501c14142e55f485bd068dbda0270870c) 458 false)
def nW:AV:=(.sim [jT,nX] 2 true)
def Y32:List AV:=[nW]
def oL:List AV:=(bN 32 0xf5ceb94f9bd78ab780510c13a84dc88acd208514a56ec3eeaf3d112bf4da7eeb)
def oF:AV:=(.agg oL)
def R32:AV:=oF
def yC:Ag:=Aq 88 Y32 R32 yD
theorem kU [Bw] [Bp]:AW prog yC:=rH kV (by kernel_rfl)
def Y33:List AV:=[nW]
def R33:AV:=oF
def yB:Ag:=Aq 88 Y33 R33 yC
theorem kT [Bw] [Bp]:AW prog yB:=rH kU (by kernel_rfl)
def jS:AV:=(.sim (bN 64 0x5c5c5c5c5c5c5c5c5c5c5c5c5c5c5c5c5c5c5c5c5c5c5c5c5c5c5c5c5c5c5c5c5c5c5c5c5c5c5c5c5c5c5c5c5c5c5c5c5c5c5c5c5c5c5c5c5c5c5c5c5c5f5e5d) 64 true)
def ny:AV:=(.sim [jS,(.sim oL 32 true)] 2 true)
def Y34:List AV:=[ny]
def oE:AV:=(.agg (bN 32 0x6695825fbdd40c2e4d84063ca713815dec572de416ddd667d3e6ca487107dd46))
def R34:AV:=oE
def yA:Ag:=Aq 88 Y34 R34 yB
theorem kS [Bw] [Bp]:AW prog yA:=rH kT (by kernel_rfl)
def Y35:List AV:=[ny]
def R35:AV:=oE
def x_:Ag:=Aq 88 Y35 R35 yA
theorem dG [Bw] [Bp]:AW prog x_:=rH kS (by kernel_rfl)
def Y36:List AV:=[nY]
def bu:AV:=(.sim [(.sim [(I 1),(I 2)] 2 false),bz,bz] 3 false)
def jU:AV:=(.sim [WH,WH] 2 false)
def gZ:AV:=(.sim [(I 2)] 1 false)
def nS:AV:=(.sim [(I 8),(I 1),(I 0),(I 0),(I 1),Jr,.nils,Ho,bu,Yl,.nils,(I 0),.nils,.nils,.nils,.nils,(I 0),(I 0),(I 0),(I 0),(.bool false),(I 0),(.bool false),.nils,.nils,.nils,.nils,(I 9),(I 2),(I 0),(I 0),(I 3),.nils,.nils,.nils,.nils,.nils,WH,(I 0),.nils,.nils,.nils,.nils,(I 0),(I 0),(I 0),(I 0),(.bool false),(I 0),(.bool false),dL,.nils,.nils,.nils,(I 9),(I 3),(I 0),(I 0),(I 3),.nils,.nils,.nils,.nils,.nils,WH,(I 0),.nils,.nils,.nils,.nils,(I 0),(I 0),(I 0),(I 0),(.bool false),(I 0),(.bool false),WH,.nils,.nils,.nils,(I 1),(I 4),(I 5),(I 0),(I 1),Jr,.nils,WG,jU,MT,.nils,(I 0),.nils,.nils,.nils,.nils,(I 0),(I 0),(I 0),(I 0),(.bool false),(I 0),(.bool false),.nils,.nils,.nils,.nils,(I 3),(I 0),(I 0),(I 0),(I 0),.nils,.nils,.nils,.nils,.nils,.nils,(I 0),.nils,.nils,.nils,.nils,(I 0),(I 0),(I 0),(I 0),(.bool false),(I 0),(.bool false),gZ,.nils,.nils,.nils,(I 10),(I 6),(I 0),(I 0),(I 1),Jr,.nils,Ho,bu,fH,.nils,(I 0),.nils,.nils,.nils,.nils,(I 0),(I 0),(I 0),(I 0),(.bool false),(I 0),(.bool false),(.sim [(I 3),(I 6)] 2 false),.nils,.nils,.nils,(I 3),(I 0),(I 0),(I 0),(I 0),.nils,.nils,.nils,.nils,.nils,.nils,(I 0),.nils,.nils,.nils,.nils,(I 0),(I 0),(I 0),(I 0),(.bool false),(I 0),(.bool false),gZ,.nils,.nils,.nils] 7 false)
def R36:AV:=(.tup [nS,(I 0)])
def xz:Ag:=Aq 23 Y36 R36 x_
theorem kR [Bw] [Bp]:AW prog xz:=KX dG (Mo rh (MV Vk dG 90) (by kernel_rfl))
def jQ:AV:=(.agg [Ho,bu,Yl])
def Y37:List AV:=[jQ]
def R37:AV:=bx
def xy:Ag:=Aq 243 Y37 R37 xz
theorem kQ [Bw] [Bp]:AW prog xy:=rR func243 kR (by kernel_rfl)
def Y38:List AV:=[jQ,My]
def R38:AV:=WI
def xx:Ag:=Aq 336 Y38 R38 xy
theorem kP [Bw] [Bp]:AW prog xx:=rR func336 kQ (by kernel_rfl)
def jR:AV:=(.agg [WG,jU,MT])
def Y39:List AV:=[jR]
def R39:AV:=bx
def xw:Ag:=Aq 243 Y39 R39 xx
theorem kO [Bw] [Bp]:AW prog xw:=rR func243 kP (by kernel_rfl)
def Y40:List AV:=[jR,My]
def R40:AV:=Ym
def xv:Ag:=Aq 336 Y40 R40 xw
theorem kN [Bw] [Bp]:AW prog xv:=rR func336 kO (by kernel_rfl)
def Y41:List AV:=[jQ]
def R41:AV:=fF
def xu:Ag:=Aq 241 Y41 R41 xv
theorem kM [Bw] [Bp]:AW prog xu:=rR func241 kN (by kernel_rfl)
def Y42:List AV:=[jR]
def R42:AV:=bt
def xr:Ag:=Aq 241 Y42 R42 xu
theorem kL [Bw] [Bp]:AW prog xr:=rR func241 kM (by kernel_rfl)
def Y43:List AV:=[(.sim [(I 1),Jr,.nils,Ho,bu,Yl,.nils,(I 0),.nils,.nils,.nils,.nils,(I 0),(I 0),(I 0),(I 0),(.bool false),(I 0),(.bool false),(I 1),Jr,.nils,WG,jU,MT,.nils,(I 0),.nils,.nils,.nils,.nils,(I 0),(I 0),(I 0),(I 0),(.bool false),(I 0),(.bool true)] 2 false)]
def R43:AV:=bp
def xq:Ag:=Aq 386 Y43 R43 xr
theorem kK [Bw] [Bp]:AW prog xq:=rR func386 kL (by kernel_rfl)
end
end Go.Proofs.YtlmkmpomgdbjhaaGreatDoor.San
