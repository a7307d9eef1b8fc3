import Derived.Test.YtlmkmpomgdbjhaaGreatDoorZa15
/-
  a part of the proof.
-/
set_option linter.unusedSectionVars false
set_option linter.unusedVariables false
set_option linter.unusedSimpArgs false
namespace Go.Proofs.YtlmkmpomgdbjhaaGreatDoor.San
open Tryz
noncomputable section
open Go Go.AL
variable [BQ]
set_option maxRecDepth 1000000
def mq:AV:=(.agg [fq,Vx,.nils,(.sim [(I 1),Jb,.nils,HQ,YD,L_,.nils,(I 0),.nils,.nils,.nils,.nils,(I 0),(I 0),(I 0),(I 0),(.bool false),(I 0),(.bool false),(I 1),Jb,.nils,HQ,YD,L_,.nils,(I 0),.nils,.nils,.nils,.nils,(I 0),(I 0),(I 0),(I 0),(.bool false),(I 0),(.bool false),(I 2),Jb,Jb,.nils,.nils,.nils,.nils,(I 0),.nils,.nils,.nils,.nils,(I 0),(I 0),(I 0),(I 0),(.bool false),(I 0),(.bool true)] 3 false),.nils,.nils])
def Py:AV:=(.sim [(I 2)] 1 true)
def mo:AV:=(.sim [(I 8),(I 1),(I 0),(I 0),(I 1),Vz,.nils,HQ,bK,YE,.nils,(I 0),.nils,.nils,.nils,.nils,(I 0),(I 0),(I 0),(I 0),(.bool false),(I 0),(.bool false),.nils,.nils,.nils,.nils,(I 9),(I 2),(I 0),(I 0),(I 3),.nils,.nils,.nils,.nils,.nils,Sn,(I 0),.nils,.nils,.nils,.nils,(I 0),(I 0),(I 0),(I 0),(.bool false),(I 0),(.bool false),Ub,.nils,.nils,.nils,(I 9),(I 3),(I 0),(I 0),(I 3),.nils,.nils,.nils,.nils,.nils,Sn,(I 0),.nils,.nils,.nils,.nils,(I 0),(I 0),(I 0),(I 0),(.bool false),(I 0),(.bool false),Sn,.nils,.nils,.nils,(I 1),(I 4),(I 5),(I 0),(I 1),Vz,.nils,Vw,eR,L_,.nils,(I 0),.nils,.nils,.nils,.nils,(I 0),(I 0),(I 0),(I 0),(.bool false),(I 0),(.bool false),.nils,.nils,.nils,.nils,(I 3),(I 0),(I 0),(I 0),(I 0),.nils,.nils,.nils,.nils,.nils,.nils,(I 0),.nils,.nils,.nils,.nils,(I 0),(I 0),(I 0),(I 0),(.bool false),(I 0),(.bool false),Py,.nils,.nils,.nils,(I 10),(I 6),(I 0),(I 0),(I 1),Vz,.nils,HQ,bK,eT,.nils,(I 0),.nils,.nils,.nils,.nils,(I 0),(I 0),(I 0),(I 0),(.bool false),(I 0),(.bool false),(.sim [(I 3),(I 6)] 2 true),.nils,.nils,.nils,(I 3),(I 0),(I 0),(I 0),(I 0),.nils,.nils,.nils,.nils,.nils,.nils,(I 0),.nils,.nils,.nils,.nils,(I 0),(I 0),(I 0),(I 0),(.bool false),(I 0),(.bool false),Py,.nils,.nils,.nils] 7 false)
def za:List AV:=[mq,mo]
def R27:AV:=(I 0)
def wt:Ag:=As 81 za R27 wu
theorem kB [Bq] [Bj]:AT prog wt:=rR func81 kC (by kernel_rfl)
def zZ:List AV:=[(.sim [(I 0),(I 0),(I 0),(I 0),(I 1),Jb,.nils,HQ,YD,L_,.nils,(I 0),.nils,.nils,.nils,.nils,(I 0),(I 0),(I 0),(I 0),(.bool false),(I 0),(.bool false),.nils,.nils,.nils,.nils,(I 0),(I 0),(I 0),(I 0),(I 1),Jb,.nils,HQ,YD,L_,.nils,(I 0),.nils,.nils,.nils,.nils,(I 0),(I 0),(I 0),(I 0),(.bool false),(I 0),(.bool false),.nils,.nils,.nils,.nils,(I 0),(I 0),(I 0),(I 0),(I 2),Jb,Jb,.nils,.nils,.nils,.nils,(I 0),.nils,.nils,.nils,.nils,(I 0),(I 0),(I 0),(I 0),(.bool false),(I 0),(.bool true),.nils,.nils,.nils,.nils] 3 true)]
def m_:AV:=(.sim (bN 234 0x100000000000000000000000000000000000200000204000000000000000000000000000000000000000000000104020204000204040000000000000000000000000000000000000002000000000000000000000000fffffffffffffffffffffffffffffffffffffffdffffffffffffffffffffffff040000000202000000000000000000000000000000000000000000000104020204000204040000000000000000000000000000000000000002000000000000000000000000fffffffffffffffffffffffffffffffffffffffdffffffffffffffffffffffff0400000002020000000006) 234 false)
def R28:AV:=m_
def wq:Ag:=As 26 zZ R28 wt
theorem kA [Bq] [Bj]:AT prog wq:=rR func26 kB (by kernel_rfl)
def ft:AV:=(.sim (bN 8 0x1) 8 false)
def mz:AV:=(.sim [ft,fq,ft,(.sim [(N .u8 1)] 1 true),(.sim (bN 8 0x0) 8 false),Uc,(.sim (bN 8 0xea) 8 false),m_] 8 false)
def zY:List AV:=[mz]
def nR:AV:=(.agg (bN 32 0xe9b15aae01e5b21f65dd674c43592f0501c14142e55f485bd068dbda0270870c))
def R29:AV:=nR
def wo:Ag:=As 88 zY R29 wq
theorem j_ [Bq] [Bj]:AT prog wo:=rH kA (by kernel_rfl)
def zX:List AV:=[mz]
def R30:AV:=nR
def wm:Ag:=As 88 zX R30 wo
theorem jz [Bq] [Bj]:AT prog wm:=rH j_ (by kernel_rfl)
def zW:List AV:=[mo]
def my:AV:=(.sim (bN 394 0x40200000000000000000000000000000000000000000000060000000c06040000000000000000000000000001000006020204020204040204060000000000000000000000000000000000000002000000000000000000000000fffffffffffffffffffffffffffffffffffffffdffffffffffffffffffffffff04000000020200000c140000000402000000000000000000000000000000000000000000000600000000000000000000000000000000000001040202020204ffffffffffffffffffffffffffffffffffffffffffffffffffffffffffffffff020000000202000a080200000002020000000000000000000000000202000000000006000006120000000002000000000000000000000000020200000000000600000412000000000000000000000000000000000001000106020204020204040204060000000000000000000000000000000000000002000000000000000000000000fffffffffffffffffffffffffffffffffffffffdffffffffffffffffffffffff040000000202000002100e) 394 false)
def R31:AV:=my
def wk:Ag:=As 26 zW R31 wm
theorem jy [Bq] [Bj]:AT prog wk:=rR func26 jz (by kernel_rfl)
def iu:AV:=(.sim (bN 64 0x36363636363636363636363636363636363636363636363636363636363636363636363636363636363636363636363636363636363636363636363636353437) 64 true)
def mw:AV:=(.sim (bN 458 0x40200000000000000000000000000000000000000000000060000000c06040000000000000000000000000001000006020204020204040204060000000000000000000000000000000000000002000000000000000000000000fffffffffffffffffffffffffffffffffffffffdffffffffffffffffffffffff04000000020200000c140000000402000000000000000000000000000000000000000000000600000000000000000000000000000000000001040202020204ffffffffffffffffffffffffffffffffffffffffffffffffffffffffffffffff020000000202000a080200000002020000000000000000000000000202000000000006000006120000000002000000000000000000000000020200000000000600000412000000000000000000000000000000000001000106020204020204040204060000000000000000000000000000000000000002000000000000000000000000fffffffffffffffffffffffffffffffffffffffdffffffffffffffffffffffff040000000202000002100e000000000000018a000000000000000100000000000000000000000000000000e9b15aae01e5b21f65dd674c43592f0501c14142e55f485bd068dbda0270870c) 458 false)
def mu:AV:=(.sim [iu,mw] 2 true)
def zV:List AV:=[mu]
def nW:List AV:=(bN 32 0xf5ceb94f9bd78ab780510c13a84dc88acd208514a56ec3eeaf3d112bf4da7eeb)
def nQ:AV:=(.agg nW)
def R32:AV:=nQ
def wj:Ag:=As 88 zV R32 wk
theorem jx [Bq] [Bj]:AT prog wj:=rH jy (by kernel_rfl)
def zU:List AV:=[mu]
def R33:AV:=nQ
def wi:Ag:=As 88 zU R33 wj
theorem jw [Bq] [Bj]:AT prog wi:=rH jx (by kernel_rfl)
def ir:AV:=(.sim (bN 64 0x5c5c5c5c5c5c5c5c5c5c5c5c5c5c5c5c5c5c5c5c5c5c5c5c5c5c5c5c5c5c5c5c5c5c5c5c5c5c5c5c5c5c5c5c5c5c5c5c5c5c5c5c5c5c5c5c5c5c5c5c5c5f5e5d) 64 true)
def nH:AV:=(.sim [ir,(.sim nW 32 true)] 2 true)
def zT:List AV:=[nH]
def nP:AV:=(.agg (bN 32 0x6695825fbdd40c2e4d84063ca713815dec572de416ddd667d3e6ca487107dd46))
def R34:AV:=nP
def wh:Ag:=As 88 zT R34 wi
theorem jv [Bq] [Bj]:AT prog wh:=rH jw (by kernel_rfl)
def zS:List AV:=[nH]
def R35:AV:=nP
def wg:Ag:=As 88 zS R35 wh
theorem cP [Bq] [Bj]:AT prog wg:=rH jv (by kernel_rfl)
def zR:List AV:=[my]
def bJ:AV:=(.sim [(.sim [(I 1),(I 2)] 2 false),bM,bM] 3 false)
def iw:AV:=(.sim [Vx,Vx] 2 false)
def fu:AV:=(.sim [(I 2)] 1 false)
def mn:AV:=(.sim [(I 8),(I 1),(I 0),(I 0),(I 1),Jb,.nils,HQ,bJ,YE,.nils,(I 0),.nils,.nils,.nils,.nils,(I 0),(I 0),(I 0),(I 0),(.bool false),(I 0),(.bool false),.nils,.nils,.nils,.nils,(I 9),(I 2),(I 0),(I 0),(I 3),.nils,.nils,.nils,.nils,.nils,Vx,(I 0),.nils,.nils,.nils,.nils,(I 0),(I 0),(I 0),(I 0),(.bool false),(I 0),(.bool false),cV,.nils,.nils,.nils,(I 9),(I 3),(I 0),(I 0),(I 3),.nils,.nils,.nils,.nils,.nils,Vx,(I 0),.nils,.nils,.nils,.nils,(I 0),(I 0),(I 0),(I 0),(.bool false),(I 0),(.bool false),Vx,.nils,.nils,.nils,(I 1),(I 4),(I 5),(I 0),(I 1),Jb,.nils,Vw,iw,L_,.nils,(I 0),.nils,.nils,.nils,.nils,(I 0),(I 0),(I 0),(I 0),(.bool false),(I 0),(.bool false),.nils,.nils,.nils,.nils,(I 3),(I 0),(I 0),(I 0),(I 0),.nils,.nils,.nils,.nils,.nils,.nils,(I 0),.nils,.nils,.nils,.nils,(I 0),(I 0),(I 0),(I 0),(.bool false),(I 0),(.bool false),fu,.nils,.nils,.nils,(I 10),(I 6),(I 0),(I 0),(I 1),Jb,.nils,HQ,bJ,eT,.nils,(I 0),.nils,.nils,.nils,.nils,(I 0),(I 0),(I 0),(I 0),(.bool false),(I 0),(.bool false),(.sim [(I 3),(I 6)] 2 false),.nils,.nils,.nils,(I 3),(I 0),(I 0),(I 0),(I 0),.nils,.nils,.nils,.nils,.nils,.nils,(I 0),.nils,.nils,.nils,.nils,(I 0),(I 0),(I 0),(I 0),(.bool false),(I 0),(.bool false),fu,.nils,.nils,.nils] 7 false)
def R36:AV:=(.tup [mn,(I 0)])
def we:Ag:=As 23 zR R36 wg
theorem ju [Bq] [Bj]:AT prog we:=KF cP (Mc qa (MB VP cP 90) (by kernel_rfl))
def im:AV:=(.agg [HQ,bJ,YE])
def zQ:List AV:=[im]
def R37:AV:=bL
def wc:Ag:=As 243 zQ R37 we
theorem jt [Bq] [Bj]:AT prog wc:=rR func243 ju (by kernel_rfl)
def zP:List AV:=[im,Ml]
def R38:AV:=Vy
def wb:Ag:=As 336 zP R38 wc
theorem jr [Bq] [Bj]:AT prog wb:=rR func336 jt (by kernel_rfl)
def iq:AV:=(.agg [Vw,iw,L_])
def zO:List AV:=[iq]
def R39:AV:=bL
def wa:Ag:=As 243 zO R39 wb
theorem jq [Bq] [Bj]:AT prog wa:=rR func243 jr (by kernel_rfl)
def zN:List AV:=[iq,Ml]
def R40:AV:=YF
def wZ:Ag:=As 336 zN R40 wa
theorem jo [Bq] [Bj]:AT prog wZ:=rR func336 jq (by kernel_rfl)
def zM:List AV:=[im]
def R41:AV:=eQ
def wY:Ag:=As 241 zM R41 wZ
theorem jn [Bq] [Bj]:AT prog wY:=rR func241 jo (by kernel_rfl)
def zL:List AV:=[iq]
def R42:AV:=bI
def wX:Ag:=As 241 zL R42 wY
theorem jm [Bq] [Bj]:AT prog wX:=rR func241 jn (by kernel_rfl)
def zK:List AV:=[(.sim [(I 1),Jb,.nils,HQ,bJ,YE,.nils,(I 0),.nils,.nils,.nils,.nils,(I 0),(I 0),(I 0),(I 0),(.bool false),(I 0),(.bool false),(I 1),Jb,.nils,Vw,iw,L_,.nils,(I 0),.nils,.nils,.nils,.nils,(I 0),(I 0),(I 0),(I 0),(.bool false),(I 0),(.bool true)] 2 false)]
def R43:AV:=bF
def wW:Ag:=As 386 zK R43 wX
theorem jl [Bq] [Bj]:AT prog wW:=rR func386 jm (by kernel_rfl)
end
end Go.Proofs.YtlmkmpomgdbjhaaGreatDoor.San
