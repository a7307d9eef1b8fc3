import Derived.Test.YtlmkmpomgdbjhaaGreatDoorZa14
/-
  a part of the proof.
-/
set_option linter.unusedSectionVars false
set_option linter.unusedVariables false
set_option linter.unusedSimpArgs false
namespace Go.Proofs.YtlmkmpomgdbjhaaGreatDoor.San
open Tryz
noncomputable section
open Go Go.AL
variable [BQ]
set_option maxRecDepth 1000000
def zg:List AV:=[(.agg [(.sim [(N .u64 0),(N .u64 8589934592),(N .u64 0),(N .u64 0),(N .u64 18446744073709551615),(N .u64 18446744065119617023),(N .u64 18446744073709551615),(N .u64 18446744073709551615)] 2 true),(.sim [eV,V1,V1] 3 false),nX])]
def R21:AV:=eQ
def xA:Ag:=As 241 zg R21 xB
theorem kH [Bq] [Bj]:AT prog xA:=rR func241 kI (by kernel_rfl)
def zf:List AV:=[bG,Ml]
def R22:AV:=Vy
def w_:Ag:=As 336 zf R22 xA
theorem kG [Bq] [Bj]:AT prog w_:=rR func336 kH (by kernel_rfl)
def ze:List AV:=[bG]
def R23:AV:=eQ
def wz:Ag:=As 241 ze R23 w_
theorem kF [Bq] [Bj]:AT prog wz:=rR func241 kG (by kernel_rfl)
def zd:List AV:=[Ml]
def R24:AV:=bI
def wy:Ag:=As 241 zd R24 wz
theorem kE [Bq] [Bj]:AT prog wy:=rR func241 kF (by kernel_rfl)
def zc:List AV:=[Ml]
def R25:AV:=(.tup [(.agg [Vw,eR,(.sim [(.bool false),(.bool true)] 2 false)]),(I 0)])
def wx:Ag:=As 482 zc R25 wy
theorem kD [Bq] [Bj]:AT prog wx:=rR func482 kE (by kernel_rfl)
def Vz:AV:=(.sim [(I 0),(N .u8 0)] 1 true)
def zb:List AV:=[(.sim [(I 1),Vz,.nils,HQ,bK,YE,.nils,(I 0),.nils,.nils,.nils,.nils,(I 0),(I 0),(I 0),(I 0),(.bool false),(I 0),(.bool false),(I 1),Vz,.nils,Vw,eR,L_,.nils,(I 0),.nils,.nils,.nils,.nils,(I 0),(I 0),(I 0),(I 0),(.bool false),(I 0),(.bool true)] 2 false)]
def R26:AV:=bF
def wu:Ag:=As 386 zb R26 wx
theorem kC [Bq] [Bj]:AT prog wu:=rR func386 kD (by kernel_rfl)
end
end Go.Proofs.YtlmkmpomgdbjhaaGreatDoor.San
