import Derived.Test.YtlmkmpomgdbjhaaGreatDoorZa12
/-
  a part of the proof.
-/
set_option linter.unusedSectionVars false
set_option linter.unusedVariables false
set_option linter.unusedSimpArgs false
namespace Go.Proofs.YtlmkmpomgdbjhaaGreatDoor.San
open Tryz
noncomputable section
open Go Go.AL
variable [BQ]
set_option maxRecDepth 1000000
def Ub:AV:=(.sim [(I 0)] 1 true)
def il:AV:=(.sim [(N .u8 97)] 1 true)
def Y4:List AV:=[(.agg [(.sim [(I 13),(I 0),(I 0),(I 0),(I 0),(I 0),(I 0),.nils,(.bool false),(I 0),.nils,.nils,(N .u64 0),(N .u64 0),(N .u64 0),(N .u64 0),(I 0),(I 0),(I 0),(I 0),(.bool false),.nils,.nils,(I 0),(.bool false),(I 0),(I 0),(I 0),(I 0),.nils,(.str [120]),(.int .i64 (-1)),(.int .i64 (-1))] 1 true),(.sim [Ub] 1 true)]),(.agg [il,(I 1)])]
def fq:AV:=(.sim [(N .u8 97)] 1 false)
def Vx:AV:=(.sim [(I 1)] 1 false)
def Jb:AV:=(.sim [(I 0),(N .u8 0)] 1 false)
def bM:AV:=(.sim [(I 1),(I 1)] 2 false)
def YD:AV:=(.sim [(.sim [(I 1),(I 0)] 2 false),bM] 2 false)
def cV:AV:=(.sim [(I 0)] 1 false)
def R4:AV:=(.tup [(.sim [fq,Vx,.nils,(.sim [(I 1),Jb,.nils,HQ,YD,L_,.nils,(I 0),.nils,.nils,.nils,.nils,(I 0),(I 0),(I 0),(I 0),(.bool false),(I 0),(.bool false)] 1 false),.nils,.nils,(.bool true),(I 0),(.sim [(.str [120]),Jb] 1 false),cV] 1 false),(I 0)])
def N5:Ag:=As 38 Y4 R4 N4
theorem oW [Bq] [Bj]:AT prog N5:=rR func38 oX (by kernel_rfl)
def bH:AV:=(.agg [HQ,YD,L_])
def Y5:List AV:=[bH]
def Uc:AV:=(.sim [] 0 true)
def bL:AV:=(.tup [Uc,(.bool true)])
def R5:AV:=bL
def N6:Ag:=As 243 Y5 R5 N5
theorem oV [Bq] [Bj]:AT prog N6:=rR func243 oW (by kernel_rfl)
def Y6:List AV:=[Uc]
def R6:AV:=bI
def N7:Ag:=As 335 Y6 R6 N6
theorem oU [Bq] [Bj]:AT prog N7:=rR func335 oV (by kernel_rfl)
def Y7:List AV:=[Ml,bH]
def Vy:AV:=(.tup [il,(.bool true)])
def R7:AV:=Vy
def N8:Ag:=As 336 Y7 R7 N7
theorem oT [Bq] [Bj]:AT prog N8:=rR func336 oU (by kernel_rfl)
def nJ:AV:=(.sim [eW,V1,V1] 3 false)
def nX:AV:=(.sim [(.bool true),(.bool true),(.bool false)] 3 false)
def Y8:List AV:=[(.agg [HQ,nJ,nX])]
def YE:AV:=(.sim [(.bool true),(.bool false),(.bool true)] 3 false)
def bG:AV:=(.agg [HQ,bK,YE])
def eQ:AV:=(.tup [bG,(I 0)])
def R8:AV:=eQ
def N9:Ag:=As 241 Y8 R8 N8
theorem oS [Bq] [Bj]:AT prog N9:=rR func241 oT (by kernel_rfl)
def Y9:List AV:=[bG]
def R9:AV:=bL
def xL:Ag:=As 243 Y9 R9 N9
theorem kT [Bq] [Bj]:AT prog xL:=rR func243 oS (by kernel_rfl)
def zr:List AV:=[Ml,bG]
def R10:AV:=Vy
def xK:Ag:=As 336 zr R10 xL
theorem kS [Bq] [Bj]:AT prog xK:=rR func336 kT (by kernel_rfl)
def zq:List AV:=[bH]
def eU:AV:=(.tup [(I 3),(.bool false)])
def R11:AV:=eU
def xJ:Ag:=As 244 zq R11 xK
theorem kR [Bq] [Bj]:AT prog xJ:=rL kS (by kernel_rfl)
def zp:List AV:=[bH]
def R12:AV:=eU
def xI:Ag:=As 244 zp R12 xJ
theorem kQ [Bq] [Bj]:AT prog xI:=rL kR (by kernel_rfl)
def zo:List AV:=[(.agg [HQ,(.sim [V0,V0] 2 false),L_])]
def R13:AV:=bI
def xH:Ag:=As 241 zo R13 xI
theorem kP [Bq] [Bj]:AT prog xH:=rR func241 kQ (by kernel_rfl)
end
end Go.Proofs.YtlmkmpomgdbjhaaGreatDoor.San
