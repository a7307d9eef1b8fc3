import Derived.Test.YtlmkmpomgdbjhaaGreatDoorZa12
/-
  a part of the proof.
-/
set_option linter.unusedSectionVars false
set_option linter.unusedVariables false
set_option linter.unusedSimpArgs false
namespace Go.Proofs.YtlmkmpomgdbjhaaGreatDoor.San
open Tryz
noncomputable section
open Go Go.AL
variable [BX]
set_option maxRecDepth 1000000
def Us:AV:=(.sim [(I 0)] 1 true)
def jP:AV:=(.sim [(N .u8 97)] 1 true)
def Y4:List AV:=[(.agg [(.sim [(I 13),(I 0),(I 0),(I 0),(I 0),(I 0),(I 0),.nils,(.bool false),(I 0),.nils,.nils,(N .u64 0),(N .u64 0),(N .u64 0),(N .u64 0),(I 0),(I 0),(I 0),(I 0),(.bool false),.nils,.nils,(I 0),(.bool false),(I 0),(I 0),(I 0),(I 0),.nils,(.str [120]),(.int .i64 (-1)),(.int .i64 (-1))] 1 true),(.sim [Us] 1 true)]),(.agg [jP,(I 1)])]
def gX:AV:=(.sim [(N .u8 97)] 1 false)
def WH:AV:=(.sim [(I 1)] 1 false)
def Jr:AV:=(.sim [(I 0),(N .u8 0)] 1 false)
def bz:AV:=(.sim [(I 1),(I 1)] 2 false)
def Yk:AV:=(.sim [(.sim [(I 1),(I 0)] 2 false),bz] 2 false)
def dL:AV:=(.sim [(I 0)] 1 false)
def R4:AV:=(.tup [(.sim [gX,WH,.nils,(.sim [(I 1),Jr,.nils,Ho,Yk,MT,.nils,(I 0),.nils,.nils,.nils,.nils,(I 0),(I 0),(I 0),(I 0),(.bool false),(I 0),(.bool false)] 1 false),.nils,.nils,(.bool true),(I 0),(.sim [(.str [120]),Jr] 1 false),dL] 1 false),(I 0)])
def N5:Ag:=Aq 38 Y4 R4 N4
theorem pG [Bw] [Bp]:AW prog N5:=rR func38 pH (by kernel_rfl)
def br:AV:=(.agg [Ho,Yk,MT])
def Y5:List AV:=[br]
def Ut:AV:=(.sim [] 0 true)
def bx:AV:=(.tup [Ut,(.bool true)])
def R5:AV:=bx
def N6:Ag:=Aq 243 Y5 R5 N5
theorem pF [Bw] [Bp]:AW prog N6:=rR func243 pG (by kernel_rfl)
def Y6:List AV:=[Ut]
def R6:AV:=bt
def N7:Ag:=Aq 335 Y6 R6 N6
theorem pE [Bw] [Bp]:AW prog N7:=rR func335 pF (by kernel_rfl)
def Y7:List AV:=[My,br]
def WI:AV:=(.tup [jP,(.bool true)])
def R7:AV:=WI
def N8:Ag:=Aq 336 Y7 R7 N7
theorem pD [Bw] [Bp]:AW prog N8:=rR func336 pE (by kernel_rfl)
def n9:AV:=(.sim [fK,WL,WL] 3 false)
def oM:AV:=(.sim [(.bool true),(.bool true),(.bool false)] 3 false)
def Y8:List AV:=[(.agg [Ho,n9,oM])]
def Yl:AV:=(.sim [(.bool true),(.bool false),(.bool true)] 3 false)
def bq:AV:=(.agg [Ho,bw,Yl])
def fF:AV:=(.tup [bq,(I 0)])
def R8:AV:=fF
def N9:Ag:=Aq 241 Y8 R8 N8
theorem pC [Bw] [Bp]:AW prog N9:=rR func241 pD (by kernel_rfl)
def Y9:List AV:=[bq]
def R9:AV:=bx
def yY:Ag:=Aq 243 Y9 R9 N9
theorem lE [Bw] [Bp]:AW prog yY:=rR func243 pC (by kernel_rfl)
def Y10:List AV:=[My,bq]
def R10:AV:=WI
def yX:Ag:=Aq 336 Y10 R10 yY
theorem lD [Bw] [Bp]:AW prog yX:=rR func336 lE (by kernel_rfl)
def Y11:List AV:=[br]
def fI:AV:=(.tup [(I 3),(.bool false)])
def R11:AV:=fI
def yW:Ag:=Aq 244 Y11 R11 yX
theorem lC [Bw] [Bp]:AW prog yW:=rL lD (by kernel_rfl)
def Y12:List AV:=[br]
def R12:AV:=fI
def yV:Ag:=Aq 244 Y12 R12 yW
theorem k_ [Bw] [Bp]:AW prog yV:=rL lC (by kernel_rfl)
def Y13:List AV:=[(.agg [Ho,(.sim [WK,WK] 2 false),MT])]
def R13:AV:=bt
def yU:Ag:=Aq 241 Y13 R13 yV
theorem kz [Bw] [Bp]:AW prog yU:=rR func241 k_ (by kernel_rfl)
end
end Go.Proofs.YtlmkmpomgdbjhaaGreatDoor.San
