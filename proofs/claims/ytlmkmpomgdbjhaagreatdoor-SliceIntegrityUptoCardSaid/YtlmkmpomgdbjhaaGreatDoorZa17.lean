import Derived.Test.YtlmkmpomgdbjhaaGreatDoorZa16
/-
  a part of the proof.
-/
set_option linter.unusedSectionVars false
set_option linter.unusedVariables false
set_option linter.unusedSimpArgs false
namespace Go.Proofs.YtlmkmpomgdbjhaaGreatDoor.San
open Tryz
noncomputable section
open Go Go.AL
variable [BQ]
set_option maxRecDepth 1000000
def nA:AV:=(.agg [HQ,bJ,eT])
def zJ:List AV:=[nA]
def R44:AV:=Vy
def wV:Ag:=As 243 zJ R44 wW
theorem jk [Bq] [Bj]:AT prog wV:=rR func243 jl (by kernel_rfl)
def zI:List AV:=[nA,YB]
def R45:AV:=YF
def wU:Ag:=As 336 zI R45 wV
theorem jj [Bq] [Bj]:AT prog wU:=rR func336 jk (by kernel_rfl)
def zH:List AV:=[mq,mn]
def R46:AV:=(I 0)
def wT:Ag:=As 81 zH R46 wU
theorem ji [Bq] [Bj]:AT prog wT:=rR func81 jj (by kernel_rfl)
def mr:AV:=(.sim [(.sim (bN 64 0x36363636363636363636363636363636363636363636363636363636363636363636363636363636363636363636363636363636363636363636363636363636) 64 true),mw] 2 true)
def zG:List AV:=[mr]
def nV:List AV:=(bN 32 0xdf4a47ac0f7d0afbf866f83d2caa6775be95ee7dbbc819b85d682909669267c4)
def nO:AV:=(.agg nV)
def R47:AV:=nO
def wS:Ag:=As 88 zG R47 wT
theorem jh [Bq] [Bj]:AT prog wS:=rH ji (by kernel_rfl)
def zF:List AV:=[mr]
def R48:AV:=nO
def wR:Ag:=As 88 zF R48 wS
theorem jg [Bq] [Bj]:AT prog wR:=rH jh (by kernel_rfl)
def nG:AV:=(.sim [(.sim (bN 64 0x5c5c5c5c5c5c5c5c5c5c5c5c5c5c5c5c5c5c5c5c5c5c5c5c5c5c5c5c5c5c5c5c5c5c5c5c5c5c5c5c5c5c5c5c5c5c5c5c5c5c5c5c5c5c5c5c5c5c5c5c5c5c5c5c) 64 true),(.sim nV 32 true)] 2 true)
def zE:List AV:=[nG]
def nN:AV:=(.agg (bN 32 0x700b5a6f942bafe658acda46668608af6a46d89628c2659e6efb792d43ca0a66))
def R49:AV:=nN
def wQ:Ag:=As 88 zE R49 wR
theorem jf [Bq] [Bj]:AT prog wQ:=rH jg (by kernel_rfl)
def zD:List AV:=[nG]
def R50:AV:=nN
def wP:Ag:=As 88 zD R50 wQ
theorem je [Bq] [Bj]:AT prog wP:=rH jf (by kernel_rfl)
def nD:AV:=(.sim [iu,(.sim (bN 56 0x200000000000000010000000000000000000000000000000000000000000000000000000000000007) 56 false)] 2 true)
def zC:List AV:=[nD]
def nU:List AV:=(bN 32 0x4889550d28f22503e50a80608bb5185dbbcf9a9d9ac8aebf99aef75f5d073d38)
def nM:AV:=(.agg nU)
def R51:AV:=nM
def wO:Ag:=As 88 zC R51 wP
theorem jd [Bq] [Bj]:AT prog wO:=rH je (by kernel_rfl)
def zB:List AV:=[nD]
def R52:AV:=nM
def wN:Ag:=As 88 zB R52 wO
theorem jc [Bq] [Bj]:AT prog wN:=rH jd (by kernel_rfl)
def nF:AV:=(.sim [ir,(.sim nU 32 true)] 2 true)
def zA:List AV:=[nF]
def nL:AV:=(.agg (bN 32 0xceb355f70966a389e400e8cda344d7d589d4491554902be32a31766e6674a5de))
def R53:AV:=nL
def wM:Ag:=As 88 zA R53 wN
theorem jb [Bq] [Bj]:AT prog wM:=rH jc (by kernel_rfl)
def y_:List AV:=[nF]
def R54:AV:=nL
def wL:Ag:=As 88 y_ R54 wM
theorem ja [Bq] [Bj]:AT prog wL:=rH jb (by kernel_rfl)
def nI:AV:=(.sim [iu,(.sim (bN 32 0x0) 32 false)] 2 true)
def y9:List AV:=[nI]
def nT:List AV:=(bN 32 0x94847c9f2569536f1284a93a1548a2b57257cc2e10226bb6528c4a4a4fe965b9)
def nK:AV:=(.agg nT)
def R55:AV:=nK
def wK:Ag:=As 88 y9 R55 wL
theorem jZ [Bq] [Bj]:AT prog wK:=rH ja (by kernel_rfl)
def y8:List AV:=[nI]
def R56:AV:=nK
def wJ:Ag:=As 88 y8 R56 wK
theorem jY [Bq] [Bj]:AT prog wJ:=rH jZ (by kernel_rfl)
def nE:AV:=(.sim [ir,(.sim nT 32 true)] 2 true)
def y7:List AV:=[nE]
def nS:AV:=(.agg (bN 32 0x618033348cc3b49f3cc01b04f5547bd35dfa499a18d2bf45a6f1c55e33ba40c))
def R57:AV:=nS
def wH:Ag:=As 88 y7 R57 wJ
theorem jX [Bq] [Bj]:AT prog wH:=rH jY (by kernel_rfl)
def y0:List AV:=[nE]
def R58:AV:=nS
def wG:Ag:=As 88 y0 R58 wH
theorem jW [Bq] [Bj]:AT prog wG:=rH jX (by kernel_rfl)
end
end Go.Proofs.YtlmkmpomgdbjhaaGreatDoor.San
