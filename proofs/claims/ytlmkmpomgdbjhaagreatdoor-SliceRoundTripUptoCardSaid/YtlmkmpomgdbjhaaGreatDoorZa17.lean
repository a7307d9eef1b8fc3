import Derived.Test.YtlmkmpomgdbjhaaGreatDoorZa16
/-
  a part of the proof.
-/
set_option linter.unusedSectionVars false
set_option linter.unusedVariables false
set_option linter.unusedSimpArgs false
namespace Go.Proofs.YtlmkmpomgdbjhaaGreatDoor.San
open Tryz
noncomputable section
open Go Go.AL
variable [BX]
set_option maxRecDepth 1000000
def nh:AV:=(.agg [Ho,bu,fH])
def Y44:List AV:=[nh]
def R44:AV:=WI
def xp:Ag:=Aq 243 Y44 R44 xq
theorem kJ [Bw] [Bp]:AW prog xp:=rR func243 kK (by kernel_rfl)
def Y45:List AV:=[nh,Yj]
def R45:AV:=Ym
def xo:Ag:=Aq 336 Y45 R45 xp
theorem kI [Bw] [Bp]:AW prog xo:=rR func336 kJ (by kernel_rfl)
def Y46:List AV:=[nU,nS]
def R46:AV:=(I 0)
def xn:Ag:=Aq 81 Y46 R46 xo
theorem kH [Bw] [Bp]:AW prog xn:=rR func81 kI (by kernel_rfl)
def nV:AV:=(.sim [(.sim (bN 64 0x36363636363636363636363636363636363636363636363636363636363636363636363636363636363636363636363636363636363636363636363636363636) 64 true),nX] 2 true)
def Y47:List AV:=[nV]
def oK:List AV:=(bN 32 0xdf4a47ac0f7d0afbf866f83d2caa6775be95ee7dbbc819b85d682909669267c4)
def oD:AV:=(.agg oK)
def R47:AV:=oD
def xm:Ag:=Aq 88 Y47 R47 xn
theorem kG [Bw] [Bp]:AW prog xm:=rH kH (by kernel_rfl)
def Y48:List AV:=[nV]
def R48:AV:=oD
def xl:Ag:=Aq 88 Y48 R48 xm
theorem kF [Bw] [Bp]:AW prog xl:=rH kG (by kernel_rfl)
def nv:AV:=(.sim [(.sim (bN 64 0x5c5c5c5c5c5c5c5c5c5c5c5c5c5c5c5c5c5c5c5c5c5c5c5c5c5c5c5c5c5c5c5c5c5c5c5c5c5c5c5c5c5c5c5c5c5c5c5c5c5c5c5c5c5c5c5c5c5c5c5c5c5c5c5c) 64 true),(.sim oK 32 true)] 2 true)
def Y49:List AV:=[nv]
def oC:AV:=(.agg (bN 32 0x700b5a6f942bafe658acda46668608af6a46d89628c2659e6efb792d43ca0a66))
def R49:AV:=oC
def xk:Ag:=Aq 88 Y49 R49 xl
theorem kE [Bw] [Bp]:AW prog xk:=rH kF (by kernel_rfl)
def Y50:List AV:=[nv]
def R50:AV:=oC
def xj:Ag:=Aq 88 Y50 R50 xk
theorem kD [Bw] [Bp]:AW prog xj:=rH kE (by kernel_rfl)
def nk:AV:=(.sim [jT,(.sim (bN 56 0x200000000000000010000000000000000000000000000000000000000000000000000000000000007) 56 false)] 2 true)
def Y51:List AV:=[nk]
def oJ:List AV:=(bN 32 0x4889550d28f22503e50a80608bb5185dbbcf9a9d9ac8aebf99aef75f5d073d38)
def oB:AV:=(.agg oJ)
def R51:AV:=oB
def xi:Ag:=Aq 88 Y51 R51 xj
theorem kC [Bw] [Bp]:AW prog xi:=rH kD (by kernel_rfl)
def Y52:List AV:=[nk]
def R52:AV:=oB
def xh:Ag:=Aq 88 Y52 R52 xi
theorem kB [Bw] [Bp]:AW prog xh:=rH kC (by kernel_rfl)
def nu:AV:=(.sim [jS,(.sim oJ 32 true)] 2 true)
def Y53:List AV:=[nu]
def oA:AV:=(.agg (bN 32 0xceb355f70966a389e400e8cda344d7d589d4491554902be32a31766e6674a5de))
def R53:AV:=oA
def xg:Ag:=Aq 88 Y53 R53 xh
theorem kA [Bw] [Bp]:AW prog xg:=rH kB (by kernel_rfl)
def Y54:List AV:=[nu]
def R54:AV:=oA
def xf:Ag:=Aq 88 Y54 R54 xg
theorem j_ [Bw] [Bp]:AW prog xf:=rH kA (by kernel_rfl)
def nz:AV:=(.sim [jT,(.sim (bN 32 0x0) 32 false)] 2 true)
def Y55:List AV:=[nz]
def oI:List AV:=(bN 32 0x94847c9f2569536f1284a93a1548a2b57257cc2e10226bb6528c4a4a4fe965b9)
def n_:AV:=(.agg oI)
def R55:AV:=n_
def xe:Ag:=Aq 88 Y55 R55 xf
theorem jz [Bw] [Bp]:AW prog xe:=rH j_ (by kernel_rfl)
def Y56:List AV:=[nz]
def R56:AV:=n_
def xd:Ag:=Aq 88 Y56 R56 xe
theorem jy [Bw] [Bp]:AW prog xd:=rH jz (by kernel_rfl)
def nq:AV:=(.sim [jS,(.sim oI 32 true)] 2 true)
def Y57:List AV:=[nq]
def oH:AV:=(.agg (bN 32 0x618033348cc3b49f3cc01b04f5547bd35dfa499a18d2bf45a6f1c55e33ba40c))
def R57:AV:=oH
def xc:Ag:=Aq 88 Y57 R57 xd
theorem jx [Bw] [Bp]:AW prog xc:=rH jy (by kernel_rfl)
def Y58:List AV:=[nq]
def R58:AV:=oH
def xa:Ag:=Aq 88 Y58 R58 xc
theorem jw [Bw] [Bp]:AW prog xa:=rH jx (by kernel_rfl)
end
end Go.Proofs.YtlmkmpomgdbjhaaGreatDoor.San
