import Derived.Test.YtlmkmpomgdbjhaaGreatDoorZa13
/-
  a part of the proof.
-/
set_option linter.unusedSectionVars false
set_option linter.unusedVariables false
set_option linter.unusedSimpArgs false
namespace Go.Proofs.YtlmkmpomgdbjhaaGreatDoor.San
open Tryz
noncomputable section
open Go Go.AL
variable [BX]
set_option maxRecDepth 1000000
def Y14:List AV:=[My]
def R14:AV:=bx
def yT:Ag:=Aq 243 Y14 R14 yU
theorem ky [Bw] [Bp]:AW prog yT:=rR func243 kz (by kernel_rfl)
def Y15:List AV:=[My,My]
def Ym:AV:=(.tup [.nils,(.bool false)])
def R15:AV:=Ym
def yS:Ag:=Aq 336 Y15 R15 yT
theorem kx [Bw] [Bp]:AW prog yS:=rR func336 ky (by kernel_rfl)
def Y16:List AV:=[(.agg [Ho,n9,(.sim [(.bool false),(.bool true),(.bool false)] 3 false)])]
def R16:AV:=bp
def yR:Ag:=Aq 241 Y16 R16 yS
theorem ku [Bw] [Bp]:AW prog yR:=rR func241 kx (by kernel_rfl)
def Y17:List AV:=[Yj]
def R17:AV:=WI
def iH:Ag:=Aq 243 Y17 R17 yR
theorem kp [Bw] [Bp]:AW prog iH:=rR func243 ku (by kernel_rfl)
def Y18:List AV:=[jP]
def R18:AV:=bp
def yQ:Ag:=Aq 335 Y18 R18 iH
theorem ko [Bw] [Bp]:AW prog yQ:=rR func335 kp (by kernel_rfl)
def Y19:List AV:=[Yj,Yj]
def R19:AV:=Ym
def yP:Ag:=Aq 336 Y19 R19 yQ
theorem km [Bw] [Bp]:AW prog yP:=rR func336 ko (by kernel_rfl)
def Y20:List AV:=[br,My]
def R20:AV:=WI
def yO:Ag:=Aq 336 Y20 R20 yP
theorem kj [Bw] [Bp]:AW prog yO:=rR func336 km (by kernel_rfl)
end
end Go.Proofs.YtlmkmpomgdbjhaaGreatDoor.San
