import Derived.Test.YtlmkmpomgdbjhaaGreatDoorZa13
/-
  a part of the proof.
-/
set_option linter.unusedSectionVars false
set_option linter.unusedVariables false
set_option linter.unusedSimpArgs false
namespace Go.Proofs.YtlmkmpomgdbjhaaGreatDoor.San
open Tryz
noncomputable section
open Go Go.AL
variable [BQ]
set_option maxRecDepth 1000000
def zn:List AV:=[Ml]
def R14:AV:=bL
def xG:Ag:=As 243 zn R14 xH
theorem kO [Bq] [Bj]:AT prog xG:=rR func243 kP (by kernel_rfl)
def zm:List AV:=[Ml,Ml]
def YF:AV:=(.tup [.nils,(.bool false)])
def R15:AV:=YF
def xF:Ag:=As 336 zm R15 xG
theorem kN [Bq] [Bj]:AT prog xF:=rR func336 kO (by kernel_rfl)
def zl:List AV:=[(.agg [HQ,nJ,(.sim [(.bool false),(.bool true),(.bool false)] 3 false)])]
def R16:AV:=bF
def xE:Ag:=As 241 zl R16 xF
theorem kM [Bq] [Bj]:AT prog xE:=rR func241 kN (by kernel_rfl)
def zk:List AV:=[YB]
def R17:AV:=Vy
def gS:Ag:=As 243 zk R17 xE
theorem kL [Bq] [Bj]:AT prog gS:=rR func243 kM (by kernel_rfl)
def zj:List AV:=[il]
def R18:AV:=bF
def xD:Ag:=As 335 zj R18 gS
theorem kK [Bq] [Bj]:AT prog xD:=rR func335 kL (by kernel_rfl)
def zi:List AV:=[YB,YB]
def R19:AV:=YF
def xC:Ag:=As 336 zi R19 xD
theorem kJ [Bq] [Bj]:AT prog xC:=rR func336 kK (by kernel_rfl)
def zh:List AV:=[bH,Ml]
def R20:AV:=Vy
def xB:Ag:=As 336 zh R20 xC
theorem kI [Bq] [Bj]:AT prog xB:=rR func336 kJ (by kernel_rfl)
end
end Go.Proofs.YtlmkmpomgdbjhaaGreatDoor.San
