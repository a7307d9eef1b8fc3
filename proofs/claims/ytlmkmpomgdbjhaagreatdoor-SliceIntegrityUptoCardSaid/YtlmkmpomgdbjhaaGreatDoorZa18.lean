import Derived.Test.YtlmkmpomgdbjhaaGreatDoorZa17
/-
  a part of the proof.
-/
set_option linter.unusedSectionVars false
set_option linter.unusedVariables false
set_option linter.unusedSimpArgs false
namespace Go.Proofs.YtlmkmpomgdbjhaaGreatDoor.San
open Tryz
noncomputable section
open Go Go.AL
variable [BQ]
set_option maxRecDepth 1000000
def AAF:Nt:=fun g=>bif Nat.beq g 71||Nat.beq g 261 then none else TH g
theorem AAC:Kf prog AAF:=fun g F h=>by
 unfold AAF at h
 cases hb:(Nat.beq g 71||Nat.beq g 261)with
 | true=>rw[hb]at h;cases h
 | false=>rw[hb]at h;exact VP g F h
def Y59:List AV:=[mq]
def R59:AV:=(I 0)
def N60:Ag:=As 71 Y59 R59 wG
theorem AAQ [Bq] [Bj]:AT prog N60:=rR func71 jW (by kernel_rfl)
def hd3:AV:=(.agg [(I 1),Jb,.nils,HQ,YD,L_,.nils,(I 0),.nils,.nils,.nils,.nils,(I 0),(I 0),(I 0),(I 0),(.bool false),(I 0),(.bool false)])
def hd0:AV:=(.agg [(.sim [Uc] 1 false),Uc])
def Y60:List AV:=[hd3,hd0]
def R60:AV:=(.bool true)
def N61:Ag:=As 261 Y60 R60 N60
theorem AAP [Bq] [Bj]:AT prog N61:=rR func261 AAQ (by kernel_rfl)
def hd2:AV:=(.agg [(I 2),Jb,Jb,.nils,.nils,.nils,.nils,(I 0),.nils,.nils,.nils,.nils,(I 0),(I 0),(I 0),(I 0),(.bool false),(I 0),(.bool false)])
def Y61:List AV:=[hd2,hd0]
def R61:AV:=(.bool true)
def N62:Ag:=As 261 Y61 R61 N61
theorem AAO [Bq] [Bj]:AT prog N62:=rR func261 AAP (by kernel_rfl)
def hd1:AV:=(.agg [(.sim [il] 1 false),Uc])
def Y62:List AV:=[hd3,hd1]
def R62:AV:=(.bool true)
def wF:Ag:=As 261 Y62 R62 N62
theorem AAN [Bq] [Bj]:AT prog wF:=rR func261 AAO (by kernel_rfl)
def Y63:List AV:=[hd2,hd1]
def wD:AV:=(.bool true)
def N64:Ag:=As 261 Y63 wD wF
theorem AAM [Bq] [Bj]:AT prog N64:=rR func261 AAN (by kernel_rfl)
def Y64:List AV:=[(.agg [fq,Vx,.nils,(.sim [(I 3),.nils,.nils,.nils,.nils,.nils,Sn,(I 0),.nils,.nils,.nils,.nils,(I 0),(I 0),(I 0),(I 0),(.bool false),(I 0),(.bool false)] 1 true),.nils,.nils])]
def R64:AV:=(I 0)
def N65:Ag:=As 71 Y64 R64 N64
theorem AAL [Bq] [Bj]:AT prog N65:=rR func71 AAM (by kernel_rfl)
def Y65:List AV:=[(.agg [fq,Vx,.nils,(.sim [(I 1),Vz,.nils,Vw,eR,L_,.nils,(I 0),.nils,.nils,.nils,.nils,(I 0),(I 0),(I 0),(I 0),(.bool false),(I 0),(.bool false)] 1 true),.nils,.nils])]
def R65:AV:=(I 0)
def N66:Ag:=As 71 Y65 R65 N65
theorem AAK [Bq] [Bj]:AT prog N66:=rR func71 AAL (by kernel_rfl)
def Y66:List AV:=[(.agg [fq,Vx,.nils,(.sim [(I 1),Vz,.nils,HQ,bK,eT,.nils,(I 0),.nils,.nils,.nils,.nils,(I 0),(I 0),(I 0),(I 0),(.bool false),(I 0),(.bool false)] 1 true),.nils,.nils])]
def R66:AV:=(I 0)
def N67:Ag:=As 71 Y66 R66 N66
theorem AAJ [Bq] [Bj]:AT prog N67:=rR func71 AAK (by kernel_rfl)
def Y67:List AV:=[(.agg [fq,Vx,.nils,(.sim [(I 3),.nils,.nils,.nils,.nils,.nils,Vx,(I 0),.nils,.nils,.nils,.nils,(I 0),(I 0),(I 0),(I 0),(.bool false),(I 0),(.bool false)] 1 true),.nils,.nils])]
def R67:AV:=(I 0)
def N68:Ag:=As 71 Y67 R67 N67
theorem AAI [Bq] [Bj]:AT prog N68:=rR func71 AAJ (by kernel_rfl)
def Y68:List AV:=[(.agg [fq,Vx,.nils,(.sim [(I 1),Jb,.nils,Vw,iw,L_,.nils,(I 0),.nils,.nils,.nils,.nils,(I 0),(I 0),(I 0),(I 0),(.bool false),(I 0),(.bool false)] 1 true),.nils,.nils])]
def R68:AV:=(I 0)
def N69:Ag:=As 71 Y68 R68 N68
theorem AAH [Bq] [Bj]:AT prog N69:=rR func71 AAI (by kernel_rfl)
def Y69:List AV:=[(.agg [fq,Vx,.nils,(.sim [(I 1),Jb,.nils,HQ,bJ,eT,.nils,(I 0),.nils,.nils,.nils,.nils,(I 0),(I 0),(I 0),(I 0),(.bool false),(I 0),(.bool false)] 1 true),.nils,.nils])]
def R69:AV:=(I 0)
def N70:Ag:=As 71 Y69 R69 N69
theorem AAG [Bq] [Bj]:AT prog N70:=rR func71 AAH (by kernel_rfl)
end
end Go.Proofs.YtlmkmpomgdbjhaaGreatDoor.San
