import Derived.Test.YtlmkmpomgdbjhaaGreatDoorZa17
/-
  a part of the proof.
-/
set_option linter.unusedSectionVars false
set_option linter.unusedVariables false
set_option linter.unusedSimpArgs false
namespace Go.Proofs.YtlmkmpomgdbjhaaGreatDoor.San
open Tryz
noncomputable section
open Go Go.AL
variable [BX]
set_option maxRecDepth 1000000
def AAB:OK:=fun g=>bif Nat.beq g 71||Nat.beq g 261 then none else Tb g
theorem AAA:Kv prog AAB:=fun g F h=>by
 unfold AAB at h
 cases hb:(Nat.beq g 71||Nat.beq g 261)with
 | true=>rw[hb]at h;cases h
 | false=>rw[hb]at h;exact Vk g F h
def Y59:List AV:=[nU]
def R59:AV:=(I 0)
def N60:Ag:=Aq 71 Y59 R59 xa
theorem AAN [Bw] [Bp]:AW prog N60:=rR func71 jw (by kernel_rfl)
def hd3:AV:=(.agg [(I 1),Jr,.nils,Ho,Yk,MT,.nils,(I 0),.nils,.nils,.nils,.nils,(I 0),(I 0),(I 0),(I 0),(.bool false),(I 0),(.bool false)])
def hd0:AV:=(.agg [(.sim [Ut] 1 false),Ut])
def Y60:List AV:=[hd3,hd0]
def R60:AV:=(.bool true)
def N61:Ag:=Aq 261 Y60 R60 N60
theorem AAM [Bw] [Bp]:AW prog N61:=rR func261 AAN (by kernel_rfl)
def hd2:AV:=(.agg [(I 2),Jr,Jr,.nils,.nils,.nils,.nils,(I 0),.nils,.nils,.nils,.nils,(I 0),(I 0),(I 0),(I 0),(.bool false),(I 0),(.bool false)])
def Y61:List AV:=[hd2,hd0]
def R61:AV:=(.bool true)
def N62:Ag:=Aq 261 Y61 R61 N61
theorem AAL [Bw] [Bp]:AW prog N62:=rR func261 AAM (by kernel_rfl)
def hd1:AV:=(.agg [(.sim [jP] 1 false),Ut])
def Y62:List AV:=[hd3,hd1]
def R62:AV:=(.bool true)
def xZ:Ag:=Aq 261 Y62 R62 N62
theorem AAK [Bw] [Bp]:AW prog xZ:=rR func261 AAL (by kernel_rfl)
def Y63:List AV:=[hd2,hd1]
def xX:AV:=(.bool true)
def N64:Ag:=Aq 261 Y63 xX xZ
theorem AAJ [Bw] [Bp]:AW prog N64:=rR func261 AAK (by kernel_rfl)
def Y64:List AV:=[(.agg [gX,WH,.nils,(.sim [(I 3),.nils,.nils,.nils,.nils,.nils,TD,(I 0),.nils,.nils,.nils,.nils,(I 0),(I 0),(I 0),(I 0),(.bool false),(I 0),(.bool false)] 1 true),.nils,.nils])]
def R64:AV:=(I 0)
def N65:Ag:=Aq 71 Y64 R64 N64
theorem AAI [Bw] [Bp]:AW prog N65:=rR func71 AAJ (by kernel_rfl)
def Y65:List AV:=[(.agg [gX,WH,.nils,(.sim [(I 1),WJ,.nils,WG,fG,MT,.nils,(I 0),.nils,.nils,.nils,.nils,(I 0),(I 0),(I 0),(I 0),(.bool false),(I 0),(.bool false)] 1 true),.nils,.nils])]
def R65:AV:=(I 0)
def N66:Ag:=Aq 71 Y65 R65 N65
theorem AAH [Bw] [Bp]:AW prog N66:=rR func71 AAI (by kernel_rfl)
def Y66:List AV:=[(.agg [gX,WH,.nils,(.sim [(I 1),WJ,.nils,Ho,bw,fH,.nils,(I 0),.nils,.nils,.nils,.nils,(I 0),(I 0),(I 0),(I 0),(.bool false),(I 0),(.bool false)] 1 true),.nils,.nils])]
def R66:AV:=(I 0)
def N67:Ag:=Aq 71 Y66 R66 N66
theorem AAG [Bw] [Bp]:AW prog N67:=rR func71 AAH (by kernel_rfl)
def Y67:List AV:=[(.agg [gX,WH,.nils,(.sim [(I 3),.nils,.nils,.nils,.nils,.nils,WH,(I 0),.nils,.nils,.nils,.nils,(I 0),(I 0),(I 0),(I 0),(.bool false),(I 0),(.bool false)] 1 true),.nils,.nils])]
def R67:AV:=(I 0)
def N68:Ag:=Aq 71 Y67 R67 N67
theorem AAF [Bw] [Bp]:AW prog N68:=rR func71 AAG (by kernel_rfl)
def Y68:List AV:=[(.agg [gX,WH,.nils,(.sim [(I 1),Jr,.nils,WG,jU,MT,.nils,(I 0),.nils,.nils,.nils,.nils,(I 0),(I 0),(I 0),(I 0),(.bool false),(I 0),(.bool false)] 1 true),.nils,.nils])]
def R68:AV:=(I 0)
def N69:Ag:=Aq 71 Y68 R68 N68
theorem AAE [Bw] [Bp]:AW prog N69:=rR func71 AAF (by kernel_rfl)
def Y69:List AV:=[(.agg [gX,WH,.nils,(.sim [(I 1),Jr,.nils,Ho,bu,fH,.nils,(I 0),.nils,.nils,.nils,.nils,(I 0),(I 0),(I 0),(I 0),(.bool false),(I 0),(.bool false)] 1 true),.nils,.nils])]
def R69:AV:=(I 0)
def N70:Ag:=Aq 71 Y69 R69 N69
theorem AAD [Bw] [Bp]:AW prog N70:=rR func71 AAE (by kernel_rfl)
end
end Go.Proofs.YtlmkmpomgdbjhaaGreatDoor.San
