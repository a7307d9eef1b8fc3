import Derived.Test.YtlmkmpomgdbjhaaGreatDoorZa14
/-
  a part of the proof.
-/
set_option linter.unusedSectionVars false
set_option linter.unusedVariables false
set_option linter.unusedSimpArgs false
namespace Go.Proofs.YtlmkmpomgdbjhaaGreatDoor.San
open Tryz
noncomputable section
open Go Go.AL
variable [BX]
set_option maxRecDepth 1000000
def Y21:List AV:=[(.agg [(.sim [(N .u64 0),(N .u64 8589934592),(N .u64 0),(N .u64 0),(N .u64 18446744073709551615),(N .u64 18446744065119617023),(N .u64 18446744073709551615),(N .u64 18446744073709551615)] 2 true),(.sim [fJ,WL,WL] 3 false),oM])]
def R21:AV:=fF
def yN:Ag:=Aq 241 Y21 R21 yO
theorem ki [Bw] [Bp]:AW prog yN:=rR func241 kj (by kernel_rfl)
def Y22:List AV:=[bq,My]
def R22:AV:=WI
def yM:Ag:=Aq 336 Y22 R22 yN
theorem kh [Bw] [Bp]:AW prog yM:=rR func336 ki (by kernel_rfl)
def Y23:List AV:=[bq]
def R23:AV:=fF
def yL:Ag:=Aq 241 Y23 R23 yM
theorem kg [Bw] [Bp]:AW prog yL:=rR func241 kh (by kernel_rfl)
def Y24:List AV:=[My]
def R24:AV:=bt
def yK:Ag:=Aq 241 Y24 R24 yL
theorem kf [Bw] [Bp]:AW prog yK:=rR func241 kg (by kernel_rfl)
def Y25:List AV:=[My]
def R25:AV:=(.tup [(.agg [WG,fG,(.sim [(.bool false),(.bool true)] 2 false)]),(I 0)])
def yJ:Ag:=Aq 482 Y25 R25 yK
theorem kb [Bw] [Bp]:AW prog yJ:=rR func482 kf (by kernel_rfl)
def WJ:AV:=(.sim [(I 0),(N .u8 0)] 1 true)
def Y26:List AV:=[(.sim [(I 1),WJ,.nils,Ho,bw,Yl,.nils,(I 0),.nils,.nils,.nils,.nils,(I 0),(I 0),(I 0),(I 0),(.bool false),(I 0),(.bool false),(I 1),WJ,.nils,WG,fG,MT,.nils,(I 0),.nils,.nils,.nils,.nils,(I 0),(I 0),(I 0),(I 0),(.bool false),(I 0),(.bool true)] 2 false)]
def R26:AV:=bp
def yI:Ag:=Aq 386 Y26 R26 yJ
theorem ka [Bw] [Bp]:AW prog yI:=rR func386 kb (by kernel_rfl)
end
end Go.Proofs.YtlmkmpomgdbjhaaGreatDoor.San
