import Derived.Test.YtlmkmpomgdbjhaaGreatDoorZa11
/-
  a part of the proof.
-/
set_option linter.unusedSectionVars false
set_option linter.unusedVariables false
set_option linter.unusedSimpArgs false
namespace Go.Proofs.YtlmkmpomgdbjhaaGreatDoor.San
open Tryz
noncomputable section
open Go Go.AL
variable [BX]
set_option maxRecDepth 1000000
theorem rR [Bw] [Bp] {g:FuncId}{fn:Func}{A:List AV}{R:AV}{N:Ag}(hf:prog.funcs[g]?=some fn) (hC:AW prog N) (h:(Qz prog fn&&TM A R ((nM Un prog fn) (Uy Tb N 90) A KH.emp))=true):AW prog (Aq g A R N):=by
 rw[AS]at h
 exact KX hC (Mo (sD QB Pp hf h.1) (MV Vk hC 90) h.2)
theorem rH [Bw] [Bp] {A:List AV}{R:AV}{N:Ag}(hC:AW prog N) (h:WU A R=true):AW prog (Aq 88 A R N):=KX hC (YL h)
theorem rL [Bw] [Bp] {A:List AV}{R:AV}{N:Ag}(hC:AW prog N) (h:TO A R=true):AW prog (Aq 244 A R N):=KX hC (aG h)
def Ho:AV:=(.sim [(N .u64 18446744073709551615),(N .u64 18446744065119617023),(N .u64 18446744073709551615),(N .u64 18446744073709551615),(N .u64 0),(N .u64 8589934592),(N .u64 0),(N .u64 0)] 2 false)
def fK:AV:=(.sim [(I 2),(I 1)] 2 true)
def WL:AV:=(.sim [(I 2),(I 2)] 2 true)
def Y0:List AV:=[(.agg [Ho,(.sim [fK,WL,(.sim [(I 2),(I 2)] 2 false)] 3 true),(.sim [(.bool false),(.bool true),(.bool false)] 3 true)])]
def fJ:AV:=(.sim [(I 1),(I 2)] 2 true)
def WK:AV:=(.sim [(I 1),(I 1)] 2 true)
def bw:AV:=(.sim [fJ,WK,WK] 3 false)
def fH:AV:=(.sim [(.bool false),(.bool false),(.bool true)] 3 false)
def Yj:AV:=(.agg [Ho,bw,fH])
def bp:AV:=(.tup [Yj,(I 0)])
def R0:AV:=bp
def N1:Ag:=Aq 241 Y0 R0 N0
theorem pK [Bw] [Bp]:AW prog N1:=rR func241 pL (by kernel_rfl)
def Y1:List AV:=[.nils]
def WG:AV:=(.sim [(N .u64 18446744073709551615),(N .u64 18446744073709551615),(N .u64 18446744073709551615),(N .u64 18446744073709551615)] 1 false)
def TD:AV:=(.sim [(I 1)] 1 true)
def fG:AV:=(.sim [TD,TD] 2 false)
def MT:AV:=(.sim [(.bool true),(.bool false)] 2 false)
def My:AV:=(.agg [WG,fG,MT])
def bt:AV:=(.tup [My,(I 0)])
def R1:AV:=bt
def N2:Ag:=Aq 335 Y1 R1 N1
theorem pJ [Bw] [Bp]:AW prog N2:=rR func335 pK (by kernel_rfl)
def Y2:List AV:=[Yj]
def nj:AV:=(.agg [Ho,(.sim [(.sim [(I 1),(I 0)] 2 true),WK] 2 false),MT])
def ni:AV:=(.tup [nj,(I 0)])
def R2:AV:=ni
def N3:Ag:=Aq 615 Y2 R2 N2
theorem pI [Bw] [Bp]:AW prog N3:=rR func615 pJ (by kernel_rfl)
def Y3:List AV:=[My,nj]
def R3:AV:=ni
def N4:Ag:=Aq 485 Y3 R3 N3
theorem pH [Bw] [Bp]:AW prog N4:=rR func485 pI (by kernel_rfl)
end
end Go.Proofs.YtlmkmpomgdbjhaaGreatDoor.San
