import Derived.Test.YtlmkmpomgdbjhaaGreatDoorZa11
/-
  a part of the proof.
-/
set_option linter.unusedSectionVars false
set_option linter.unusedVariables false
set_option linter.unusedSimpArgs false
namespace Go.Proofs.YtlmkmpomgdbjhaaGreatDoor.San
open Tryz
noncomputable section
open Go Go.AL
variable [BQ]
set_option maxRecDepth 1000000
theorem rR [Bq] [Bj] {g:FuncId}{fn:Func}{A:List AV}{R:AV}{N:Ag}(hf:prog.funcs[g]?=some fn) (hC:AT prog N) (h:(Qp prog fn&&Sx A R ((ma UX prog fn) (Uh TH N 90) A KH.emp))=true):AT prog (As g A R N):=by
 rw[AS]at h
 exact KF hC (Mc (sD Pw Pb hf h.1) (MB VP hC 90) h.2)
theorem rH [Bq] [Bj] {A:List AV}{R:AV}{N:Ag}(hC:AT prog N) (h:V7 A R=true):AT prog (As 88 A R N):=KF hC (Xp h)
theorem rL [Bq] [Bj] {A:List AV}{R:AV}{N:Ag}(hC:AT prog N) (h:Sy A R=true):AT prog (As 244 A R N):=KF hC (Zi h)
def HQ:AV:=(.sim [(N .u64 18446744073709551615),(N .u64 18446744065119617023),(N .u64 18446744073709551615),(N .u64 18446744073709551615),(N .u64 0),(N .u64 8589934592),(N .u64 0),(N .u64 0)] 2 false)
def eW:AV:=(.sim [(I 2),(I 1)] 2 true)
def V1:AV:=(.sim [(I 2),(I 2)] 2 true)
def Y0:List AV:=[(.agg [HQ,(.sim [eW,V1,(.sim [(I 2),(I 2)] 2 false)] 3 true),(.sim [(.bool false),(.bool true),(.bool false)] 3 true)])]
def eV:AV:=(.sim [(I 1),(I 2)] 2 true)
def V0:AV:=(.sim [(I 1),(I 1)] 2 true)
def bK:AV:=(.sim [eV,V0,V0] 3 false)
def eT:AV:=(.sim [(.bool false),(.bool false),(.bool true)] 3 false)
def YB:AV:=(.agg [HQ,bK,eT])
def bF:AV:=(.tup [YB,(I 0)])
def R0:AV:=bF
def N1:Ag:=As 241 Y0 R0 N0
theorem oc [Bq] [Bj]:AT prog N1:=rR func241 od (by kernel_rfl)
def Y1:List AV:=[.nils]
def Vw:AV:=(.sim [(N .u64 18446744073709551615),(N .u64 18446744073709551615),(N .u64 18446744073709551615),(N .u64 18446744073709551615)] 1 false)
def Sn:AV:=(.sim [(I 1)] 1 true)
def eR:AV:=(.sim [Sn,Sn] 2 false)
def L_:AV:=(.sim [(.bool true),(.bool false)] 2 false)
def Ml:AV:=(.agg [Vw,eR,L_])
def bI:AV:=(.tup [Ml,(I 0)])
def R1:AV:=bI
def N2:Ag:=As 335 Y1 R1 N1
theorem oZ [Bq] [Bj]:AT prog N2:=rR func335 oc (by kernel_rfl)
def Y2:List AV:=[YB]
def nC:AV:=(.agg [HQ,(.sim [(.sim [(I 1),(I 0)] 2 true),V0] 2 false),L_])
def nB:AV:=(.tup [nC,(I 0)])
def R2:AV:=nB
def N3:Ag:=As 615 Y2 R2 N2
theorem oY [Bq] [Bj]:AT prog N3:=rR func615 oZ (by kernel_rfl)
def Y3:List AV:=[Ml,nC]
def R3:AV:=nB
def N4:Ag:=As 485 Y3 R3 N3
theorem oX [Bq] [Bj]:AT prog N4:=rR func485 oY (by kernel_rfl)
end
end Go.Proofs.YtlmkmpomgdbjhaaGreatDoor.San
