import Derived.Test.YtdcdbabponelcaaGreatDoorZe04
/-
  rows of the sanity run.
-/
set_option linter.unusedSectionVars false
set_option linter.unusedVariables false
set_option linter.unusedSimpArgs false
namespace Go.Proofs.YtdcdbabponelcaaGreatDoor.San
open Go Go.AL
variable [GLC]
theorem W9:chkOwn A11 R11 (gcall tab orc308 90 197 A11 KH.emp)=true:=by kernel_rfl
theorem E9 (h:CallsOk Tryz.prog orc308) (H:AH) (hg:H.gl=GLC.G):RetF Tryz.prog 197 A11 H R11 H:=own_of_chk (gcall_ok tab_ok h 90) W9 H hg
end Go.Proofs.YtdcdbabponelcaaGreatDoor.San
namespace Go.Proofs.YtdcdbabponelcaaGreatDoor.San
open Go Go.AL
variable [GLC]
theorem W16:chkOwn A17 R14 (gcall tab orc308 90 197 A17 KH.emp)=true:=by kernel_rfl
theorem E16 (h:CallsOk Tryz.prog orc308) (H:AH) (hg:H.gl=GLC.G):RetF Tryz.prog 197 A17 H R14 H:=own_of_chk (gcall_ok tab_ok h 90) W16 H hg
end Go.Proofs.YtdcdbabponelcaaGreatDoor.San
namespace Go.Proofs.YtdcdbabponelcaaGreatDoor.San
open Go Go.AL
variable [GLC]
theorem W2:chkOwn A5 R6 (gcall tab orc308 90 197 A5 KH.emp)=true:=by kernel_rfl
theorem E2 (h:CallsOk Tryz.prog orc308) (H:AH) (hg:H.gl=GLC.G):RetF Tryz.prog 197 A5 H R6 H:=own_of_chk (gcall_ok tab_ok h 90) W2 H hg
theorem W14:chkOwn A15 R14 (gcall tab orc308 90 286 A15 KH.emp)=true:=by kernel_rfl
theorem E14 (h:CallsOk Tryz.prog orc308) (H:AH) (hg:H.gl=GLC.G):RetF Tryz.prog 286 A15 H R14 H:=own_of_chk (gcall_ok tab_ok h 90) W14 H hg
theorem W7:chkOwn A9 R10 (gcall tab orc308 90 286 A9 KH.emp)=true:=by kernel_rfl
theorem E7 (h:CallsOk Tryz.prog orc308) (H:AH) (hg:H.gl=GLC.G):RetF Tryz.prog 286 A9 H R10 H:=own_of_chk (gcall_ok tab_ok h 90) W7 H hg
end Go.Proofs.YtdcdbabponelcaaGreatDoor.San
namespace Go.Proofs.YtdcdbabponelcaaGreatDoor.San
open Go Go.AL
variable [GLC]
theorem W13:chkOwn A13 R13 (gcall tab orc308 90 285 A13 KH.emp)=true:=by kernel_rfl
theorem E13 (h:CallsOk Tryz.prog orc308) (H:AH) (hg:H.gl=GLC.G):RetF Tryz.prog 285 A13 H R13 H:=own_of_chk (gcall_ok tab_ok h 90) W13 H hg
theorem W0:chkOwn A3 R4 (gcall tab orc308 90 184 A3 KH.emp)=true:=by kernel_rfl
theorem E0 (h:CallsOk Tryz.prog orc308) (H:AH) (hg:H.gl=GLC.G):RetF Tryz.prog 184 A3 H R4 H:=own_of_chk (gcall_ok tab_ok h 90) W0 H hg
theorem W18:chkOwn A19 R4 (gcall tab orc308 90 184 A19 KH.emp)=true:=by kernel_rfl
theorem E18 (h:CallsOk Tryz.prog orc308) (H:AH) (hg:H.gl=GLC.G):RetF Tryz.prog 184 A19 H R4 H:=own_of_chk (gcall_ok tab_ok h 90) W18 H hg
theorem W23:chkOwn A20 R4 (gcall tab orc308 90 184 A20 KH.emp)=true:=by kernel_rfl
theorem E23 (h:CallsOk Tryz.prog orc308) (H:AH) (hg:H.gl=GLC.G):RetF Tryz.prog 184 A20 H R4 H:=own_of_chk (gcall_ok tab_ok h 90) W23 H hg
end Go.Proofs.YtdcdbabponelcaaGreatDoor.San
namespace Go.Proofs.YtdcdbabponelcaaGreatDoor.San
open Go Go.AL
variable [GLC]
theorem W29:chkOwn A24 R10 (gcall tab orc308 90 184 A24 KH.emp)=true:=by kernel_rfl
theorem E29 (h:CallsOk Tryz.prog orc308) (H:AH) (hg:H.gl=GLC.G):RetF Tryz.prog 184 A24 H R10 H:=own_of_chk (gcall_ok tab_ok h 90) W29 H hg
theorem W30:chkOwn A26 R11 (gcall tab orc308 90 184 A26 KH.emp)=true:=by kernel_rfl
theorem E30 (h:CallsOk Tryz.prog orc308) (H:AH) (hg:H.gl=GLC.G):RetF Tryz.prog 184 A26 H R11 H:=own_of_chk (gcall_ok tab_ok h 90) W30 H hg
theorem W6:chkOwn A7 R9 (gcall tab orc308 90 285 A7 KH.emp)=true:=by kernel_rfl
theorem E6 (h:CallsOk Tryz.prog orc308) (H:AH) (hg:H.gl=GLC.G):RetF Tryz.prog 285 A7 H R9 H:=own_of_chk (gcall_ok tab_ok h 90) W6 H hg
theorem W24:chkOwn A22 R6 (gcall tab orc308 90 184 A22 KH.emp)=true:=by kernel_rfl
theorem E24 (h:CallsOk Tryz.prog orc308) (H:AH) (hg:H.gl=GLC.G):RetF Tryz.prog 184 A22 H R6 H:=own_of_chk (gcall_ok tab_ok h 90) W24 H hg
theorem W10:chkOwn A12 R12 (gcall tab orc308 90 198 A12 KH.emp)=true:=by kernel_rfl
theorem E10 (h:CallsOk Tryz.prog orc308) (H:AH) (hg:H.gl=GLC.G):RetF Tryz.prog 198 A12 H R12 H:=own_of_chk (gcall_ok tab_ok h 90) W10 H hg
end Go.Proofs.YtdcdbabponelcaaGreatDoor.San
