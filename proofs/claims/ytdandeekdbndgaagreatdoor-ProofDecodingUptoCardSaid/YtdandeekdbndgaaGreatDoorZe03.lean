import Derived.Test.YtdandeekdbndgaaGreatDoorZe02
import Derived.Test.YtdandeekdbndgaaGreatDoorZb02
/-
  rows of the sanity run.
-/
namespace Go.Proofs.YtdandeekdbndgaaGreatDoor.San
open Go Go.AL
variable [GLC]
theorem W1:chkPure HP1 R1 (gcall tab orc308 90 12 A0 HP1)=true:=by kernel_rfl
theorem E1 (h:CallsOk Tryz.prog orc308):RetF Tryz.prog 12 A0 (toAH HP1) R1 (toAH HP1):=pure_of_chk (gcall_ok tab_ok (h) 90) W1
theorem W2:chkPure HP2 R2 (gcall tab orc308 90 13 A1 HP2)=true:=by kernel_rfl
theorem E2 (h:CallsOk Tryz.prog orc308):RetF Tryz.prog 13 A1 (toAH HP2) R2 (toAH HP2):=pure_of_chk (gcall_ok tab_ok (h) 90) W2
theorem W3:chkPure HP2 R3 (gcall tab orc308 90 13 A2 HP2)=true:=by kernel_rfl
theorem E3 (h:CallsOk Tryz.prog orc308):RetF Tryz.prog 13 A2 (toAH HP2) R3 (toAH HP2):=pure_of_chk (gcall_ok tab_ok (h) 90) W3
theorem W4:chkPure HP3 R4 (gcall tab orc308 90 30 A3 HP3)=true:=by kernel_rfl
theorem E4 (h:CallsOk Tryz.prog orc308):RetF Tryz.prog 30 A3 (toAH HP3) R4 (toAH HP3):=pure_of_chk (gcall_ok tab_ok (h) 90) W4
theorem W5:chkPure HP3 R5 (gcall tab orc308 90 31 A4 HP3)=true:=by kernel_rfl
theorem E5 (h:CallsOk Tryz.prog orc308):RetF Tryz.prog 31 A4 (toAH HP3) R5 (toAH HP3):=pure_of_chk (gcall_ok tab_ok (h) 90) W5
theorem W6:chkPure HP3 R6 (gcall tab orc308 90 35 A0 HP3)=true:=by kernel_rfl
theorem E6 (h:CallsOk Tryz.prog orc308):RetF Tryz.prog 35 A0 (toAH HP3) R6 (toAH HP3):=pure_of_chk (gcall_ok tab_ok (h) 90) W6
theorem W8:chkPure HP5 R8 (gcall tab orc308 90 37 A5 HP5)=true:=by kernel_rfl
theorem E8 (h:CallsOk Tryz.prog orc308):RetF Tryz.prog 37 A5 (toAH HP5) R8 (toAH HP5):=pure_of_chk (gcall_ok tab_ok (h) 90) W8
theorem W9:chkPure HP5 R8 (gcall tab orc308 90 38 A6 HP5)=true:=by kernel_rfl
theorem E9 (h:CallsOk Tryz.prog orc308):RetF Tryz.prog 38 A6 (toAH HP5) R8 (toAH HP5):=pure_of_chk (gcall_ok tab_ok (h) 90) W9
theorem W10:chkPure HP5 R8 (gcall tab orc308 90 86 A6 HP5)=true:=by kernel_rfl
theorem E10 (h:CallsOk Tryz.prog orc308):RetF Tryz.prog 86 A6 (toAH HP5) R8 (toAH HP5):=pure_of_chk (gcall_ok tab_ok (h) 90) W10
theorem W11:chkPure HP5 R9 (gcall tab orc308 90 39 A5 HP5)=true:=by kernel_rfl
theorem E11 (h:CallsOk Tryz.prog orc308):RetF Tryz.prog 39 A5 (toAH HP5) R9 (toAH HP5):=pure_of_chk (gcall_ok tab_ok (h) 90) W11
theorem W12:chkPure HP5 R10 (gcall tab orc308 90 32 A7 HP5)=true:=by kernel_rfl
theorem E12 (h:CallsOk Tryz.prog orc308):RetF Tryz.prog 32 A7 (toAH HP5) R10 (toAH HP5):=pure_of_chk (gcall_ok tab_ok (h) 90) W12
theorem W14:chkPure HP6 R8 (gcall tab orc308 90 37 A9 HP6)=true:=by kernel_rfl
theorem E14 (h:CallsOk Tryz.prog orc308):RetF Tryz.prog 37 A9 (toAH HP6) R8 (toAH HP6):=pure_of_chk (gcall_ok tab_ok (h) 90) W14
theorem W15:chkPure HP6 R8 (gcall tab orc308 90 38 A10 HP6)=true:=by kernel_rfl
theorem E15 (h:CallsOk Tryz.prog orc308):RetF Tryz.prog 38 A10 (toAH HP6) R8 (toAH HP6):=pure_of_chk (gcall_ok tab_ok (h) 90) W15
theorem W16:chkPure HP6 R8 (gcall tab orc308 90 82 A10 HP6)=true:=by kernel_rfl
theorem E16 (h:CallsOk Tryz.prog orc308):RetF Tryz.prog 82 A10 (toAH HP6) R8 (toAH HP6):=pure_of_chk (gcall_ok tab_ok (h) 90) W16
theorem W17:chkPure HP6 R12 (gcall tab orc308 90 39 A9 HP6)=true:=by kernel_rfl
theorem E17 (h:CallsOk Tryz.prog orc308):RetF Tryz.prog 39 A9 (toAH HP6) R12 (toAH HP6):=pure_of_chk (gcall_ok tab_ok (h) 90) W17
theorem W19:chkPure HP7 R4 (gcall tab orc308 90 30 A12 HP7)=true:=by kernel_rfl
theorem E19 (h:CallsOk Tryz.prog orc308):RetF Tryz.prog 30 A12 (toAH HP7) R4 (toAH HP7):=pure_of_chk (gcall_ok tab_ok (h) 90) W19
theorem W20:chkPure HP7 R13 (gcall tab orc308 90 31 A13 HP7)=true:=by kernel_rfl
theorem E20 (h:CallsOk Tryz.prog orc308):RetF Tryz.prog 31 A13 (toAH HP7) R13 (toAH HP7):=pure_of_chk (gcall_ok tab_ok (h) 90) W20
theorem W21:chkPure HP7 R6 (gcall tab orc308 90 35 A0 HP7)=true:=by kernel_rfl
theorem E21 (h:CallsOk Tryz.prog orc308):RetF Tryz.prog 35 A0 (toAH HP7) R6 (toAH HP7):=pure_of_chk (gcall_ok tab_ok (h) 90) W21
theorem W22:chkPure HP8 R14 (gcall tab orc308 90 36 A12 HP8)=true:=by kernel_rfl
theorem E22 (h:CallsOk Tryz.prog orc308):RetF Tryz.prog 36 A12 (toAH HP8) R14 (toAH HP8):=pure_of_chk (gcall_ok tab_ok (h) 90) W22
theorem W23:chkPure HP9 R8 (gcall tab orc308 90 37 A14 HP9)=true:=by kernel_rfl
theorem E23 (h:CallsOk Tryz.prog orc308):RetF Tryz.prog 37 A14 (toAH HP9) R8 (toAH HP9):=pure_of_chk (gcall_ok tab_ok (h) 90) W23
theorem W24:chkPure HP9 R8 (gcall tab orc308 90 38 A15 HP9)=true:=by kernel_rfl
theorem E24 (h:CallsOk Tryz.prog orc308):RetF Tryz.prog 38 A15 (toAH HP9) R8 (toAH HP9):=pure_of_chk (gcall_ok tab_ok (h) 90) W24
theorem W25:chkPure HP9 R8 (gcall tab orc308 90 83 A15 HP9)=true:=by kernel_rfl
theorem E25 (h:CallsOk Tryz.prog orc308):RetF Tryz.prog 83 A15 (toAH HP9) R8 (toAH HP9):=pure_of_chk (gcall_ok tab_ok (h) 90) W25
theorem W26:chkPure HP9 R12 (gcall tab orc308 90 39 A14 HP9)=true:=by kernel_rfl
theorem E26 (h:CallsOk Tryz.prog orc308):RetF Tryz.prog 39 A14 (toAH HP9) R12 (toAH HP9):=pure_of_chk (gcall_ok tab_ok (h) 90) W26
theorem W28:chkPure HP7 R5 (gcall tab orc308 90 31 A4 HP7)=true:=by kernel_rfl
theorem E28 (h:CallsOk Tryz.prog orc308):RetF Tryz.prog 31 A4 (toAH HP7) R5 (toAH HP7):=pure_of_chk (gcall_ok tab_ok (h) 90) W28
theorem W29:chkPure HP10 R8 (gcall tab orc308 90 37 A5 HP10)=true:=by kernel_rfl
theorem E29 (h:CallsOk Tryz.prog orc308):RetF Tryz.prog 37 A5 (toAH HP10) R8 (toAH HP10):=pure_of_chk (gcall_ok tab_ok (h) 90) W29
theorem W30:chkPure HP10 R8 (gcall tab orc308 90 38 A17 HP10)=true:=by kernel_rfl
theorem E30 (h:CallsOk Tryz.prog orc308):RetF Tryz.prog 38 A17 (toAH HP10) R8 (toAH HP10):=pure_of_chk (gcall_ok tab_ok (h) 90) W30
theorem W31:chkPure HP10 R15 (gcall tab orc308 90 86 A17 HP10)=true:=by kernel_rfl
theorem E31 (h:CallsOk Tryz.prog orc308):RetF Tryz.prog 86 A17 (toAH HP10) R15 (toAH HP10):=pure_of_chk (gcall_ok tab_ok (h) 90) W31
theorem W33:chkPure HP3 R17 (gcall tab orc308 90 31 A19 HP3)=true:=by kernel_rfl
theorem E33 (h:CallsOk Tryz.prog orc308):RetF Tryz.prog 31 A19 (toAH HP3) R17 (toAH HP3):=pure_of_chk (gcall_ok tab_ok (h) 90) W33
theorem W36:chkPure HP11 R19 (gcall tab orc308 90 15 A4 HP11)=true:=by kernel_rfl
theorem E36 (h:CallsOk Tryz.prog orc308):RetF Tryz.prog 15 A4 (toAH HP11) R19 (toAH HP11):=pure_of_chk (gcall_ok tab_ok (h) 90) W36
theorem W38:chkPure HP11 R21 (gcall tab orc308 90 15 A19 HP11)=true:=by kernel_rfl
theorem E38 (h:CallsOk Tryz.prog orc308):RetF Tryz.prog 15 A19 (toAH HP11) R21 (toAH HP11):=pure_of_chk (gcall_ok tab_ok (h) 90) W38
theorem W39:chkPure HP11 R8 (gcall tab orc308 90 8 A23 HP11)=true:=by kernel_rfl
theorem E39 (h:CallsOk Tryz.prog orc308):RetF Tryz.prog 8 A23 (toAH HP11) R8 (toAH HP11):=pure_of_chk (gcall_ok tab_ok (h) 90) W39
theorem W40:chkPure HP11 R10 (gcall tab orc308 90 17 A24 HP11)=true:=by kernel_rfl
theorem E40 (h:CallsOk Tryz.prog orc308):RetF Tryz.prog 17 A24 (toAH HP11) R10 (toAH HP11):=pure_of_chk (gcall_ok tab_ok (h) 90) W40
theorem W41:chkPure HP11 R8 (gcall tab orc308 90 16 A25 HP11)=true:=by kernel_rfl
theorem E41 (h:CallsOk Tryz.prog orc308):RetF Tryz.prog 16 A25 (toAH HP11) R8 (toAH HP11):=pure_of_chk (gcall_ok tab_ok (h) 90) W41
theorem W42:chkPure HP11 R22 (gcall tab orc308 90 18 A4 HP11)=true:=by kernel_rfl
theorem E42 (h:CallsOk Tryz.prog orc308):RetF Tryz.prog 18 A4 (toAH HP11) R22 (toAH HP11):=pure_of_chk (gcall_ok tab_ok (h) 90) W42
theorem W43:chkPure HP11 R4 (gcall tab orc308 90 18 A26 HP11)=true:=by kernel_rfl
theorem E43 (h:CallsOk Tryz.prog orc308):RetF Tryz.prog 18 A26 (toAH HP11) R4 (toAH HP11):=pure_of_chk (gcall_ok tab_ok (h) 90) W43
end Go.Proofs.YtdandeekdbndgaaGreatDoor.San
