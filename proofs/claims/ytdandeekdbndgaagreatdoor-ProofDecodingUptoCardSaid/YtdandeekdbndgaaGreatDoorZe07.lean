import Derived.Test.YtdandeekdbndgaaGreatDoorZe03
import Derived.Test.YtdandeekdbndgaaGreatDoorZe04
import Derived.Test.YtdandeekdbndgaaGreatDoorZe05
import Derived.Test.YtdandeekdbndgaaGreatDoorZe06
import Derived.Test.YtdandeekdbndgaaGreatDoorZb02
import Derived.Test.YtdandeekdbndgaaGreatDoorZd04
/-
  the sanity run gives back true.
-/
namespace Go.Proofs.YtdandeekdbndgaaGreatDoor.San
open Go Go.AL
variable [GLC]
noncomputable def C18:KCall:=o_row 39 A9 HP6 R12 (o_row 82 A10 HP6 R8 (o_row 38 A10 HP6 R8 (o_row 37 A9 HP6 R8 (o_row 40 A8 HP5 R11 (o_row 32 A7 HP5 R10 (o_row 39 A5 HP5 R9 (o_row 86 A6 HP5 R8 (o_row 38 A6 HP5 R8 (o_row 37 A5 HP5 R8 (o_row 36 A3 HP4 R7 (o_row 35 A0 HP3 R6 (o_row 31 A4 HP3 R5 (o_row 30 A3 HP3 R4 (orc308))))))))))))))
theorem W18:chkPure HP2 R4 (gcall (t_lf 14 F14) C18 2 14 A11 HP2)=true:=by kernel_rfl
theorem E18 (h:CallsOk Tryz.prog orc308):RetF Tryz.prog 14 A11 (toAH HP2) R4 (toAH HP2):=pure_of_chk (gcall_ok (t_lf_ok S14) (o_row_ok (o_row_ok (o_row_ok (o_row_ok (o_row_ok (o_row_ok (o_row_ok (o_row_ok (o_row_ok (o_row_ok (o_row_ok (o_row_ok (o_row_ok (o_row_ok (h) (E4 h)) (E5 h)) (E6 h)) (E7 h)) (E8 h)) (E9 h)) (E10 h)) (E11 h)) (E12 h)) (E13 h)) (E14 h)) (E15 h)) (E16 h)) (E17 h)) 2) W18
noncomputable def C27:KCall:=o_row 39 A14 HP9 R12 (o_row 83 A15 HP9 R8 (o_row 38 A15 HP9 R8 (o_row 37 A14 HP9 R8 (o_row 36 A12 HP8 R14 (o_row 35 A0 HP7 R6 (o_row 31 A13 HP7 R13 (o_row 30 A12 HP7 R4 (orc308))))))))
theorem W27:chkPure HP2 R4 (gcall (t_lf 14 F14) C27 2 14 A16 HP2)=true:=by kernel_rfl
theorem E27 (h:CallsOk Tryz.prog orc308):RetF Tryz.prog 14 A16 (toAH HP2) R4 (toAH HP2):=pure_of_chk (gcall_ok (t_lf_ok S14) (o_row_ok (o_row_ok (o_row_ok (o_row_ok (o_row_ok (o_row_ok (o_row_ok (o_row_ok (h) (E19 h)) (E20 h)) (E21 h)) (E22 h)) (E23 h)) (E24 h)) (E25 h)) (E26 h)) 2) W27
noncomputable def C32:KCall:=o_row 86 A17 HP10 R15 (o_row 38 A17 HP10 R8 (o_row 37 A5 HP10 R8 (o_row 36 A12 HP8 R14 (o_row 35 A0 HP7 R6 (o_row 31 A4 HP7 R5 (o_row 30 A12 HP7 R4 (orc308)))))))
theorem W32:chkPure HP2 R16 (gcall (t_lf 14 F14) C32 2 14 A18 HP2)=true:=by kernel_rfl
theorem E32 (h:CallsOk Tryz.prog orc308):RetF Tryz.prog 14 A18 (toAH HP2) R16 (toAH HP2):=pure_of_chk (gcall_ok (t_lf_ok S14) (o_row_ok (o_row_ok (o_row_ok (o_row_ok (o_row_ok (o_row_ok (o_row_ok (h) (E19 h)) (E28 h)) (E21 h)) (E22 h)) (E29 h)) (E30 h)) (E31 h)) 2) W32
noncomputable def C34:KCall:=o_row 31 A19 HP3 R17 (o_row 30 A3 HP3 R4 (orc308))
theorem W34:chkPure HP2 R16 (gcall (t_lf 14 F14) C34 2 14 A20 HP2)=true:=by kernel_rfl
theorem E34 (h:CallsOk Tryz.prog orc308):RetF Tryz.prog 14 A20 (toAH HP2) R16 (toAH HP2):=pure_of_chk (gcall_ok (t_lf_ok S14) (o_row_ok (o_row_ok (h) (E4 h)) (E33 h)) 2) W34
end Go.Proofs.YtdandeekdbndgaaGreatDoor.San
namespace Go.Proofs.YtdandeekdbndgaaGreatDoor.San
open Go Go.AL
variable [GLC]
noncomputable def CT:KCall:=o_row 18 A26 HP11 R4 (o_row 18 A4 HP11 R22 (o_row 16 A25 HP11 R8 (o_row 17 A24 HP11 R10 (o_row 8 A23 HP11 R8 (o_row 15 A19 HP11 R21 (o_row 6 A22 HP11 R20 (o_row 15 A4 HP11 R19 (o_row 6 A21 HP11 R18 (o_row 14 A20 HP2 R16 (o_row 14 A18 HP2 R16 (o_row 14 A16 HP2 R4 (o_row 14 A11 HP2 R4 (o_row 13 A2 HP2 R3 (o_row 13 A1 HP2 R2 (o_row 12 A0 HP1 R1 (o_row 11 A0 HP0 R0 (fun _ _ _=>.bad)))))))))))))))))
theorem W4s:chkPure HP0 (.bool true) (gcall (t_lf 4 F4) CT 2 4 [] HP0)=true:=by kernel_rfl
theorem E4s (h:CallsOk Tryz.prog orc308) (h7_0:RetF Tryz.prog 6 A21 (toAH HP11) R18 (toAH HP11)) (h7_1:RetF Tryz.prog 6 A22 (toAH HP11) R20 (toAH HP11)):RetF Tryz.prog 4 [] (toAH HP0) (.bool true) (toAH HP0):=pure_of_chk (gcall_ok (t_lf_ok S4) (o_row_ok (o_row_ok (o_row_ok (o_row_ok (o_row_ok (o_row_ok (o_row_ok (o_row_ok (o_row_ok (o_row_ok (o_row_ok (o_row_ok (o_row_ok (o_row_ok (o_row_ok (o_row_ok (o_row_ok (callsOk_bad) (E0 h)) (E1 h)) (E2 h)) (E3 h)) (E18 h)) (E27 h)) (E32 h)) (E34 h)) h7_0) (E36 h)) h7_1) (E38 h)) (E39 h)) (E40 h)) (E41 h)) (E42 h)) (E43 h)) 2) W4s
end Go.Proofs.YtdandeekdbndgaaGreatDoor.San
namespace Go.AL
open Co
def ans (b:List UInt8):AV:=match tProof.dec b with
 | .ok d []=>(match cellsD tProof d with
  | [x]=>.tup [x,.int .i64 0]
  | _=>.unk)
 | .ok _ (_::_)=>.tup [.nils,.int .i64 4]
 | .err e=>.tup [.nils,.int .i64 (erno e)]
end Go.AL
namespace Go.Proofs.YtdandeekdbndgaaGreatDoor
open Go Go.AL Go.AL.Co
open Go.Proofs.YtdandeekdbndgaaGreatDoor.San (A21 A22 R18 R20 HP0 HP11 orc308 E4s)
variable [GLC]
 omit [GLC] in
theorem ret7 {H:AH}{v:AV}{b:List UInt8}(hv:Inp H H.next b v) (hl:b.length<274877906944):RetF Tryz.prog 6 [v] H (ans b) H:=by
  have h:=P7 hv hl
  refine ACall.scope (fun _ _=>h) h.1 fun _ htop o H' hp=>?_
  obtain⟨hk,hp⟩:=hp
  have hcut:H'.cut H.next H.gl=H:=by
   refine AH.ext (fun q=>?_) rfl rfl
   show(if q<H.next then H'.get q else none)=H.get q
   by_cases hq:q<H.next
   ·rw[if_pos hq,hk.get q hq]
   ·rw[if_neg hq,htop q (by omega)]
  have hold:∀q o,q<H.next→H'.get q=some o→H.get q=some o∨ScO H.next o:=fun q o hq ho=>.inl (by rw[←hk.get q hq];exact ho)
  rw[hcut]
  unfold ans
  cases hd:tProof.dec b with
  | err e=>
   rw[hd]at hp
   have hp:o=_:=hp
   subst hp
   exact⟨.ret (.tup [.nils,.int .i64 (erno e)]),FrzR.low (.tup (.cons .nils (.cons (.int _ _) .nil))),hold,rfl,rfl⟩
  | ok d r=>
   rw[hd]at hp
   cases r with
   | nil=>
    obtain⟨x,rfl,hx⟩:=hp
    have hw:tProof.wf d:=(dec_canon tProof b d [] hd).2
    have hc:[x]=cellsD tProof d:=RX_fun tProof d _ _ hx (RX_cells tProof d hw)
    refine⟨.ret (.tup [x,.int .i64 0]),FrzR.low (.tup (.cons ?_ (.cons (.int _ _) .nil))),hold,?_,rfl⟩
    ·exact(RX_sc H.next tProof d [x] hx).mem (.head _)
    ·show AOut.ret _=AOut.ret (match cellsD tProof d with
      | [x]=>.tup [x,.int .i64 0]
      | _=>.unk)
     rw[←hc]
   | cons y r=>
    have hp:o=_:=hp
    subst hp
    exact⟨.ret (.tup [.nils,.int .i64 4]),FrzR.low (.tup (.cons .nils (.cons (.int _ _) .nil))),hold,rfl,rfl⟩
def B22:List UInt8:=[4,16,2,0,0,2,2,0,0,0,4,255,255,255,255,255,255,255,255,255,255,255,255,253,255,255,255,255,255,255,255,255,255,255,255,255,255,255,255,255,255,255,255,0,0,0,0,0,0,0,0,0,0,0,0,2,0,0,0,0,0,0,0,0,0,0,0,0,0,0,0,0,0,0,0,6,4,2,4,4,2,2,4,2,2,6,1,0,1,0,0,0,0,0,0,0,0,0,0,0,0,0,0,0,0,0,8,0,0,0,0,0,0,0,0,0,0,0,0,0,0,0,0,0,0,0,0,0,0,4,0,2,8,4,0,0,4,2,2,4,2,4,4,4,2,0,0]
def B21:List UInt8:=[0,0]
 omit [GLC] in
theorem ans22:ans B22=R20:=by kernel_rfl
 omit [GLC] in
theorem ans21:ans B21=R18:=by kernel_rfl
 omit [GLC] in
theorem map22:A22=[.sim (B22.map bv) B22.length false]:=by kernel_rfl
 omit [GLC] in
theorem map21:A21=[.sl 2 0 B21.length (.ex 2)]:=by kernel_rfl
theorem next11:(toAH HP11).next=3:=by kernel_rfl
theorem get11:(toAH HP11).get 2=some (.cells (B21.map bv)):=by kernel_rfl
theorem h7_0:RetF Tryz.prog 6 A21 (toAH HP11) R18 (toAH HP11):=by
 rw[map21,←ans21]
 exact ret7 (.own (by rw[next11];omega) get11 (by rfl) (fun m h=>by cases h;decide) (fun es h=>by cases h)) (by decide)
theorem h7_1:RetF Tryz.prog 6 A22 (toAH HP11) R20 (toAH HP11):=by
 rw[map22,←ans22]
 exact ret7 (.sim B22 false) (Nat.le_of_ble_eq_true (by kernel_rfl))
theorem P4 (h:CallsOk Tryz.prog orc308):RetF Tryz.prog 4 [] (toAH HP0) (.bool true) (toAH HP0):=E4s h h7_0 h7_1
end Go.Proofs.YtdandeekdbndgaaGreatDoor
