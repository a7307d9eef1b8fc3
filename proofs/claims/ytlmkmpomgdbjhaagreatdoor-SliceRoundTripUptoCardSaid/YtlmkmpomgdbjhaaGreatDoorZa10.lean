import Derived.Test.YtlmkmpomgdbjhaaGreatDoorZa09
import Derived.Test.YtlmkmpomgdbjhaaGreatDoorProg
/-
  a part of the proof.
-/
set_option linter.unusedSectionVars false
set_option linter.unusedVariables false
set_option linter.unusedSimpArgs false
namespace Go.AL
section
open Co
variable [BX] {P:Program}
section
variable {H0 H:AH}{p:Nat}{L:List (Nat × List AV)}{l:List UInt8}
theorem Ek.XE {a b c:Ty}{β:Type}{res:Rs β}{f:(Ty.pair (.pair a b) c).D->β}{ok:β->AV->AH->Prop}{g:FuncId}{ar:List AV}{K:AV->AH->Prop}(s:Ek H0 p L H l) (hres:res=((Ty.pair (.pair a b) c).dec l).bind fun y r=>.ok (f y) r)
  (hC:AP P g ar H (Ch H p (a.dec l) fun d x _=>RV a d x)) (hK:∀d cl x r H',Ek H0 p L H' r->(res=((Ty.pair b c).dec r).bind fun y r'=>.ok (f ((d,y.1),y.2)) r')->x.cellsOf=some cl->RX a d cl->cl.length=C9 a->K x H'):AG P g ar H (yp (Ch H0 p res ok)) K:=by
 rw[Yu]at hres
 exact s.step (a:=a) (b:=.pair b c) hres hC hK
theorem Ek.own (s:Ek H0 p L H l):∀x∈L,x.1<H.next/\x.1≠p/\H.get x.1=some (.cells x.2):=fun x hx=>by
 obtain⟨h1,h2,h3⟩:=s.l x hx
 have hp:=s.p0
 exact⟨h2,by omega,h3⟩
theorem Ek.sk {q q1 n:Nat}{c z:List AV}{K:AV->AH->Prop}(s:Ek H0 p ((q,c)::(q1,z)::L) H l) (hne:∀x∈(q,c)::L,x.1≠q1) (hc:c.length=n) (hz:z.length=n) (hK:∀H',Ek H0 p ((q1,c)::(q,c)::L) H' l->K (.agg c) H') :
  AE (.load (some n) (.cst (.ptr q 0))) H fun v27=>AQ (.store n (.cst (.ptr q1 0)) (.cst v27)) H fun _ h28=>AE (.load (some n) (.cst (.ptr q1 0))) h28 fun v29=>K v29 h28:=by
 refine s.Hc (.head _) hc ?_
 refine s.swap.Gk hne hc hz fun H' s'=>?_
 exact s'.Hc (.head _) hc (hK _ s')
end
end
end Go.AL
namespace Go.Proofs.YtlmkmpomgdbjhaaGreatDoor
open Tryz
section
open Go Go.AL Go.AL.Co
variable [BX]
set_option maxHeartbeats 4000000 in
theorem D64:Lc prog 92 FF:=fun{H p b} hR=>by
 obtain⟨res,hres⟩:∃res,res=FF.dec b:=⟨_,rfl⟩
 rw[<- hres]
 rw[Ol (FF.dec b)]at hres
 refine T92 ?_
 unfold yd
 generalize hz:((I 0)::(Bl 6 .nils ((I 0)::(Bl 4 .nils (Bl 4 (I 0) ((.bool false)::((I 0)::((.bool false)::[]))))))))=z
 have hzl:z.length=19:=by rw[<- hz];rfl
 refine(Ek.start hR).box rfl fun q0 H1 s1 _=>s1.alloc fun q2 H2 s2 hn2=>s2.alloc fun q H4 s4 hn=>?_
 have hne2:q0≠q2:=hn2 _ (.head _)
 have hneq:q2≠q:=hn _ (.head _)
 have hne:∀(c:List AV),∀x∈[(q,c),(q0,[AV.ptr p 0])],x.1≠q2:=fun c x hx=>by
  simp only[DM,HQ,or_false]at hx
  rcases hx with rfl | rfl
  ·exact fun h=>hneq h.symm
  ·exact hne2
 refine AA (v:=.ptr q 0) rfl ?_
 refine s4.ld (.tail _ (.tail _ (.head _))) rfl ?_
 refine s4.step (a:=.int) (b:=(.pair B9 (.pair B9 (.pair (.list BA) (.pair (.list A4) (.pair (.list .bool) (.pair A4 (.pair .int (.pair (.list BA) (.pair (.list (.list CA)) (.pair (.list .bool) (.pair (.list Bo) (.pair tQ (.pair .int .bool)))))))))))))) hres (Q_ s4.rd) fun d0 c0 x r H5 s5 hres hx Ut l0=>?_
 refine AA (v:=.ptr q 0) rfl ?_
 refine AA (v:=.ptr q 0) rfl ?_
 refine s5.put (pre:=[]) (z:=z) (o:=0) hn rfl hx l0 (by rw[hzl];decide) fun H6 s6 p6=>?_
 refine s6.ld (.tail _ (.tail _ (.head _))) rfl ?_
 refine s6.step (a:=B9) (b:=(.pair B9 (.pair (.list BA) (.pair (.list A4) (.pair (.list .bool) (.pair A4 (.pair .int (.pair (.list BA) (.pair (.list (.list CA)) (.pair (.list .bool) (.pair (.list Bo) (.pair tQ (.pair .int .bool))))))))))))) hres (fx s6.rd) fun d1 c1 x r H7 s7 hres hx TD l1=>?_
 refine AA (v:=.ptr q 0) rfl ?_
 refine AA (v:=.ptr q 1) rfl ?_
 refine s7.put hn p6 hx l1 (by rw[hzl];decide) fun H8 s8 p8=>?_
 refine s8.ld (.tail _ (.tail _ (.head _))) rfl ?_
 refine s8.step (a:=B9) (b:=(.pair (.list BA) (.pair (.list A4) (.pair (.list .bool) (.pair A4 (.pair .int (.pair (.list BA) (.pair (.list (.list CA)) (.pair (.list .bool) (.pair (.list Bo) (.pair tQ (.pair .int .bool)))))))))))) hres (fx s8.rd) fun d2 c2 x r H9 s9 hres hx Us l2=>?_
 refine AA (v:=.ptr q 0) rfl ?_
 refine AA (v:=.ptr q 2) rfl ?_
 refine s9.put hn p8 hx l2 (by rw[hzl];decide) fun H10 s10 p10=>?_
 refine s10.ld (.tail _ (.tail _ (.head _))) rfl ?_
 refine s10.ld (.tail _ (.tail _ (.head _))) rfl ?_
 refine s10.step (a:=(.list BA)) (b:=(.pair (.list A4) (.pair (.list .bool) (.pair A4 (.pair .int (.pair (.list BA) (.pair (.list (.list CA)) (.pair (.list .bool) (.pair (.list Bo) (.pair tQ (.pair .int .bool))))))))))) hres (rD (L:=[]) s10.rd (by simp) (rF.one _ _)) fun d3 c3 x r H11 s11 hres hx QD l3=>?_
 refine AA (v:=.ptr q 0) rfl ?_
 refine AA (v:=.ptr q 3) rfl ?_
 refine AA (v:=.ptr q 3) rfl ?_
 refine s11.put hn p10 hx l3 (by rw[hzl];decide) fun H12 s12 p12=>?_
 refine s12.ld (.tail _ (.tail _ (.head _))) rfl ?_
 refine s12.ld (.tail _ (.tail _ (.head _))) rfl ?_
 refine s12.step (a:=(.list A4)) (b:=(.pair (.list .bool) (.pair A4 (.pair .int (.pair (.list BA) (.pair (.list (.list CA)) (.pair (.list .bool) (.pair (.list Bo) (.pair tQ (.pair .int .bool)))))))))) hres (zL (L:=[]) s12.rd (by simp) (rE.one _ _)) fun d4 c4 x r H13 s13 hres hx WH l4=>?_
 refine AA (v:=.ptr q 0) rfl ?_
 refine AA (v:=.ptr q 3) rfl ?_
 refine AA (v:=.ptr q 4) rfl ?_
 refine s13.put hn p12 hx l4 (by rw[hzl];decide) fun H14 s14 p14=>?_
 refine s14.ld (.tail _ (.tail _ (.head _))) rfl ?_
 refine s14.ld (.tail _ (.tail _ (.head _))) rfl ?_
 refine s14.step (a:=(.list .bool)) (b:=(.pair A4 (.pair .int (.pair (.list BA) (.pair (.list (.list CA)) (.pair (.list .bool) (.pair (.list Bo) (.pair tQ (.pair .int .bool))))))))) hres (rC (L:=[]) s14.rd (by simp) (dI.one _ _)) fun d5 c5 x r H15 s15 hres hx dL l5=>?_
 refine AA (v:=.ptr q 0) rfl ?_
 refine AA (v:=.ptr q 3) rfl ?_
 refine AA (v:=.ptr q 5) rfl ?_
 refine s15.put hn p14 hx l5 (by rw[hzl];decide) fun H16 s16 p16=>?_
 refine s16.ld (.tail _ (.tail _ (.head _))) rfl ?_
 refine s16.step (a:=A4) (b:=(.pair .int (.pair (.list BA) (.pair (.list (.list CA)) (.pair (.list .bool) (.pair (.list Bo) (.pair tQ (.pair .int .bool)))))))) hres (rE s16.rd) fun d6 c6 x r H17 s17 hres hx gZ l6=>?_
 refine AA (v:=.ptr q 0) rfl ?_
 refine AA (v:=.ptr q 6) rfl ?_
 refine AA (v:=.ptr q 6) rfl ?_
 refine s17.put hn p16 hx l6 (by rw[hzl];decide) fun H18 s18 p18=>?_
 refine s18.ld (.tail _ (.tail _ (.head _))) rfl ?_
 refine s18.step (a:=.int) (b:=(.pair (.list BA) (.pair (.list (.list CA)) (.pair (.list .bool) (.pair (.list Bo) (.pair tQ (.pair .int .bool))))))) hres (Q_ s18.rd) fun d7 c7 x r H19 s19 hres hx gY l7=>?_
 refine AA (v:=.ptr q 0) rfl ?_
 refine AA (v:=.ptr q 6) rfl ?_
 refine AA (v:=.ptr q 7) rfl ?_
 refine s19.put hn p18 hx l7 (by rw[hzl];decide) fun H20 s20 p20=>?_
 refine s20.ld (.tail _ (.tail _ (.head _))) rfl ?_
 refine s20.ld (.tail _ (.tail _ (.head _))) rfl ?_
 refine s20.step (a:=(.list BA)) (b:=(.pair (.list (.list CA)) (.pair (.list .bool) (.pair (.list Bo) (.pair tQ (.pair .int .bool)))))) hres (rD (L:=[]) s20.rd (by simp) (rF.one _ _)) fun d8 c8 x r H21 s21 hres hx jP l8=>?_
 refine AA (v:=.ptr q 0) rfl ?_
 refine AA (v:=.ptr q 8) rfl ?_
 refine AA (v:=.ptr q 8) rfl ?_
 refine s21.put hn p20 hx l8 (by rw[hzl];decide) fun H22 s22 p22=>?_
 refine s22.ld (.tail _ (.tail _ (.head _))) rfl ?_
 refine s22.step (a:=(.list (.list CA))) (b:=(.pair (.list .bool) (.pair (.list Bo) (.pair tQ (.pair .int .bool))))) hres (wi s22.rd s22.own (wq (.tail _ (.tail _ (.head _))))) fun d9 c9 x r ya s23 hres hx gX l9=>?_
 refine AA (v:=.ptr q 0) rfl ?_
 refine AA (v:=.ptr q 8) rfl ?_
 refine AA (v:=.ptr q 9) rfl ?_
 refine s23.put hn p22 hx l9 (by rw[hzl];decide) fun H24 s24 p24=>?_
 refine s24.ld (.tail _ (.tail _ (.head _))) rfl ?_
 refine s24.ld (.tail _ (.tail _ (.head _))) rfl ?_
 refine s24.step (a:=(.list .bool)) (b:=(.pair (.list Bo) (.pair tQ (.pair .int .bool)))) hres (rC (L:=[]) s24.rd (by simp) (dI.one _ _)) fun d10 c10 x r H25 s25 hres hx fK l10=>?_
 refine AA (v:=.ptr q 0) rfl ?_
 refine AA (v:=.ptr q 8) rfl ?_
 refine AA (v:=.ptr q 10) rfl ?_
 refine s25.put hn p24 hx l10 (by rw[hzl];decide) fun H26 s26 p26=>?_
 refine s26.ld (.tail _ (.tail _ (.head _))) rfl ?_
 refine s26.step (a:=(.list Bo)) (b:=(.pair tQ (.pair .int .bool))) hres (wg s26.rd s26.own (wm (.tail _ (.tail _ (.head _))))) fun d11 c11 x r H27 s27 hres hx WL l11=>?_
 refine AA (v:=.ptr q 0) rfl ?_
 refine AA (v:=.ptr q 8) rfl ?_
 refine AA (v:=.ptr q 11) rfl ?_
 refine s27.put hn p26 hx l11 (by rw[hzl];decide) fun H28 s28 p28=>?_
 refine s28.ld (.tail _ (.tail _ (.head _))) rfl ?_
 refine s28.XE (a:=.int) (b:=(.pair .int (.pair .int (.pair .int .bool)))) (c:=(.pair .int .bool)) hres (Q_ s28.rd) fun d12 c12 x r H29 s29 hres hx fJ l12=>?_
 refine AA (v:=.ptr q 0) rfl ?_
 refine AA (v:=.ptr q 12) rfl ?_
 refine AA (v:=.ptr q 12) rfl ?_
 refine s29.put hn p28 hx l12 (by rw[hzl];decide) fun H30 s30 p30=>?_
 refine s30.ld (.tail _ (.tail _ (.head _))) rfl ?_
 refine s30.XE (a:=.int) (b:=(.pair .int (.pair .int .bool))) (c:=(.pair .int .bool)) hres (Q_ s30.rd) fun d13 c13 x r H31 s31 hres hx WK l13=>?_
 refine AA (v:=.ptr q 0) rfl ?_
 refine AA (v:=.ptr q 12) rfl ?_
 refine AA (v:=.ptr q 13) rfl ?_
 refine s31.put hn p30 hx l13 (by rw[hzl];decide) fun H32 s32 p32=>?_
 refine s32.ld (.tail _ (.tail _ (.head _))) rfl ?_
 refine s32.XE (a:=.int) (b:=(.pair .int .bool)) (c:=(.pair .int .bool)) hres (Q_ s32.rd) fun d14 c14 x r H33 s33 hres hx bz l14=>?_
 refine AA (v:=.ptr q 0) rfl ?_
 refine AA (v:=.ptr q 12) rfl ?_
 refine AA (v:=.ptr q 14) rfl ?_
 refine s33.put hn p32 hx l14 (by rw[hzl];decide) fun H34 s34 p34=>?_
 refine s34.ld (.tail _ (.tail _ (.head _))) rfl ?_
 refine s34.XE (a:=.int) (b:=.bool) (c:=(.pair .int .bool)) hres (Q_ s34.rd) fun d15 c15 x r yZ s35 hres hx fI l15=>?_
 refine AA (v:=.ptr q 0) rfl ?_
 refine AA (v:=.ptr q 12) rfl ?_
 refine AA (v:=.ptr q 15) rfl ?_
 refine s35.put hn p34 hx l15 (by rw[hzl];decide) fun H36 s36 p36=>?_
 refine s36.ld (.tail _ (.tail _ (.head _))) rfl ?_
 refine s36.step (a:=.bool) (b:=(.pair .int .bool)) hres (dI s36.rd) fun d16 c16 x r H37 s37 hres hx Ym l16=>?_
 refine AA (v:=.ptr q 0) rfl ?_
 refine AA (v:=.ptr q 12) rfl ?_
 refine AA (v:=.ptr q 16) rfl ?_
 refine s37.put hn p36 hx l16 (by rw[hzl];decide) fun H38 s38 p38=>?_
 refine s38.ld (.tail _ (.tail _ (.head _))) rfl ?_
 refine s38.step (a:=.int) (b:=.bool) hres (Q_ s38.rd) fun d17 c17 x r H39 s39 hres hx WJ l17=>?_
 refine AA (v:=.ptr q 0) rfl ?_
 refine AA (v:=.ptr q 17) rfl ?_
 refine s39.put hn p38 hx l17 (by rw[hzl];decide) fun H40 s40 p40=>?_
 refine s40.ld (.tail _ (.tail _ (.head _))) rfl ?_
 refine s40.last (a:=.bool) hres (dI s40.rd) fun d18 xQ x r H41 s41 hres hx Jr l18=>?_
 refine AA (v:=.ptr q 18) rfl ?_
 refine s41.put hn p40 hx l18 (by rw[hzl];decide) fun H42 s42 p42=>?_
 refine(s42.done (by rw[hzl];decide)).sk (hne _) p42 hzl fun H43 s43=>s43.fin hres ⟨_,rfl,?_⟩
 simp only[B7,Ao]
 exact⟨_,_,rfl,Ut,_,_,rfl,TD,_,_,rfl,Us,_,_,rfl,QD,_,_,rfl,WH,_,_,rfl,dL,_,_,rfl,gZ,_,_,rfl,gY,_,_,rfl,jP,_,_,rfl,gX,_,_,rfl,fK,_,_,rfl,WL,c12++(c13++(c14++(c15++c16))),_,by simp only[Ao],⟨_,_,rfl,fJ,_,_,rfl,WK,_,_,rfl,bz,_,_,rfl,fI,Ym⟩,_,_,rfl,WJ,Jr⟩
end
section
open Go Go.AL Go.AL.Co
variable [BX]
set_option maxHeartbeats 2000000 in
theorem D29:Lc prog 48 EN:=fun{H p b} hR=>by
 obtain⟨res,hres⟩:∃res,res=EN.dec b:=⟨_,rfl⟩
 rw[<- hres]
 rw[Ol (EN.dec b)]at hres
 refine T48 ?_
 unfold yq
 generalize hz:(Bl 5 (I 0) (Bl 6 .nils ((I 0)::(Bl 4 .nils (Bl 4 (I 0) ((.bool false)::((I 0)::((.bool false)::(Bl 4 .nils [])))))))))=z
 have hzl:z.length=27:=by rw[<- hz];rfl
 refine(Ek.start hR).alloc fun q1 H1 s1 hn1=>?_
 refine s1.step (a:=.int) (b:=.pair .int (.pair .int (.pair .int (.pair FF (.pair A4 (.pair (.list A4) (.pair (.list DF) (.list FU)))))))) hres (Q_ s1.rd) fun d0 c0 x r H2 s2 hres hx Ut l0=>?_
 refine AA (cf hx (n:=1) l0 (by omega)) ?_
 refine s2.alloc fun q H3 s3 hn=>?_
 have hne:q1≠q:=hn _ (.head _)
 refine s3.Gk hn (by rw[Aa,CK,l0,hzl];rfl) hzl fun H4 s4=>?_
 refine s4.step (a:=.int) (b:=.pair .int (.pair .int (.pair FF (.pair A4 (.pair (.list A4) (.pair (.list DF) (.list FU))))))) hres (Q_ s4.rd) fun d1 c1 x r H5 s5 hres hx TD l1=>?_
 refine AA (v:=.ptr q 1) rfl (s5.put hn l0 hx l1 (by rw[hzl];decide) fun H6 s6 p6=>?_)
 refine s6.step (a:=.int) (b:=.pair .int (.pair FF (.pair A4 (.pair (.list A4) (.pair (.list DF) (.list FU)))))) hres (Q_ s6.rd) fun d2 c2 x r H7 s7 hres hx Us l2=>?_
 refine AA (v:=.ptr q 2) rfl (s7.put hn p6 hx l2 (by rw[hzl];decide) fun H8 s8 p8=>?_)
 refine s8.step (a:=.int) (b:=.pair FF (.pair A4 (.pair (.list A4) (.pair (.list DF) (.list FU))))) hres (Q_ s8.rd) fun d3 c3 x r H9 s9 hres hx QD l3=>?_
 refine AA (v:=.ptr q 3) rfl (s9.put hn p8 hx l3 (by rw[hzl];decide) fun H10 s10 p10=>?_)
 refine s10.step (a:=FF) (b:=.pair A4 (.pair (.list A4) (.pair (.list DF) (.list FU)))) hres (D64 s10.rd) fun d4 c4 x r H11 s11 hres hx WH l4=>?_
 have l4:c4.length=19:=l4
 refine AA (v:=.ptr q 4) rfl (s11.put hn p10 hx l4 (by rw[hzl];decide) fun H12 s12 p12=>?_)
 refine s12.step (a:=A4) (b:=.pair (.list A4) (.pair (.list DF) (.list FU))) hres (rE s12.rd) fun d5 c5 x r H13 s13 hres hx dL l5=>?_
 refine AA (v:=.ptr q 23) rfl (s13.put hn p12 hx l5 (by rw[hzl];decide) fun H14 s14 p14=>?_)
 refine s14.step (a:=.list A4) (b:=.pair (.list DF) (.list FU)) hres (zL (L:=[]) s14.rd (by simp) (rE.one _ _)) fun d6 c6 x r H15 s15 hres hx gZ l6=>?_
 refine AA (v:=.ptr q 24) rfl (s15.put hn p14 hx l6 (by rw[hzl];decide) fun H16 s16 p16=>?_)
 refine s16.step (a:=.list DF) (b:=.list FU) hres (E67 (L:=[]) s16.rd (by simp) (D68.one _ _)) fun d7 c7 x r H17 s17 hres hx gY l7=>?_
 refine AA (v:=.ptr q 25) rfl (s17.put hn p16 hx l7 (by rw[hzl];decide) fun H18 s18 p18=>?_)
 refine s18.last (a:=.list FU) hres (E69 (L:=[]) s18.rd (by simp) (D70.one _ _)) fun d8 c8 x r H19 s19 hres hx jP l8=>?_
 refine AA (v:=.ptr q 26) rfl (s19.put hn p18 hx l8 (by rw[hzl];decide) fun H20 s20 p20=>?_)
 refine(s20.done (by rw[hzl];decide)).out hne p20 hzl fun H21 s21=>s21.fin hres ⟨_,rfl,?_⟩
 simp only[Ao]
 exact⟨_,_,rfl,Ut,_,_,rfl,TD,_,_,rfl,Us,_,_,rfl,QD,_,_,rfl,WH,_,_,rfl,dL,_,_,rfl,gZ,_,_,rfl,gY,jP⟩
end
end Go.Proofs.YtlmkmpomgdbjhaaGreatDoor
namespace Go.AL
section
open Co
variable [BX] {P:Program}
theorem ai {a b:String}(h:(a==b)=false):a≠b:=by simpa using h
theorem dW {e:Env}{H:AH}{K:Env->AH->Prop}{Kp:AV->Env->AH->Prop}{l:List A_}{d:Option Nat}{f:AF}{args:List AF}{g:FuncId}{first cap ds:List AV}(hf:f.ev e=.fn (.func g) first cap) (hd:e AN=.tup ds)
  (hK:CJ P l ((e.set AN (.tup (.tup [.fn (.func g) [] [],.tup (first++args.map (·.ev e)++cap)]::ds))).put d .unk) H K Kp):CJ P (⟨d,.defer f args,none⟩::l) e H K Kp:=by
 simp only[CJ,hf,hd];exact hK
def iA:List A_:=[
 ⟨(some 6),.move (.tmp 2),none⟩,
 ⟨(some 7),.eq true .iface (.tmp 6) (.cst .nili),none⟩]
def h_:List A_:=[
 ⟨(some 9),.move (.tmp 2),none⟩,
 ⟨(some 10),.tass 139 (.agg [(.int .i64 0)]) (.tmp 9),none⟩,
 ⟨(some 8),.move (.tmp 10),none⟩,
 ⟨(some 11),.extract 0 (.tmp 8),none⟩,
 ⟨(some 12),.extract 1 (.tmp 8),none⟩,
 ⟨(some 3),.alloc [(.int .i64 0)],none⟩,
 ⟨none,.store 1 (.tmp 3) (.tmp 11),none⟩,
 ⟨(some 4),.move (.tmp 12),none⟩]
def hX:List A_:=[
 ⟨(some 13),.move (.tmp 4),none⟩,
 ⟨(some 14),.un .not (.tmp 13),none⟩]
def oq:List A_:=[
 ⟨(some 15),.move (.tmp 2),none⟩,
 ⟨none,.panic (.tmp 15),none⟩]
def g_:List DV:=[
 ⟨0,⟨(some 16),.fieldAddr 0 (.tmp 3),none⟩,0,[],false⟩,
 ⟨1,⟨(some 17),.load none (.tmp 16),none⟩,1,[],false⟩,
 ⟨2,⟨none,.store 1 (.tmp 0) (.cst .nils),none⟩,0,[1],true⟩,
 ⟨3,⟨none,.store 1 (.tmp 1) (.tmp 17),none⟩,7,[],true⟩]
def tc:Hints:=[(5,[(0,0,[],false),(1,1,[],false),(2,0,[1],true),(3,7,[],true)])]
def jr:Ax:=.seq (.reg iA) (.cond (.tmp 7) (.seq (.reg h_) (.seq (.seq (.reg hX) (.cond (.tmp 14) (.reg oq) .skip)) (.dreg g_))) .skip)
theorem d27 {H:AH}{a b:Nat}{x y:AV}(ha:H.get a=some (.cells [x])) (hb:H.get b=some (.cells [y])) (hal:a<H.next) (hbl:b<H.next) (hab:a≠b){m:Option AV}{n:Int}(hm:m=none\/m=some (.ifc 139 (.agg [.int .i64 n]))) :
  D P jr (fun x e H'=>e AN=.tup []/\(match x with | .normal | .ret=>(m=none->H'=H)/\(m≠none->H.next<=H'.next/\H'.gl=H.gl/\H'.get a=some (.cells [.nils])/\H'.get b=some (.cells [.int .i64 n])/\∀q,q<H.next->q≠a->q≠b->H'.get q=H.get q) | _=>False))
   (((CI [.ptr a 0,.ptr b 0]).set 5 (M8 m)).set 2 (M8 m)) H:=by
 unfold jr iA
 refine Dw ?_
 rcases hm with rfl | rfl
 ·refine Az (v:=.nili) (H1:=H) (by simp[A2,AI,AF.ev,Env.AM,M8]) rfl ?_
  refine Az (v:=.bool false) (H1:=H) (by simp[A2,AI,AF.ev,Env.put,Env.AM,VY]) rfl ?_
  refine He (Jz (t:=false) (by simp[AF.ev,Env.put,Env.AM]) (fun h=>by cases h) (fun _=>LX ?_))
  exact⟨by simp[Env.put,Env.AM,CI,AN],fun _=>rfl,fun h=>absurd rfl h⟩
 ·refine Az (v:=.ifc 139 (.agg [.int .i64 n])) (H1:=H) (by simp[A2,AI,AF.ev,Env.AM,M8]) rfl ?_
  refine Az (v:=.bool true) (H1:=H) (by simp[A2,AI,AF.ev,Env.put,Env.AM,VY]) rfl ?_
  refine He (Jz (t:=true) (by simp[AF.ev,Env.put,Env.AM]) (fun _=>?_) (fun h=>by cases h))
  unfold h_ hX g_
  have na:a≠H.next:=by omega
  have nb:b≠H.next:=by omega
  refine Dw ?_
  refine Az (v:=.ifc 139 (.agg [.int .i64 n])) (H1:=H) (by simp[A2,AI,AF.ev,Env.put,Env.AM,M8]) rfl ?_
  refine Az (v:=.tup [.agg [.int .i64 n],.bool true]) (H1:=H) (by simp[A2,AI,AF.ev,Env.put,Env.AM]) rfl ?_
  refine Az (v:=.tup [.agg [.int .i64 n],.bool true]) (H1:=H) (by simp[A2,AI,AF.ev,Env.put,Env.AM]) rfl ?_
  refine Az (v:=.agg [.int .i64 n]) (H1:=H) (by simp[A2,AI,AF.ev,Env.put,Env.AM]) rfl ?_
  refine Az (v:=.bool true) (H1:=H) (by simp[A2,AI,AF.ev,Env.put,Env.AM]) rfl ?_
  refine Az (v:=.ptr H.next 0) (H1:=H.push (.cells [.int .i64 0])) (by simp[A2,AI,AZ,BL,AF.ev,Env.put,Env.AM]) rfl ?_
  refine Az (v:=.unk) (H1:=(H.push (.cells [.int .i64 0])).set H.next (.cells [.int .i64 n])) (by simp[A2,AI,AZ,BL,AF.ev,Env.put,Env.AM,AH.cells?,AH.Af,AV.cellsOf,As]) rfl ?_
  generalize hH1:(H.push (.cells [.int .i64 0])).set H.next (.cells [.int .i64 n])=H1
  have g0:H1.get H.next=some (.cells [.int .i64 n]):=by rw[<- hH1];simp[AH.AY]
  have g1:∀q,q<H.next->H1.get q=H.get q:=fun q hq=>by
   have:q≠H.next:=by omega
   rw[<- hH1];simp[AH.AY,AH.Af,this]
  have g2:H1.next=H.next+1:=by rw[<- hH1];simp
  have g3:H1.gl=H.gl:=by rw[<- hH1];rfl
  refine Az (v:=.bool true) (H1:=H1) (by simp[A2,AI,AF.ev,Env.put,Env.AM]) rfl ?_
  refine He (QP (QP (HF ?_)))
  refine Az (v:=.bool true) (H1:=H1) (by simp[A2,AI,AF.ev,Env.put,Env.AM]) rfl ?_
  refine Az (v:=.bool false) (H1:=H1) (by simp[A2,AI,AF.ev,Env.put,Env.AM,lQ]) rfl ?_
  refine He (Jz (t:=false) (by simp[AF.ev,Env.put,Env.AM]) (fun h=>by cases h) (fun _=>LX (RO (Oh ?_))))
  have ga:H1.get a=some (.cells [x]):=by rw[g1 a hal];exact ha
  have gb:H1.get b=some (.cells [y]):=by rw[g1 b hbl];exact hb
  refine Ji (v:=.ptr H.next 0) (by simp[AI,AF.ev,Env.put,Env.AM,Fo]) ?_
  refine Ph (v:=.int .i64 n) rfl (by simp[AZ,BC,AF.ev,Env.put,Env.AM,AH.cells?,g0,apart]) ?_
  refine mi (v:=(.unk,H1.set a (.cells [.nils]))) (by simp[A2,AI,AZ,BL,AF.ev,Env.put,Env.AM,CI,AN,AH.cells?,ga,AV.cellsOf,As]) rfl ?_ ?_
  ·refine⟨?_,trivial⟩
   have:¬H.next=a:=fun h=>na h.symm
   show AZ _ _ _=_
   simp[AZ,BC,AF.ev,Env.put,Env.AM,AH.cells?,AH.AY,g0,this,apart]
  have nba:¬b=a:=fun h=>hab h.symm
  refine mi (v:=(.unk,(H1.set a (.cells [.nils])).set b (.cells [.int .i64 n]))) (by simp[A2,AI,AZ,BL,AF.ev,Env.put,Env.AM,CI,AN,AH.cells?,AH.AY,nba,gb,AV.cellsOf,As]) rfl trivial ?_
  refine mj (Fu ⟨by simp[Env.put,Env.AM,CI,AN],fun h=>(by cases h),fun _=>⟨by simp[g2],by simp[g3,AH.set],?_,?_,fun q hq hqa hqb=>?_⟩⟩)
  ·simp[AH.AY,hab]
  ·simp[AH.AY]
  ·rw[<- g1 q hq];simp[AH.AY,hqa,hqb]
end
end Go.AL
namespace Go.Proofs.YtlmkmpomgdbjhaaGreatDoor
open Tryz
section
open Go Go.AL Go.AL.Co
variable [BX]
theorem A27 {H:AH}{a b:Nat}{x y:AV}(ha:H.get a=some (.cells [x])) (hb:H.get b=some (.cells [y])) (hal:a<H.next) (hbl:b<H.next) (hab:a≠b){m:Option AV}{n:Int}(hm:m=none\/m=some (.ifc 139 (.agg [.int .i64 n]))) :
  FW prog 46 [.ptr a 0,.ptr b 0] m H (fun H'=>(m=none->H'=H)/\(m≠none->H.next<=H'.next/\H'.gl=H.gl/\H'.get a=some (.cells [.nils])/\H'.get b=some (.cells [.int .i64 n])/\∀q,q<H.next->q≠a->q≠b->H'.get q=H.get q)):=
 SC (fn:=f46) (hs:=tc) (ra:=5) (rb:=2) (rest:=jr) mix (by kernel_rfl) (ai (by kernel_rfl)) rfl (Ab (by kernel_rfl)) (by show 2<=18;omega) (by kernel_rfl) (by kernel_rfl) (d27 ha hb hal hbl hab hm)
def a7h:Hints:=[]
def oj:List A_:=[
 ⟨(some 2),.alloc [.nils],none⟩,
 ⟨(some 3),.alloc [(.int .i64 0)],none⟩]
def oi:List A_:=[
 ⟨(some 5),.mkFunc (.func 46) [] [(.tmp 2),(.tmp 3)],none⟩,
 ⟨none,.defer (.tmp 5) [],none⟩]
def oh:List A_:=[
 ⟨(some 6),.move (.tmp 0),none⟩,
 ⟨(some 7),.build [.nils] [(0,1,(.tmp 6))],none⟩,
 ⟨(some 8),.box (.tmp 7),none⟩,
 ⟨(some 4),.move (.tmp 8),none⟩]
def jq:List A_:=[
 ⟨(some 9),.move (.tmp 4),none⟩,
 ⟨(some 10),.move (.tmp 4),none⟩,
 ⟨(some 11),.mkFunc (.func 48) [(.tmp 10)] [],none⟩,
 ⟨(some 12),.call (.fnc 47) [(.tmp 9),(.tmp 11)],none⟩,
 ⟨none,.store 1 (.tmp 2) (.tmp 12),none⟩]
def jo:List A_:=[
 ⟨(some 13),.move (.tmp 4),none⟩,
 ⟨(some 14),.nilCheck (.tmp 13),none⟩,
 ⟨(some 15),.fieldAddr 0 (.tmp 14),none⟩,
 ⟨(some 16),.load none (.tmp 15),none⟩,
 ⟨(some 17),.len (.tmp 16),none⟩,
 ⟨(some 18),.bin .gtr (.tmp 17) (.cst (.int .i64 0)),none⟩]
def jn:List A_:=[
 ⟨none,.store 1 (.tmp 2) (.cst .nils),none⟩,
 ⟨none,.store 1 (.tmp 3) (.cst (.int .i64 4)),none⟩]
def jm:List A_:=[
 ⟨(some 19),.load none (.tmp 2),none⟩,
 ⟨none,.store 1 (.tmp 2) (.tmp 19),none⟩,
 ⟨none,.store 1 (.tmp 3) (.cst (.int .i64 0)),none⟩]
def a7:Ax:=(.seq (.reg oj) (.seq (.reg oi) (.seq (.reg oh) (.seq (.reg jq) (.seq (.seq (.reg jo) (.cond (.tmp 18) (.seq (.reg jn) .ret) .skip)) (.seq (.reg jm) .ret))))))
def om:List Cc:=[.cell 2 none,.cell 3 none]
def VT (H:AH) (res:Rs AR.D):Am->AH->Prop:=fun o H'=>BT H H'/\match res with
 | .ok d []=>∃x,o=.ret (.tup [x,.int .i64 0])/\RX AR d [x]
 | .ok _ (_::_)=>o=.ret (.tup [.nils,.int .i64 4])
 | .err e=>o=.ret (.tup [.nils,.int .i64 (jb e)])
set_option maxHeartbeats 2000000 in
theorem P7 {H:AH}{v:AV}{b:List UInt8}(hv:TZ H H.next b v) (hl:b.length<274877906944):AP prog 23 [v] H (VT H (AR.dec b)):=by
 have hv1:v.cellsOf=some [v]:=by cases hv<;>rfl
 obtain⟨H3,hH3⟩:∃H3,H3=((H.push (.cells [.nils])).push (.cells [.int .i64 0])).push (.cells [v]):=⟨_,rfl⟩
 have n3:H3.next=H.next+3:=by rw[hH3];rfl
 have l3:H3.gl=H.gl:=by rw[hH3];rfl
 have ga:H3.get H.next=some (.cells [.nils]):=by
  have e1:H.next≠H.next+2:=by omega
  rw[hH3];simp[AH.Af,e1]
 have gb:H3.get (H.next+1)=some (.cells [.int .i64 0]):=by rw[hH3];simp[AH.Af]
 have gc:H3.get (H.next+2)=some (.cells [v]):=by rw[hH3];simp[AH.Af]
 have go:∀q,q<H.next->H3.get q=H.get q:=fun q hq=>by
  have e1:q≠H.next:=by omega
  have e2:q≠H.next+1:=by omega
  have e3:q≠H.next+2:=by omega
  rw[hH3];simp[AH.Af,e1,e2,e3]
 have hv3:TZ H3 (H.next+2) b v:=by
  cases hv with
  | nils=>exact .nils
  | sim _ ex=>exact .sim _ ex
  | own hlt hc ho hm hes=>exact .own (by omega) (by rw[go _ hlt];exact hc) ho hm hes
 have hR:Rd H3 (H.next+2) b:=⟨by omega,hl,v,gc,hv3⟩
 have hE:AP prog 47 [.ptr (H.next+2) 0,.fn (.func 48) [.ptr (H.next+2) 0] []] H3 (Ch H3 (H.next+2) (AR.dec b) fun d x _=>RX AR d [x]):=wW (L:=[]) hR (by simp) (D29.one _ _)
 clear hR hv3
 generalize AR.dec b=res at hE ⊢
 have fin:∀(H5:AH) (x y:AV) (m:Option AV) (n:Int),(m=none\/m=some (.ifc 139 (.agg [.int .i64 n])))->H.next+3<=H5.next->H5.gl=H.gl->H5.get H.next=some (.cells [x])->H5.get (H.next+1)=some (.cells [y])->(∀q,q<H.next->H5.get q=H.get q) ->
   (∀H',BT H H'->(m=none->VT H res (.ret (.tup [x,y])) H')/\(m≠none->VT H res (.ret (.tup [.nils,.int .i64 n])) H'))->∀(e:Env),e 2=.ptr H.next 0->e 3=.ptr (H.next+1) 0 ->
   FW prog 46 [.ptr H.next 0,.ptr (H.next+1) 0] m H5 fun H'=>match DQ e H' om with
    | some vs=>VT H res (.ret (I9 vs)) H'
    | none=>False:=fun H5 x y m n hm hn hg h1 h2 h3 hD e e2 e3=>by
  refine(A27 (n:=n) h1 h2 (by omega) (by omega) (by omega) hm).mono fun H' hp=>?_
  rcases hm with rfl | rfl
  ·have e:=hp.1 rfl
   subst e
   simp only[om,DQ,e2,e3,BC,AH.cells?,h1,h2,apart,Option.map,EU,I9]
   exact(hD _ ⟨by omega,h3,hg⟩).1 rfl
  ·obtain⟨p1,p2,p3,p4,p5⟩:=hp.2 (by simp)
   simp only[om,DQ,e2,e3,BC,AH.cells?,p3,p4,apart,Option.map,EU,I9]
   refine(hD _ ⟨by omega,fun q hq=>?_,by rw[p2];exact hg⟩).2 (by simp)
   rw[p5 q (by omega) (by omega) (by omega)];exact h3 q hq
 refine VL (fn:=f23) (hs:=a7h) (ac:=a7) (ars:=om) mix (by kernel_rfl) (ai (by kernel_rfl)) rfl (Ab (by kernel_rfl)) (by show 1<=20;omega) (by kernel_rfl) (by kernel_rfl) ?_
 unfold a7 oj oi oh
 refine Dw ?_
 refine Az (v:=.ptr H.next 0) (H1:=H.push (.cells [.nils])) (by simp[A2,AI,AZ,BL]) rfl ?_
 refine Az (v:=.ptr (H.next+1) 0) (H1:=(H.push (.cells [.nils])).push (.cells [.int .i64 0])) (by simp[A2,AI,AZ,BL]) rfl ?_
 refine He (Dw ?_)
 refine Az (v:=.fn (.func 46) [] [.ptr H.next 0,.ptr (H.next+1) 0]) (H1:=(H.push (.cells [.nils])).push (.cells [.int .i64 0])) (by simp[A2,AI,AF.ev,Env.put,Env.AM]) rfl ?_
 refine dW (g:=46) (first:=[]) (cap:=[.ptr H.next 0,.ptr (H.next+1) 0]) (ds:=[]) (by simp[AF.ev,Env.put,Env.AM]) (by simp[Env.put,Env.AM,CI,AN]) ?_
 refine He (Dw ?_)
 refine Az (v:=v) (H1:=(H.push (.cells [.nils])).push (.cells [.int .i64 0])) (by simp[A2,AI,AF.ev,Env.put,Env.AM,CI,AN]) rfl ?_
 refine Az (v:=.agg [v]) (H1:=(H.push (.cells [.nils])).push (.cells [.int .i64 0])) (by simp[A2,AI,B5,AF.ev,Env.put,Env.AM,hv1]) rfl ?_
 refine Az (v:=.ptr (H.next+2) 0) (H1:=H3) (by simp[A2,AI,AZ,BL,AF.ev,Env.put,Env.AM,AV.cellsOf,hH3]) rfl ?_
 refine Az (v:=.ptr (H.next+2) 0) (H1:=H3) (by simp[A2,AI,AF.ev,Env.put,Env.AM]) rfl ?_
 refine He ?_
 have hgen:∀e:Env,e 2=.ptr H.next 0->e 3=.ptr (H.next+1) 0->e 4=.ptr (H.next+2) 0->e AN=.tup [.tup [.fn (.func 46) [] [],.tup [.ptr H.next 0,.ptr (H.next+1) 0]]] ->
   D prog (.seq (.reg jq) (.seq (.seq (.reg jo) (.cond (.tmp 18) (.seq (.reg jn) .ret) .skip)) (.seq (.reg jm) .ret))) (dpost prog om (VT H res)) e H3:=by
  intro e e2 e3 e4 ed
  have ed:e 1000000=.tup [.tup [.fn (.func 46) [] [],.tup [.ptr H.next 0,.ptr (H.next+1) 0]]]:=ed
  unfold jq jo jn jm
  refine Dw ?_
  refine Az (v:=.ptr (H.next+2) 0) (H1:=H3) (by simp[A2,AI,AF.ev,e4]) rfl ?_
  refine Az (v:=.ptr (H.next+2) 0) (H1:=H3) (by simp[A2,AI,AF.ev,Env.put,Env.AM,e4]) rfl ?_
  refine Az (v:=.fn (.func 48) [.ptr (H.next+2) 0] []) (H1:=H3) (by simp[A2,AI,AF.ev,Env.put,Env.AM]) rfl ?_
  refine dX (first:=[]) (cap:=[]) rfl (by simp[AF.ev,Env.put,Env.AM]) hE (fun x H4 h4=>?_) (fun x H4 h4=>?_)
  ·obtain⟨k4,h4⟩:=h4
   cases res with
   | err er=>cases h4.1
   | ok d r=>
   obtain⟨x',hx',hrv,hr4⟩:=h4
   cases hx'
   have hx1:x.cellsOf=some [x]:=xW (t:=EN) hrv
   have ga4:H4.get H.next=some (.cells [.nils]):=by rw[k4.get _ (by omega) (by omega)];exact ga
   have gb4:H4.get (H.next+1)=some (.cells [.int .i64 0]):=by rw[k4.get _ (by omega) (by omega)];exact gb
   have go4:∀q,q<H.next->H4.get q=H.get q:=fun q hq=>by rw[k4.get _ (by omega) (by omega)];exact go q hq
   have n4:=k4.nx
   have l4:H4.gl=H.gl:=by rw[k4.gl];exact l3
   obtain⟨_,_,vr,WH,hi4⟩:=hr4
   refine Az (v:=.unk) (H1:=H4.set H.next (.cells [x])) (by simp[A2,AI,AZ,BL,AF.ev,Env.put,Env.AM,e2,AH.cells?,ga4,hx1,As]) rfl ?_
   generalize hH5:H4.set H.next (.cells [x])=H5
   have ga5:H5.get H.next=some (.cells [x]):=by rw[<- hH5];simp[AH.AY]
   have gb5:H5.get (H.next+1)=some (.cells [.int .i64 0]):=by rw[<- hH5];simp[AH.AY,gb4]
   have gc5:H5.get (H.next+2)=some (.cells [vr]):=by rw[<- hH5];simp[AH.AY,WH]
   have go5:∀q,q<H.next->H5.get q=H.get q:=fun q hq=>by
    have:q≠H.next:=by omega
    rw[<- hH5];simp[AH.AY,this,go4 q hq]
   have n5:H5.next=H4.next:=by rw[<- hH5];rfl
   have l5:H5.gl=H.gl:=by rw[<- hH5];exact l4
   have hlen:=hi4.len
   refine He (QP (Dw ?_))
   refine Az (v:=.ptr (H.next+2) 0) (H1:=H5) (by simp[A2,AI,AF.ev,Env.put,Env.AM,e4]) rfl ?_
   refine Az (v:=.ptr (H.next+2) 0) (H1:=H5) (by simp[A2,AI,AF.ev,Env.put,Env.AM,I7]) rfl ?_
   refine Az (v:=.ptr (H.next+2) 0) (H1:=H5) (by simp[A2,AI,AF.ev,Env.put,Env.AM,Fo]) rfl ?_
   refine Az (v:=vr) (H1:=H5) (by simp[A2,AI,AZ,BC,AF.ev,Env.put,Env.AM,AH.cells?,gc5,apart]) rfl ?_
   refine Az (v:=.int .i64 (r.length:Int)) (H1:=H5) (by
    cases hi4<;>simp[A2,AI,AF.ev,Env.put,Env.AM,ZD]) rfl ?_
   refine Az (v:=.bool (decide ((r.length:Int)>0))) (H1:=H5) (by simp[A2,AI,AF.ev,Env.put,Env.AM,Dl]) rfl ?_
   refine He (Jz (t:=decide ((r.length:Int)>0)) (by simp[AF.ev,Env.put,Env.AM]) (fun ht=>?_) (fun ht=>?_))
   ·have hpos:0<r.length:=by have:=of_decide_eq_true ht;omega
    refine Dw ?_
    refine Az (v:=.unk) (H1:=H5.set H.next (.cells [.nils])) (by simp[A2,AI,AZ,BL,AF.ev,Env.put,Env.AM,e2,AH.cells?,ga5,AV.cellsOf,As]) rfl ?_
    refine Az (v:=.unk) (H1:=(H5.set H.next (.cells [.nils])).set (H.next+1) (.cells [.int .i64 4])) (by simp[A2,AI,AZ,BL,AF.ev,Env.put,Env.AM,e3,AH.cells?,AH.AY,gb5,AV.cellsOf,As]) rfl ?_
    refine He (gn (YQ ⟨46,[.ptr H.next 0,.ptr (H.next+1) 0],none,by simp[Env.put,Env.AM,AN,ed],rfl,?_⟩))
    refine fin _ .nils (.int .i64 4) none 0 (.inl rfl) (by simp;omega) (by simp[AH.set,l5]) (by simp[AH.AY]) (by simp[AH.AY]) (fun q hq=>?_) (fun H' hk=>⟨fun _=>⟨hk,?_⟩,fun h=>absurd rfl h⟩) _ (by simp[Env.put,Env.AM,e2]) (by simp[Env.put,Env.AM,e3])
    ·have a1:q≠H.next:=by omega
     have a2:q≠H.next+1:=by omega
     simp[AH.AY,a1,a2,go5 q hq]
    ·cases r with
     | nil=>simp at hpos
     | cons y r=>rfl
   ·have hz:r=[]:=by
     have:=of_decide_eq_false ht
     cases r with
     | nil=>rfl
     | cons y r=>exfalso;apply this;simp only[BV];omega
    subst hz
    refine LX (RO (Dw ?_))
    refine Az (v:=x) (H1:=H5) (by simp[A2,AI,AZ,BC,AF.ev,Env.put,Env.AM,e2,AH.cells?,ga5,apart]) rfl ?_
    refine Az (v:=.unk) (H1:=H5.set H.next (.cells [x])) (by simp[A2,AI,AZ,BL,AF.ev,Env.put,Env.AM,e2,AH.cells?,ga5,hx1,As]) rfl ?_
    refine Az (v:=.unk) (H1:=(H5.set H.next (.cells [x])).set (H.next+1) (.cells [.int .i64 0])) (by simp[A2,AI,AZ,BL,AF.ev,Env.put,Env.AM,e3,AH.cells?,AH.AY,gb5,AV.cellsOf,As]) rfl ?_
    refine He (gn ⟨46,[.ptr H.next 0,.ptr (H.next+1) 0],none,by simp[Env.put,Env.AM,AN,ed],rfl,?_⟩)
    refine fin _ x (.int .i64 0) none 0 (.inl rfl) (by simp;omega) (by simp[AH.set,l5]) (by simp[AH.AY]) (by simp[AH.AY]) (fun q hq=>?_) (fun H' hk=>⟨fun _=>⟨hk,x,rfl,hrv⟩,fun h=>absurd rfl h⟩) _ (by simp[Env.put,Env.AM,e2]) (by simp[Env.put,Env.AM,e3])
    have a1:q≠H.next:=by omega
    have a2:q≠H.next+1:=by omega
    simp[AH.AY,a1,a2,go5 q hq]
  ·obtain⟨k4,h4⟩:=h4
   cases res with
   | ok d r=>obtain⟨_,h,_⟩:=h4;cases h
   | err er=>
   obtain⟨hx,r,hr⟩:=h4
   cases hx
   have n4:=k4.nx
   refine⟨46,[.ptr H.next 0,.ptr (H.next+1) 0],some (fail er),by simp[Env.put,Env.AM,AN,ed],rfl,?_⟩
   refine fin _ .nils (.int .i64 0) _ (jb er) (.inr rfl) (by omega) (by rw[k4.gl];exact l3) (by rw[k4.get _ (by omega) (by omega)];exact ga) (by rw[k4.get _ (by omega) (by omega)];exact gb) (fun q hq=>by rw[k4.get _ (by omega) (by omega)];exact go q hq)
    (fun H' hk=>⟨fun h=>(by cases h),fun _=>⟨hk,rfl⟩⟩) _ (by simp[Env.put,Env.AM,e2]) (by simp[Env.put,Env.AM,e3])
 exact hgen _ (by simp[Env.put,Env.AM,AN]) (by simp[Env.put,Env.AM,AN]) (by simp[Env.put,Env.AM,AN]) (by simp[Env.put,Env.AM,CI,AN,AF.ev])
end
end Go.Proofs.YtlmkmpomgdbjhaaGreatDoor
namespace Go.AL
section
open Sha
variable [BX]
theorem Qg:∀a:List UInt8,Kt (List.replicate a.length (.i .u8)) (a.map bv)=some (a.map fun x=>Lit.int .u8 (x.toNat:Int))
 | []=>rfl
 | x::a=>by
  have hx:(Lit.int .u8 (x.toNat:Int)).wf=true:=by
   have:=x.toNat_lt
   show(decide ((0:Int)<=(x.toNat:Int))&&decide ((x.toNat:Int)<=255))=true
   simp;omega
  have h1:Q6 (.i .u8) (bv x)=some (.int .u8 (x.toNat:Int)):=if_pos ⟨rfl,hx⟩
  rw[BV,OM,B6,B6]
  simp only[Kt,h1,Qg a]
theorem Xa:∀a b:List UInt8,(a.map fun x=>Lit.int .u8 (x.toNat:Int))=(b.map fun x=>Lit.int .u8 (x.toNat:Int))↔a=b
 | [],[]=>by simp
 | [],_::_=>by simp
 | _::_,[]=>by simp
 | x::a,y::b=>by
  rw[B6,B6,O4,O4,Xa a b]
  constructor
  ·rintro⟨h,rfl⟩
   simp only[Lit.int.injEq,true_and]at h
   exact⟨UInt8.toNat_inj.1 (by omega),rfl⟩
  ·rintro⟨rfl,rfl⟩;exact⟨rfl,rfl⟩
theorem cI {a b:List UInt8}(ha:a.length=32) (hb:b.length=32) (neg:Bool):AI (.eq neg (.wide (true,List.replicate 32 (.i .u8))) (.cst (.agg (a.map bv))) (.cst (.agg (b.map bv)))) emp=some (.bool (bif neg then !decide (a=b)else decide (a=b))):=by
 have h1:HO (true,List.replicate 32 (.i .u8)) (.agg (a.map bv))=some (a.map fun x=>Lit.int .u8 (x.toNat:Int)):=by rw[<- ha];exact Qg a
 have h2:HO (true,List.replicate 32 (.i .u8)) (.agg (b.map bv))=some (b.map fun x=>Lit.int .u8 (x.toNat:Int)):=by rw[<- hb];exact Qg b
 have h3:Dq (a.map fun x=>Lit.int .u8 (x.toNat:Int)) (b.map fun x=>Lit.int .u8 (x.toNat:Int))=decide (a=b):=by
  by_cases h:a=b
  ·rw[decide_eq_true h,h];exact C1.2 rfl
  ·rw[decide_eq_false h]
   cases e:Dq (a.map fun x=>Lit.int .u8 (x.toNat:Int)) (b.map fun x=>Lit.int .u8 (x.toNat:Int))with
   | false=>rfl
   | true=>exact absurd ((Xa a b).1 (C1.1 e)) h
 show((VY (.wide (true,List.replicate 32 (.i .u8))) (.agg (a.map bv)) (.agg (b.map bv))).map fun b=>AV.bool (bif neg then !b else b))=_
 simp only[VY,h1,h2,h3]
 rfl
end
section
open Sha Go.AL.Co
def wI (l:List UInt8):Int:=IntKind.i64.wrap (Kg l:Int)
def items:Nat->Int->List UInt8->Option (List AR.D × List UInt8)
 | 0,n,b=>if n<=0 then some ([],b)else none
 | f+1,n,b=>if n<=0 then some ([],b)else if b.length<8 then none else
  if wI (b.take 8)<0\/((b.drop 8).length:Int)<wI (b.take 8)then none else match AR.dec ((b.drop 8).take (wI (b.take 8)).toNat)with
   | .ok d []=>(items f (n-1) ((b.drop 8).drop (wI (b.take 8)).toNat)).map fun p=>(d::p.1,p.2)
   | _=>none
def FX (b:List UInt8):Option (Int × Int × List AR.D):=
 if b.length<24 then none else if wI ((b.drop 16).take 8)<0 then none else match items b.length (wI ((b.drop 16).take 8)) (b.drop 24)with
  | some (l,[])=>some (wI (b.take 8),wI ((b.drop 8).take 8),l)
  | _=>none
variable [BX]
 omit [BX] in
theorem YY {m:Nat}(h:m<18446744073709551616):Kg (nG m)=m:=by
  show(((((((((0*256+(UInt8.ofNat (m >>> 56)).toNat)*256+(UInt8.ofNat (m >>> 48)).toNat)*256+(UInt8.ofNat (m >>> 40)).toNat)*256+(UInt8.ofNat (m >>> 32)).toNat)*256+(UInt8.ofNat (m >>> 24)).toNat)*256+(UInt8.ofNat (m >>> 16)).toNat)*256+(UInt8.ofNat (m >>> 8)).toNat)*256+(UInt8.ofNat (m >>> 0)).toNat))=m
  simp only[UInt8.toNat_ofNat',Hv]
  omega
 omit [BX] in
theorem Sd {n:Int}(h:GZ n):wI (CD n)=n:=by
  unfold wI CD
  obtain⟨h1,h2⟩:=h
  rw[YY (by omega)]
  have e:∀n:Int,IntKind.i64.wrap n=if n % 18446744073709551616>=9223372036854775808 then n % 18446744073709551616-18446744073709551616 else n % 18446744073709551616:=fun n=>by simp[IntKind.wrap,IntKind.bits,IntKind.signed]
  rw[e]
  split<;>omega
theorem Uo:∀(l:List AR.D) (f:Nat),l.length<=f->(∀d∈l,AR.wf d/\GZ ((AR.enc d).length:Int))->items f (l.length:Int) (l.flatMap fun d=>CD ((AR.enc d).length:Int)++AR.enc d)=some (l,[])
 | [],f,_,_=>by cases f<;>rfl
 | d::l,0,h,_=>by simp at h
 | d::l,f+1,h,hw=>by
  obtain⟨hw1,hw2⟩:=hw d (.head _)
  have ih:=Uo l f (by simpa using h) fun x hx=>hw x (.tail _ hx)
  rw[D2]
  generalize (l.flatMap fun d=>CD ((AR.enc d).length:Int)++AR.enc d)=r at ih ⊢
  have e1:(CD ((AR.enc d).length:Int)++AR.enc d++r).take 8=CD ((AR.enc d).length:Int):=by
   rw[Ao];exact Ge (Cg _)
  have e2:(CD ((AR.enc d).length:Int)++AR.enc d++r).drop 8=AR.enc d++r:=by
   rw[Ao];exact Lk (Cg _)
  unfold items
  rw[e1,e2,Sd hw2,if_neg (by simp<;>omega),if_neg (by simp[Cg]<;>omega),if_neg (by simp<;>omega)]
  have e3:((AR.enc d).length:Int).toNat=(AR.enc d).length:=Cp _
  rw[e3,Ge rfl,Lk rfl]
  have e4:=Og AR Tx d hw1 []
  rw[DY]at e4
  rw[e4]
  have e5:((d::l).length:Int)-1=(l.length:Int):=by simp
  simp only[e5,ih,E5]
theorem YW {A B:Int}{l:List AR.D}(hA:GZ A) (hB:GZ B) (hn:GZ (l.length:Int)) (hw:∀d∈l,AR.wf d/\GZ ((AR.enc d).length:Int)):FX (Df A B l)=some (A,B,l):=by
 have hi:=Uo l (Df A B l).length ?_ hw
 ·have e0:Df A B l=CD A++(CD B++(CD (l.length:Int)++l.flatMap fun d=>CD ((AR.enc d).length:Int)++AR.enc d)):=by unfold Df;simp
  generalize (l.flatMap fun d=>CD ((AR.enc d).length:Int)++AR.enc d)=r at hi e0
  generalize hf:(Df A B l).length=f at hi
  unfold FX
  rw[hf,e0]
  have t1:(CD A++(CD B++(CD (l.length:Int)++r))).take 8=CD A:=Ge (Cg _)
  have d1:(CD A++(CD B++(CD (l.length:Int)++r))).drop 8=CD B++(CD (l.length:Int)++r):=Lk (Cg _)
  have t2:(CD B++(CD (l.length:Int)++r)).take 8=CD B:=Ge (Cg _)
  have d2:(CD A++(CD B++(CD (l.length:Int)++r))).drop 16=CD (l.length:Int)++r:=by
   rw[show(16:Nat)=8+8 by rfl,<- C0,d1];exact Lk (Cg _)
  have t3:(CD (l.length:Int)++r).take 8=CD (l.length:Int):=Ge (Cg _)
  have d3:(CD A++(CD B++(CD (l.length:Int)++r))).drop 24=r:=by
   rw[show(24:Nat)=16+8 by rfl,<- C0,d2];exact Lk (Cg _)
  rw[t1,d1,t2,d2,t3,d3,Sd hA,Sd hB,Sd hn,hi]
  rw[e0]at hf
  simp only[Aa,Cg]at hf
  rw[if_neg (by omega),if_neg (by omega)]
 ·have h:∀l:List AR.D,l.length<=(l.flatMap fun d=>CD ((AR.enc d).length:Int)++AR.enc d).length:=fun l=>by
   induction l with
   | nil=>simp
   | cons d l ih=>rw[D2,Aa,Aa,Cg,BV];omega
  have:=h l
  unfold Df
  rw[Aa]
  omega
end
end Go.AL
namespace Go.Proofs.YtlmkmpomgdbjhaaGreatDoor
open Tryz
section
open Go Go.AL
variable [BX]
def pt (p q:AV) (h:AH) (c:Am->AH->Prop):Prop:=(
 AQ (.box p) h fun l o=>
 AQ (.box q) o fun m b=>
 AB (.fieldAddr 18 l) fun r=>
 AE (.load none r) b fun s=>
 AB (.fieldAddr 18 m) fun t=>
 AE (.load none t) b fun u=>
 AB (.eq false .bool s u) fun n=>
 BF true n (fun(v e f g a:AV) (d:AH)=>
 AB (.pick n a (.cst (.bool false))) fun k=>
 c (.ret k) d) (fun i=>
 AB (.fieldAddr 0 l) fun e=>
 AE (.load (some 18) e) b fun f=>
 AB (.fieldAddr 0 m) fun g=>
 AE (.load (some 18) g) b fun a=>
 AG prog 207 [f,a] b (yp c) fun j d=>
 i e f g a j d) (fun i=>i Ad Ad Ad Ad Ad b))
theorem uR {v0 v1 h Post}(hG:pt v0 v1 h Post):AP prog 125 [v0,v1] h Post:=tP func125 (by kernel_rfl) (by kernel_rfl) hG
end
section
open Go Go.AL Go.AL.Co
variable [BX]
theorem S13:Ki prog 125 FF:=fun{H v0 v1 d} h0 h1 hw=>by
 obtain⟨c,rfl,r1⟩:=h0
 obtain⟨c',rfl,r2⟩:=h1
 obtain⟨F,gx,lx⟩:=nF r1
 obtain⟨F',gy,ly⟩:=nF r2
 refine uR ?_
 unfold pt
 refine(Sm.start H).box (c:=c) rfl fun q H1 s1=>s1.box (c:=c') rfl fun q' H2 s2=>?_
 refine AA (v:=.ptr q 18) rfl (s2.ld (.tail _ (.head _)) gx (AA (v:=.ptr q' 18) rfl (s2.ld (.head _) gy ?_)))
 refine AA (cK _) (GJ ?_)
 refine AA (v:=.ptr q 0) rfl (s2.Hc (.tail _ (.head _)) (c1:=c.take 18) (by rw[B_]) (by omega) (AA (v:=.ptr q' 0) rfl (s2.Hc (.head _) (c1:=c'.take 18) (by rw[B_]) (by omega) ?_)))
 refine s2.call (u_ (F.take lx) (F'.take ly) hw) fun H3 s3=>AA (v:=.bool true) rfl ?_
 exact s3.fin
set_option maxHeartbeats 1000000 in
theorem S30:Ki prog 64 EN:=fun{H v0 v1 d} h0 h1 hw=>by
 obtain⟨c,rfl,r1⟩:=h0
 obtain⟨c',rfl,r2⟩:=h1
 obtain⟨w0,w1,w2,w3,w4,w5,w6,w7,w8⟩:=hw
 have F0:=Bj.start r1
 have K0:=Bj.start r2
 have F1:=Bj.snd F0
 have K1:=Bj.snd K0
 have F2:=Bj.snd F1
 have K2:=Bj.snd K1
 have F3:=Bj.snd F2
 have K3:=Bj.snd K2
 have F4:=Bj.snd F3
 have K4:=Bj.snd K3
 have F5:=Bj.snd F4
 have K5:=Bj.snd K4
 have F6:=Bj.snd F5
 have K6:=Bj.snd K5
 have F7:=Bj.snd F6
 have K7:=Bj.snd K6
 have F8:=Bj.snd F7
 have K8:=Bj.snd K7
 have gx0:=(Bj.fst F0).int
 have gy0:=(Bj.fst K0).int
 have gx1:=(Bj.fst F1).int
 have gy1:=(Bj.fst K1).int
 have gx2:=(Bj.fst F2).int
 have gy2:=(Bj.fst K2).int
 have gx3:=(Bj.fst F3).int
 have gy3:=(Bj.fst K3).int
 obtain⟨x4,gx4,lx4,hx4,rx4⟩:=(Bj.fst F4).agg
 obtain⟨y4,gy4,ly4,hy4,ry4⟩:=(Bj.fst K4).agg
 obtain⟨x5,gx5,rx5⟩:=(Bj.fst F5).list (t:=.int)
 obtain⟨y5,gy5,ry5⟩:=(Bj.fst K5).list (t:=.int)
 obtain⟨x6,gx6,rx6⟩:=(Bj.fst F6).list (t:=A4)
 obtain⟨y6,gy6,ry6⟩:=(Bj.fst K6).list (t:=A4)
 obtain⟨x7,gx7,rx7⟩:=(Bj.fst F7).list (t:=DF)
 obtain⟨y7,gy7,ry7⟩:=(Bj.fst K7).list (t:=DF)
 obtain⟨x8,gx8,rx8⟩:=F8.list (t:=FU)
 obtain⟨y8,gy8,ry8⟩:=K8.list (t:=FU)
 refine T64 ?_
 unfold yh
 refine(Sm.start H).box (c:=c) rfl fun q H1 s1=>s1.box (c:=c') rfl fun q' H2 s2=>?_
 refine AA (v:=.ptr q 0) rfl (s2.ld (.tail _ (.head _)) gx0 (AA (v:=.ptr q' 0) rfl (s2.ld (.head _) gy0 ?_)))
 refine AA (HD _) ?_
 refine GJ (AA (v:=.ptr q 1) rfl (s2.ld (.tail _ (.head _)) gx1 (AA (v:=.ptr q' 1) rfl (s2.ld (.head _) gy1 ?_))))
 refine AA (HD _) (AA (v:=.bool true) rfl ?_)
 refine GJ (AA (v:=.ptr q 2) rfl (s2.ld (.tail _ (.head _)) gx2 (AA (v:=.ptr q' 2) rfl (s2.ld (.head _) gy2 ?_))))
 refine AA (HD _) (AA (v:=.bool true) rfl ?_)
 refine GJ (AA (v:=.ptr q 3) rfl (s2.ld (.tail _ (.head _)) gx3 (AA (v:=.ptr q' 3) rfl (s2.ld (.head _) gy3 ?_))))
 refine AA (HD _) (AA (v:=.bool true) rfl ?_)
 refine GJ (AA (v:=.ptr q 4) rfl (s2.Hc (.tail _ (.head _)) gx4 hx4 (AA (v:=.ptr q' 4) rfl (s2.Hc (.head _) gy4 hy4 ?_))))
 refine s2.call (S13 ⟨_,rfl,rx4⟩ ⟨_,rfl,ry4⟩ w4) fun H3 s3=>AA (v:=.bool true) rfl ?_
 refine GJ (AA (v:=.ptr q 23) rfl (s3.ld (.tail _ (.head _)) gx5 (AA (v:=.ptr q' 23) rfl (s3.ld (.head _) gy5 ?_))))
 refine s3.call (uh rx5 ry5 w5) fun H4 s4=>AA (v:=.bool true) rfl ?_
 refine GJ (AA (v:=.ptr q 24) rfl (s4.ld (.tail _ (.head _)) gx6 (AA (v:=.ptr q' 24) rfl (s4.ld (.head _) gy6 ?_))))
 refine s4.call (S72 rx6 ry6 w6) fun H5 s5=>AA (v:=.bool true) rfl ?_
 refine GJ (AA (v:=.ptr q 25) rfl (s5.ld (.tail _ (.head _)) gx7 (AA (v:=.ptr q' 25) rfl (s5.ld (.head _) gy7 ?_))))
 refine s5.call (S73 rx7 ry7 w7) fun H6 s6=>AA (v:=.bool true) rfl ?_
 refine GJ (AA (v:=.ptr q 26) rfl (s6.ld (.tail _ (.head _)) gx8 (AA (v:=.ptr q' 26) rfl (s6.ld (.head _) gy8 ?_))))
 refine s6.call (S74 rx8 ry8 w8) fun H7 s7=>AA (v:=.bool true) rfl ?_
 exact s7.fin
theorem S8:Ki prog 28 AR:=fun{H v0 v1 d} h0 h1 hw=>by
 have l0:=QV.lr (t:=EN) h0
 have l1:=QV.lr (t:=EN) h1
 have hw:(Ty.list EN).wf d:=hw
 have hn:GZ ((Cm (t:=EN) d).length:Int):=hw.1
 refine T28 ?_
 unfold yv
 refine EY l0.len l1.len ?_
 refine IF (n:=(Cm (t:=EN) d).length) (by decide) (by decide) (by decide) rfl rfl rfl (Q:=BT H) (BT.refl H) fun i H1 J hi hq hJ=>?_
 refine Dy l0.len (fun hlt=>?_) (fun _=>⟨rfl,hq⟩)
 obtain⟨a,c,a1,a2,a3,a4,a5⟩:=l0.X1 (k:=27) rfl hlt
 obtain⟨b,c',b1,b2,b3,b4,b5⟩:=l1.X1 (k:=27) rfl hlt
 refine AA a1 (AX (a2 _) (AA b1 (AX (b2 _) ?_)))
 refine(Sm.mk hq (L:=[]) (by simp)).call (S30 (d:=(Cm (t:=EN) d)[i]'hlt) ⟨_,rfl,a3⟩ ⟨_,rfl,b3⟩ (Nn hw hlt)) fun H2 s=>GV (BS ?_)
 exact Dx hn hlt (hJ hlt _ s.k)
end
section
open Go Go.AL Go.AL.Sha Go.AL.Co
variable [BX]
set_option maxHeartbeats 2000000 in
theorem Vn {H:AH}{A B:Int}{p0 p1:AV}{b0 b1:Bool}{l:List AR.D}(h0:LR AR l p0) (h1:LR AR l p1) (hw:∀d∈l,AR.wf d) (hn:l.length<1099511627776) :
  CP prog 12 [.sim [iv A,iv B,p0] 1 b0,.sim [iv A,iv B,p1] 1 b1] H fun x=>x=.bool true:=CP.of <| by
 refine T12 ?_
 unfold y_
 refine AA (v:=iv 1) rfl (AA (v:=iv 1) rfl (Xq rfl (BS ?_)))
 generalize hx0:AV.sim [iv A,iv B,p0] 1 b0=x0
 generalize hx1:AV.sim [iv A,iv B,p1] 1 b1=x1
 let I1:AV->AV->AV->AH->Prop:=fun e0 e1 e5 H'=>e0=x0/\e1=x1/\BT H H'/\∃i:Nat,e5=iv (i:Int)/\i<=1
 let μ1:AV->AV->AV->AH->Nat:=fun _ _ e5 _=>match e5 with
  | .int _ j=>((1:Int)-j).toNat
  | _=>0
 refine⟨I1,μ1,⟨rfl,rfl,BT.refl H,0,rfl,by omega⟩,?_⟩
 intro e H1 hIv
 obtain⟨e0,e1,hk,i,e5,hi⟩:=(hIv:I1 (e 0) (e 1) (e 5) H1)
 have hmu:μ1 (e 0) (e 1) (e 5) H1=((1:Int)-(i:Int)).toNat:=by rw[e5]
 show AB (.len (.cst (e 0))) _
 rw[e0,e1,e5]
 refine AA (v:=iv 1) (by rw[<- hx0];rfl) (Dk (b:=1) (fun hlt=>Cw ?_) (fun hlt=>BS ?_))
 ·have hi0:i=0:=by omega
  subst hi0
  have gV:∀{K:AV->Prop},K (.pim [iv A,iv B,p0] 0)->AB (.indexAddrS 3 (.cst x0) (.cst (iv ((0:Nat):Int)))) K:=fun h=>AA (by rw[<- hx0];rfl) h
  have jK:∀{K:AV->Prop},K (.pim [iv A,iv B,p1] 0)->AB (.indexAddrS 3 (.cst x1) (.cst (iv ((0:Nat):Int)))) K:=fun h=>AA (by rw[<- hx1];rfl) h
  refine gV (AA (v:=.pim [iv A,iv B,p0] 0) rfl (AX (v:=iv A) rfl (jK (AA (v:=.pim [iv A,iv B,p1] 0) rfl (AX (v:=iv A) rfl (Xq rfl (QE ?_)))))))
  refine gV (AA (v:=.pim [iv A,iv B,p0] 1) rfl (AX (v:=iv B) rfl (jK (AA (v:=.pim [iv A,iv B,p1] 1) rfl (AX (v:=iv B) rfl (Xq rfl ?_))))))
  refine AA (v:=.bool false) rfl (QE ?_)
  refine gV (AA (v:=.pim [iv A,iv B,p0] 2) rfl (AX (v:=p0) rfl (AA (v:=iv (l.length:Int)) h0.len (jK (AA (v:=.pim [iv A,iv B,p1] 2) rfl (AX (v:=p1) rfl (AA (v:=iv (l.length:Int)) h1.len (Xq rfl ?_))))))))
  refine AA (v:=.bool false) rfl (BS ?_)
  let I2:AV->AV->AV->AV->AH->Prop:=fun e0 e1 e5 e6 H'=>e0=x0/\e1=x1/\e5=iv ((0:Nat):Int)/\BT H H'/\∃j:Nat,e6=iv (j:Int)/\j<=l.length
  let μ2:AV->AV->AV->AV->AH->Nat:=fun _ _ _ e6 _=>match e6 with
   | .int _ j=>((l.length:Int)-j).toNat
   | _=>0
  refine⟨I2,μ2,⟨rfl,rfl,rfl,hk,0,rfl,by omega⟩,?_⟩
  intro f H2 hIw
  obtain⟨f0,f1,f5,hk2,j,f6,hj⟩:=(hIw:I2 (f 0) (f 1) (f 5) (f 6) H2)
  have hmu2:μ2 (f 0) (f 1) (f 5) (f 6) H2=((l.length:Int)-(j:Int)).toNat:=by rw[f6]
  show AB (.indexAddrS 3 (.cst (f 0)) (.cst (f 5))) _
  rw[f0,f1,f5,f6]
  refine gV (AA (v:=.pim [iv A,iv B,p0] 2) rfl (AX (v:=p0) rfl (AA (v:=iv (l.length:Int)) h0.len (Dk (fun hlt2=>Cw ?_) (fun hlt2=>BS ?_)))))
  ·have hj':j<l.length:=by omega
   obtain⟨a,x,g1,g2,g3⟩:=h0.Om rfl hj'
   obtain⟨a',x',k1,k2,k3⟩:=h1.Om rfl hj'
   refine gV (AA (v:=.pim [iv A,iv B,p0] 2) rfl (AX (v:=p0) rfl (AA g1 (AX (g2 _) ?_))))
   refine jK (AA (v:=.pim [iv A,iv B,p1] 2) rfl (AX (v:=p1) rfl (AA k1 (AX (k2 _) ?_))))
   refine BK (S8 g3 k3 (hw _ (Ox hj'))) (fun v H3 h3=>?_) (fun v H3 h3=>by cases h3.1)
   obtain⟨hv,hk3⟩:=h3
   cases hv
   refine RM (BS (Dg (b:=1) ⟨by omega,by omega⟩ ⟨⟨rfl,rfl,rfl,hk2.trans hk3,j+1,rfl,by omega⟩,?_⟩))
   show _<μ2 (f 0) (f 1) (f 5) (f 6) H2
   rw[hmu2]
   show((l.length:Int)-((j:Int)+1)).toNat<_
   omega
  ·refine Dg (a:=((0:Nat):Int)) (b:=1) ⟨by omega,by omega⟩ ⟨⟨rfl,rfl,hk2,1,rfl,by omega⟩,?_⟩
   show _<μ1 (e 0) (e 1) (e 5) H1
   rw[hmu]
   show((1:Int)-(((0:Nat):Int)+1)).toNat<_
   omega
 exact⟨hk,_,[],_,rfl,.low fun _=>.bool _,fun _ h=>(by cases h),rfl⟩
end
end Go.Proofs.YtlmkmpomgdbjhaaGreatDoor
namespace Go.AL
section
open Go.AL.Co
variable [BX]
theorem mV {t:Ty}{l:(Ty.list t).D}{y:AV}(h:FL (C9 t) (fun i c=>∀d,(Cm l)[i]?=some d->RC t d c) (Cm l).length y):RC (.list t) l [y]:=by
 rcases h.ex with⟨h0,rfl⟩ | ⟨css,b,rfl,h2,h3,h4⟩
 ·refine⟨.nils,[],rfl,by rw[h0];exact .nil,[],rfl,by rw[h0];rfl,fun i x y _ hy=>by simp at hy⟩
 ·refine⟨_,css.flatten,rfl,.sim ?_,css,rfl,h3,fun i x y hx hy=>(h4 i y hy).2.2 x hx⟩
  rw[GO css (z:=C9 t) fun c hc=>?_,h3]
  obtain⟨i,hi⟩:=Cd hc
  exact(h4 i c hi).1
end
section
open Sha Go.AL.Co
variable [BX]
theorem GL.nB {R:List (Nat × List AV)}{z n:Nat}{Pr Pr':Nat->List AV->Prop}{cs:List AV}(h:GL R z Pr n cs) (hp:∀i c,i<n->Pr i c->Pr' i c):GL R z Pr' n cs:=by
 obtain⟨⟨css,h1,h2,h3⟩,h4⟩:=h
 exact⟨⟨css,h1,h2,fun i c hc=>by
  obtain⟨g1,g2,g3⟩:=h3 i c hc
  exact⟨g1,g2,hp i c (by rw[<- h2];exact(BU.1 hc).1) g3⟩⟩,h4⟩
def PD (ds:List AR.D) (i:Nat) (c:List AV):Prop:=∀d,ds[i]?=some d->RC AR d c
theorem GL.tT {ds:List AR.D}{d:AR.D}{cs:List AV}{x:AV}(h:GL [] 1 (PD ds) ds.length cs) (hs:∀k,Sc k x) (hx:RC AR d [x]):GL [] 1 (PD (ds++[d])) (ds++[d]).length (cs++[x]):=by
 have h2:GL [] 1 (PD (ds++[d])) ds.length cs:=h.nB fun i c hi hp e he=>hp e (by rw[ED hi]at he;exact he)
 rw[Aa,O3]
 refine h2.tR rfl (fun k=>.cons (hs k) .nil) fun e he=>?_
 rw[De (A5 _),Ia]at he
 cases he
 exact hx
theorem QC (f:Nat) (n:Int) (b:List UInt8):items (f+1) n b=if n<=0 then some ([],b)else if b.length<8 then none else
  if wI (b.take 8)<0\/((b.drop 8).length:Int)<wI (b.take 8)then none else match AR.dec ((b.drop 8).take (wI (b.take 8)).toNat)with
   | .ok d []=>(items f (n-1) ((b.drop 8).drop (wI (b.take 8)).toNat)).map fun p=>(d::p.1,p.2)
   | _=>none:=rfl
theorem WC {f:Nat}{n i:Int}{b:List UInt8}(h:i<n) (hb:b.length<=f) :
  (b.length<8->items f (n-i) b=none)/\(8<=b.length->(wI (b.take 8)<0\/((b.drop 8).length:Int)<wI (b.take 8)->items f (n-i) b=none) /\
   (0<=wI (b.take 8)->wI (b.take 8)<=((b.drop 8).length:Int)->∃f',((b.drop 8).drop (wI (b.take 8)).toNat).length<=f' /\
    (∀d,AR.dec ((b.drop 8).take (wI (b.take 8)).toNat)=.ok d []->items f (n-i) b=(items f' (n-(i+1)) ((b.drop 8).drop (wI (b.take 8)).toNat)).map fun p=>(d::p.1,p.2)) /\
    ((∀d,AR.dec ((b.drop 8).take (wI (b.take 8)).toNat)≠.ok d [])->items f (n-i) b=none))):=by
 have hpos:¬n-i<=0:=by omega
 match f,hb with
 | 0,hb=>
  refine⟨fun _=>?_,fun h8=>by omega⟩
  unfold items;rw[if_neg hpos]
 | f+1,hb=>
  refine⟨fun h8=>?_,fun h8=>⟨fun hk=>?_,fun h0 h1=>⟨f,?_,fun d hd=>?_,fun hd=>?_⟩⟩⟩
  ·unfold items;rw[if_neg hpos,if_pos h8]
  ·unfold items;rw[if_neg hpos,if_neg (by omega),if_pos hk]
  ·rw[CK,CK];omega
  ·rw[QC,if_neg hpos,if_neg (by omega),if_neg (by omega),hd,show n-i-1=n-(i+1)by omega]
  ·rw[QC,if_neg hpos,if_neg (by omega),if_neg (by omega)]
   generalize AR.dec ((b.drop 8).take (wI (b.take 8)).toNat)=r at hd
   match r,hd with
   | .err e,_=>rfl
   | .ok d [],hd=>exact absurd rfl (hd d)
   | .ok d (_::_),_=>rfl
end
end Go.AL
namespace Go.Proofs.YtlmkmpomgdbjhaaGreatDoor
open Tryz
section
open Go Go.AL Go.AL.Sha Go.AL.Co
variable [BX]
theorem cD {z n:Nat}{v:AV}{c:List AV}(h:fw z v c n):v.cellsOf=some [v]:=by cases h<;>rfl
theorem ju {d:AR.D}{x:AV}(h:RX AR d [x]):(∀k,Sc k x)/\x.cellsOf=some [x]:=by
 refine⟨fun k=>by cases VO k AR d [x] h with | cons a _=>exact a,?_⟩
 obtain⟨v,cs,hv,hf,_⟩:=h
 cases hv
 exact cD hf
theorem lW {H0 H:AH}{L:List (Nat × List AV)}{v:AV}{b:List UInt8}{Kp K:AV->AH->Prop}(s:BO H0 L H) (hv:KM b v) (hl:b.length<68719400000)
  (hK:∀x en d H',BO H0 L H'->RC AR d [x]->(∀k,Sc k x)->x.cellsOf=some [x]->((en=0/\AR.dec b=.ok d [])\/(en≠0/\∀d,AR.dec b≠.ok d []))->K (.tup [x,iv en]) H'):AG prog 23 [v] H Kp K:=by
 have hI:TZ H H.next b v:=by
  rcases hv with⟨rfl,rfl⟩ | ⟨ex,rfl⟩
  ·exact .nils
  ·exact .sim _ ex
 have hnil:RC AR [] [.nils]:=⟨.nils,[],rfl,.nil,[],rfl,rfl,fun i x y _ hy=>by simp at hy⟩
 refine BK (P7 hI (by omega)) (fun v H' h=>?_) (fun v H' h=>?_)
 ·obtain⟨hk,h⟩:=h
  have s':=s.GI hk
  generalize AR.dec b=r at h hK
  match r,h with
  | .ok d [],h=>
   obtain⟨x,hx,hr⟩:=h
   cases hx
   obtain⟨h1,h2⟩:=ju hr
   exact hK x 0 d H' s' (VP _ _ _ hr) h1 h2 (.inl ⟨rfl,rfl⟩)
  | .ok _ (_::_),h=>
   cases h
   exact hK .nils 4 [] H' s' hnil (fun _=>.nils) rfl (.inr ⟨by decide,fun d h=>by cases h⟩)
  | .err e,h=>
   cases h
   exact hK .nils _ [] H' s' hnil (fun _=>.nils) rfl (.inr ⟨by cases e<;>decide,fun d h=>by cases h⟩)
 ·obtain⟨hk,h⟩:=h
  generalize AR.dec b=r at h
  match r,h with
  | .ok d [],h=>obtain⟨_,h,_⟩:=h;cases h
  | .ok _ (_::_),h=>cases h
  | .err e,h=>cases h
end
section
open Go Go.AL Go.AL.Sha Go.AL.Co
variable [BX]
def Mg (key sg sec bs:List UInt8) (x:AV):Prop:=
 if sg=keyed sec (key++bs)then match FX bs with
  | some (A,B,l)=>∃p,x=.tup [.agg [iv A,iv B,p],iv 0]/\LR AR l p/\∀k,Sc k p
  | none=>x=.tup [.agg [iv 0,iv 0,.nils],iv 4]
 else x=.tup [.agg [iv 0,iv 0,.nils],iv 280]
def FI (b:List UInt8) (bad:Bool):Int × List UInt8 × Bool:=if b.length<8 then(0,b,true)else(wI (b.take 8),b.drop 8,bad)
theorem Wt {H0 H:AH}{L:List (Nat × List AV)}{rb:Nat}{v:AV}{b:List UInt8}{bad:Bool}{Kp K:AV->AH->Prop}(s:BO H0 ((rb,[v,.bool bad])::L) H) (hv:KM b v)
  (hK:∀v' H',KM (FI b bad).2.1 v'->BO H0 ((rb,[v',.bool (FI b bad).2.2])::L) H'->K (iv (FI b bad).1) H'):AG prog 22 [.ptr rb 0] H Kp K:=by
 refine ZP s hv (fun h H' s'=>?_) (fun h v' H' hv' s'=>?_)
 ·unfold FI at hK
  rw[if_pos h]at hK
  exact hK v H' hv s'
 ·unfold FI at hK
  rw[if_neg (by omega)]at hK
  exact hK v' H' hv' s'
theorem zb (bs:List UInt8):(bs.length<24->(FI (FI (FI bs false).2.1 (FI bs false).2.2).2.1 (FI (FI bs false).2.1 (FI bs false).2.2).2.2).2.2=true) /\
  (24<=bs.length->FI bs false=(wI (bs.take 8),bs.drop 8,false)/\FI (bs.drop 8) false=(wI ((bs.drop 8).take 8),bs.drop 16,false)/\FI (bs.drop 16) false=(wI ((bs.drop 16).take 8),bs.drop 24,false)):=by
 have h1:8<=bs.length->FI bs false=(wI (bs.take 8),bs.drop 8,false):=fun h=>by unfold FI;rw[if_neg (by omega)]
 have h2:∀c,16<=bs.length->FI (bs.drop 8) c=(wI ((bs.drop 8).take 8),bs.drop 16,c):=fun c h=>by unfold FI;rw[if_neg (by rw[List.length_drop];omega),List.drop_drop]
 have h3:∀c,24<=bs.length->FI (bs.drop 16) c=(wI ((bs.drop 16).take 8),bs.drop 24,c):=fun c h=>by unfold FI;rw[if_neg (by rw[List.length_drop];omega),List.drop_drop]
 have st:∀(b:List UInt8) (c:Bool),b.length<8->FI b c=(0,b,true):=fun b c h=>by unfold FI;rw[if_pos h]
 refine⟨fun h=>?_,fun h=>⟨h1 (by omega),h2 _ (by omega),h3 _ h⟩⟩
 by_cases c1:bs.length<8
 ·rw[st bs false c1]
  simp only
  rw[st bs true c1]
  simp only
  rw[st bs true c1]
 rw[h1 (by omega)]
 simp only
 by_cases c2:bs.length<16
 ·have c2':(bs.drop 8).length<8:=by rw[CK];omega
  rw[st _ false c2']
  simp only
  rw[st _ true c2']
 rw[h2 _ (by omega)]
 simp only
 rw[st _ _ (by rw[CK];omega)]
set_option maxHeartbeats 2000000 in
theorem mq [Bp] {H:AH}{key sg sec bs:List UInt8}{y:AV}(hg:H.gl=BX.G) (hk:key.length=32) (hsg:sg.length=32) (hs:sec.length=32) (hy:KM bs y) (hl:bs.length<68719400000) :
  CP prog 7 [.agg (key.map bv++y::sg.map bv),.agg (sec.map bv)] H (Mg key sg sec bs):=CP.of <| by
 refine T7 ?_
 unfold G7
 have hcl:(key.map bv++y::sg.map bv).length=65:=by simp[hk,hsg]
 refine(BO.start H).box (c:=key.map bv++y::sg.map bv) rfl fun r2 H1 s=>s.box (c:=sec.map bv) rfl fun r3 H2 s=>s.alloc fun r4 H3 s=>?_
 have m2:(r2,key.map bv++y::sg.map bv)∈[(r4,[I 0,I 0,.nils]),(r3,sec.map bv),(r2,key.map bv++y::sg.map bv)]:=by simp
 have m3:(r3,sec.map bv)∈[(r4,[I 0,I 0,.nils]),(r3,sec.map bv),(r2,key.map bv++y::sg.map bv)]:=by simp
 have d33:((key.map bv++y::sg.map bv).drop 33).take 32=sg.map bv:=by
  rw[Ft,Lo (by simp[hk]),BR,hk,B7]
  exact Ac (by simp[hsg])
 have d0:((key.map bv++y::sg.map bv).drop 0).take 32=key.map bv:=by
  rw[B_];exact Ge (by simp[hk])
 have g32:(key.map bv++y::sg.map bv)[32]?=some y:=by
  rw[De (by simp[hk])];simp[hk]
 refine AA (v:=.ptr r2 33) rfl (s.sy (d:=sg.map bv) m2 d33 (by rw[hcl];omega) ?_)
 refine AA (v:=.ptr r2 0) rfl (s.sy (d:=key.map bv) m2 d0 (by rw[hcl];omega) ?_)
 refine AA (v:=.ptr r2 32) rfl (s.ld m2 g32 (s.Hc m3 (by rw[BR,hs]) ?_))
 refine I8 (gF (s.k.gl.trans hg) hk hs hy hl) fun x hx=>?_
 subst hx
 have hdl:(keyed sec (key++bs)).length=32:=rfl
 refine⟨⟨s.jA (d:=sg.map bv) m2 d33 (by rw[hcl];omega),trivial⟩,?_⟩
 have q1:sg≠keyed sec (key++bs)->Mg key sg sec bs (.tup [.agg [iv 0,iv 0,.nils],iv 280]):=fun h=>by unfold Mg;rw[if_neg h]
 have q2:sg=keyed sec (key++bs)->FX bs=none->Mg key sg sec bs (.tup [.agg [iv 0,iv 0,.nils],iv 4]):=fun h h2=>by unfold Mg;rw[if_pos h,h2]
 have q3:sg=keyed sec (key++bs)->∀A B l p,FX bs=some (A,B,l)->(LR AR l p/\∀k,Sc k p)->Mg key sg sec bs (.tup [.agg [iv A,iv B,p],iv 0]):=fun h A B l p h2 h3=>by unfold Mg;rw[if_pos h,h2];exact⟨p,rfl,h3⟩
 generalize Mg key sg sec bs=Q at q1 q2 q3 ⊢
 generalize keyed sec (key++bs)=dg at hdl q1 q2 q3 ⊢
 refine AA (cI hsg hdl true) ?_
 by_cases he:sg=dg
 ·rw[decide_eq_true he]
  refine BS ?_
  refine AA (v:=.ptr r2 32) rfl (s.ld m2 g32 ?_)
  refine AA (v:=.agg [y,.bool false]) (by rcases hy with⟨_,rfl⟩ | ⟨b,rfl⟩<;>rfl) ?_
  refine s.box (c:=[y,.bool false]) rfl fun rb H4 s=>?_
  refine Wt s hy fun y1 H5 hy1 s=>Wt s hy1 fun y2 H6 hy2 s=>?_
  refine AA (v:=.agg [iv (FI bs false).1,iv (FI (FI bs false).2.1 (FI bs false).2.2).1,.nils]) rfl (s.alloc fun ro H7 s=>s.Gk (vs:=[iv (FI bs false).1,iv (FI (FI bs false).2.1 (FI bs false).2.2).1,.nils]) rfl rfl fun H8 s=>?_)
  refine Wt s.swap hy2 fun y3 H9 hy3 s=>?_
  obtain⟨w1,w2⟩:=zb bs
  generalize hA:(FI bs false).1=A at s ⊢
  generalize hB:(FI (FI bs false).2.1 (FI bs false).2.2).1=B at s ⊢
  generalize hN:(FI (FI (FI bs false).2.1 (FI bs false).2.2).2.1 (FI (FI bs false).2.1 (FI bs false).2.2).2.2).1=n at s ⊢
  refine oX (fun J=>∀(v pv:AV) (b:List UInt8) (bad:Bool) (L':List (Nat × List AV)) (ds:List AR.D) (H':AH),BO H ((rb,[v,.bool bad])::(ro,[iv A,iv B,pv])::(r4,[I 0,I 0,.nils])::L') H'->KM b v->(∃p,FZ L' pv p/\LR AR ds p/\∀k,Sc k p)->pv.cellsOf=some [pv] ->
   (bad=true->FX bs=none)->(bad=false->(n<0\/b≠[]->FX bs=none)/\(0<=n->b=[]->FX bs=some (A,B,ds)))->J (.ptr r4 0) (.ptr rb 0) (.ptr ro 0) (iv n) H') ?_ (fun J hJ=>?_)
  ·intro v pv b bad L' ds H' s hv hp hp1 f1 f2
   refine AA (v:=.ptr rb 0) rfl (AA (v:=.ptr rb 1) rfl (s.ld (o:=1) (.head _) rfl ?_))
   cases bad with
   | true=>
    refine TF (AA (v:=.bool true) rfl (TF (AA (v:=.bool true) rfl ?_)))
    refine Cw (AA (v:=.agg [iv 0,iv 0,.nils]) rfl (BO.Sq (A:=[(rb,[v,.bool true]),(ro,[iv A,iv B,pv])]) (vs:=[iv 0,iv 0,.nils]) s rfl rfl (by show 0+3<=3;omega) fun H10 s=>s.Hc (.tail _ (.tail _ (.head _))) rfl ?_))
    exact s.U3 (fun k=>.tup (.cons (.agg (.cons (.int _ _) (.cons (.int _ _) (.cons .nils .nil)))) (.cons (.int _ _) .nil))) (q2 he (f1 rfl))
   | false=>
    obtain⟨f3,f4⟩:=f2 rfl
    refine QE (Dk (b:=0) (fun hlt=>?_) (fun hlt=>?_))
    ·refine AA (v:=.bool true) rfl (TF (AA (v:=.bool true) rfl ?_))
     refine Cw (AA (v:=.agg [iv 0,iv 0,.nils]) rfl (BO.Sq (A:=[(rb,[v,.bool false]),(ro,[iv A,iv B,pv])]) (vs:=[iv 0,iv 0,.nils]) s rfl rfl (by show 0+3<=3;omega) fun H10 s=>s.Hc (.tail _ (.tail _ (.head _))) rfl ?_))
     exact s.U3 (fun k=>.tup (.cons (.agg (.cons (.int _ _) (.cons (.int _ _) (.cons .nils .nil)))) (.cons (.int _ _) .nil))) (q2 he (f3 (.inl hlt)))
    ·refine AA (v:=.bool false) rfl (QE ?_)
     refine AA (v:=.ptr rb 0) rfl (AA (v:=.ptr rb 0) rfl (s.ld (o:=0) (.head _) rfl (hv.len (Xz (b:=0) (fun hgt=>?_) (fun hgt=>?_)))))
     ·refine AA (v:=.bool true) rfl ?_
      refine Cw (AA (v:=.agg [iv 0,iv 0,.nils]) rfl (BO.Sq (A:=[(rb,[v,.bool false]),(ro,[iv A,iv B,pv])]) (vs:=[iv 0,iv 0,.nils]) s rfl rfl (by show 0+3<=3;omega) fun H10 s=>s.Hc (.tail _ (.tail _ (.head _))) rfl ?_))
      exact s.U3 (fun k=>.tup (.cons (.agg (.cons (.int _ _) (.cons (.int _ _) (.cons .nils .nil)))) (.cons (.int _ _) .nil))) (q2 he (f3 (.inr fun h=>by rw[h]at hgt;simp at hgt)))
     ·refine AA (v:=.bool false) rfl (BS ?_)
      have hb0:b=[]:=G0.1 (by omega)
      obtain⟨p,hp2,hp3⟩:=hp
      refine s.Hc (.tail _ (.head _)) rfl ?_
      refine BO.Sq (A:=[(rb,[v,.bool false]),(ro,[iv A,iv B,pv])]) (vs:=[iv A,iv B,pv]) s rfl rfl (by show 0+3<=3;omega) fun H10 s=>s.Hc (.tail _ (.tail _ (.head _))) rfl ?_
      exact s.fin (y:=.tup [.agg [iv A,iv B,p],iv 0]) (fun H k hR=>.tup (.cons (.agg (.cons (.low (.int _ _)) (.cons (.low (.int _ _)) (.cons (hp2 H k fun x hx=>hR x (.tail _ (.tail _ (.tail _ hx)))) .nil)))) (.cons (.low (.int _ _)) .nil))) (q3 he _ _ _ _ (f4 (by omega) hb0) hp3)
  ·generalize hb3:(FI (FI (FI bs false).2.1 (FI bs false).2.2).2.1 (FI (FI bs false).2.1 (FI bs false).2.2).2.2).2.1=b3 at s hy3
   generalize QD:(FI (FI (FI bs false).2.1 (FI bs false).2.2).2.1 (FI (FI bs false).2.1 (FI bs false).2.2).2.2).2.2=c3 at s w1
   have r1:c3=true->FX bs=none:=fun h=>by
    by_cases h24:bs.length<24
    ·unfold FX;rw[if_pos h24]
    ·obtain⟨a1,a2,a3⟩:=w2 (by omega)
     rw[a1]at QD
     simp only at QD
     rw[a2]at QD
     simp only at QD
     rw[a3]at QD
     rw[<- QD]at h
     cases h
   have r2':c3=false->FX bs=(if n<0 then none else match items bs.length n b3 with
     | some (l,[])=>some (A,B,l)
     | _=>none)/\b3=bs.drop 24:=fun h=>by
    have h24:24<=bs.length:=by
     by_cases h24:bs.length<24
     ·rw[w1 h24]at h;cases h
     ·omega
    obtain⟨a1,a2,a3⟩:=w2 h24
    rw[a1]at hA hB hN hb3
    simp only at hA hB hN hb3
    rw[a2]at hB hN hb3
    simp only at hB hN hb3
    rw[a3]at hN hb3
    simp only at hN hb3
    refine⟨?_,hb3.symm⟩
    unfold FX
    rw[if_neg (by omega),hA,hB,hN,hb3]<;>rfl
   have s:BO H ((rb,[y3,.bool c3])::(ro,[iv A,iv B,.nils])::(r4,[I 0,I 0,.nils])::[(r3,sec.map bv),(r2,key.map bv++y::sg.map bv)]) H9:=s
   generalize [(r3,sec.map bv),(r2,key.map bv++y::sg.map bv)]=Lr at s
   clear m2 m3 q1 q2 q3 d33 d0 g32 hcl w1 w2
   let R:Bool->Nat->List UInt8->List AR.D->Prop:=fun bad i b ds=>(bad=true->FX bs=none)/\(bad=false->c3=false/\ds.length=i/\8*i+b.length<=bs.length/\((n<0/\i=0)\/(0<=n/\(i:Int)<=n/\∃f,b.length<=f/\items bs.length n b3=(items f (n-(i:Int)) b).map fun p=>(ds++p.1,p.2))))
   let I1:AV->AV->AV->AV->AV->AV->AH->Prop:=fun e4 e6 e7 e8 e9 e10 H'=>e4=.ptr r4 0/\e6=.ptr rb 0/\e7=.fn (.func 22) [.ptr rb 0] []/\e8=.ptr ro 0/\e9=iv n /\
    ∃(i:Nat) (v pv:AV) (b:List UInt8) (bad:Bool) (ds:List AR.D) (o:List (Nat × List AV)) (cs:List AV),e10=iv (i:Int)/\ds.length<=68719400000/\BO H ((rb,[v,.bool bad])::(ro,[iv A,iv B,pv])::(r4,[I 0,I 0,.nils])::(o++Lr)) H'/\KM b v /\
     GL [] 1 (PD ds) ds.length cs/\Lv 1 o ds.length cs pv/\R bad i b ds
   let μ1:AV->AV->AV->AV->AV->AV->AH->Nat:=fun _ _ _ _ _ e10 _=>match e10 with
    | .int _ j=>(n-j).toNat
    | _=>0
   refine⟨I1,μ1,⟨rfl,rfl,rfl,rfl,rfl,0,y3,.nils,b3,c3,[],[],[],rfl,by simp,s,hy3,GL.nil,.nil,r1,fun h=>⟨h,rfl,?_,?_⟩⟩,?_⟩
   ·rw[(r2' h).2,CK];omega
   ·by_cases hn:n<0
    ·exact .inl ⟨hn,rfl⟩
    ·refine .inr ⟨by omega,by omega,bs.length,by rw[(r2' h).2,CK];omega,?_⟩
     rw[show n-((0:Nat):Int)=n by omega]
     cases items bs.length n b3<;>rfl
   clear s hy3
   intro e H10 hIv
   obtain⟨e4,e6,e7,e8,e9,i,v,pv,b,bad,ds,o,cs,e10,hdl,s,hv,hG,hL,f1,f2⟩:=(hIv:I1 (e 4) (e 6) (e 7) (e 8) (e 9) (e 10) H10)
   have hmu:μ1 (e 4) (e 6) (e 7) (e 8) (e 9) (e 10) H10=(n-(i:Int)).toNat:=by rw[e10]
   show AB (.bin .lss (.cst (e 10)) (.cst (e 9))) _
   rw[e4,e6,e7,e8,e9,e10]
   obtain⟨p,hp1,hp2⟩:=hG.QI hL
   have hp:∃p,FZ (o++Lr) pv p/\LR AR ds p/\∀k,Sc k p:=⟨p,hp1.mono (by simp),UU (mV hp2),hp2.sc⟩
   have ex:¬((i:Int)<n/\bad=false)->J (.ptr r4 0) (.ptr rb 0) (.ptr ro 0) (iv n) H10:=fun hx=>by
    refine hJ v pv b bad (o++Lr) ds H10 s hv hp hL.cell f1 fun hb=>?_
    obtain⟨h0,h1,_,h3⟩:=f2 hb
    have hE:=(r2' h0).1
    rcases h3 with⟨h3,_⟩ | ⟨h3,h4,f,h5,h6⟩
    ·rw[if_pos h3]at hE
     exact⟨fun _=>hE,fun h=>by omega⟩
    ·have hin:¬(i:Int)<n:=fun h=>hx ⟨h,hb⟩
     have h7:items f (n-(i:Int)) b=some ([],b):=by cases f<;>(unfold items;rw[if_pos (by omega)])
     rw[h7]at h6
     rw[if_neg (by omega),h6]at hE
     refine⟨fun h=>?_,fun _ h=>?_⟩
     ·rcases h with h | h
      ·omega
      ·cases b with
       | nil=>exact absurd rfl h
       | cons x l=>exact hE
     ·subst h
      simpa using hE
   refine Dk (fun hlt=>?_) (fun hlt=>jV (AA (v:=.bool false) rfl (BS (ex fun h=>hlt h.1))))
   refine TE (AA (v:=.ptr rb 0) rfl (AA (v:=.ptr rb 1) rfl (s.ld (o:=1) (.head _) rfl (RM ?_))))
   cases bad with
   | true=>exact AA (v:=.bool false) rfl (BS (ex fun h=>by cases h.2))
   | false=>
   refine AA (v:=.bool true) rfl (Cw ?_)
   obtain⟨h0,hdi,hbl,h3⟩:=f2 rfl
   obtain⟨hn0,hin,f,hbf,hit⟩:0<=n/\(i:Int)<=n/\∃f,b.length<=f/\items bs.length n b3=(items f (n-(i:Int)) b).map fun p=>(ds++p.1,p.2):=by
    rcases h3 with⟨h3,_⟩ | h3
    ·omega
    ·exact h3
   have hE:=(r2' h0).1
   rw[if_neg (by omega)]at hE
   have hno:items f (n-(i:Int)) b=none->FX bs=none:=fun h=>by rw[h]at hit;rw[hit]at hE;exact hE
   obtain⟨t1,t2⟩:=WC hlt hbf
   obtain⟨k,b',bd,hr,hb',x1,x2⟩:∃k b' bd,FI b false=(k,b',bd)/\b'.length<=b.length/\((k<0\/(b'.length:Int)<k)->FX bs=none)/\(0<=k->k<=(b'.length:Int)->(bd=true->FX bs=none)/\((∀d,AR.dec (b'.take k.toNat)≠.ok d [])->FX bs=none) /\
     (∀d,bd=false->AR.dec (b'.take k.toNat)=.ok d []->b'.length+8=b.length/\∃f',(b'.drop k.toNat).length<=f'/\items bs.length n b3=(items f' (n-((i:Int)+1)) (b'.drop k.toNat)).map fun p=>((ds++[d])++p.1,p.2))):=by
    by_cases h8:b.length<8
    ·have hz:=hno (t1 h8)
     exact⟨0,b,true,by unfold FI;rw[if_pos h8],Nat.le_refl _,fun _=>hz,fun _ _=>⟨fun _=>hz,fun _=>hz,fun d h=>by cases h⟩⟩
    ·obtain⟨u1,u2⟩:=t2 (by omega)
     refine⟨wI (b.take 8),b.drop 8,false,by unfold FI;rw[if_neg h8],by rw[List.length_drop];omega,fun h=>hno (u1 h),fun a1 a2=>?_⟩
     obtain⟨f',g1,g2,g3⟩:=u2 a1 a2
     refine⟨fun h=>(by cases h),fun h=>hno (g3 h),fun d _ hd=>⟨by rw[CK];omega,f',g1,?_⟩⟩
     rw[hit,g2 d hd]
     cases items f' (n-((i:Int)+1)) ((b.drop 8).drop (wI (b.take 8)).toNat)<;>simp
   clear t1 t2 hno h3 f1 f2 hit ex
   show AG prog 22 [.ptr rb 0] H10 _ _
   refine Wt s hv fun v' H11 hv' s=>?_
   rw[hr]at hv' s ⊢
   simp only at hv' s ⊢
   refine Dk (b:=0) (fun hk0=>?_) (fun hk0=>?_)
   ·refine TF (AA (v:=.bool true) rfl (Cw (AA (v:=.ptr rb 0) rfl (AA (v:=.ptr rb 1) rfl ?_))))
    exact s.put (vs:=[.bool true]) rfl rfl (by show 1+1<=2;omega) fun H12 s=>hJ v' pv b' true (o++Lr) ds H12 s hv' hp hL.cell (fun _=>x1 (.inl hk0)) (fun h=>by cases h)
   refine QE (AA (v:=.ptr rb 0) rfl (AA (v:=.ptr rb 0) rfl (s.ld (o:=0) (.head _) rfl (hv'.len (Xz (fun hgt=>?_) (fun hgt=>?_))))))
   ·refine AA (v:=.bool true) rfl (Cw (AA (v:=.ptr rb 0) rfl (AA (v:=.ptr rb 1) rfl ?_)))
    exact s.put (vs:=[.bool true]) rfl rfl (by show 1+1<=2;omega) fun H12 s=>hJ v' pv b' true (o++Lr) ds H12 s hv' hp hL.cell (fun _=>x1 (.inr hgt)) (fun h=>by cases h)
   refine AA (v:=.bool false) rfl (BS ?_)
   obtain⟨z1,z2,z3⟩:=x2 (by omega) (by omega)
   obtain⟨m,rfl⟩:∃m:Nat,k=(m:Int):=⟨k.toNat,by omega⟩
   rw[Cp]at z2 z3
   have hm:m<=b'.length:=by omega
   refine AA (v:=.ptr rb 0) rfl (AA (v:=.ptr rb 0) rfl (s.ld (o:=0) (.head _) rfl (hv'.hi (k:=m) hm fun w hw=>?_)))
   refine lW s hw (by rw[BI];omega) fun x en d H12 s hrc hsc hone hen=>?_
   refine AA (v:=x) rfl (AA (v:=iv en) rfl (AA (v:=.ptr rb 0) rfl (AA (v:=.ptr rb 1) rfl (s.ld (o:=1) (.head _) rfl ?_))))
   refine oN (fun J=>∀x y,(bd=false->y=.bool (decide (en≠0)))->J x y H12) ?_ ?_ ?_
   ·intro x' y' hy'
    have hpk:AI (.pick (.cst (.bool bd)) (.cst (.bool true)) (.cst y')) emp=some (.bool (bd||decide (en≠0))):=by
     cases bd with
     | true=>cases y'<;>rfl
     | false=>rw[hy' rfl];rfl
    refine AA hpk ?_
    clear hpk hy' x' y'
    have hbe:((bd||decide (en≠0))=true->FX bs=none)/\((bd||decide (en≠0))=false->bd=false/\AR.dec (b'.take m)=.ok d []):=by
     rcases hen with⟨h1,h2⟩ | ⟨h1,h2⟩
     ·subst h1
      cases bd with
      | true=>exact⟨fun _=>z1 rfl,fun h=>by cases h⟩
      | false=>exact⟨fun h=>by simp at h,fun _=>⟨rfl,h2⟩⟩
     ·rw[decide_eq_true h1,Bool.or_true]
      exact⟨fun _=>z2 h2,fun h=>by cases h⟩
    generalize (bd||decide (en≠0))=be at hbe
    refine AA (v:=.ptr rb 0) rfl (AA (v:=.ptr rb 1) rfl ?_)
    refine s.put (vs:=[.bool be]) rfl rfl (by show 1+1<=2;omega) fun H13 s=>?_
    have s:BO H ((rb,[v',.bool be])::(ro,[iv A,iv B,pv])::(r4,[I 0,I 0,.nils])::(o++Lr)) H13:=s
    refine AA (v:=.ptr rb 0) rfl (AA (v:=.ptr rb 0) rfl (s.ld (o:=0) (.head _) rfl (hv'.lo (k:=m) hm fun w2 hw2=>?_)))
    refine AA (v:=.ptr rb 0) rfl (AA (v:=.ptr rb 0) rfl ?_)
    refine s.put (vs:=[w2]) hw2.one rfl (by show 0+1<=2;omega) fun H14 s=>?_
    have s:BO H ((rb,[w2,.bool be])::(ro,[iv A,iv B,pv])::(r4,[I 0,I 0,.nils])::(o++Lr)) H14:=s
    refine AA (v:=.ptr ro 2) rfl (s.ld (o:=2) (.tail _ (.head _)) rfl ?_)
    have s2:=BO.gq (A:=[(rb,[w2,.bool be]),(ro,[iv A,iv B,pv]),(r4,[I 0,I 0,.nils])]) (o:=o) (B:=Lr) s
    refine s2.app hL hG.n hone rfl rfl (by omega) (by omega) fun o' pv' H15 s3 hL'=>?_
    have s4:BO H ((rb,[w2,.bool be])::(ro,[iv A,iv B,pv])::(r4,[I 0,I 0,.nils])::(o'++Lr)) H15:=BO.gq (A:=o') (o:=[(rb,[w2,.bool be]),(ro,[iv A,iv B,pv]),(r4,[I 0,I 0,.nils])]) (B:=Lr) s3
    refine AA (v:=.ptr ro 2) rfl (BO.Sq (A:=[(rb,[w2,.bool be])]) (vs:=[pv']) s4 hL'.cell rfl (by show 2+1<=3;omega) fun H16 s5=>?_)
    have hlen:(ds++[d]).length=ds.length+1:=by simp
    refine Dg (b:=1) ⟨by omega,by omega⟩ ⟨⟨rfl,rfl,rfl,rfl,rfl,i+1,w2,pv',b'.drop m,be,ds++[d],o',cs++[x],rfl,by omega,s5,hw2,hG.tT hsc hrc,by rw[hlen];exact hL',hbe.1,fun hf=>?_⟩,?_⟩
    ·obtain⟨hf1,hf2⟩:=hbe.2 hf
     obtain⟨y1,f',y2,y3⟩:=z3 d hf1 hf2
     refine⟨h0,by omega,by rw[CK];omega,.inr ⟨hn0,by omega,f',y2,?_⟩⟩
     rw[show n-((i+1:Nat):Int)=n-((i:Int)+1)by omega]
     exact y3
    ·show _<μ1 (e 4) (e 6) (e 7) (e 8) (e 9) (e 10) H10
     rw[hmu]
     show(n-((i:Int)+1)).toNat<_
     omega
   ·intro hb1 J hJ2
    refine cZ (b:=0) (fun h=>hJ2 _ _ fun _=>by rw[decide_eq_true h]) (fun h=>hJ2 _ _ fun _=>by rw[decide_eq_false (fun h'=>h' h)])
   ·intro hb1 J hJ2
    exact hJ2 _ _ fun h=>absurd h hb1
 ·rw[decide_eq_false he]
  refine Cw ?_
  refine AA (v:=.agg [iv 0,iv 0,.nils]) rfl (s.Gk (vs:=[iv 0,iv 0,.nils]) rfl rfl fun H4 s=>s.Hc (.head _) rfl ?_)
  exact s.U3 (fun k=>.tup (.cons (.agg (.cons (.int _ _) (.cons (.int _ _) (.cons .nils .nil)))) (.cons (.int _ _) .nil))) (q1 he)
end
end Go.Proofs.YtlmkmpomgdbjhaaGreatDoor
namespace Go.AL
section
open Sha Go.AL.Co
variable [BX]
theorem YN {A B:Int}{l:List AR.D}{d:AR.D}(h:d∈l):(AR.enc d).length<=(Df A B l).length:=by
 have h2:(AR.enc d).length<=(l.flatMap fun d=>CD ((AR.enc d).length:Int)++AR.enc d).length:=by
  induction l with
  | nil=>cases h
  | cons e l ih=>
   rw[D2,Aa,Aa]
   cases h with
   | head=>omega
   | tail _ h=>have:=ih h;omega
 unfold Df
 rw[Aa]
 omega
theorem XI {A B:Int}{l:List AR.D}:l.length<=(Df A B l).length:=by
 have h:∀l:List AR.D,l.length<=(l.flatMap fun d=>CD ((AR.enc d).length:Int)++AR.enc d).length:=fun l=>by
  induction l with
  | nil=>simp
  | cons d l ih=>rw[D2,Aa,Aa,Cg,BV];omega
 have:=h l
 unfold Df
 rw[Aa]
 omega
end
end Go.AL
namespace Go.Proofs.YtlmkmpomgdbjhaaGreatDoor
open Tryz
section
open Go Go.AL Go.AL.Sha Go.AL.Co
variable [BX]
set_option maxHeartbeats 2000000 in
theorem C4L [Bp] {H:AH}{key hid:List UInt8}{A B:Int}{pv:AV}{l:List AR.D}(hS:∀H:AH,H.gl=BX.G->CP prog 6 [] H fun x=>x=.bool true) (hg:H.gl=BX.G) (hk:key.length=32) (hh:hid.length=32) (hP:LR AR l pv)
  (hpc:∀k,Sc k pv) (hw:∀d∈l,AR.wf d) (hA:GZ A) (hB:GZ B) (hl:(Df A B l).length<68719400000):CP prog 4 [.agg (key.map bv),.agg [iv A,iv B,pv],.agg (hid.map bv)] H fun x=>x=.bool true:=CP.of <| by
 refine T4 ?_
 unfold G4
 refine(BO.start H).box (c:=key.map bv) rfl fun q3 H1 s=>s.box (c:=[iv A,iv B,pv]) rfl fun q4 H2 s=>s.box (c:=hid.map bv) rfl fun q5 H3 s=>?_
 refine I8 (hS _ (s.k.gl.trans hg)) fun x hx=>?_
 subst hx
 refine s.Hc (.tail _ (.tail _ (.head _))) (by rw[BR,hk]) (s.Hc (.tail _ (.head _)) rfl (s.Hc (.head _) (by rw[BR,hh]) ?_))
 refine I8 (mD (s.k.gl.trans hg) hk hh hP hw hl) fun x hx=>?_
 obtain⟨y,hy,rfl⟩:=hx
 have hop:=YW (A:=A) (B:=B) (l:=l) hA hB ⟨by omega,by have:=XI (A:=A) (B:=B) (l:=l);omega⟩ fun d hd=>⟨hw d hd,by omega,by have:=YN (A:=A) (B:=B) hd;omega⟩
 have hnl:=XI (A:=A) (B:=B) (l:=l)
 generalize Df A B l=bs at hl hnl hy hop ⊢
 obtain⟨sg,hsg⟩:∃sg,sg=keyed hid (key++bs):=⟨_,rfl⟩
 have hsl:sg.length=32:=by rw[hsg];rfl
 rw[<- hsg]
 have hcl:(key.map bv++y::sg.map bv).length=65:=by simp[hk,hsl]
 refine s.alloc fun q11 H4 s=>s.Gk (vs:=key.map bv++y::sg.map bv) hcl rfl fun H5 s=>?_
 refine s.Hc (.head _) hcl (s.Hc (.tail _ (.head _)) (by rw[BR,hh]) ?_)
 refine I8 (mq (s.k.gl.trans hg) hk hsl hh hy hl) fun x hx=>?_
 unfold Mg at hx
 rw[if_pos hsg,hop]at hx
 obtain⟨p,rfl,hp,hps⟩:=hx
 refine AA (v:=.agg [iv A,iv B,p]) rfl (AA (v:=iv 0) rfl ?_)
 refine s.alloc fun xE H6 s=>s.Gk (vs:=[iv A,iv B,p]) rfl rfl fun H7 s=>?_
 refine TE (mA (a:=0) (b:=0) rfl (AA (v:=.bool true) rfl ?_))
 refine TE (AA (v:=.ptr q11 0) rfl ?_)
 refine s.sy (d:=key.map bv) (.tail _ (.head _)) (by rw[B_];exact Ge (by simp[hk])) (by rw[hcl];omega) ?_
 refine s.Hc (.tail _ (.tail _ (.tail _ (.tail _ (.head _))))) (by rw[BR,hk]) ?_
 refine AA (v:=.bool true) ((cI hk hk false).trans (by simp)) (AA (v:=.bool true) rfl (TE ?_))
 refine s.Hc (.tail _ (.tail _ (.tail _ (.head _)))) rfl ?_
 refine s.bs (out:=[iv A,iv B,pv]) rfl fun xD H8 s=>?_
 refine s.Hc (.tail _ (.head _)) rfl ?_
 refine s.bs (out:=[iv A,iv B,p]) rfl fun q34 H9 s=>?_
 refine I8 (CP.eZ (R:=.bool true) (al':=[.sim [iv A,iv B,pv] 1 true,.sim [iv A,iv B,p] 1 true]) (fun H' _=>Vn hP hp hw (by omega)) (.bool _) ?_ ?_ (s.k.gl.trans hg)) fun x hx=>?_
 ·exact .cons (.sim (.cons (.int _ _) (.cons (.int _ _) (.cons (hpc _) .nil)))) (.cons (.sim (.cons (.int _ _) (.cons (.int _ _) (.cons (hps _) .nil)))) .nil)
 ·exact .cons (Eb.row trivial (s.at_ (.tail _ (.head _))) (Ev _) (fun h=>by cases h) (fun _=>rfl)) (.cons (Eb.row trivial (s.at_ (.head _)) (Ev _) (fun h=>by cases h) (fun _=>rfl)) .nil)
 subst hx
 refine AA (v:=.bool true) rfl ?_
 exact s.U3 (fun _=>.bool _) rfl
end
end Go.Proofs.YtlmkmpomgdbjhaaGreatDoor
namespace Go.Proofs.YtlmkmpomgdbjhaaGreatDoor.San
open Tryz
section
open Go Go.AL
theorem sr:prog.follows .mixedOrders=true:=by kernel_rfl
variable [BX]
def rk:Hints:=[(2,[(0,0,[],false),(1,1,[],false),(2,0,[],false),(3,4,[],false),(4,12,[],false),(5,28,[],false),(6,63,[],false),(7,127,[],true),(8,255,[],true)])]
theorem A72:∀all H,all.length=3->FW prog 72 all none H fun H'=>H'=H:=by
 intro all H hall
 obtain⟨ac,hac⟩:=FA.1 (show(f72.body.bind (comp prog rk 18)).isSome=true by kernel_rfl)
 have e:Ea prog f72 rk 18=ac:=by unfold Ea;rw[hac]
 have hsh:Ea prog f72 rk 18=.seq (.reg [⟨some 6,.recover,none⟩,⟨some 7,.tass 201 (.agg [.nils,.nils]) (.tmp 6),none⟩,⟨some 5,.move (.tmp 7),none⟩,⟨some 8,.extract 0 (.tmp 5),none⟩,⟨some 9,.extract 1 (.tmp 5),none⟩,⟨some 3,.alloc [.nils,.nils],none⟩,⟨none,.store 2 (.tmp 3) (.tmp 8),none⟩,⟨some 4,.move (.tmp 9),none⟩])
   (.seq (.reg [⟨some 10,.move (.tmp 4),none⟩]) (.cond (.tmp 10) (xO (OW (OW (Ea prog f72 rk 18)))) .skip)):=by kernel_rfl
 rw[e]at hsh
 obtain⟨c,hc,hcc⟩:=C7.1 hac
 rw[hsh]at hcc
 refine FW.scope (post:=fun H'=>H'=(H.push (.cells [.nils,.nils])).set H.next (.cells [.nils,.nils])) (ZF (e1:=((((((((CI all).set 6 .nili).set 7 (.tup [.agg [.nils,.nils],.bool false])).set 5 (.tup [.agg [.nils,.nils],.bool false])).set 8 (.agg [.nils,.nils])).set 9 (.bool false)).set 3 (.ptr H.next 0)).set 4 (.bool false))) (H1:=(H.push (.cells [.nils,.nils])).set H.next (.cells [.nils,.nils])) sr func72 (by
   have h:(f72.name=="runtime.NumGoroutine")=false:=by kernel_rfl
   simpa using h) hc (by rw[show f72.ntmps=18 from by kernel_rfl];decide) (by rw[show f72.ntmps=18 from by kernel_rfl];omega) (by rw[show f72.ntmps=18 from by kernel_rfl];exact hcc) (by kernel_rfl) ?_ ?_) fun H' h r hr=>?_
 · have hp:(H.push (.cells [.nils,.nils])).cells? H.next=some [.nils,.nils]:=by simp[AH.cells?,AH.push]
   simp[ZB,A2,AI,AZ,BL,AF.ev,Env.put,Env.AM,M8,hp,AV.cellsOf,AV.oV,As]
 · refine Dw ?_
   refine dV (v:=(.bool false,(H.push (.cells [.nils,.nils])).set H.next (.cells [.nils,.nils]))) (by simp[A2,AI,AF.ev,Env.AM]) rfl ?_
   refine Tt (Vg (Jz (t:=false) (by simp[AF.ev,Env.put,Env.AM]) (fun h=>by cases h) (fun _=>LX ?_)))
   exact⟨by simp[Env.put,Env.AM,CI,AN],rfl⟩
 · subst h
   have hne:r≠H.next:=by omega
   rw[AH.Ej _ _ hne,AH.Ae _ _ hne]
end
end Go.Proofs.YtlmkmpomgdbjhaaGreatDoor.San
