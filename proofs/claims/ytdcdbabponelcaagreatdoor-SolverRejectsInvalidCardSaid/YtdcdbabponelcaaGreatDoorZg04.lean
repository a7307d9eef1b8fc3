import Derived.Test.YtdcdbabponelcaaGreatDoorZg03
import Derived.Test.YtdcdbabponelcaaGreatDoorZe07
import Derived.Test.YtdcdbabponelcaaGreatDoorZf02
/-
  the law gives back true on abstract arguments.
-/
set_option linter.unusedSectionVars false
set_option linter.unusedVariables false
set_option linter.unusedSimpArgs false
namespace Go.Proofs.YtdcdbabponelcaaGreatDoor
open Go Go.AL
open Go.Proofs.YtdcdbabponelcaaGreatDoor.San (tab_ok NB_ok)
variable [GLC]
theorem P5 [TabC] {H:AH}(hg:H.gl=GLC.G):CP Tryz.prog 5 [] H fun x=>x=.bool true:=by
 have h:=San.ET (San.CH_ok ok308 (fun H hg=>call328 hg 18446744073709551615 18446744047939747839 18446744073709551615 18446744073709551615 0 (.inl (by decide)) (by decide) (by decide) leastA)
  (fun H hg=>call328 hg 0 25769803776 0 0 97 (.inr (by decide)) (by decide) (by decide) leastB))
 exact CP.row (ACall.frameF h .nil (.pln (by constructor)) (fun r=>by rw[toAH_get];rfl) (by rw[hg];rfl)) rfl
def atW:List AV:=[I 2,.sim [I 0,N .u8 0] 1 true,.sim [.int .i64 (-1),N .u8 97] 1 false,.nils,.nils,.nils,.nils,I 0,.nils,.nils,.nils,.nils,I 0,I 0,I 0,I 0,.bool false,I 0]
theorem x21:chkOwn [.str [97]] (.agg atW) (gcall San.tab San.NB 90 21 [.str [97]] KH.emp)=true:=by kernel_rfl
theorem C21 {H:AH}(hg:H.gl=GLC.G):CP Tryz.prog 21 [.str [97]] H fun x=>x=.agg atW:=CP.row (own_of_chk (gcall_ok tab_ok NB_ok 90) x21 H hg) rfl
theorem C39z {H:AH}:CP Tryz.prog 39 [.nils,.nils] H fun x=>x=.bool true:=by
 refine CP.of (T39 ?_)
 unfold G39
 try simp only[I_lit]
 refine y_pu_of (v:=iv 0) rfl (y_pu_of (v:=iv 0) rfl (f_neq rfl (if0_f ?_)))
 refine⟨fun a b c H'=>a=.nils∧b=.nils∧c=iv 0∧H'=H,fun _ _ _ _=>0,⟨rfl,rfl,rfl,rfl⟩,?_⟩
 intro e H1 hI
 obtain⟨e1,e2,e3,rfl⟩:=(hI:e 0=.nils∧e 1=.nils∧e 5=iv 0∧H1=H)
 show y_pu (.len (.cst (e 0))) _
 rw[e1,e2,e3]
 exact y_pu_of (v:=iv 0) rfl (f_lss (by decide) (if0_f (.same (fun k=>.bool _) rfl)))
theorem C16z {H:AH}:CP Tryz.prog 16 [.agg prZ,.agg prZ] H fun x=>x=.bool true:=by
 refine CP.of (T16 ?_)
 unfold G16
 try simp only[I_lit]
 refine(NSt.start H).box rfl fun q1 H1 s=>s.box rfl fun q2 H2 s=>?_
 have m1:(q1,prZ)∈[(q2,prZ),(q1,prZ)]:=.tail _ (.head _)
 have m2:(q2,prZ)∈[(q2,prZ),(q1,prZ)]:=.head _
 refine y_pu_of (v:=.ptr q1 0) rfl (s.ld (x:=.nils) m1 rfl (y_rd_of (v:=.str []) rfl ?_))
 refine y_pu_of (v:=.ptr q2 0) rfl (s.ld (x:=.nils) m2 rfl (y_rd_of (v:=.str []) rfl (y_pu_of (v:=.bool false) rfl (grp_ff ?_))))
 refine y_pu_of (v:=.ptr q1 1) rfl (s.ld (x:=.nils) m1 rfl (y_pu_of (v:=.ptr q2 1) rfl (s.ld (x:=.nils) m2 rfl (y_cp C39z fun x hx=>?_))))
 subst hx
 refine y_pu_of (v:=.bool false) rfl (y_pu_of rfl (grp_ff ?_))
 refine y_pu_of (v:=.ptr q1 2) rfl (s.ld (x:=.nils) m1 rfl (y_pu_of (v:=.ptr q2 2) rfl (s.ld (x:=.nils) m2 rfl (y_cp C39z fun x hx=>?_))))
 subst hx
 refine y_pu_of (v:=.bool false) rfl (y_pu_of rfl (grp_ff ?_))
 refine y_pu_of (v:=.ptr q1 3) rfl (s.ld (x:=.nils) m1 rfl (y_pu_of (v:=iv 0) rfl (y_pu_of (v:=.ptr q2 3) rfl (s.ld (x:=.nils) m2 rfl (y_pu_of (v:=iv 0) rfl (f_neq rfl (y_pu_of rfl (grp_ff ?_))))))))
 refine y_pu_of (v:=.ptr q1 4) rfl (s.ld (x:=.nils) m1 rfl (y_pu_of (v:=iv 0) rfl (y_pu_of (v:=.ptr q2 4) rfl (s.ld (x:=.nils) m2 rfl (y_pu_of (v:=iv 0) rfl (f_neq rfl (y_pu_of rfl (grp_ff ?_))))))))
 refine y_pu_of (v:=.ptr q1 5) rfl (s.ld (x:=.nils) m1 rfl (y_pu_of (v:=iv 0) rfl (y_pu_of (v:=.ptr q2 5) rfl (s.ld (x:=.nils) m2 rfl (y_pu_of (v:=iv 0) rfl (f_neq rfl (y_pu_of rfl (if0_f ?_))))))))
 refine⟨fun a b c H'=>a=.ptr q1 0∧b=.ptr q2 0∧c=iv 0∧H'=H2,fun _ _ _ _=>0,⟨rfl,rfl,rfl,rfl⟩,?_⟩
 intro e H3 hI
 obtain⟨e1,e2,e3,rfl⟩:=(hI:e 2=.ptr q1 0∧e 3=.ptr q2 0∧e 5=iv 0∧H3=H2)
 show y_pu (.fieldAddr 3 (.cst (e 2))) _
 rw[e1,e2,e3]
 refine y_pu_of (v:=.ptr q1 3) rfl (s.ld (x:=.nils) m1 rfl (y_pu_of (v:=iv 0) rfl (f_lss (by decide) (if0_f ?_))))
 refine⟨fun a b c H'=>a=.ptr q1 0∧b=.ptr q2 0∧c=iv 0∧H'=H3,fun _ _ _ _=>0,⟨rfl,rfl,rfl,rfl⟩,?_⟩
 intro e H4 hI
 obtain⟨e1,e2,e3,rfl⟩:=(hI:e 2=.ptr q1 0∧e 3=.ptr q2 0∧e 6=iv 0∧H4=H3)
 show y_pu (.fieldAddr 4 (.cst (e 2))) _
 rw[e1,e2,e3]
 refine y_pu_of (v:=.ptr q1 4) rfl (s.ld (x:=.nils) m1 rfl (y_pu_of (v:=iv 0) rfl (f_lss (by decide) (if0_f ?_))))
 refine⟨fun a b c H'=>a=.ptr q1 0∧b=.ptr q2 0∧c=iv 0∧H'=H4,fun _ _ _ _=>0,⟨rfl,rfl,rfl,rfl⟩,?_⟩
 intro e H5 hI
 obtain⟨e1,e2,e3,rfl⟩:=(hI:e 2=.ptr q1 0∧e 3=.ptr q2 0∧e 7=iv 0∧H5=H4)
 show y_pu (.fieldAddr 5 (.cst (e 2))) _
 rw[e1,e2,e3]
 exact y_pu_of (v:=.ptr q1 5) rfl (s.ld (x:=.nils) m1 rfl (y_pu_of (v:=iv 0) rfl (f_lss (by decide) (if0_f (s.finS (fun k=>.bool _) rfl)))))
structure ReE (k m:Nat) (T:Nat→Int) (M:Nat→Int) (c:List AV):Prop where
 ex:∃mo to li at_ fo,c=[alV,mo,to,li,at_,fo]∧FL 1 (fun i c=>c=[iv (M i)]) m mo∧FL 1 (fun i c=>c=[iv (T i)]) k to
theorem C20 {H:AH}(hg:H.gl=GLC.G){v:AV}{n k m:Nat}{f:Nat→List AV}{T:Nat→Int}{M:Nat→Nat→Int}{fuel:Int}(hv:FL 6 (fun i c=>c=f i) n v) (hn0:0<n) (hn:n≤2) (hkm:k+m≤100)
  (hV:∀i,i<n→∀H':AH,H'.gl=GLC.G→CP Tryz.prog 29 [.agg (f i)] H' fun x=>x=iv 0∨x=iv 1)
  (hE:(∃j,j<n∧∀H':AH,H'.gl=GLC.G→CP Tryz.prog 29 [.agg (f j)] H' fun x=>x=iv 1)∨((∀i,i<n→ReE k m T (M i) (f i))∧((∃i,i<n∧∃j,j<m∧M i j≠M 0 j)∨fuel<0∨1073741824<fuel))) :
  CP Tryz.prog 20 [v,iv fuel] H fun x=>x=.tup [.agg ouZ,iv 1]:=by
 refine CP.of (T20 ?_)
 unfold G20 G20_24 G20_34 G20_44 G20_47
 try simp only[I_lit]
 refine(NSt.start H).alloc fun q H1 s=>?_
 have s:NSt H [(q,ouZ)] H1:=s
 refine hv.len ?_
 let Bad:Nat→Prop:=fun j=>∀H':AH,H'.gl=GLC.G→CP Tryz.prog 29 [.agg (f j)] H' fun x=>x=iv 1
 let Iv:AV→AV→AV→AV→AV→AV→AH→Prop:=fun a b c d e g H'=>a=v∧b=iv fuel∧c=.ptr q 0∧d=v∧e=iv (n:Int)∧∃i:Nat,g=iv (i:Int)∧i≤n∧(∀j,j<i→¬Bad j)∧NSt H [(q,ouZ)] H'
 let μ:AV→AV→AV→AV→AV→AV→AH→Nat:=fun _ _ _ _ _ f _=>match f with
  | .int _ j=>(n-j).toNat
  | _=>0
 refine⟨Iv,μ,⟨rfl,rfl,rfl,rfl,rfl,0,rfl,by omega,fun j hj=>by omega,s⟩,?_⟩
 intro e H2 hI
 obtain⟨e1,e2,e3,e4,e5,i,e6,hi,hall,s⟩:=(hI:Iv (e 0) (e 1) (e 4) (e 16) (e 17) (e 18) H2)
 have hmu:μ (e 0) (e 1) (e 4) (e 16) (e 17) (e 18) H2=((n:Int)-(i:Int)).toNat:=by rw[e6]
 show y_pu (.bin .lss (.cst (e 18)) (.cst (e 17))) _
 rw[e1,e2,e3,e4,e5,e6]
 have ret1:∀{H':AH} {L:List (Nat × List AV)},NSt H ((q,ouZ)::L) H'→y_pu (.build ((iv 0)::(rpl 4 .nils ((iv 0)::[]))) []) fun v20=>y_ef (.store 6 (.cst (.ptr q 0)) (.cst v20)) H' fun _ h21=>y_rd (.load (some 6) (.cst (.ptr q 0))) h21 fun v22=>MP H (fun x=>x=.tup [.agg ouZ,iv 1]) (.ret (.tup [v22,iv 1])) h21:=fun s=>
  y_pu_of (v:=.agg ouZ) rfl (s.putA rfl rfl fun H3 s=>s.ldA (c:=ouZ) (.head _) rfl (s.finS (fun k=>.tup (.cons (.agg (ouZ_sc k)) (.cons (.int _ _) .nil))) rfl))
 refine c_lss (fun hlt=>if0_t ?_) (fun hlt=>if0_f ?_)
 ·refine hv.atA (by omega) fun c hcl _ hc=>?_
  subst hc
  refine s.alloc fun q2 H3 s=>s.putA hcl rfl fun H4 s=>s.ldA (.head _) hcl ?_
  have s':NSt H [(q,ouZ)] H4:=s.sub (List.sublist_cons_self _ _)
  by_cases hb:Bad i
  ·refine y_cp (hb H4 (s.k.gl.trans hg)) fun x hx=>?_
   subst hx
   exact t_neq (by decide) (if0_t (ret1 s'))
  ·refine y_cp (hV i (by omega) H4 (s.k.gl.trans hg)) fun x hx=>?_
   rcases hx with rfl | rfl
   ·refine f_neq rfl (if0_f (s_add ⟨by omega,by omega⟩ ⟨⟨rfl,rfl,rfl,rfl,rfl,i+1,rfl,by omega,fun j hj=>?_,s'⟩,?_⟩))
    ·by_cases e:j=i
     ·subst e;exact hb
     ·exact hall j (by omega)
    ·show _<μ (e 0) (e 1) (e 4) (e 16) (e 17) (e 18) H2
     rw[hmu]
     show((n:Int)-((i:Int)+1)).toNat<((n:Int)-(i:Int)).toNat
     omega
   ·exact t_neq (by decide) (if0_t (ret1 s'))
 have hin:i=n:=by omega
 subst hin
 obtain⟨hR,hD⟩:(∀j,j<i→ReE k m T (M j) (f j))∧((∃l,l<i∧∃j,j<m∧M l j≠M 0 j)∨fuel<0∨1073741824<fuel):=by
  rcases hE with⟨j,h1,h2⟩ | h
  ·exact absurd h2 (hall j h1)
  ·exact h
 refine hv.len ?_
 let I2:AV→AV→AV→AV→AV→AV→AH→Prop:=fun a b c d e g H'=>a=v∧b=iv fuel∧c=.ptr q 0∧d=v∧e=iv (i:Int)∧∃l:Nat,g=iv (l:Int)∧l≤i∧(∀j,j<l→∀p,p<m→M j p=M 0 p)∧NSt H [(q,ouZ)] H'
 let μ2:AV→AV→AV→AV→AV→AV→AH→Nat:=fun _ _ _ _ _ f _=>match f with
  | .int _ j=>(i-j).toNat
  | _=>0
 refine⟨I2,μ2,⟨rfl,rfl,rfl,rfl,rfl,0,rfl,by omega,fun j hj=>by omega,s⟩,?_⟩
 intro g H3 hI
 obtain⟨g1,g2,g3,g4,g5,l,g6,hl,hall2,s⟩:=(hI:I2 (g 0) (g 1) (g 4) (g 29) (g 30) (g 31) H3)
 have hmu2:μ2 (g 0) (g 1) (g 4) (g 29) (g 30) (g 31) H3=((i:Int)-(l:Int)).toNat:=by rw[g6]
 show y_pu (.bin .lss (.cst (g 31)) (.cst (g 30))) _
 rw[g1,g2,g3,g4,g5,g6]
 refine c_lss (fun hlt=>if0_t ?_) (fun hlt=>if0_f ?_)
 ·obtain⟨mo,to,li,at_,fo,hfl,hmo,hto⟩:=(hR l (by omega)).ex
  obtain⟨mo0,to0,li0,at0,fo0,hf0,hmo0,hto0⟩:=(hR 0 (by omega)).ex
  refine hv.atA (by omega) fun c hcl _ hc=>?_
  rw[hfl]at hc
  subst hc
  refine s.alloc fun q2 H4 s=>s.putA hcl rfl fun H5 s=>?_
  have hm:(q2,[alV,mo,to,li,at_,fo])∈[(q2,[alV,mo,to,li,at_,fo]),(q,ouZ)]:=.head _
  obtain⟨cs,c,a1,a2,a3,a4,a5,a6,a7⟩:=hv.at (i:=0) hn0
  rw[hf0]at a4
  subst a4
  have fld:∀(o:Nat) (x:AV),[alV,mo0,to0,li0,at0,fo0][o]?=some x→apure (.fieldAddr o (.cst (.pim cs (0*6)))) emp=some (.pim cs o)∧∀H':AH,aread (.load none (.cst (.pim cs o))) emp H'=some x:=fun o x hx=>by
   have:=a5 o x hx
   rw[Nat.zero_mul,Nat.zero_add]at this
   refine⟨by simp[apure,AOpd.ev,afaddr],fun H'=>by simpa[aread,aload,AOpd.ev,apart]using this⟩
  have f0:=fld 0 alV rfl
  have f1:=fld 1 mo0 rfl
  have f2:=fld 2 to0 rfl
  have s':NSt H [(q,ouZ)] H5:=s.sub (List.sublist_cons_self _ _)
  refine y_pu_of (v:=.ptr q2 0) rfl (s.ld (x:=alV) hm rfl ?_)
  refine y_pu_of a1 (y_pu_of f0.1 (y_rd_of (f0.2 _) ?_))
  refine y_cp C44 fun x hx=>?_
  subst hx
  refine y_pu_of (v:=.bool false) rfl (grp_ff ?_)
  refine y_pu_of (v:=.ptr q2 1) rfl (s.ld (x:=mo) hm rfl ?_)
  refine y_pu_of a1 (y_pu_of f1.1 (y_rd_of (f1.2 _) ?_))
  refine y_cp (C45 hmo hmo0 (by omega)) fun x hx=>?_
  obtain⟨t,rfl,ht⟩:=hx
  cases t with
  | true=>
   have hall':=ht.1 rfl
   refine y_pu_of (v:=.bool false) rfl (y_pu_of rfl (grp_ff ?_))
   refine y_pu_of (v:=.ptr q2 2) rfl (s.ld (x:=to) hm rfl ?_)
   refine y_pu_of a1 (y_pu_of f2.1 (y_rd_of (f2.2 _) ?_))
   refine y_cp (C45 hto hto0 (by omega)) fun x hx=>?_
   obtain⟨t2,rfl,ht2⟩:=hx
   have h2:t2=true:=ht2.2 fun _ _=>rfl
   subst h2
   refine y_pu_of (v:=.bool false) rfl (y_pu_of rfl (if0_f (s_add ⟨by omega,by omega⟩ ⟨⟨rfl,rfl,rfl,rfl,rfl,l+1,rfl,by omega,fun j hj=>?_,s'⟩,?_⟩)))
   ·by_cases e:j=l
    ·subst e;exact hall'
    ·exact hall2 j (by omega)
   ·show _<μ2 (g 0) (g 1) (g 4) (g 29) (g 30) (g 31) H3
    rw[hmu2]
    show((i:Int)-((l:Int)+1)).toNat<((i:Int)-(l:Int)).toNat
    omega
  | false=>exact y_pu_of (v:=.bool true) rfl (y_pu_of rfl (grp_ft (y_pu_of rfl (if0_t (ret1 s')))))
 ·have hf:fuel<0∨1073741824<fuel:=by
   rcases hD with⟨j,hj,p,hp,hne⟩ | h
   ·exact absurd (hall2 j (by omega) p hp) hne
   ·exact h
  refine c_lss (fun h=>grp_ft (y_pu_of rfl (if0_t (ret1 s)))) (fun h=>grp_ff (t_gtr (by omega) (y_pu_of rfl (if0_t (ret1 s)))))
end Go.Proofs.YtdcdbabponelcaaGreatDoor
namespace Go.Proofs.YtdcdbabponelcaaGreatDoor
open Go Go.AL
variable [GLC]
theorem fin97 {H H':AH}{q:Nat}{L:List (Nat × List AV)}(s:NSt H ((q,ouZ)::L) H') (a:AV) :
  G4_97 (.bool true) (MP H fun x=>x=.bool true) .nilp (.ptr q 0) (iv 7) (iv 7) (iv 7) (iv 7) (iv 1) a (.bool true) H':=by
 unfold G4_97 G4_101 G4_105 G4_109 G4_113 G4_117 G4_121
 try simp only[I_lit]
 refine y_pu_of rfl (grp_tt (t_eql rfl (y_pu_of rfl (grp_tt (t_eql rfl (y_pu_of rfl (grp_tt (t_eql rfl (y_pu_of rfl (grp_tt (t_eql rfl (y_pu_of rfl (grp_tt (t_eql rfl (y_pu_of rfl (grp_tt ?_))))))))))))))))
 refine y_pu_of (v:=.ptr q 0) rfl (s.ld (x:=iv 0) (.head _) rfl (t_eql rfl (y_pu_of rfl (grp_tt ?_))))
 refine y_cp C17n fun x hx=>?_
 subst hx
 refine y_pu_of (v:=.agg prZ) rfl (y_cp C16z fun x hx=>?_)
 subst hx
 exact y_pu_of rfl (s.finS (fun k=>.bool _) rfl)
theorem VPr.ree {sh:Nat}{c:List AV}(h:VPr sh c):ReE (sh / 2 % 2) (1+sh % 2) (fun _=>12) (fun i=>1+((sh / 4+i) % 3:Nat)) c:=by
 obtain⟨mo,to,li,at_,fo,nl,na,nf,rfl,h1,h2,_⟩:=h.ex
 exact⟨mo,to,li,at_,fo,rfl,h1,h2⟩
theorem two_fl {a b:List AV}(ha:a.length=6) (hb:b.length=6) (sa:∀k,Scs k a) (sb:∀k,Scs k b):FL 6 (fun i c=>c=if i=0 then a else b) 2 (.sim (a++b) 2 true):=⟨.inr ⟨[a,b],true,by simp,fun _=>rfl,rfl,fun i c hc=>by
 match i,hc with
 | 0,hc=>cases hc;exact⟨ha,sa,rfl⟩
 | 1,hc=>cases hc;exact⟨hb,sb,rfl⟩
 | i+2,hc=>simp at hc⟩⟩
theorem one_fl {a:List AV}(ha:a.length=6) (sa:∀k,Scs k a):FL 6 (fun _ c=>c=a) 1 (.sim a 1 true):=⟨.inr ⟨[a],true,by simp,fun _=>rfl,rfl,fun i c hc=>by
 match i,hc with
 | 0,hc=>cases hc;exact⟨ha,sa,rfl⟩
 | i+1,hc=>simp at hc⟩⟩
set_option maxHeartbeats 4000000 in
theorem C4 [TabC] {H:AH}(hg:H.gl=GLC.G){v:AV}{sh sp:UInt8}{f:Int}(hv:VRaw sh v):CP Tryz.prog 4 [v,iv f,bv sp] H fun x=>x=.bool true:=by
 have hv0:=hv
 obtain⟨lits,atoms,nodes,nl,na,nn,rfl,_,_,_⟩:=hv0
 refine CP.of (T4 ?_)
 unfold G4 G4_45 G4_49 G4_83
 try simp only[I_lit]
 have hg1:∀{H':AH} {L:List (Nat × List AV)},NSt H L H'→H'.gl=GLC.G:=fun s=>s.k.gl.trans hg
 refine(NSt.start H).box rfl fun q3 H1 s=>?_
 refine y_cp (P5 (hg1 s)) fun x hx=>?_
 subst hx
 refine s.ldA (.head _) rfl ?_
 refine y_cp (C19 (hg1 s) hv) fun x hx=>?_
 obtain⟨c1,rfl,hc1⟩:=hx
 refine s.alloc fun q7 H2 s=>s.putA hc1.len rfl fun H3 s=>?_
 refine s.ldA (c:=[bv sh,lits,atoms,nodes]) (.tail _ (.head _)) rfl ?_
 refine y_cp (C19 (hg1 s) hv) fun x hx=>?_
 obtain⟨c2,rfl,hc2⟩:=hx
 refine s.alloc fun q11 H4 s=>s.putA hc2.len rfl fun H5 s=>?_
 refine s.bs (out:=[N .u8 98,N .u8 97]) rfl fun qb H6 s=>s.mark (.head _) (by omega) ?_
 obtain⟨mo2,to2,li2,at2,fo2,hc2e,_⟩:=hc2.prq (nal:=2)
 obtain⟨mo3,to3,li3,at3,fo3,hc3e⟩:∃a b c d e,(0:Nat)=0∧a=mo2∧b=to2∧c=li2∧d=at2∧e=fo2:=⟨_,_,_,_,_,rfl,rfl,rfl,rfl,rfl,rfl⟩
 clear hc3e mo3 to3 li3 at3 fo3
 subst hc2e
 refine y_pu_of (v:=.ptr q11 0) rfl (s.putM (A:=[(qb,_)]) rfl rfl (Nat.le_of_ble_eq_true rfl) fun H7 s=>?_)
 have s:NSt H [(qb,[N .u8 98,N .u8 97]),(q11,[.sl qb 0 2 (.ex 2),mo2,to2,li2,at2,fo2]),(q7,c1),(q3,[bv sh,lits,atoms,nodes])] H7:=s
 refine s.ldA (c:=[bv sh,lits,atoms,nodes]) (.tail _ (.tail _ (.tail _ (.head _)))) rfl ?_
 refine y_cp (C19 (hg1 s) hv) fun x hx=>?_
 obtain⟨c3,rfl,hc3⟩:=hx
 refine s.alloc fun q19 H8 s=>s.putA hc3.len rfl fun H9 s=>?_
 obtain⟨mo3,to3,li3,at3,fo3,hc3e,hm3,ht3,_⟩:=hc3.prq (nal:=2)
 subst hc3e
 refine y_ef_of (v:=.sl H9.next 0 0 (.ex 0)) (H':=H9.push (.cells [])) (by simp[aeff,afill]) ?_
 have s:=s.push (o:=[])
 obtain⟨S,hS⟩:∃S,S=sh.toNat % 4:=⟨_,rfl⟩
 rw[←hS]at hc1 hc2 hc3 hm3 ht3
 generalize H9.push (.cells [])=H10 at s
 generalize H9.next=qe at s
 refine y_pu_of (v:=.ptr q19 1) rfl (s.ld (x:=mo3) (.tail _ (.head _)) rfl ?_)
 refine s.appE hm3 (by omega) (by omega) (by omega) fun css qm H11 hcss1 hcss2 s=>?_
 obtain⟨n,hn⟩:∃n,n=1+S % 2:=⟨_,rfl⟩
 obtain⟨k,hk⟩:∃k,k=S / 2 % 2:=⟨_,rfl⟩
 have hn0:0<n:=by omega
 have hn2:n≤2:=by omega
 have hk1:k≤1:=by omega
 obtain⟨c0,rest,rfl⟩:∃c0 rest,css=c0::rest:=by
  cases css with
  | nil=>simp only[List.length_nil]at hcss1;omega
  | cons a b=>exact⟨a,b,rfl⟩
 obtain⟨_,_,hc00⟩:=hcss2 0 c0 rfl
 obtain⟨M0,hM0⟩:∃M0:Int,M0=1+((S / 4+0) % 3:Nat):=⟨_,rfl⟩
 rw[←hM0]at hc00
 subst hc00
 have hM:1≤M0∧M0≤3:=by omega
 have s:NSt H ((qm,iv M0::rest.flatten)::(qe,[])::(q19,[alV,mo3,to3,li3,at3,fo3])::(qb,[N .u8 98,N .u8 97])::(q11,[.sl qb 0 2 (.ex 2),mo2,to2,li2,at2,fo2])::[(q7,c1),(q3,[bv sh,lits,atoms,nodes])]) H11:=s
 rw[←hn]at hcss1
 rw[←hn]
 refine y_pu_of (v:=.ptr q19 1) rfl (s.putM (A:=[(qm,_),(qe,_)]) rfl rfl (Nat.le_of_ble_eq_true rfl) fun H12 s=>?_)
 have s:NSt H ((qm,iv M0::rest.flatten)::(qe,[])::(q19,[alV,.sl qm 0 n (.op 1),to3,li3,at3,fo3])::(qb,[N .u8 98,N .u8 97])::(q11,[.sl qb 0 2 (.ex 2),mo2,to2,li2,at2,fo2])::[(q7,c1),(q3,[bv sh,lits,atoms,nodes])]) H12:=s
 refine y_pu_of (v:=.ptr q19 1) rfl (s.ld (x:=.sl qm 0 n (.op 1)) (.tail _ (.tail _ (.head _))) rfl ?_)
 refine y_pu_of (v:=.ptr q19 1) rfl (s.ld (x:=.sl qm 0 n (.op 1)) (.tail _ (.tail _ (.head _))) rfl ?_)
 have hix:apure (.indexAddrS 1 (.cst (.sl qm 0 n (.op 1))) (.cst (iv 0))) emp=some (.ptr qm 0):=by
  have:(0:Int)<(n:Int):=by omega
  simp[apure,AOpd.ev,aidxS,hn0]
 refine y_pu_of hix (s.ld (x:=iv M0) (.head _) rfl (s_add ⟨by omega,by omega⟩ ?_))
 refine y_pu_of hix (s.putM (A:=[]) rfl rfl (by simp) fun H13 s=>?_)
 have s:NSt H ([(qm,iv (M0+1)::rest.flatten),(qe,[]),(q19,[alV,.sl qm 0 n (.op 1),to3,li3,at3,fo3])]++(qb,[N .u8 98,N .u8 97])::(q11,[.sl qb 0 2 (.ex 2),mo2,to2,li2,at2,fo2])::[(q7,c1),(q3,[bv sh,lits,atoms,nodes])]) H13:=s
 refine s.ldA (c:=[.sl qb 0 2 (.ex 2),mo2,to2,li2,at2,fo2]) (.tail _ (.tail _ (.tail _ (.tail _ (.head _))))) rfl ?_
 have gb:H13.get qb=some (.cells [N .u8 98,N .u8 97]):=(s.l (qb,_) (by simp)).2.2
 have fb:FrzV H13 (fun r=>r=qb) (.sl qb 0 2 (.ex 2)) alB:=FrzV.row rfl gb (FrzVs.same _) (by decide) (fun _=>rfl)
 have fb6:FrzVs H13 (fun r=>r=qb) [.sl qb 0 2 (.ex 2),mo2,to2,li2,at2,fo2] [alB,mo2,to2,li2,at2,fo2]:=.cons fb (FrzVs.same _)
 refine s.callF2 (.cons (.agg fb6) .nil) fb6 (fun H' s'=>C7n (c:=[alB,mo2,to2,li2,at2,fo2]) rfl fun H'' hg''=>C29b (hg''.trans (hg1 s')) hc2) fun v H15 s hp=>?_
 subst hp
 refine y_pu_of rfl (y_pu_of rfl ?_)
 have s:NSt H [(qm,iv (M0+1)::rest.flatten),(qe,[]),(q19,[alV,.sl qm 0 n (.op 1),to3,li3,at3,fo3]),(q11,[alB,mo2,to2,li2,at2,fo2]),(q7,c1),(q3,[bv sh,lits,atoms,nodes])] H15:=s
 obtain⟨mo1,to1,li1,at1,fo1,hc1e,hm1,ht1,_⟩:=hc1.prq (nal:=2)
 subst hc1e
 refine s.ldA (c:=[alV,mo1,to1,li1,at1,fo1]) (.tail _ (.tail _ (.tail _ (.tail _ (.head _))))) rfl ?_
 obtain⟨d1,_,hd1⟩:=hc1.rs
 refine s.call (ok:=fun x _=>∃r,x=.tup [.ptr r 0,iv 0]) ((C7 (d:=d1) (fun H' hg'=>C29q (hg'.trans (hg1 s)) hc1) hd1).mono fun o H' h=>?_) fun x H16 s hx=>?_
 ·obtain⟨h1,r,ql,c',h2,_⟩:=h
  exact⟨h1,_,h2,r,rfl⟩
 obtain⟨r,rfl⟩:=hx
 refine y_pu_of rfl (y_pu_of rfl (f_neq rfl (grp_ff ?_)))
 refine y_pu_of (v:=.bool false) rfl (y_pu_of rfl (grp_ff (f_neq rfl (y_pu_of rfl (if0_f ?_)))))
 refine s.ldA (c:=[alV,mo1,to1,li1,at1,fo1]) (.tail _ (.tail _ (.tail _ (.tail _ (.head _))))) rfl ?_
 refine s.ldA (c:=[alB,mo2,to2,li2,at2,fo2]) (.tail _ (.tail _ (.tail _ (.head _)))) rfl ?_
 refine s.bs (out:=[alV,mo1,to1,li1,at1,fo1]++[alB,mo2,to2,li2,at2,fo2]) rfl fun qx H17 s=>?_
 have gx:=(s.l (qx,_) (.head _)).2.2
 have fx:FrzVs H17 (fun r=>r=qx) [.sl qx 0 2 (.ex 2),iv 9] [.sim ([alV,mo1,to1,li1,at1,fo1]++[alB,mo2,to2,li2,at2,fo2]) 2 true,iv 9]:=.cons (FrzV.row rfl gx (FrzVs.same _) (fun h=>by cases h) (fun _=>rfl)) (FrzVs.same _)
 have sc1:∀k,Scs k [alV,mo1,to1,li1,at1,fo1]:=hc1.sc
 have sc2:∀k,Scs k [alB,mo2,to2,li2,at2,fo2]:=fun k=>by
  cases hc2.sc k with
  | cons a b=>exact .cons (.sim (by repeat constructor)) b
 refine s.callF (A:=[]) fx (fun H' s'=>C20 (k:=0) (m:=0) (T:=fun _=>0) (M:=fun _ _=>0) (hg1 s') (two_fl rfl rfl sc1 sc2) (by decide) (by decide) (by decide) (fun i hi H' hg'=>?_) (.inl ⟨1,by decide,fun H' hg'=>C29b hg' hc2⟩)) fun v H18 s hp=>?_
 ·match i,hi with
  | 0,_=>exact(C29q hg' hc1).mono fun x h=>.inl h
  | 1,_=>exact(C29b hg' hc2).mono fun x h=>.inr h
 subst hp
 refine y_pu_of rfl (y_pu_of rfl (s.alloc fun qo H19 s=>s.putA (vs:=ouZ) rfl rfl fun H20 s=>?_))
 refine s.ldA (c:=[alV,mo1,to1,li1,at1,fo1]) (.tail _ (.tail _ (.tail _ (.tail _ (.tail _ (.head _)))))) rfl ?_
 refine s.ldA (c:=[alV,.sl qm 0 n (.op 1),to3,li3,at3,fo3]) (.tail _ (.tail _ (.tail _ (.head _)))) rfl ?_
 refine s.bs (out:=[alV,mo1,to1,li1,at1,fo1]++[alV,.sl qm 0 n (.op 1),to3,li3,at3,fo3]) rfl fun qy H21 s=>?_
 have gy:=(s.l (qy,_) (.head _)).2.2
 have gm:=(s.l (qm,iv (M0+1)::rest.flatten) (.tail _ (.tail _ (.head _)))).2.2
 obtain⟨moW,hmoW⟩:∃y,y=AV.sim (iv (M0+1)::rest.flatten) n false:=⟨_,rfl⟩
 have fm:FrzV H21 (fun r=>r=qy∨r=qm) (.sl qm 0 n (.op 1)) moW:=hmoW▸FrzV.row (.inr rfl) gm (FrzVs.same _) (by omega) (fun h=>by cases h)
 have fy:FrzVs H21 (fun r=>r=qy∨r=qm) [.sl qy 0 2 (.ex 2),iv 9] [.sim ([alV,mo1,to1,li1,at1,fo1]++[alV,moW,to3,li3,at3,fo3]) 2 true,iv 9]:=
  .cons (FrzV.row (.inl rfl) gy ((FrzVs.same _).appV (.cons (FrzV.same _) (.cons fm (FrzVs.same _)))) (fun h=>by cases h) (fun _=>rfl)) (FrzVs.same _)
 have flW:FL 1 (fun i c=>c=[iv (if i=0 then M0+1 else 1+((S / 4+i) % 3:Nat))]) n moW:=⟨.inr ⟨[iv (M0+1)]::rest,false,hmoW,fun h=>by omega,hcss1,fun i c hc=>by
  match i,hc with
  | 0,hc=>cases hc;exact⟨rfl,fun k=>.cons (.int _ _) .nil,rfl⟩
  | i+1,hc=>exact hcss2 (i+1) c hc⟩⟩
 have sc3:∀k,Scs k [alV,moW,to3,li3,at3,fo3]:=fun k=>by
  cases hc3.sc k with
  | cons a b=>cases b with
   | cons _ b=>exact .cons a (.cons (flW.sc k) b)
 refine s.callFF (A:=[(qo,ouZ)]) fy (fun H' s'=>C20 (k:=k) (m:=n) (T:=fun _=>12) (M:=fun i j=>if i=0 then 1+((S / 4+j) % 3:Nat)else if j=0 then M0+1 else 1+((S / 4+j) % 3:Nat)) (hg1 s') (two_fl rfl rfl sc1 sc3) (by decide) (by decide) (by omega) (fun i hi H' hg'=>?_) (.inr ⟨fun i hi=>?_,.inl ⟨1,by decide,0,hn0,?_⟩⟩)) fun v H22 s hp=>?_
 ·match i,hi with
  | 0,_=>exact(C29q hg' hc1).mono fun x h=>.inl h
  | 1,_=>exact C29w hg' hc3 (hn▸flW)
 ·subst hn hk
  match i,hi with
  | 0,_=>exact hc1.ree
  | 1,_=>exact⟨_,_,_,_,_,rfl,flW,ht3⟩
 ·show ¬(M0+1=1+((S / 4+0) % 3:Nat))
  omega
 subst hp
 refine y_pu_of rfl (y_pu_of rfl (s.alloc fun qo2 H23 s=>s.putA (vs:=ouZ) rfl rfl fun H24 s=>?_))
 refine y_cp C9n fun x hx=>?_
 subst hx
 refine y_cp C11n fun x hx=>?_
 subst hx
 refine y_pu_of rfl (s.bs rfl fun qt H25 s=>?_)
 refine y_cp (C21 (hg1 s)) fun x hx=>?_
 subst hx
 refine s.bs rfl fun qu H26 s=>?_
 refine y_cp C14n fun x hx=>?_
 subst hx
 refine s_byte (y_cp C22n fun x hx=>?_)
 subst hx
 refine y_pu_of rfl (y_pu_of rfl (s.alloc fun qz H27 s=>s.putA (vs:=ouZ) rfl rfl fun H28 s=>?_))
 have fin:∀{L:List (Nat × List AV)} {H':AH},NSt H ((qz,ouZ)::L) H'→y_pu (.bin .eql (.cst (iv 1)) (.cst (iv 1))) fun v98=>G4_97 (.bool true) (MP H fun x=>x=.bool true) .nilp (.ptr qz 0) (iv 7) (iv 7) (iv 7) (iv 7) (iv 1) (iv 1) v98 H':=fun s=>t_eql rfl (fin97 s _)
 refine c_lss (fun h=>grp_ft (y_pu_of (v:=.bool true) rfl (if_t ?_))) (fun h=>grp_ff (c_gtr (fun h2=>y_pu_of (v:=.bool true) rfl (if_t ?_)) (fun h2=>y_pu_of (v:=.bool false) rfl (if_f (grp_tt (fin s))))))
 all_goals
  have hf:f<0∨1073741824<f:=by omega
  refine y_cp (C22f hf) fun x hx=>?_
  subst hx
  refine y_pu_of rfl (y_pu_of rfl (s.alloc fun q91 H29 s=>s.putA (vs:=ouZ) rfl rfl fun H30 s=>?_))
  refine s.ldA (c:=[alV,mo1,to1,li1,at1,fo1]) (by simp) rfl ?_
  refine s.bs (out:=[alV,mo1,to1,li1,at1,fo1]) rfl fun q94 H31 s=>?_
  have g94:=(s.l (q94,_) (.head _)).2.2
  have f94:FrzVs H31 (fun r=>r=q94) [.sl q94 0 1 (.ex 1),iv f] [.sim [alV,mo1,to1,li1,at1,fo1] 1 true,iv f]:=.cons (FrzV.row rfl g94 (FrzVs.same _) (fun h=>by cases h) (fun _=>rfl)) (FrzVs.same _)
  refine s.callF (A:=[]) f94 (fun H' s'=>C20 (k:=S / 2 % 2) (m:=1+S % 2) (T:=fun _=>12) (M:=fun _ j=>1+((S / 4+j) % 3:Nat)) (hg1 s') (one_fl rfl sc1) (by decide) (by decide) (by omega) (fun i _ H' hg'=>(C29q hg' hc1).mono fun x h=>.inl h) (.inr ⟨fun i _=>hc1.ree,.inr hf⟩)) fun v H32 s hp=>?_
  subst hp
  refine y_pu_of rfl (y_pu_of rfl (s.alloc fun q98 H33 s=>s.putA (vs:=ouZ) rfl rfl fun H34 s=>?_))
  refine f_neq rfl (grp_ff (f_neq rfl (y_pu_of (v:=.bool false) rfl (if0_f (grp_tt (fin (s.sub (.cons _ (.cons _ (.refl _))))))))))
end Go.Proofs.YtdcdbabponelcaaGreatDoor
