import Derived.Test.YtdcdbabponelcaaGreatDoorZc01
import Derived.Test.YtdcdbabponelcaaGreatDoorZd02
import Derived.Test.YtdcdbabponelcaaGreatDoorZe03
import Derived.Test.YtdcdbabponelcaaGreatDoorZc02
/-
  what the reference makes.
-/
set_option linter.unusedSectionVars false
set_option linter.unusedVariables false
set_option linter.unusedSimpArgs false
namespace Go.Proofs.YtdcdbabponelcaaGreatDoor
open Go Go.AL Tryz
variable [BY]
theorem Yq {H:AH}{v:AV}{n i:Nat}(hv:FB n v):CP prog 57 [v,iv (i:Int)] H fun x=>∃b:Nat,b<256∧x=iv (b:Int):=by
 refine CP.of (tR ?_)
 unfold qo
 try simp only[BU]
 refine hv.len (BT (fun h=>Ai ?_) (fun _=>AZ ?_))
 ·refine hv.at (by omega) fun x=>JJ ?_
  have:=x.toNat_lt
  exact .same (fun k=>.int _ _) ⟨x.toNat,by omega,rfl⟩
 ·exact .same (fun k=>.int _ _) ⟨0,by omega,rfl⟩
theorem kF {H:AH}{v:AV}{n a b:Nat}(hv:FB n v) (hab:min a n≤min b n):CP prog 59 [v,iv (a:Int),iv (b:Int)] H fun x=>∃m,FB m x:=by
 refine CP.of (tP ?_)
 unfold qm
 try simp only[BU]
 refine hv.len (Yw (hv.len (Yw (hv.slice hab (Nat.min_le_right _ _) fun y hy=>?_))))
 exact .same hy.sc ⟨_,hy⟩
def gA (n:Nat):Nat→List AV→Prop:=fun _ c=>∃(x:Int) (b:UInt8),c=[iv x,bv b]∧-1≤x∧x<n∧(0≤x→b=0)
def MQ (n:Nat) (v:AV):Prop:=∃m,m≤3∧FL 2 (gA n) m v
theorem oc {H:AH}{v:AV}{n l:Nat}(hv:FB l v) (hn:n≤12):CP prog 58 [v,iv (n:Int),iv 3] H (MQ n):=by
 refine CP.of (tQ ?_)
 unfold qn
 try simp only[BU]
 refine(BE.start H).new fun o0 v3 H3 s hv3=>?_
 let Iv:AV→AV→AV→AV→AV→AH→Prop:=fun a b c d e H'=>a=v∧b=iv (n:Int)∧c=iv 3∧∃(i:Nat) (o:OL) (cs:List AV),e=iv (i:Int)∧i≤3∧BE H (o++[]) H'∧Lv 2 o i cs d∧GL [] 2 (gA n) i cs
 let μ:AV→AV→AV→AV→AV→AH→Nat:=fun _ _ _ _ e _=>match e with
  | .int _ j=>(3-j).toNat
  | _=>0
 refine⟨Iv,μ,⟨rfl,rfl,rfl,0,o0,[],rfl,by omega,s,hv3,.nil⟩,?_⟩
 intro e H1 hI
 obtain⟨e1,e2,e3,i,o,cs,e4,hi,s,hl,hg⟩:=(hI:Iv (e 0) (e 1) (e 2) (e 7) (e 8) H1)
 show AB (.len (.cst (e 0))) _
 rw[e1,e2,e3,e4]
 generalize e 7=w at hl
 have hmu:μ (e 0) (e 1) (e 2) (e 7) (e 8) H1=((3:Int)-(i:Int)).toNat:=by rw[e4]
 refine hv.len ?_
 have fin:MP H (MQ n) (.ret w) H1:=by
  obtain⟨y,hy1,hy2⟩:=hg.Gs hl
  exact s.fin hy1 ⟨i,hi,hy2⟩
 refine BT (fun h1=>Aj ?_) (fun h1=>Au ?_)
 ·refine BT (fun h2=>AA rfl (Ai ?_)) (fun h2=>AA rfl (AZ fin))
  refine hv.at (by omega) fun x=>JJ ?_
  have hx:=x.toNat_lt
  refine BA ⟨by omega,by omega⟩ (EY (by omega) (by omega) ?_)
  obtain⟨k,hk⟩:∃k:Nat,(x.toNat:Int) % ((n:Int)+2)=(k:Int):=⟨((x.toNat:Int) % ((n:Int)+2)).toNat,by
   have:=Int.emod_nonneg (x.toNat:Int) (b:=(n:Int)+2) (by omega);omega⟩
  have hk2:(k:Int)<n+2:=by rw[←hk];exact Int.emod_lt_of_pos _ (by omega)
  rw[hk]
  have next:∀(o':OL) (c:List AV) (v':AV) (H':AH),BE H (o'++[]) H'→Lv 2 o' (i+1) (cs++c) v'→GL [] 2 (gA n) (i+1) (cs++c)→Iv v (iv (n:Int)) (iv 3) v' (iv ((i:Int)+1)) H'∧μ v (iv (n:Int)) (iv 3) v' (iv ((i:Int)+1)) H'<μ (e 0) (e 1) (e 2) (e 7) (e 8) H1:=fun o' c v' H' s' hl' hg'=>by
   refine⟨⟨rfl,rfl,rfl,i+1,o',cs++c,rfl,by omega,s',hl',hg'⟩,?_⟩
   rw[hmu]
   show((3:Int)-((i:Int)+1)).toNat<((3:Int)-(i:Int)).toNat
   omega
  refine BT (fun h3=>CK ?_) (fun h3=>CL ?_)
  ·refine AA rfl ?_
   refine s.app hl hg.n rfl rfl rfl (by omega) (by omega) fun o' v' H' s' hl'=>?_
   refine BA ⟨by omega,by omega⟩ ?_
   exact next o' _ v' H' s' hl' (hg.Dw rfl (fun k=>.cons (.int _ _) (.cons (.int _ _) .nil)) ⟨k,0,rfl,by omega,by omega,fun _=>rfl⟩)
  ·refine BA ⟨by omega,by omega⟩ (D4 ⟨by omega,by omega⟩ ?_)
   have e9:(97:Int)+(k:Int)-(n:Int)=((97+k-n:Nat):Int):=by omega
   rw[e9]
   refine eJ (by omega) ?_
   refine AA rfl ?_
   refine s.app hl hg.n rfl rfl rfl (by omega) (by omega) fun o' v' H' s' hl'=>?_
   refine BA ⟨by omega,by omega⟩ ?_
   exact next o' _ v' H' s' hl' (hg.Dw rfl (fun k=>.cons (.int _ _) (.cons (.int _ _) .nil)) ⟨-1,_,rfl,by omega,by omega,fun h=>by omega⟩)
 ·exact AA rfl (AZ fin)
end Go.Proofs.YtdcdbabponelcaaGreatDoor
namespace Go.Proofs.YtdcdbabponelcaaGreatDoor
open Go Go.AL Tryz
variable [BY]
def Dz:List AV:=[N .u64 18446744073709551615,N .u64 18446744047939747839,N .u64 18446744073709551615,N .u64 18446744073709551615,N .u64 0,N .u64 8589934592,N .u64 0,N .u64 0,N .u64 0,N .u64 17179869184,N .u64 0,N .u64 0]
def SA (lo hi:Int):Nat→List AV→Prop:=fun _ c=>∃a:Int,c=[iv a]∧lo≤a∧a<hi
def O6:Nat→List AV→Prop:=fun _ c=>∃b,c=[.bool b]
def f_ (m:Nat):Nat→List AV→Prop:=fun _ c=>∃v,c=[v]∧FL 1 (SA 0 m) 3 v
def Ns (c:List AV):Prop:=∃m nx ac,1≤m∧m≤8∧c=[.sim Dz 3 true,nx,ac]∧FL 1 (f_ m) m nx∧FL 1 O6 m ac
def qP (H:AH) (q1 qc qd m s j:Nat) (row:AV) (H':AH):Prop:=∃(on oa R orow:OL) (cs1 cs2 cs3:List AV) (nx ac:AV),
 BE H ([(qd,[.sl qc 0 3 (.ex 3),nx,ac])]++(orow++(on++(oa++(R++[(qc,Dz),(q1,[.nils,.nils,.nils])]))))) H'∧Lv 1 on s cs1 nx∧GL R 1 (f_ m) s cs1∧Lv 1 oa (s+j / 4) cs2 ac∧GL [] 1 O6 (s+j / 4) cs2 ∧
 Lv 1 orow (min j 3) cs3 row∧GL [] 1 (SA 0 m) (min j 3) cs3
theorem vT {H:AH}{v:AV}{l:Nat}(hv:FB l v):CP prog 60 [v] H fun x=>∃c,x=.agg c∧Ns c:=by
 refine CP.of (tO ?_)
 unfold qk
 try simp only[BU]
 refine(BE.start H).alloc fun q1 H1 s=>?_
 refine hv.len (Yy ?_)
 refine Nb (fun J=>∀m:Nat,1≤m→m≤8→J v (.ptr q1 0) (iv (m:Int)) H1) (fun m hm1 hm8=>?_) (fun ht J hJ=>?_) (fun _ J hJ=>hJ 1 (by omega) (by omega))
 case refine_2=>
  have hl:0<l:=by have:=of_decide_eq_true ht;omega
  refine hv.at (i:=0) hl fun x=>?_
  have hx:=x.toNat_lt
  have h8:(x % 8).toNat=x.toNat % 8:=by simp
  refine AA (v:=bv (x % 8)) ?_ (JJ (BA ⟨by omega,by omega⟩ ?_))
  ·show(if IntKind.u8=IntKind.u8∧(Int.ofNat 8)≠0 then some (AV.int .u8 ((x.toNat:Int).tmod (Int.ofNat 8)))else none)=some (AV.int .u8 ((x % 8).toNat:Int))
   rw[if_pos ⟨rfl,by decide⟩,Int.tmod_eq_emod_of_nonneg (by omega)]
   have:(x % 8).toNat=x.toNat % 8:=by simp
   rw[this];rfl
  ·have:(x % 8).toNat=x.toNat % 8:=by simp
   have e:(1:Int)+((x % 8).toNat:Int)=((1+x.toNat % 8:Nat):Int):=by rw[this];omega
   rw[e]
   exact hJ _ (by omega) (by omega)
 refine AA rfl (s.alloc fun qa H2 s=>s.Cr rfl rfl fun H3 s=>?_)
 refine AA rfl (s.alloc fun qb H4 s=>s.Cr rfl rfl fun H5 s=>?_)
 refine AA rfl (s.B6 (A:=[(qb,_)]) rfl rfl (by decide) fun H6 s=>?_)
 refine AA rfl (s.B6 (A:=[]) rfl rfl (by decide) fun H7 s=>?_)
 refine AA rfl (s.ld (x:=N .u64 8589934592) (.tail _ (.head _)) rfl ?_)
 refine AA (v:=N .u64 18446744065119617023) (by kernel_rfl) ?_
 refine AA rfl (s.ld (x:=N .u64 17179869184) (.head _) rfl ?_)
 refine AA (v:=N .u64 18446744047939747839) (by kernel_rfl) ?_
 refine AA rfl ?_
 refine s.DN (c:=[N .u64 0,N .u64 8589934592,N .u64 0,N .u64 0]) (.tail _ (.head _)) rfl ?_
 refine s.DN (c:=[N .u64 0,N .u64 17179869184,N .u64 0,N .u64 0]) (.head _) rfl ?_
 refine s.bs (out:=Dz) (by kernel_rfl) fun qc H8 s=>?_
 refine AA rfl (s.alloc fun qd H9 s=>s.Cr rfl rfl fun H10 s=>?_)
 have s:BE H ([(qd,[.sl qc 0 3 (.ex 3),.nils,.nils])]++[(qc,Dz),(q1,[.nils,.nils,.nils])]) H10:=s.sub ((List.Sublist.refl _).cons_cons _ |>.trans (((((List.Sublist.refl _).cons _).cons _).cons_cons _).cons_cons _))
 let Iv:AV→AV→AV→AV→AV→AH→Prop:=fun a b c d e H'=>a=v∧b=.ptr q1 0∧c=iv (m:Int)∧d=.ptr qd 0∧∃k:Nat,e=iv (k:Int)∧k≤m∧qP H q1 qc qd m k 0 .nils H'
 let μ:AV→AV→AV→AV→AV→AH→Nat:=fun _ _ _ _ e _=>match e with
  | .int _ j=>(m-j).toNat
  | _=>0
 refine⟨Iv,μ,⟨rfl,rfl,rfl,rfl,0,rfl,by omega,[],[],[],[],[],[],[],.nils,.nils,s,.nil,.nil,.nil,.nil,.nil,.nil⟩,?_⟩
 intro e H1 hI
 obtain⟨e1,e2,e3,e4,k,e5,hk,hM⟩:=(hI:Iv (e 0) (e 2) (e 3) (e 6) (e 7) H1)
 show AB (.bin .lss (.cst (e 7)) (.cst (e 3))) _
 have hmu:μ (e 0) (e 2) (e 3) (e 6) (e 7) H1=((m:Int)-(k:Int)).toNat:=by rw[e5]
 rw[e1,e2,e3,e4,e5]
 refine BT (fun hlt=>Ai ?_) (fun hlt=>AZ ?_)
 ·obtain⟨on,oa,R,orow,cs1,cs2,cs3,nx,ac,s,q1',q2',q3',q4',q5',q6'⟩:=hM
  refine s.new fun o row H2 s hrow=>?_
  have s:=s.DP (A:=o) (o:=[(qd,[.sl qc 0 3 (.ex 3),nx,ac])])
  have hor:orow=[]:=by cases q5';rfl
  subst hor
  let Jv:AV→AV→AV→AV→AV→AV→AV→AH→Prop:=fun a b c d e f g H'=>a=v∧b=.ptr q1 0∧c=iv (m:Int)∧d=.ptr qd 0∧e=iv (k:Int)∧∃j:Nat,g=iv (j:Int)∧j≤4∧qP H q1 qc qd m k j f H'
  let ν:AV→AV→AV→AV→AV→AV→AV→AH→Nat:=fun _ _ _ _ _ _ g _=>match g with
   | .int _ j=>(4-j).toNat
   | _=>0
  refine⟨Jv,ν,⟨rfl,rfl,rfl,rfl,rfl,0,rfl,by omega,on,oa,R,o,cs1,cs2,[],nx,ac,s,q1',q2',q3',q4',hrow,.nil⟩,?_⟩
  intro f H3 hJ
  obtain⟨f1,f2,f3,f4,f5,j,f6,hj,on,oa,R,orow,cs1,cs2,cs3,nx,ac,s,g1,g2,g3,g4,g5,g6⟩:=(hJ:Jv (f 0) (f 2) (f 3) (f 6) (f 7) (f 8) (f 9) H3)
  show AB (.bin .lss (.cst (f 9)) (.cst (iv 4))) _
  have hnu:ν (f 0) (f 2) (f 3) (f 6) (f 7) (f 8) (f 9) H3=((4:Int)-(j:Int)).toNat:=by rw[f6]
  rw[f1,f2,f3,f4,f5,f6]
  generalize f 8=row at g5
  refine BT (fun hj4=>Ai ?_) (fun hj4=>AZ ?_)
  ·refine Yv ⟨by omega,by omega⟩ (BA ⟨by omega,by omega⟩ (BA ⟨by omega,by omega⟩ (hv.len (Ma ?_))))
   refine Nb (fun J=>∀b:Nat,b<256→J v (.ptr q1 0) (iv (m:Int)) (.ptr qd 0) (iv (k:Int)) row (iv (j:Int)) (iv (b:Int)) H3) (fun b hb=>?_) (fun ht J hJ=>?_) (fun _ J hJ=>hJ 0 (by omega))
   case refine_2=>
    have ht:=of_decide_eq_true ht
    refine Yv ⟨by omega,by omega⟩ (BA ⟨by omega,by omega⟩ (BA ⟨by omega,by omega⟩ ?_))
    have e9:(1:Int)+4*(k:Int)+(j:Int)=((1+4*k+j:Nat):Int):=by omega
    rw[e9]at ht ⊢
    refine hv.at (by omega) fun x=>JJ ?_
    have hx:=x.toNat_lt
    exact hJ _ (by omega)
   refine BT (fun h3=>CK ?_) (fun h3=>CL ?_)
   ·refine EY (by omega) (by omega) ?_
    have r1:0≤(b:Int) % (m:Int):=Int.emod_nonneg _ (by omega)
    have r2:(b:Int) % (m:Int)<m:=Int.emod_lt_of_pos _ (by omega)
    have e7:min (j+1) 3=min j 3+1:=by omega
    have e8:(j+1) / 4=j / 4:=by omega
    refine BE.app (k:=1) (L:=[(qd,[.sl qc 0 3 (.ex 3),nx,ac])]++(on++(oa++(R++[(qc,Dz),(q1,[.nils,.nils,.nils])])))) s.DP g5 g6.n rfl rfl rfl (by omega) (by omega) fun o' v' H4 s4 hl4=>?_
    refine BA ⟨by omega,by omega⟩ ⟨⟨rfl,rfl,rfl,rfl,rfl,j+1,rfl,by omega,on,oa,R,o',cs1,cs2,_,nx,ac,s4.DP,g1,g2,by rw[e8];exact g3,by rw[e8];exact g4,by rw[e7];exact hl4,by rw[e7];exact g6.Dw rfl (fun k=>.cons (.int _ _) .nil) ⟨_,rfl,r1,r2⟩⟩,?_⟩
    show _<ν (f 0) (f 2) (f 3) (f 6) (f 7) (f 8) (f 9) H3
    rw[hnu]
    show((4:Int)-((j:Int)+1)).toNat<((4:Int)-(j:Int)).toNat
    omega
   ·have hj3:j=3:=by omega
    subst hj3
    refine AA rfl (s.ld (x:=ac) (.head _) rfl ?_)
    refine EY (by omega) (by omega) (IV ?_)
    have g3:Lv 1 oa k cs2 ac:=g3
    have g4:GL [] 1 O6 k cs2:=g4
    have s5:BE H (oa++([(qd,[.sl qc 0 3 (.ex 3),nx,ac])]++(orow++(on++(R++[(qc,Dz),(q1,[.nils,.nils,.nils])]))))) H3:=s.perm ((List.perm_append_comm_assoc _ _ _).trans (.append_left _ ((List.perm_append_comm_assoc _ _ _).trans (.append_left _ (List.perm_append_comm_assoc _ _ _)))))
    refine s5.app (k:=1) g3 g4.n rfl rfl rfl (by omega) (by omega) fun o' v' H4 s4 hl4=>?_
    have s6:=s4.DP (A:=o') (o:=[(qd,_)])
    refine AA rfl (s6.B6 (A:=[]) hl4.cell rfl (nb rfl) fun H5 s7=>?_)
    have s7:BE H ([(qd,[.sl qc 0 3 (.ex 3),nx,v'])]++(o'++(orow++(on++(R++[(qc,Dz),(q1,[.nils,.nils,.nils])]))))) H5:=s7
    have s8:BE H ([(qd,[.sl qc 0 3 (.ex 3),nx,v'])]++(orow++(on++(o'++(R++[(qc,Dz),(q1,[.nils,.nils,.nils])]))))) H5:=s7.perm (.append_left _ ((List.perm_append_comm_assoc _ _ _).trans (.append_left _ (List.perm_append_comm_assoc _ _ _))).symm)
    refine BA ⟨by omega,by omega⟩ ⟨⟨rfl,rfl,rfl,rfl,rfl,4,rfl,by omega,on,o',R,orow,cs1,_,cs3,nx,v',s8,g1,g2,hl4,g4.Dw rfl (fun k=>.cons (.bool _) .nil) ⟨_,rfl⟩,g5,g6⟩,?_⟩
    show _<ν (f 0) (f 2) (f 3) (f 6) (f 7) (f 8) (f 9) H3
    rw[hnu]
    show((4:Int)-(((3:Nat):Int)+1)).toNat<((4:Int)-((3:Nat):Int)).toNat
    decide
  ·have hj3:j=4:=by omega
   subst hj3
   refine AA rfl (s.ld (x:=nx) (.head _) rfl ?_)
   have g3:Lv 1 oa (k+1) cs2 ac:=g3
   have g4:GL [] 1 O6 (k+1) cs2:=g4
   have g5:Lv 1 orow 3 cs3 row:=g5
   have g6:GL [] 1 (SA 0 m) 3 cs3:=g6
   obtain⟨yr,hy1,hy2⟩:=g6.Gs g5
   have hR1:R ⊆ orow++R:=List.subset_append_right _ _
   have hR2:orow++[] ⊆ orow++R:=by simp
   have s5:BE H (on++([(qd,[.sl qc 0 3 (.ex 3),nx,ac])]++(oa++((orow++R)++[(qc,Dz),(q1,[.nils,.nils,.nils])])))) H3:=s.perm (by
    rw[List.append_assoc]
    exact(List.perm_append_comm_assoc _ _ _).trans (.append_left _ ((List.Perm.append_left _ (List.perm_append_comm_assoc _ _ _)).trans (List.perm_append_comm_assoc _ _ _))))
   refine s5.app (k:=1) g1 g2.n g5.cell rfl rfl (by omega) (by omega) fun o' v' H4 s4 hl4=>?_
   have s6:=s4.DP (A:=o') (o:=[(qd,_)])
   refine AA rfl (s6.B6 (A:=[]) hl4.cell rfl (nb rfl) fun H5 s7=>?_)
   have s7:BE H ([(qd,[.sl qc 0 3 (.ex 3),v',ac])]++([]++(o'++(oa++((orow++R)++[(qc,Dz),(q1,[.nils,.nils,.nils])]))))) H5:=s7
   refine BA ⟨by omega,by omega⟩ ⟨⟨rfl,rfl,rfl,rfl,k+1,rfl,by omega,o',oa,orow++R,[],_,cs2,[],v',ac,s7,hl4,(g2.mono hR1).add (.cons (hy1.mono hR2) .nil) rfl rfl (fun k=>.cons (hy2.sc k) .nil) ⟨yr,rfl,hy2⟩,g3,g4,.nil,.nil⟩,?_⟩
   show _<μ (e 0) (e 2) (e 3) (e 6) (e 7) H1
   rw[hmu]
   show((m:Int)-((k:Int)+1)).toNat<((m:Int)-(k:Int)).toNat
   omega
 ·have hkm:k=m:=by omega
  subst hkm
  obtain⟨on,oa,R,orow,cs1,cs2,cs3,nx,ac,s,g1,g2,g3,g4,g5,g6⟩:=hM
  have g3:Lv 1 oa k cs2 ac:=g3
  have g4:GL [] 1 O6 k cs2:=g4
  refine s.DN (c:=[.sl qc 0 3 (.ex 3),nx,ac]) (.head _) rfl ?_
  have s1:BE H (([(qd,[.sl qc 0 3 (.ex 3),nx,ac])]++(orow++(on++(oa++(R++[(qc,Dz)])))))++[(q1,[.nils,.nils,.nils])]) H1:=by simpa using s
  have hL:((q1,[.nils,.nils,.nils]):Nat × List AV)::[]=[(q1,[.nils,.nils,.nils])]:=rfl
  refine s1.B6 (vs:=[.sl qc 0 3 (.ex 3),nx,ac]) rfl rfl (by decide) fun H2 s2=>?_
  refine s2.DN (c:=[.sl qc 0 3 (.ex 3),nx,ac]) (List.mem_append_right _ (.head _)) rfl ?_
  obtain⟨y1,hy1,hy2⟩:=g2.Gs g1
  obtain⟨y2,hz1,hz2⟩:=g4.Gs g3
  refine s2.fin (y:=.agg [.sim Dz 3 true,y1,y2]) (FZ.agg (.cons (FZ.row (by simp) (fun k=>by unfold Dz N;repeat constructor) (by decide)) (.cons (hy1.mono ?_) (.cons (hz1.mono ?_) .nil)))) ⟨_,rfl,k,y1,y2,hm1,hm8,rfl,hy2,hz2⟩
  ·intro x hx;rcases List.mem_append.1 hx with h | h<;>simp[h]
  ·intro x hx;rw[List.append_nil]at hx;simp[hx]
end Go.Proofs.YtdcdbabponelcaaGreatDoor
namespace Go.Proofs.YtdcdbabponelcaaGreatDoor
open Go Go.AL Tryz
open Go.Proofs.YtdcdbabponelcaaGreatDoor.San (MC SI By pg pf dz dy DG Dx)
variable [BY]
theorem CP.row {g:FuncId}{ar:List AV}{R:AV}{H:AH}(h:Ca prog g ar H R H){Q:AV→Prop}(hq:Q R):CP prog g ar H Q:=An.mono h fun _ _ ⟨h1,h2⟩=>⟨h2,R,h1,hq⟩
theorem vS {H:AH}(hg:H.gl=BY.G){b:Nat}(hb:b<256):CP prog 61 [iv (b:Int)] H fun x=>∃j,j<8∧x=.agg (MC j):=
 CP.row (Aq (BC DG Dx 90) (By pg b hb) H hg) ⟨b % 8,Nat.mod_lt _ (by omega),rfl⟩
def ZF (c:List AV):Prop:=∃d t o,d<2∧t<2∧o<3∧c=SI (1+d) (11+t) o
theorem vR {H:AH}(hg:H.gl=BY.G){b:Nat}(hb:b<256):CP prog 62 [iv (b:Int)] H fun x=>∃c,x=.agg c∧ZF c:=
 CP.row (Aq (BC DG Dx 90) (By pf b hb) H hg) ⟨_,rfl,b % 2,b / 2 % 2,b / 4 % 3,Nat.mod_lt _ (by omega),Nat.mod_lt _ (by omega),Nat.mod_lt _ (by omega),rfl⟩
theorem pT {H:AH}(hg:H.gl=BY.G){j:Nat}(hj:j<8):CP prog 119 [.agg (MC j)] H fun x=>x=.bool true:=
 CP.row (Aq (BC DG Dx 90) (By dz j hj) H hg) rfl
theorem pR {H:AH}(hg:H.gl=BY.G){c:List AV}(hc:ZF c):CP prog 120 [.agg c] H fun x=>x=iv 0:=by
 obtain⟨d,t,o,h1,h2,h3,rfl⟩:=hc
 exact CP.row (Aq (BC DG Dx 90) (By (By (By dy d h1) t h2) o h3) H hg) rfl
inductive Kr (n k:Nat):List AV→Prop
 | isIn {T d1 d2 d3:AV} (hT:MQ n T) (hd:Ns [d1,d2,d3]):Kr n k [iv 1,T,.nils,d1,d2,d3,.nils,iv 0,.nils,.nils,.nils,.nils,iv 0,iv 0,iv 0,iv 0,.bool false,iv 0]
 | isEq {T U:AV} (hT:MQ n T) (hU:MQ n U):Kr n k [iv 2,T,U,.nils,.nils,.nils,.nils,iv 0,.nils,.nils,.nils,.nils,iv 0,iv 0,iv 0,iv 0,.bool false,iv 0]
 | isRow {A:AV} {C:Int} (hA:FL 1 (SA (-2) 3) (n+k) A) (h1:-6≤C) (h2:C≤6):Kr n k [iv 3,.nils,.nils,.nils,.nils,.nils,A,iv C,.nils,.nils,.nils,.nils,iv 0,iv 0,iv 0,iv 0,.bool false,iv 0]
 | isIm {T U m1 m2 m3 m4:AV} {j:Nat} (hT:MQ n T) (hU:MQ n U) (hj:j<8) (hm:MC j=[m1,m2,m3,m4]):Kr n k [iv 4,T,U,.nils,.nils,.nils,.nils,iv 0,m1,m2,m3,m4,iv 0,iv 0,iv 0,iv 0,.bool false,iv 0]
 | isNum {T q1 q2 q3 q4 q5:AV} {N:Int} (hT:MQ n T) (hq:ZF [q1,q2,q3,q4,q5]) (h1:0≤N) (h2:N<k):Kr n k [iv 5,T,.nils,.nils,.nils,.nils,.nils,iv 0,.nils,.nils,.nils,.nils,q1,q2,q3,q4,q5,iv N]
theorem MQ.one {n:Nat}{T:AV}(h:MQ n T):T.cellsOf=some [T]:=by obtain⟨m,_,h⟩:=h;exact h.one
theorem MQ.sc {n:Nat}{T:AV}(h:MQ n T) (k:Nat):Sc k T:=by obtain⟨m,_,h⟩:=h;exact h.sc k
theorem WS (k:Nat):DZ k Dz:=by unfold Dz N;repeat constructor
theorem Ns.sc {c:List AV}(h:Ns c) (k:Nat):DZ k c:=by
 obtain⟨m,nx,ac,_,_,rfl,h1,h2⟩:=h
 exact .cons (.sim (WS k)) (.cons (h1.sc k) (.cons (h2.sc k) .nil))
theorem rm (k:Nat):San.Ja 8 (fun j=>K7 k (MC j))=true:=by kernel_rfl
theorem gF {j:Nat}(hj:j<8) (k:Nat):DZ k (MC j):=Cn _ (By (rm k) j hj)
theorem ZF.sc {c:List AV}(h:ZF c) (k:Nat):DZ k c:=by
 obtain⟨d,t,o,_,_,_,rfl⟩:=h
 unfold SI I;repeat constructor
theorem Kr.len {n k:Nat}{c:List AV}(h:Kr n k c):c.length=18:=by cases h<;>rfl
theorem Kr.sc {n k:Nat}{c:List AV}(h:Kr n k c) (r:Nat):DZ r c:=by
 have z5:DZ r [iv 0,iv 0,iv 0,iv 0,.bool false,iv 0]:=by repeat constructor
 have n4:∀{l:List AV},DZ r l→DZ r (.nils::.nils::.nils::.nils::l):=fun h=>.cons .nils (.cons .nils (.cons .nils (.cons .nils h)))
 cases h with
 | isIn hT hd=>
  have hd:=hd.sc r
  cases hd with
  | cons a hd=>cases hd with
   | cons b hd=>cases hd with
    | cons c hd=>exact .cons (.int _ _) (.cons (hT.sc r) (.cons .nils (.cons a (.cons b (.cons c (.cons .nils (.cons (.int _ _) (n4 z5))))))))
 | isEq hT hU=>exact .cons (.int _ _) (.cons (hT.sc r) (.cons (hU.sc r) (n4 (.cons (.int _ _) (n4 z5)))))
 | isRow hA h1 h2=>exact .cons (.int _ _) (.cons .nils (.cons .nils (.cons .nils (.cons .nils (.cons .nils (.cons (hA.sc r) (.cons (.int _ _) (n4 z5))))))))
 | isIm hT hU hj hm=>
  have hd:=gF hj r
  rw[hm]at hd
  cases hd with
  | cons a hd=>cases hd with
   | cons b hd=>cases hd with
    | cons c hd=>cases hd with
     | cons d hd=>exact .cons (.int _ _) (.cons (hT.sc r) (.cons (hU.sc r) (n4 (.cons (.int _ _) (.cons a (.cons b (.cons c (.cons d z5))))))))
 | isNum hT hq h1 h2=>
  have hd:=hq.sc r
  cases hd with
  | cons a hd=>cases hd with
   | cons b hd=>cases hd with
    | cons c hd=>cases hd with
     | cons d hd=>cases hd with
      | cons e hd=>exact .cons (.int _ _) (.cons (hT.sc r) (n4 (.cons .nils (.cons (.int _ _) (n4 (.cons a (.cons b (.cons c (.cons d (.cons e (.cons (.int _ _) .nil)))))))))))
end Go.Proofs.YtdcdbabponelcaaGreatDoor
namespace Go.Proofs.YtdcdbabponelcaaGreatDoor
open Go Go.AL Tryz
open Go.Proofs.YtdcdbabponelcaaGreatDoor.San (MC SI By)
variable [BY]
def Rt:List AV:=[iv 0,.nils,.nils,.nils,.nils,.nils,.nils,iv 0,.nils,.nils,.nils,.nils,iv 0,iv 0,iv 0,iv 0,.bool false,iv 0]
def ZE (kd:Int):List AV:=[iv kd,.nils,.nils,.nils,.nils,.nils,.nils,iv 0,.nils,.nils,.nils,.nils,iv 0,iv 0,iv 0,iv 0,.bool false,iv 0]
def pZ (n k:Nat) (x:AV):Prop:=∃c,x=.agg c∧Kr n k c
theorem fU {H:AH}{n k q8 q3:Nat}{c:List AV}{H':AH}(s:BE H [(q8,c),(q3,Rt)] H') (hc:Kr n k c) :
  AP (.load (some 18) (.cst (.ptr q8 0))) H' fun v40=>AW (.store 18 (.cst (.ptr q3 0)) (.cst v40)) H' fun _ h41=>AP (.load (some 18) (.cst (.ptr q3 0))) h41 fun v42=>MP H (pZ n k) (.ret v42) h41:=by
 refine s.DN (.head _) hc.len (s.B6 (A:=[(q8,c)]) (vs:=c) rfl hc.len (by decide) fun H5 s5=>?_)
 have e:Bj Rt 0 c=c:=by
  have:=hc.len
  rw[CQ (by rw[this];decide)]
  simp[this,Rt]
 have s5:BE H [(q8,c),(q3,Bj Rt 0 c)] H5:=s5
 rw[e]at s5
 exact s5.DN (.tail _ (.head _)) hc.len (s5.B9 (fun r=>.agg (hc.sc r)) ⟨c,rfl,hc⟩)
set_option maxHeartbeats 1000000 in
theorem PJ {H H1:AH}(hg:H.gl=BY.G){v:AV}{l n k q3 q8:Nat}{kd:Int}(hv:FB l v) (hn:n≤12) (hk:k≤12) (hk1:1≤kd) (hk5:kd≤5) (h5:kd=5→0<k) (s:BE H [(q8,ZE kd),(q3,Rt)] H1) :
  QG (MP H (pZ n k)) v (iv (n:Int)) (iv (k:Int)) (.ptr q3 0) (.ptr q8 0) H1:=by
 have hg1:∀{H':AH} {L:OL},BE H L H'→H'.gl=BY.G:=fun s=>s.k.gl.trans hg
 unfold QG
 try simp only[BU]
 refine AA rfl (s.ld (x:=iv kd) (.head _) rfl ?_)
 refine FM (fun h3=>Ai ?_) (fun h3=>AZ ?_)
 ·
  subst h3
  let Iv:AV→AV→AV→AV→AV→AV→AH→Prop:=fun a b c d e f H'=>a=v∧b=iv (n:Int)∧c=iv (k:Int)∧d=.ptr q3 0∧e=.ptr q8 0∧∃(i:Nat) (o:OL) (cs:List AV) (A:AV),f=iv (i:Int)∧i≤n+k ∧
   BE H ([(q8,(ZE 3).set 6 A)]++(o++[(q3,Rt)])) H'∧Lv 1 o i cs A∧GL [] 1 (SA (-2) 3) i cs
  let μ:AV→AV→AV→AV→AV→AV→AH→Nat:=fun _ _ _ _ _ f _=>match f with
   | .int _ j=>((n+k:Nat)-j).toNat
   | _=>0
  refine⟨Iv,μ,⟨rfl,rfl,rfl,rfl,rfl,0,[],[],.nils,rfl,by omega,s,.nil,.nil⟩,?_⟩
  intro e H2 hI
  obtain⟨e1,e2,e3,e4,e5,i,o,cs,A,e6,hi,s,hl,hG⟩:=(hI:Iv (e 0) (e 1) (e 2) (e 6) (e 7) (e 8) H2)
  show AB (.bin .add (.cst (e 1)) (.cst (e 2))) _
  have hmu:μ (e 0) (e 1) (e 2) (e 6) (e 7) (e 8) H2=(((n+k:Nat):Int)-(i:Int)).toNat:=by rw[e6]
  rw[e1,e2,e3,e4,e5,e6]
  refine BA ⟨by omega,by omega⟩ (BT (fun hlt=>Ai ?_) (fun hlt=>AZ ?_))
  ·refine AA rfl (AA rfl (s.ld (x:=A) (.head _) rfl ?_))
   refine BA ⟨by omega,by omega⟩ ?_
   have e9:(2:Int)+(i:Int)=((2+i:Nat):Int):=by omega
   rw[e9]
   refine BK (Yq hv) fun x hx=>⟨⟨s.Ei (.head _) rfl,trivial⟩,?_⟩
   obtain⟨b,hb,rfl⟩:=hx
   refine EY (by omega) (by omega) (D4 ⟨by omega,by omega⟩ (Hb ?_))
   refine BE.app (k:=1) (L:=[(q8,(ZE 3).set 6 A)]++[(q3,Rt)]) s.DP hl hG.n rfl rfl rfl (by omega) (by omega) fun o' A' H3 s3 hl3=>⟨trivial,?_⟩
   refine AA rfl (AA rfl ((s3.DP (A:=o') (o:=[(q8,_)])).B6 (A:=[]) hl3.cell rfl (by simp[ZE]) fun H4 s4=>⟨trivial,?_⟩))
   have s4:BE H ([(q8,(ZE 3).set 6 A')]++(o'++[(q3,Rt)])) H4:=s4
   refine BA ⟨by omega,by omega⟩ ⟨⟨rfl,rfl,rfl,rfl,rfl,i+1,o',_,A',rfl,by omega,s4,hl3,hG.Dw rfl (fun k=>.cons (.int _ _) .nil) ⟨_,rfl,by omega,by omega⟩⟩,?_⟩
   show _<μ (e 0) (e 1) (e 2) (e 6) (e 7) (e 8) H2
   rw[hmu]
   show(((n+k:Nat):Int)-((i:Int)+1)).toNat<(((n+k:Nat):Int)-(i:Int)).toNat
   omega
  ·have hin:i=n+k:=by omega
   subst hin
   refine BK (Yq (i:=1) hv) fun x hx=>?_
   obtain⟨b,hb,rfl⟩:=hx
   refine EY (by omega) (by omega) (D4 ⟨by omega,by omega⟩ ?_)
   refine AA rfl (AA rfl (s.B6 (A:=[]) rfl rfl (by simp[ZE]) fun H4 s4=>?_))
   obtain⟨C,hC⟩:∃C:Int,C=(b:Int) % 13-6:=⟨_,rfl⟩
   have s4:BE H ((q8,[iv 3,.nils,.nils,.nils,.nils,.nils,A,iv ((b:Int) % 13-6),.nils,.nils,.nils,.nils,iv 0,iv 0,iv 0,iv 0,.bool false,iv 0])::(o++[(q3,Rt)])) H4:=s4
   rw[←hC]at s4
   obtain⟨y,hy1,hy2⟩:=hG.Gs hl
   refine s4.DN (.head _) rfl ?_
   have s5:BE H (((q8,[iv 3,.nils,.nils,.nils,.nils,.nils,A,iv C,.nils,.nils,.nils,.nils,iv 0,iv 0,iv 0,iv 0,.bool false,iv 0])::o)++[(q3,Rt)]) H4:=s4
   refine s5.B6 rfl rfl (by decide) fun H5 s6=>?_
   have s6:BE H (((q8,[iv 3,.nils,.nils,.nils,.nils,.nils,A,iv C,.nils,.nils,.nils,.nils,iv 0,iv 0,iv 0,iv 0,.bool false,iv 0])::o)++[(q3,[iv 3,.nils,.nils,.nils,.nils,.nils,A,iv C,.nils,.nils,.nils,.nils,iv 0,iv 0,iv 0,iv 0,.bool false,iv 0])]) H5:=s6
   refine s6.DN (List.mem_append_right _ (.head _)) rfl ?_
   have low:∀(x:AV),(∀k,Sc k x)→FZ (((q8,[iv 3,.nils,.nils,.nils,.nils,.nils,A,iv C,.nils,.nils,.nils,.nils,iv 0,iv 0,iv 0,iv 0,.bool false,iv 0])::o)++[(q3,[iv 3,.nils,.nils,.nils,.nils,.nils,A,iv C,.nils,.nils,.nils,.nils,iv 0,iv 0,iv 0,iv 0,.bool false,iv 0])]) x x:=fun x h=>.low h
   have hyA:=hy1.mono (R':=((q8,[iv 3,.nils,.nils,.nils,.nils,.nils,A,iv C,.nils,.nils,.nils,.nils,iv 0,iv 0,iv 0,iv 0,.bool false,iv 0])::o)++[(q3,[iv 3,.nils,.nils,.nils,.nils,.nils,A,iv C,.nils,.nils,.nils,.nils,iv 0,iv 0,iv 0,iv 0,.bool false,iv 0])]) (fun x hx=>by rw[List.append_nil]at hx;simp[hx])
   have rest:Sc 0 .nils:=.nils
   refine s6.fin (y:=.agg [iv 3,.nils,.nils,.nils,.nils,.nils,y,iv C,.nils,.nils,.nils,.nils,iv 0,iv 0,iv 0,iv 0,.bool false,iv 0]) (FZ.agg ?_) ⟨_,rfl,.isRow hy2 (by omega) (by omega)⟩
   have t1:∀R,Nv R [iv C,.nils,.nils,.nils,.nils,iv 0,iv 0,iv 0,iv 0,.bool false,iv 0] [iv C,.nils,.nils,.nils,.nils,iv 0,iv 0,iv 0,iv 0,.bool false,iv 0]:=fun R=>.low fun k=>by repeat constructor
   have t0:∀R,Nv R [iv 3,.nils,.nils,.nils,.nils,.nils] [iv 3,.nils,.nils,.nils,.nils,.nils]:=fun R=>.low fun k=>by repeat constructor
   exact(t0 _).app (.cons hyA (t1 _))
 ·refine BK (Yq (i:=0) hv) fun x hx=>?_
  obtain⟨b,hb,rfl⟩:=hx
  refine MZ (by omega) (by omega) (by omega) (EY (by omega) (by omega) (BA ⟨by omega,by omega⟩ ?_))
  obtain⟨to,hto⟩:∃to:Nat,(3:Int)+(b:Int) / 5 % 2=(to:Int):=⟨3+b / 5 % 2,by omega⟩
  rw[hto]
  refine BK (kF (a:=1) hv (by omega)) fun x hx=>?_
  obtain⟨m1,hx⟩:=hx
  refine BK (oc hx hn) fun T hT=>?_
  refine AA rfl (s.B6 (A:=[]) hT.one rfl (by simp[ZE]) fun H2 s=>?_)
  have s:BE H [(q8,[iv kd,T,.nils,.nils,.nils,.nils,.nils,iv 0,.nils,.nils,.nils,.nils,iv 0,iv 0,iv 0,iv 0,.bool false,iv 0]),(q3,Rt)] H2:=s
  refine AA rfl (s.ld (x:=iv kd) (.head _) rfl (IV ?_))
  refine Nb (fun J=>∀c H',BE H [(q8,c),(q3,Rt)] H'→Kr n k c→J (.ptr q3 0) (.ptr q8 0) H') (fun c H' s hc=>fU s hc) (fun ht J hJ=>?_) (fun hf J hJ=>?_)
  ·have h1:=of_decide_eq_true ht
   subst h1
   refine hv.len ?_
   refine BK (kF (a:=4) (b:=l) hv (by omega)) fun x hx=>?_
   obtain⟨m2,hx⟩:=hx
   refine BK (vT hx) fun x hx=>?_
   obtain⟨c,rfl,hc⟩:=hx
   obtain⟨d1,d2,d3,rfl⟩:∃d1 d2 d3,c=[d1,d2,d3]:=by obtain⟨m,nx,ac,_,_,rfl,_⟩:=hc;exact⟨_,_,_,rfl⟩
   refine AA rfl (s.B6 (A:=[]) rfl rfl (nb rfl) fun H3 s=>?_)
   exact hJ _ _ s (.isIn hT hc)
  have hn1:=of_decide_eq_false hf
  refine FM (fun h2=>Ai ?_) (fun h2=>AZ ?_)
  ·subst h2
   refine BK (kF (a:=4) (b:=7) hv (by omega)) fun x hx=>?_
   obtain⟨m2,hx⟩:=hx
   refine BK (oc hx hn) fun U hU=>?_
   refine AA rfl (s.B6 (A:=[]) hU.one rfl (nb rfl) fun H3 s=>?_)
   exact hJ _ _ s (.isEq hT hU)
  refine FM (fun h4=>Ai ?_) (fun h4=>AZ ?_)
  ·subst h4
   refine BK (kF (a:=5) (b:=7) hv (by omega)) fun x hx=>?_
   obtain⟨m2,hx⟩:=hx
   refine BK (oc hx hn) fun U hU=>?_
   refine AA rfl (s.B6 (A:=[]) hU.one rfl (nb rfl) fun H3 s=>?_)
   refine BK (Yq (i:=4) hv) fun x hx=>?_
   obtain⟨b2,hb2,rfl⟩:=hx
   refine BK (vS (hg1 s) hb2) fun x hx=>?_
   obtain⟨j,hj,rfl⟩:=hx
   have hml:∃m1 m2 m3 m4,MC j=[m1,m2,m3,m4]:=by
    have h8:j=0∨j=1∨j=2∨j=3∨j=4∨j=5∨j=6∨j=7:=by omega
    rcases h8 with rfl | rfl | rfl | rfl | rfl | rfl | rfl | rfl<;>exact⟨_,_,_,_,rfl⟩
   obtain⟨m1,m2,m3,m4,hm⟩:=hml
   rw[hm]
   refine AA rfl (s.B6 (A:=[]) rfl rfl (nb rfl) fun H4 s=>?_)
   exact hJ _ _ s (.isIm hT hU hj hm)
  refine FF (by omega) (Ai ?_)
  have hkd:kd=5:=by omega
  subst hkd
  have hk0:=h5 rfl
  refine BK (Yq (i:=4) hv) fun x hx=>?_
  obtain⟨b2,hb2,rfl⟩:=hx
  refine BK (vR (hg1 s) hb2) fun x hx=>?_
  obtain⟨c,rfl,hc⟩:=hx
  obtain⟨q1,q2,q3',q4,q5,rfl⟩:∃q1 q2 q3 q4 q5,c=[q1,q2,q3,q4,q5]:=by obtain⟨d,t,o,_,_,_,rfl⟩:=hc;exact⟨_,_,_,_,_,rfl⟩
  refine AA rfl (s.B6 (A:=[]) rfl rfl (nb rfl) fun H3 s=>?_)
  refine BK (Yq (i:=5) hv) fun x hx=>?_
  obtain⟨b3,hb3,rfl⟩:=hx
  refine EY (by omega) (by omega) ?_
  refine AA rfl (s.B6 (A:=[]) rfl rfl (nb rfl) fun H4 s=>?_)
  exact hJ _ _ s (.isNum hT hc (Int.emod_nonneg _ (by omega)) (Int.emod_lt_of_pos _ (by omega)))
theorem o_ {H:AH}(hg:H.gl=BY.G){v:AV}{l n k:Nat}(hv:FB l v) (hn:n≤12) (hk:k≤12):CP prog 27 [v,iv (n:Int),iv (k:Int)] H (pZ n k):=by
 refine CP.of (tg ?_)
 unfold rC VC
 try simp only[BU]
 refine(BE.start H).alloc fun q3 H1 s=>?_
 have s:BE H [(q3,Rt)] H1:=s
 refine BK (Yq (i:=0) hv) fun x hx=>?_
 obtain⟨b,hb,rfl⟩:=hx
 refine EY (by omega) (by omega) (BA ⟨by omega,by omega⟩ ?_)
 obtain⟨kd,hkd⟩:∃kd:Int,kd=1+(b:Int) % 5:=⟨_,rfl⟩
 have hkd1:1≤kd∧kd≤5:=by omega
 rw[←hkd]
 clear hkd
 refine AA rfl (s.alloc fun q8 H2 s=>s.Cr rfl rfl fun H3 s=>?_)
 refine AA rfl (s.ld (x:=iv kd) (.head _) rfl ?_)
 refine FM (fun h5=>Aj ?_) (fun h5=>Au ?_)
 ·refine FM (fun h0=>AA rfl (CK ?_)) (fun h0=>AA rfl (CL ?_))
  ·refine AA rfl (s.B6 (A:=[]) rfl rfl (by simp[ZE]) fun H4 s=>?_)
   exact PJ hg hv hn hk (by omega) (by omega) (fun h=>by omega) s
  ·exact PJ hg hv hn hk (by omega) (by omega) (fun h=>by omega) s
 ·exact AA rfl (CL (PJ hg hv hn hk (by omega) (by omega) (fun h=>by omega) s))
end Go.Proofs.YtdcdbabponelcaaGreatDoor
namespace Go.Proofs.YtdcdbabponelcaaGreatDoor
open Go Go.AL Tryz
variable [BY]
def R_ (n k:Nat) (c:List AV):Prop:=∃a b,c=a++[.bool b]∧Kr n k a
theorem R_.len {n k:Nat}{c:List AV}(h:R_ n k c):c.length=19:=by obtain⟨a,b,rfl,h⟩:=h;simp[h.len]
theorem R_.sc {n k:Nat}{c:List AV}(h:R_ n k c) (r:Nat):DZ r c:=by
 obtain⟨a,b,rfl,h⟩:=h
 exact DZ.Hs fun x hx=>by
  rcases List.mem_append.1 hx with h1 | h1
  ·exact(h.sc r).mem h1
  ·cases h1 with
   | head=>exact .bool _
   | tail _ h=>cases h
theorem vg {H:AH}(hg:H.gl=BY.G){v:AV}{l n k:Nat}(hv:FB l v) (hn:n≤12) (hk:k≤12):CP prog 26 [v,iv (n:Int),iv (k:Int)] H fun x=>∃c,x=.agg c∧R_ n k c:=by
 refine CP.of (th ?_)
 unfold rD
 try simp only[BU]
 refine(BE.start H).alloc fun q3 H1 s=>?_
 refine BK (o_ (s.k.gl.trans hg) hv hn hk) fun x hx=>?_
 obtain⟨c,rfl,hc⟩:=hx
 refine BK (Yq (i:=0) hv) fun x hx=>?_
 obtain⟨b,hb,rfl⟩:=hx
 refine MZ (by omega) (by omega) (by omega) (EY (by omega) (by omega) (IV ?_))
 generalize decide ((b:Int) / 10 % 2=1)=t
 refine AA (v:=.agg (c++[.bool t])) ?_ ?_
 ·have hl:=hc.len
  match c,hl with
  | [a0,a1,a2,a3,a4,a5,a6,a7,a8,a9,a10,a11,a12,a13,a14,a15,a16,a17],_=>rfl
 have hL:R_ n k (c++[.bool t]):=⟨c,t,rfl,hc⟩
 generalize c++[.bool t]=d at hL
 refine s.Cr hL.len rfl fun H2 s=>s.DN (.head _) hL.len (s.B9 (fun r=>.agg (hL.sc r)) ⟨d,rfl,hL⟩)
def ZG (m:Nat):Nat→List AV→Prop:=fun i c=>∃kd L R:Int,c=[iv kd,iv L,iv R]∧1≤kd∧kd≤4∧(kd=1→0≤L∧L<m∧R=0)∧(kd=2→0≤L∧L<i∧R=0)∧(3≤kd→0≤L∧L<i∧0≤R∧R<i)
def ZH (m:Nat) (v:AV):Prop:=∃i,1≤i∧i≤8∧FL 3 (ZG m) i v
theorem iS {H:AH}{v:AV}{l m:Nat}(hv:FB l v) (hm:0<m) (hm2:m≤40):An prog 28 [v,iv (m:Int)] H (fun o H'=>∃i,1≤i∧i≤8∧KW H 3 (ZG m) i o H'):=by
 refine tf ?_
 unfold rB
 try simp only[BU]
 refine BK (Yq (i:=0) hv) fun x hx=>?_
 obtain⟨b,hb,rfl⟩:=hx
 refine EY (by omega) (by omega) ?_
 have r1:0≤(b:Int) % (m:Int):=Int.emod_nonneg _ (by omega)
 have r2:(b:Int) % (m:Int)<m:=Int.emod_lt_of_pos _ (by omega)
 generalize (b:Int) % (m:Int)=L0 at r1 r2
 refine AA rfl ((BE.start H).bs (out:=[iv 1,iv L0,iv 0]) rfl fun q H1 s=>?_)
 let Iv:AV→AV→AV→AV→AH→Prop:=fun a b c d H'=>a=v∧b=iv (m:Int)∧∃(i:Nat) (o:OL) (cs:List AV),d=iv (i:Int)∧1≤i∧i≤8∧BE H (o++[]) H'∧Lv 3 o i cs c∧GX 3 (ZG m) i cs
 let μ:AV→AV→AV→AV→AH→Nat:=fun _ _ _ f _=>match f with
  | .int _ j=>(8-j).toNat
  | _=>0
 refine⟨Iv,μ,⟨rfl,rfl,1,[(q,_)],_,rfl,by omega,by omega,s,.exn (by omega),GX.nil.Dw (c:=[iv 1,iv L0,iv 0]) rfl (fun k=>by repeat constructor) ⟨1,L0,0,rfl,by omega,by omega,fun _=>⟨r1,r2,rfl⟩,fun h=>by omega,fun h=>by omega⟩⟩,?_⟩
 intro e H2 hI
 obtain⟨e1,e2,i,o,cs,e3,hi1,hi8,s,hl,hG⟩:=(hI:Iv (e 0) (e 1) (e 5) (e 6) H2)
 show AB (.len (.cst (e 0))) _
 have hmu:μ (e 0) (e 1) (e 5) (e 6) H2=((8:Int)-(i:Int)).toNat:=by rw[e3]
 rw[e1,e2,e3]
 generalize e 5=w at hl
 have fin:∃i,1≤i∧i≤8∧KW H 3 (ZG m) i (.ret w) H2:=⟨i,hi1,hi8,w,o,cs,rfl,hl,by simpa using s,hG⟩
 refine hv.len (BT (fun h1=>Aj ?_) (fun h1=>Au (AA rfl (AZ fin))))
 refine BT (fun h2=>AA rfl (Ai ?_)) (fun h2=>AA rfl (AZ fin))
 refine hv.at (by omega) fun x=>JJ ?_
 have hx:=x.toNat_lt
 refine EY (by omega) (by omega) (BA ⟨by omega,by omega⟩ (MZ (by omega) (by omega) (by omega) (EY (by omega) (by omega) ?_)))
 obtain⟨kd,hkd⟩:∃kd:Int,kd=1+(x.toNat:Int) % 4:=⟨_,rfl⟩
 have hkd1:1≤kd∧kd≤4:=by omega
 rw[←hkd]
 have p1:0≤(x.toNat:Int) / 4 % (i:Int):=Int.emod_nonneg _ (by omega)
 have p2:(x.toNat:Int) / 4 % (i:Int)<i:=Int.emod_lt_of_pos _ (by omega)
 generalize (x.toNat:Int) / 4 % (i:Int)=Li at p1 p2
 refine AA rfl (s.alloc fun qx H3 s=>s.Cr rfl rfl fun H4 s=>?_)
 refine AA rfl (s.ld (x:=iv kd) (.head _) rfl (IV ?_))
 have last:∀(L R:Int) (H5:AH),BE H ((qx,[iv kd,iv L,iv R])::(o++[])) H5→ZG m i [iv kd,iv L,iv R] →
   AP (.load (some 3) (.cst (.ptr qx 0))) H5 fun v46=>AW (.buildSlice 3 1 [iv 0,iv 0,iv 0] [(0,3,(.cst v46))]) H5 fun v47 h47=>AW (.append 3 24 (.cst w) (.cst v47)) h47 fun v48 h48=>AB (.bin .add (.cst (iv (i:Int))) (.cst (iv 1))) fun v49=>Iv v (iv (m:Int)) v48 v49 h48∧μ v (iv (m:Int)) v48 v49 h48<μ (e 0) (e 1) (e 5) (e 6) H2:=fun L R H5 s hN=>by
  refine s.DN (.head _) rfl ?_
  have s:BE H (o++[]) H5:=s.sub (List.sublist_cons_self _ _)
  refine s.app (k:=3) hl hG.ln rfl rfl rfl (by omega) (by omega) fun o' v' H6 s6 hl6=>BA ⟨by omega,by omega⟩ ⟨⟨rfl,rfl,i+1,o',_,rfl,by omega,by omega,s6,hl6,hG.Dw rfl (fun k=>by repeat constructor) hN⟩,?_⟩
  rw[hmu]
  show((8:Int)-((i:Int)+1)).toNat<((8:Int)-(i:Int)).toNat
  omega
 refine Nb (fun J=>∀(L:Int) (H5:AH),BE H ((qx,[iv kd,iv L,iv 0])::(o++[])) H5→(kd=1→0≤L∧L<m)→(kd≠1→0≤L∧L<i)→J v (iv (m:Int)) w (iv (i:Int)) (.ptr qx 0) H5) (fun L H5 s hL1 hL2=>?_) (fun ht J hJ=>?_) (fun hf J hJ=>?_)
 ·refine AA rfl (s.ld (x:=iv kd) (.head _) rfl ?_)
  refine Ox (fun h3=>CK ?_) (fun h3=>CL ?_)
  ·refine D4 ⟨by omega,by omega⟩ (AA rfl (s.B6 (A:=[]) rfl rfl (nb rfl) fun H6 s=>?_))
   obtain⟨g1,g2⟩:=hL2 (by omega)
   exact last L ((i:Int)-1) H6 s ⟨kd,L,_,rfl,by omega,by omega,fun h=>by omega,fun h=>by omega,fun h=>⟨g1,g2,by omega,by omega⟩⟩
  ·exact last L 0 H5 s ⟨kd,L,0,rfl,by omega,by omega,fun h=>⟨(hL1 h).1,(hL1 h).2,rfl⟩,fun h=>⟨(hL2 (by omega)).1,(hL2 (by omega)).2,rfl⟩,fun h=>by omega⟩
 ·have h1:=of_decide_eq_true ht
  refine MZ (by omega) (by omega) (by omega) (EY (by omega) (by omega) (AA rfl (s.B6 (A:=[]) rfl rfl (nb rfl) fun H6 s=>?_)))
  exact hJ _ H6 s (fun _=>⟨Int.emod_nonneg _ (by omega),Int.emod_lt_of_pos _ (by omega)⟩) (fun h=>absurd h1 h)
 ·have h1:=of_decide_eq_false hf
  exact hJ Li H4 s (fun h=>absurd h h1) (fun _=>⟨p1,p2⟩)
theorem ve {H:AH}{v:AV}{l m:Nat}(hv:FB l v) (hm:0<m) (hm2:m≤40):CP prog 28 [v,iv (m:Int)] H (ZH m):=
 CP.of ((iS hv hm hm2).mono fun o H' hp=>by
  obtain⟨i,h1,h8,hp⟩:=hp
  obtain⟨k,x,R,y,e,hf,hr,hq⟩:=KW.mp o H' hp
  exact⟨k,x,R,y,e,hf,hr,i,h1,h8,hq⟩)
end Go.Proofs.YtdcdbabponelcaaGreatDoor
namespace Go.Proofs.YtdcdbabponelcaaGreatDoor
open Go Go.AL Tryz
variable [BY]
def aB (sh:UInt8) (v:AV):Prop:=∃lits atoms nodes nl na nn,v=.agg [bv sh,lits,atoms,nodes]∧LL 1 (fun _ c=>∃x m,c=[x]∧FB m x) nl lits∧LL 1 (fun _ c=>∃x m,c=[x]∧FB m x) na atoms∧FB nn nodes
def M5:AV:=.sim [N .u8 97,N .u8 98] 2 true
structure Ue (sh:Nat) (c:List AV):Prop where
 ex:∃mo to li at_ fo nl na nf,c=[M5,mo,to,li,at_,fo]∧FL 1 (fun i c=>c=[iv (1+((sh / 4+i) % 3:Nat))]) (1+sh % 2) mo∧FL 1 (fun _ c=>c=[iv 12]) (sh / 2 % 2) to ∧
  nl≤4∧FL 19 (fun _=>R_ (1+sh % 2) (sh / 2 % 2)) nl li∧na≤3∧FL 18 (fun _=>Kr (1+sh % 2) (sh / 2 % 2)) na at_∧nf≤1∧FL 1 (fun _ c=>∃v,c=[v]∧ZH na v) nf fo
theorem C6 {H:AH}(hg:H.gl=BY.G){sh:UInt8}{v:AV}(hv:aB sh v):CP prog 6 [v] H fun x=>∃c,x=.agg c∧Ue sh.toNat c:=by
 obtain⟨lits,atoms,nodes,nl,na,nn,rfl,hli,hat,hno⟩:=hv
 refine CP.of (T6 ?_)
 unfold G6
 try simp only[BU]
 refine(BE.start H).box rfl fun q1 H1 s=>s.alloc fun q2 H2 s=>?_
 refine AA rfl (s.ld (x:=bv sh) (.tail _ (.head _)) rfl (JJ ?_))
 have hsh:=sh.toNat_lt
 obtain⟨S,hS⟩:∃S,S=sh.toNat:=⟨_,rfl⟩
 rw[←hS]at hsh ⊢
 refine s.bs (out:=[N .u8 97,N .u8 98]) rfl fun qa H3 s=>s.mark (.head _) (by omega) ?_
 refine AA rfl (s.alloc fun q9 H4 s=>s.Cr rfl rfl fun H5 s=>?_)
 obtain⟨Bs,hBs⟩:∃Bs,Bs=[(qa,[N .u8 97,N .u8 98]),(q2,Av 6 .nils []),(q1,[bv sh,lits,atoms,nodes])]:=⟨_,rfl⟩
 have s:BE H ([(q9,[.sl qa 0 2 (.ex 2),.nils,.nils,.nils,.nils,.nils])]++([]++Bs)) H5:=by rw[hBs];exact s
 let PM:Nat→List AV→Prop:=fun i c=>c=[iv (1+((S / 4+i) % 3:Nat))]
 let Iv:AV→AV→AV→AV→AV→AH→Prop:=fun a b c d e H'=>a=.ptr q1 0∧b=.ptr q2 0∧c=iv (S:Int)∧d=.ptr q9 0∧∃(i:Nat) (o:OL) (cs:List AV) (mo:AV),e=iv (i:Int)∧i≤S % 2+1∧BE H ([(q9,[.sl qa 0 2 (.ex 2),mo,.nils,.nils,.nils,.nils])]++(o++Bs)) H'∧Lv 1 o i cs mo∧GL [] 1 PM i cs
 let μ:AV→AV→AV→AV→AV→AH→Nat:=fun _ _ _ _ f _=>match f with
  | .int _ j=>(2-j).toNat
  | _=>0
 refine⟨Iv,μ,⟨rfl,rfl,rfl,rfl,0,[],[],.nils,rfl,by omega,s,.nil,.nil⟩,?_⟩
 intro e H6 hI
 obtain⟨e1,e2,e3,e4,i,om,csm,mo,e5,hi,s,hlm,hGm⟩:=(hI:Iv (e 1) (e 2) (e 3) (e 4) (e 5) H6)
 show AB (.bin .rem (.cst (e 3)) (.cst (iv 2))) _
 have hmu:μ (e 1) (e 2) (e 3) (e 4) (e 5) H6=((2:Int)-(i:Int)).toNat:=by rw[e5]
 rw[e1,e2,e3,e4,e5]
 refine EY (by omega) (by omega) (Q2 (fun hle=>Ai ?_) (fun hle=>AZ ?_))
 ·refine AA rfl (s.ld (x:=mo) (.head _) rfl ?_)
  refine MZ (by omega) (by omega) (by omega) (BA ⟨by omega,by omega⟩ (EY (by omega) (by omega) (BA ⟨by omega,by omega⟩ ?_)))
  refine BE.app (k:=1) (L:=[(q9,[.sl qa 0 2 (.ex 2),mo,.nils,.nils,.nils,.nils])]++Bs) s.DP hlm hGm.n rfl rfl rfl (by omega) (by omega) fun o' mo' H7 s7 hl7=>?_
  refine AA rfl ((s7.DP (A:=o') (o:=[(q9,_)])).B6 (A:=[]) hl7.cell rfl (nb rfl) fun H8 s8=>?_)
  have e9:(1:Int)+((S:Int) / 4+(i:Int)) % 3=1+(((S / 4+i) % 3:Nat):Int):=by omega
  refine BA ⟨by omega,by omega⟩ ⟨⟨rfl,rfl,rfl,rfl,i+1,o',_,mo',rfl,by omega,s8,hl7,hGm.Dw rfl (fun k=>.cons (.int _ _) .nil) (by show[iv _]=_;rw[e9])⟩,?_⟩
  show _<μ (e 1) (e 2) (e 3) (e 4) (e 5) H6
  rw[hmu]
  show((2:Int)-((i:Int)+1)).toNat<((2:Int)-(i:Int)).toNat
  omega
 have hn:i=1+S % 2:=by omega
 subst hn
 refine MZ (by omega) (by omega) (by omega) (EY (by omega) (by omega) (IV ?_))
 obtain⟨n,hn⟩:∃n,n=1+S % 2:=⟨_,rfl⟩
 obtain⟨k,hk⟩:∃k,k=S / 2 % 2:=⟨_,rfl⟩
 rw[←hn]at hlm hGm
 let PT:Nat→List AV→Prop:=fun _ c=>c=[iv 12]
 refine Nb (fun J=>∀(H':AH) (o:OL) (cs:List AV) (to:AV),BE H ([(q9,[.sl qa 0 2 (.ex 2),mo,to,.nils,.nils,.nils])]++(om++(o++Bs))) H'→Lv 1 o k cs to→GL [] 1 PT k cs→J (.ptr q1 0) (.ptr q2 0) (.ptr q9 0) H') (fun H' ot cst to s hlt hGt=>?_) (fun ht J hJ=>?_) (fun hf J hJ=>?_)
 case refine_2=>
  have h1:=of_decide_eq_true ht
  have hk1:k=1:=by omega
  refine AA rfl (s.ld (x:=.nils) (.head _) rfl ?_)
  refine BE.app (k:=1) (o:=[]) (L:=[(q9,[.sl qa 0 2 (.ex 2),mo,.nils,.nils,.nils,.nils])]++(om++Bs)) s .nil rfl rfl rfl rfl (by omega) (by omega) fun o' to H7 s7 hl7=>?_
  refine AA rfl ((s7.DP (A:=o') (o:=[(q9,_)])).B6 (A:=[]) hl7.cell rfl (nb rfl) fun H8 s8=>?_)
  have s8:BE H ([(q9,[.sl qa 0 2 (.ex 2),mo,to,.nils,.nils,.nils])]++(o'++(om++Bs))) H8:=s8
  subst hk1
  exact hJ H8 o' _ to (s8.perm (.append_left _ (List.perm_append_comm_assoc _ _ _))) hl7 (GL.nil.Dw (c:=[iv 12]) rfl (fun k=>.cons (.int _ _) .nil) rfl)
 case refine_3=>
  have h1:=of_decide_eq_false hf
  have hk0:k=0:=by omega
  subst hk0
  exact hJ H6 [] [] .nils s .nil .nil
 have hq1:(q1,[bv sh,lits,atoms,nodes])∈Bs:=by rw[hBs];simp
 have hqa:(qa,[N .u8 97,N .u8 98])∈Bs:=by rw[hBs];simp
 have hn12:n≤12:=by omega
 have hk12:k≤12:=by omega
 have hg1:∀{H':AH} {L:OL},BE H L H'→H'.gl=BY.G:=fun s=>s.k.gl.trans hg
 let I2:AV→AV→AV→AV→AH→Prop:=fun a b c d H'=>a=.ptr q1 0∧b=.ptr q2 0∧c=.ptr q9 0∧∃(i:Nat) (o:OL) (cs:List AV) (li:AV),d=iv (i:Int)∧i≤nl∧i≤4∧BE H ([(q9,[.sl qa 0 2 (.ex 2),mo,to,li,.nils,.nils])]++(o++(om++(ot++Bs)))) H'∧Lv 19 o i cs li∧GL [] 19 (fun _=>R_ n k) i cs
 let μ2:AV→AV→AV→AV→AH→Nat:=fun _ _ _ f _=>match f with
  | .int _ j=>(4-j).toNat
  | _=>0
 refine⟨I2,μ2,⟨rfl,rfl,rfl,0,[],[],.nils,rfl,by omega,by omega,s,.nil,.nil⟩,?_⟩
 intro f H7 hI
 obtain⟨f1,f2,f3,i,ol,csl,li,f4,hi1,hi2,s,hll,hGl⟩:=(hI:I2 (f 1) (f 2) (f 4) (f 6) H7)
 have hmu:μ2 (f 1) (f 2) (f 4) (f 6) H7=((4:Int)-(i:Int)).toNat:=by rw[f4]
 show AB (.fieldAddr 1 (.cst (f 1))) _
 rw[f1,f2,f3,f4]
 have hmq1:(q1,[bv sh,lits,atoms,nodes])∈[(q9,[.sl qa 0 2 (.ex 2),mo,to,li,.nils,.nils])]++(ol++(om++(ot++Bs))):=by simp[hq1]
 refine AA rfl (s.ld (x:=lits) hmq1 rfl (hli.len ?_))
 have go:i<nl→i<4→∀(h39:AH),h39=H7→True:=fun _ _ _ _=>trivial
 have stop:∀(B:Prop),B→B:=fun _ h=>h
 refine Ma ?_
 refine Y_ (fun J=>∀a b,(b=.bool (decide (i<4))∧i<nl∨b=AI∧¬i<nl)→J a b H7) (fun a b hb=>?_) (fun ht J hJ=>?_) (fun hf J hJ=>?_)
 case refine_2=>
  have:=of_decide_eq_true ht
  refine Ma (hJ _ _ (.inl ⟨?_,by omega⟩))
  congr 1;simp only[decide_eq_decide];omega
 case refine_3=>
  exact hJ _ _ (.inr ⟨rfl,fun h=>hf (by simp only[decide_eq_true_eq];omega)⟩)
 have hpick:Ap (.pick (.cst (.bool (decide ((i:Int)<(nl:Int))))) (.cst b) (.cst (.bool false))) emp=some (.bool (decide (i<nl∧i<4))):=by
  rcases hb with⟨rfl,hlt⟩ | ⟨rfl,hlt⟩
  ·have e1:decide ((i:Int)<(nl:Int))=true:=by simp only[decide_eq_true_eq];omega
   rw[e1]
   show some (AV.bool (decide (i<4)))=_
   congr 2;simp[hlt]
  ·have e1:decide ((i:Int)<(nl:Int))=false:=by simp only[decide_eq_false_iff_not];omega
   rw[e1]
   show some (AV.bool false)=_
   congr 2;simp[hlt]
 refine AA hpick (IK (fun ht=>?_) (fun hf=>?_))
 ·obtain⟨h1,h2⟩:=of_decide_eq_true ht
  refine AA rfl (s.ld (x:=li) (.head _) rfl ?_)
  refine AA rfl (s.ld (x:=lits) hmq1 rfl (hli.Ef h1 fun x _ hx=>?_))
  obtain⟨x',m,hx',hfb⟩:=hx
  cases hx'
  refine AA rfl (s.ld (x:=mo) (.head _) rfl (hlm.len ?_))
  refine AA rfl (s.ld (x:=to) (.head _) rfl (hlt.len ?_))
  refine BK (vg (hg1 s) hfb hn12 hk12) fun x hx=>⟨⟨s.Ei (.head _) rfl,trivial⟩,Hb ?_⟩
  obtain⟨c,rfl,hc⟩:=hx
  refine BE.app (k:=19) (L:=[(q9,[.sl qa 0 2 (.ex 2),mo,to,li,.nils,.nils])]++(om++(ot++Bs))) s.DP hll hGl.n rfl hc.len rfl (by omega) (by omega) fun o' li' H8 s8 hl8=>⟨trivial,?_⟩
  refine AA rfl ((s8.DP (A:=o') (o:=[(q9,_)])).B6 (A:=[]) hl8.cell rfl (nb rfl) fun H9 s9=>⟨trivial,?_⟩)
  refine BA ⟨by omega,by omega⟩ ⟨⟨rfl,rfl,rfl,i+1,o',_,li',rfl,by omega,by omega,s9,hl8,hGl.Dw hc.len hc.sc hc⟩,?_⟩
  show _<μ2 (f 1) (f 2) (f 4) (f 6) H7
  rw[hmu]
  show((4:Int)-((i:Int)+1)).toNat<((4:Int)-(i:Int)).toNat
  omega
 clear hf hpick hb hmu f1 f2 f3 f4 hmq1 go stop
 obtain⟨nl',hnl'⟩:∃nl',nl'=i:=⟨_,rfl⟩
 rw[←hnl']at hi2 hll hGl
 let I3:AV→AV→AV→AV→AH→Prop:=fun a b c d H'=>a=.ptr q1 0∧b=.ptr q2 0∧c=.ptr q9 0∧∃(i:Nat) (o:OL) (cs:List AV) (at_:AV),d=iv (i:Int)∧i≤na∧i≤3∧BE H ([(q9,[.sl qa 0 2 (.ex 2),mo,to,li,at_,.nils])]++(o++(ol++(om++(ot++Bs))))) H'∧Lv 18 o i cs at_∧GL [] 18 (fun _=>Kr n k) i cs
 let μ3:AV→AV→AV→AV→AH→Nat:=fun _ _ _ f _=>match f with
  | .int _ j=>(3-j).toNat
  | _=>0
 refine⟨I3,μ3,⟨rfl,rfl,rfl,0,[],[],.nils,rfl,by omega,by omega,s,.nil,.nil⟩,?_⟩
 intro f H8 hI
 obtain⟨f1,f2,f3,i,oa,csa,at_,f4,hi1',hi2',s,hla,hGa⟩:=(hI:I3 (f 1) (f 2) (f 4) (f 7) H8)
 have hmu:μ3 (f 1) (f 2) (f 4) (f 7) H8=((3:Int)-(i:Int)).toNat:=by rw[f4]
 show AB (.fieldAddr 2 (.cst (f 1))) _
 rw[f1,f2,f3,f4]
 have hmq1:(q1,[bv sh,lits,atoms,nodes])∈[(q9,[.sl qa 0 2 (.ex 2),mo,to,li,at_,.nils])]++(oa++(ol++(om++(ot++Bs)))):=by simp[hq1]
 refine AA rfl (s.ld (x:=atoms) hmq1 rfl (hat.len ?_))
 refine Ma ?_
 refine Y_ (fun J=>∀a b,(b=.bool (decide (i<3))∧i<na∨b=AI∧¬i<na)→J a b H8) (fun a b hb=>?_) (fun ht J hJ=>?_) (fun hf J hJ=>?_)
 case refine_2=>
  have:=of_decide_eq_true ht
  refine Ma (hJ _ _ (.inl ⟨?_,by omega⟩))
  congr 1;simp only[decide_eq_decide];omega
 case refine_3=>
  exact hJ _ _ (.inr ⟨rfl,fun h=>hf (by simp only[decide_eq_true_eq];omega)⟩)
 have hpick:Ap (.pick (.cst (.bool (decide ((i:Int)<(na:Int))))) (.cst b) (.cst (.bool false))) emp=some (.bool (decide (i<na∧i<3))):=by
  rcases hb with⟨rfl,hlt⟩ | ⟨rfl,hlt⟩
  ·have e1:decide ((i:Int)<(na:Int))=true:=by simp only[decide_eq_true_eq];omega
   rw[e1]
   show some (AV.bool (decide (i<3)))=_
   congr 2;simp[hlt]
  ·have e1:decide ((i:Int)<(na:Int))=false:=by simp only[decide_eq_false_iff_not];omega
   rw[e1]
   show some (AV.bool false)=_
   congr 2;simp[hlt]
 refine AA hpick (IK (fun ht=>?_) (fun hf=>?_))
 ·obtain⟨h1,h2⟩:=of_decide_eq_true ht
  refine AA rfl (s.ld (x:=at_) (.head _) rfl ?_)
  refine AA rfl (s.ld (x:=atoms) hmq1 rfl (hat.Ef h1 fun x _ hx=>?_))
  obtain⟨x',m,hx',hfb⟩:=hx
  cases hx'
  refine AA rfl (s.ld (x:=mo) (.head _) rfl (hlm.len ?_))
  refine AA rfl (s.ld (x:=to) (.head _) rfl (hlt.len ?_))
  refine BK (o_ (hg1 s) hfb hn12 hk12) fun x hx=>⟨⟨s.Ei (.head _) rfl,trivial⟩,Hb ?_⟩
  obtain⟨c,rfl,hc⟩:=hx
  refine BE.app (k:=18) (L:=[(q9,[.sl qa 0 2 (.ex 2),mo,to,li,at_,.nils])]++(ol++(om++(ot++Bs)))) s.DP hla hGa.n rfl hc.len rfl (by omega) (by omega) fun o' at' H8' s8 hl8=>⟨trivial,?_⟩
  refine AA rfl ((s8.DP (A:=o') (o:=[(q9,_)])).B6 (A:=[]) hl8.cell rfl (nb rfl) fun H9 s9=>⟨trivial,?_⟩)
  refine BA ⟨by omega,by omega⟩ ⟨⟨rfl,rfl,rfl,i+1,o',_,at',rfl,by omega,by omega,s9,hl8,hGa.Dw hc.len hc.sc hc⟩,?_⟩
  show _<μ3 (f 1) (f 2) (f 4) (f 7) H8
  rw[hmu]
  show((3:Int)-((i:Int)+1)).toNat<((3:Int)-(i:Int)).toNat
  omega
 clear hf hpick hb hmu f1 f2 f3 f4
 obtain⟨na',hna'⟩:∃na',na'=i:=⟨_,rfl⟩
 rw[←hna']at hi2' hla hGa
 have fin:∀(H':AH) (nf:Nat) (of:OL) (csf:List AV) (fo:AV),nf≤1→BE H ([(q9,[.sl qa 0 2 (.ex 2),mo,to,li,at_,fo])]++(of++(oa++(ol++(om++(ot++Bs)))))) H'→Lv 1 of nf csf fo→GL [] 1 (fun _ c=>∃v,c=[v]∧ZH na' v) nf csf →
   AP (.load (some 6) (.cst (.ptr q9 0))) H' fun v68=>AW (.store 6 (.cst (.ptr q2 0)) (.cst v68)) H' fun _ h69=>AP (.load (some 6) (.cst (.ptr q2 0))) h69 fun v70=>MP H (fun x=>∃c,x=.agg c∧Ue S c) (.ret v70) h69:=fun H' nf of csf fo hnf s hlf hGf=>by
  refine s.DN (.head _) rfl ?_
  obtain⟨As,hAs⟩:∃As,As=[(q9,[AV.sl qa 0 2 (.ex 2),mo,to,li,at_,fo])]++(of++(oa++(ol++(om++(ot++[(qa,[N .u8 97,N .u8 98])]))))):=⟨_,rfl⟩
  have s:BE H (As++(q2,Av 6 .nils [])::[(q1,[bv sh,lits,atoms,nodes])]) H':=by rw[hAs];rw[hBs]at s;simpa using s
  refine s.B6 rfl rfl (by decide) fun H2 s2=>?_
  have s2:BE H (As++(q2,[.sl qa 0 2 (.ex 2),mo,to,li,at_,fo])::[(q1,[bv sh,lits,atoms,nodes])]) H2:=s2
  refine s2.DN (List.mem_append_right _ (.head _)) rfl ?_
  obtain⟨y1,a1,b1⟩:=hGm.Gs hlm
  obtain⟨y2,a2,b2⟩:=hGt.Gs hlt
  obtain⟨y3,a3,b3⟩:=hGl.Gs hll
  obtain⟨y4,a4,b4⟩:=hGa.Gs hla
  obtain⟨y5,a5,b5⟩:=hGf.Gs hlf
  have m1:∀(o:OL),o ⊆ As→(o++[]) ⊆ As++(q2,[.sl qa 0 2 (.ex 2),mo,to,li,at_,fo])::[(q1,[bv sh,lits,atoms,nodes])]:=fun o ho x hx=>by
   rw[List.append_nil]at hx
   exact List.mem_append_left _ (ho hx)
  refine s2.fin (y:=.agg [M5,y1,y2,y3,y4,y5]) (FZ.agg (.cons (FZ.row (List.mem_append_left _ (by rw[hAs];simp)) (fun k=>by unfold N;repeat constructor) (by decide)) (.cons (a1.mono (m1 _ ?_)) (.cons (a2.mono (m1 _ ?_)) (.cons (a3.mono (m1 _ ?_)) (.cons (a4.mono (m1 _ ?_)) (.cons (a5.mono (m1 _ ?_)) .nil)))))))
   ⟨_,rfl,⟨y1,y2,y3,y4,y5,nl',na',nf,rfl,?_,?_,hi2,?_,hi2',?_,hnf,b5⟩⟩
  all_goals first
   | (rw[hAs];intro x hx;simp only[List.mem_append];simp[hx];done)
   | (subst hn;subst hk;assumption)
 refine AA rfl (s.ld (x:=at_) (.head _) rfl (hla.len (GM (fun h0=>Aj ?_) (fun h0=>Au ?_))))
 ·refine AA rfl (s.ld (x:=nodes) hmq1 rfl (hno.len (GM (fun h1=>AA rfl (CK ?_)) (fun h1=>AA rfl (CL ?_)))))
  ·refine AA rfl (s.ld (x:=.nils) (.head _) rfl ?_)
   refine AA rfl (s.ld (x:=nodes) hmq1 rfl ?_)
   refine AA rfl (s.ld (x:=at_) (.head _) rfl (hla.len ?_))
   refine BK (ve hno (by omega) (by omega)) fun x hx=>⟨⟨s.Ei (.head _) rfl,trivial⟩,Hb ?_⟩
   have hx':=hx
   obtain⟨nn',_,_,hfx⟩:=hx'
   refine BE.app (k:=1) (o:=[]) (L:=[(q9,[.sl qa 0 2 (.ex 2),mo,to,li,at_,.nils])]++(oa++(ol++(om++(ot++Bs))))) s .nil rfl hfx.one rfl rfl (by omega) (by omega) fun o' fo H9 s9 hl9=>⟨trivial,?_⟩
   refine AA rfl ((s9.DP (A:=o') (o:=[(q9,_)])).B6 (A:=[]) hl9.cell rfl (nb rfl) fun H10 s10=>⟨trivial,?_⟩)
   exact fin H10 1 o' _ fo (by omega) s10 hl9 (GL.nil.Dw (c:=[x]) rfl (fun k=>.cons (hfx.sc k) .nil) ⟨x,rfl,hx⟩)
  ·exact fin H8 0 [] [] .nils (by omega) s .nil .nil
 ·exact AA rfl (CL (fin H8 0 [] [] .nils (by omega) s .nil .nil))
end Go.Proofs.YtdcdbabponelcaaGreatDoor
