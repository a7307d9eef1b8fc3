import Derived.Test.YtdcdbabponelcaaGreatDoorZc02
import Derived.Test.YtdcdbabponelcaaGreatDoorZg03
/-
  a solver: its levels, its current problem.
-/
set_option linter.unusedSectionVars false
set_option linter.unusedVariables false
set_option linter.unusedSimpArgs false
namespace Go.AL
variable [BY] {P:Program}
theorem BE.lI {H0 H:AH}{L:OL}{k n bytes q:Nat}{cs c z:List AV}{x:AV}{K:AV→AH→Prop}(h:BE H0 L H) (hm:(q,cs)∈L) (hq:n*k≤cs.length) (hx:x.cellsOf=some c) (hc:c.length=k) (hz:z.length=k) (hn:n<274877906944) (hby:bytes≤500)
  (hK:∀q' H',BE H0 ((q',cs.take (n*k)++c)::L) H'→K (.sl q' 0 (n+1) (.op k)) H'):AW (.buildSlice k 1 z [(0,k,(.cst x))]) H fun v17 h17=>AW (.append k bytes (.cst (.sl q 0 n (.ex n))) (.cst v17)) h17 K:=by
 have hd:z.drop k=[]:=List.drop_of_length_le (by omega)
 refine CD (v:=.sl H.next 0 1 (.ex 1)) (H':=H.push (.cells c)) (by
  simp[CS,B2,Ak.ev,hx,hc,hz,hd]) ?_
 have hb:(n+1)*bytes≤140737488355328:=by
  have:(n+1)*bytes≤274877906944*500:=Nat.mul_le_mul (by omega) hby
  omega
 have htk:c.take k=c:=List.take_of_length_le (by omega)
 have h1:=h.push (o:=c)
 obtain⟨g1,g2,g3⟩:=h.l _ hm
 have g3:H.get q=some (.cells cs):=g3
 have e3:q≠H.next:=by simp only at g2;omega
 have hn1:n+1≤9223372036854775807:=by omega
 have hlt:¬n+1≤n:=by omega
 refine CD (v:=.sl (H.next+1) 0 (n+1) (.op k)) (H':=(H.push (.cells c)).push (.cells (cs.take (n*k)++c))) (by
  simp[CS,Ak.ev,Cq,BM,AH.cells?,AH.EJ,hc,htk,g3,e3,hq,hb,hn1]) ?_
 refine hK _ _ ?_
 exact(h1.push (o:=cs.take (n*k)++c)).sub (by
  show List.Sublist ((H.next+1,cs.take (n*k)++c)::L) ((H.next+1,cs.take (n*k)++c)::(H.next,c)::L)
  exact(List.Sublist.cons _ (List.Sublist.refl _)).cons_cons _)
end Go.AL
namespace Go.Proofs.YtdcdbabponelcaaGreatDoor
open Go Go.AL Tryz
variable [BY]
abbrev B5:Tw:=.pair (.list BX) (.list BR)
def oC (l:List B5.D) (o:OL) (v:AV):Prop:=∃cs,Lv 2 o l.length cs v∧GX 2 (RE B5 l) l.length cs
inductive Jg:List (List B5.D)→List AV→OL→Prop
 | nil:Jg [] [] []
 | snoc {ls:List (List B5.D)} {vs:List AV} {os:OL} {l:List B5.D} {v:AV} {o:OL} (h:Jg ls vs os) (hl:oC l o v):Jg (ls++[l]) (vs++[v]) (o++os)
theorem Jg.len {ls:List (List B5.D)}{vs:List AV}{os:OL}(h:Jg ls vs os):vs.length=ls.length:=by
 induction h with
 | nil=>rfl
 | snoc _ _ ih=>simp[ih]
theorem Jg.at {ls:List (List B5.D)}{vs:List AV}{os:OL}(h:Jg ls vs os):∀(i:Nat) (l:List B5.D),ls[i]?=some l→∃v o,vs[i]?=some v∧oC l o v∧o ⊆ os:=by
 induction h with
 | nil=>intro i l h;simp at h
 | snoc h hl ih=>
  rename_i ls vs os l v o
  intro i l' hi
  have hn:=h.len
  rcases Nat.lt_or_ge i ls.length with h1 | h1
  ·rw[List.getElem?_append_left h1]at hi
   obtain⟨v',o',a1,a2,a3⟩:=ih i l' hi
   exact⟨v',o',by rw[List.getElem?_append_left (by omega)];exact a1,a2,fun x hx=>List.mem_append_right _ (a3 hx)⟩
  ·rw[List.getElem?_append_right h1]at hi
   have h0:i-ls.length=0:=by
    rcases Nat.eq_zero_or_pos (i-ls.length)with h | h
    ·exact h
    ·rw[List.getElem?_eq_none (by simp;omega)]at hi;cases hi
   rw[h0]at hi
   cases hi
   refine⟨v,o,?_,hl,fun x hx=>List.mem_append_left _ hx⟩
   rw[List.getElem?_append_right (by omega),show i-vs.length=0 by omega];rfl
theorem Jg.last {ls:List (List B5.D)}{vs:List AV}{os:OL}{n:Nat}(h:Jg ls vs os) (hn:ls.length=n+1):∃ls' vs' os' l v o,ls=ls'++[l]∧vs=vs'++[v]∧os=o++os'∧Jg ls' vs' os'∧oC l o v∧ls'.length=n:=by
 cases h with
 | nil=>cases hn
 | snoc h hl=>exact⟨_,_,_,_,_,_,rfl,rfl,rfl,h,hl,by simpa using hn⟩
structure L8 (d:Bh.D) (ls:List (List B5.D)) (r:Nat) (S:OL):Prop where
 ex:∃a0 a1 a2 a3 a4 a5 ql n lim vs junk os,S=(r,[a0,a1,a2,a3,a4,a5,.sl ql 0 n lim])::(ql,vs++junk)::os∧RS Bh d [a0,a1,a2,a3,a4,a5]∧Jg ls vs os∧n=ls.length∧0<n∧(lim=.ex n∨lim=.op 1∧junk=[])
def G4 (H0:AH) (L:OL) (d:Bh.D) (ls:List (List B5.D)) (r:Nat) (v:AV):Cc→AH→Prop:=fun o H'=>o=.ret v∧∃S,BE H0 (S++L) H'∧L8 d ls r S
set_option maxHeartbeats 1000000 in
theorem C9 {H0 H:AH}{S L:OL}{d:Bh.D}{ls:List (List B5.D)}{r:Nat}(s:BE H0 (S++L) H) (hS:L8 d ls r S) (hb:ls.length≤1000) :
  An prog 9 [.ptr r 0] H (if 40<ls.length then G4 H0 L d ls r (iv 2)else G4 H0 L d (ls++[[]]) r (iv 0)):=by
 have hS':=hS
 obtain⟨a0,a1,a2,a3,a4,a5,ql,n,lim,vs,junk,os,rfl,hR,hv,hn,hn0,hlim⟩:=hS'
 refine T9 ?_
 unfold G9
 try simp only[BU]
 have hmem:(r,[a0,a1,a2,a3,a4,a5,.sl ql 0 n lim])∈((r,[a0,a1,a2,a3,a4,a5,.sl ql 0 n lim])::(ql,vs++junk)::os)++L:=.head _
 refine AA rfl (AZ ?_)
 refine AA rfl (AA rfl (s.ld (x:=.sl ql 0 n lim) hmem rfl (AA rfl ?_)))
 refine GM (fun h=>Ai ?_) (fun h=>AZ ?_)
 ·rw[if_pos (by omega)]
  exact⟨rfl,_,s,hS⟩
 rw[if_neg (by omega)]
 refine AA rfl (AA rfl (s.ld (x:=.sl ql 0 n lim) hmem rfl ?_))
 have hvl:=hv.len
 have fin:∀(q':Nat) (lim':Nu) (H1:AH),(lim'=.ex (n+1)∨lim'=.op 1)→BE H0 ((r,[a0,a1,a2,a3,a4,a5,.sl ql 0 n lim])::(q',vs++[.nils])::(os++L)) H1 →
   AB (.nilCheck (.cst (.ptr r 0))) fun v12=>AB (.fieldAddr 6 (.cst v12)) fun v13=>AW (.store 1 (.cst v13) (.cst (.sl q' 0 (n+1) lim'))) H1 fun _ h14=>G4 H0 L d (ls++[[]]) r (iv 0) (.ret (iv 0)) h14:=fun q' lim' H1 hlim' s=>by
  refine AA rfl (AA rfl (s.B6 (A:=[]) rfl rfl (by simp) fun H2 s=>⟨rfl,(r,[a0,a1,a2,a3,a4,a5,.sl q' 0 (n+1) lim'])::(q',(vs++[.nils])++[])::([]++os),?_,?_⟩))
  ·have s:BE H0 ((r,[a0,a1,a2,a3,a4,a5,.sl q' 0 (n+1) lim'])::(q',vs++[.nils])::(os++L)) H2:=s
   simpa using s
  ·exact⟨a0,a1,a2,a3,a4,a5,q',n+1,lim',vs++[.nils],[],[]++os,rfl,hR,hv.snoc ⟨[],.nil,.nil⟩,by simp[hn],by omega,hlim'.imp (fun h=>h) fun h=>⟨h,rfl⟩⟩
 rcases hlim with rfl | ⟨rfl,rfl⟩
 ·refine s.lI (k:=1) (n:=n) (q:=ql) (cs:=vs++junk) (c:=[.nils]) (by simp) (by simp;omega) rfl rfl rfl (by omega) (by decide) fun q' H1 s=>fin q' _ H1 (.inr rfl) ?_
  have e:(vs++junk).take (n*1)=vs:=by rw[Nat.mul_one,List.take_append_of_le_length (by omega),List.take_of_length_le (by omega)]
  rw[e]at s
  exact(s.sub (L':=(q',vs++[.nils])::(r,[a0,a1,a2,a3,a4,a5,.sl ql 0 n (.ex n)])::(os++L)) (.cons_cons _ (.cons_cons _ (.cons _ (.refl _))))).swap
 ·rw[List.append_nil]at s
  have s:BE H0 ([(ql,vs)]++((r,[a0,a1,a2,a3,a4,a5,.sl ql 0 n (.op 1)])::(os++L))) H:=s.swap
  have hlv:Lv 1 [(ql,vs)] n vs (.sl ql 0 n (.op 1)):=.op hn0
  refine s.app (k:=1) (c:=[.nils]) hlv (by omega) rfl rfl rfl (by omega) (by decide) fun o' v' H1 s hl'=>?_
  cases hl' with
  | op _=>exact fin _ _ H1 (.inr rfl) s.swap
  | exn _=>exact fin _ _ H1 (.inl rfl) s.swap
theorem vw {H0 H:AH}{S L:OL}{d:Bh.D}{ls:List (List B5.D)}{r:Nat}(s:BE H0 (S++L) H) (hS:L8 d ls r S) (hb:ls.length≤1000) :
  An prog 11 [.ptr r 0] H (if ls.length=1 then G4 H0 L d ls r (iv 7)else G4 H0 L d ls.dropLast r (iv 0)):=by
 have hS':=hS
 obtain⟨a0,a1,a2,a3,a4,a5,ql,n,lim,vs,junk,os,rfl,hR,hv,hn,hn0,hlim⟩:=hS'
 refine tu ?_
 unfold rL
 try simp only[BU]
 have hmem:(r,[a0,a1,a2,a3,a4,a5,.sl ql 0 n lim])∈((r,[a0,a1,a2,a3,a4,a5,.sl ql 0 n lim])::(ql,vs++junk)::os)++L:=.head _
 refine AA rfl (Af ?_)
 refine AA rfl (AA rfl (s.ld (x:=.sl ql 0 n lim) hmem rfl (AA rfl ?_)))
 refine FM (fun h=>?_) (fun h=>?_)
 ·rw[if_pos (by omega)]
  exact AA rfl (Ai ⟨rfl,_,s,hS⟩)
 rw[if_neg (by omega)]
 obtain⟨m,rfl⟩:∃m,n=m+1:=⟨n-1,by omega⟩
 refine AA rfl (AZ ?_)
 refine AA rfl (AA rfl (s.ld (x:=.sl ql 0 (m+1) lim) hmem rfl (AA rfl ?_)))
 refine D4 ⟨by omega,by omega⟩ ?_
 have e1:((m+1:Nat):Int)-1=(m:Int):=by omega
 rw[e1]
 refine AA rfl (AA rfl (s.ld (x:=.sl ql 0 (m+1) lim) hmem rfl ?_))
 refine AA (v:=.sl ql 0 m (.ex m)) (by
  have c1:(0:Int)≤(m:Int):=by omega
  have c2:(m:Int)≤((m+1:Nat):Int):=by omega
  rcases hlim with rfl | ⟨rfl,_⟩<;>simp[Ap,Ak.ints,Ak.ev,Lj,c1]<;>omega) ?_
 refine AA rfl (AA rfl ?_)
 obtain⟨ls',vs',os',l,v,o,rfl,rfl,rfl,hv',hl,hl'⟩:=hv.last (n:=m) hn.symm
 refine s.B6 (A:=[]) rfl rfl (by simp) fun H1 s=>⟨rfl,(r,[a0,a1,a2,a3,a4,a5,.sl ql 0 m (.ex m)])::(ql,vs'++(v::junk))::os',?_,?_⟩
 ·have s:BE H0 ((r,[a0,a1,a2,a3,a4,a5,.sl ql 0 m (.ex m)])::(ql,(vs'++[v])++junk)::((o++os')++L)) H1:=s
  rw[List.append_assoc,List.append_assoc]at s
  exact s.sub (.cons_cons _ (.cons_cons _ (List.sublist_append_right _ _)))
 ·rw[List.dropLast_concat]
  exact⟨a0,a1,a2,a3,a4,a5,ql,m,.ex m,vs',v::junk,os',rfl,hR,hv',by omega,by omega,.inl rfl⟩
end Go.Proofs.YtdcdbabponelcaaGreatDoor
namespace Go.Proofs.YtdcdbabponelcaaGreatDoor
open Go Go.AL Tryz
variable [BY]
theorem oj {H:AH}{v:AV}{l:(Tw.list BX).D}(h:RS (.list BX) l [v]):An prog 34 [v] H (KW H 3 (RE BX (DI l)) (DI l).length):=qM (Rp (z:=3) (b:=24) h.fl h.le (by decide))
theorem oU {H:AH}{v:AV}{l:(Tw.list BR).D}(h:RS (.list BR) l [v]):An prog 70 [v,.fn (.func 35) [] []] H (KW H 18 (RE BR (DI l)) (DI l).length):=qH (Rn (z:=18) (b:=304) rfl rfl h (by decide) fun _ _ _ _ h=>iR h)
theorem oT {H:AH}{v:AV}{l:(Tw.list (.list BX)).D}(h:RS (.list (.list BX)) l [v]):An prog 71 [v,.fn (.func 34) [] []] H (KW H 1 (RE (.list BX) (DI l)) (DI l).length):=qG (Rm (b:=24) rfl h (by decide) fun _ _ _ _ h=>oq h)
def nz (H:AH) (d:Bh.D):Cc→AH→Prop:=fun o H'=>∃al mo to li at_ fo oa ca of cf,o=.ret (.agg [al,mo,to,li,at_,fo])∧BE H (oa++of) H'∧RS (.list .byte) d.1 [al]∧RS (.list .int) d.2.1 [mo]∧RS (.list .int) d.2.2.1 [to]∧RS (.list F3) d.2.2.2.1 [li] ∧
 Lv 18 oa (DI d.2.2.2.2.1).length ca at_∧GX 18 (RE BR (DI d.2.2.2.2.1)) (DI d.2.2.2.2.1).length ca∧Lv 1 of (DI d.2.2.2.2.2).length cf fo∧GX 1 (RE (.list BX) (DI d.2.2.2.2.2)) (DI d.2.2.2.2.2).length cf
set_option maxHeartbeats 1000000 in
theorem ov {H:AH}{d:Bh.D}{c:List AV}(h:RS Bh d c):An prog 30 [.agg c] H (nz H d):=by
 obtain⟨al,mo,to,li,at_,fo,rfl,h0,h1,h2,h3,h4,h5⟩:=CR h
 refine qN ?_
 unfold oH
 try simp only[BU]
 refine(BE.start H).box rfl fun q H1 s=>s.alloc fun q2 H2 s=>?_
 have hm:(q,[al,mo,to,li,at_,fo])∈[(q2,Av 6 AV.nils []),(q,[al,mo,to,li,at_,fo])]:=.tail _ (.head _)
 refine AA rfl (s.ld (x:=al) hm rfl ?_)
 refine AA rfl (s.ld (x:=mo) hm rfl ?_)
 refine AA rfl (s.ld (x:=to) hm rfl ?_)
 refine AA rfl (s.ld (x:=li) hm rfl ?_)
 refine AA rfl (s.ld (x:=at_) hm rfl ?_)
 refine AA rfl (s.ld (x:=fo) hm rfl ?_)
 refine BK (oV h0) fun x0 g0=>⟨⟨s.Ei hm rfl,s.Ei hm rfl,s.Ei hm rfl,s.Ei hm rfl,s.Ei hm rfl,trivial⟩,?_⟩
 refine BK (dn h1) fun x1 g1=>⟨⟨s.Ei hm rfl,s.Ei hm rfl,s.Ei hm rfl,s.Ei hm rfl,trivial⟩,?_⟩
 refine BK (dn h2) fun x2 g2=>⟨⟨s.Ei hm rfl,s.Ei hm rfl,s.Ei hm rfl,trivial⟩,?_⟩
 refine BK (rX h3) fun x3 g3=>⟨⟨s.Ei hm rfl,s.Ei hm rfl,trivial⟩,?_⟩
 refine s.UU (oU h4) fun x4 oa ca H3 s la ga=>⟨⟨s.Ei (List.mem_append_right _ hm) rfl,trivial⟩,?_⟩
 refine s.UU (oT h5) fun x5 of cf H4 s lf gf=>⟨trivial,?_⟩
 refine AA (v:=.agg [x0,x1,x2,x3,x4,x5]) (by
  have a0:=RS.cell g0
  have a1:=RS.cell g1
  have a2:=RS.cell g2
  have a3:=RS.cell g3
  have a4:=la.cell
  have a5:=lf.cell
  show Ap (.build [.nils,.nils,.nils,.nils,.nils,.nils] [(0,1,(.cst x0)),(1,1,(.cst x1)),(2,1,(.cst x2)),(3,1,(.cst x3)),(4,1,(.cst x4)),(5,1,(.cst x5))]) emp=_
  simp[Ap,B2,Ak.ev,a0,a1,a2,a3,a4,a5]) ?_
 have s:BE H ((of++oa)++(q2,Av 6 AV.nils [])::[(q,[al,mo,to,li,at_,fo])]) H4:=by simpa using s
 refine s.B6 (vs:=[x0,x1,x2,x3,x4,x5]) rfl rfl (by decide) fun H5 s=>⟨trivial,?_⟩
 have s:BE H ((of++oa)++(q2,[x0,x1,x2,x3,x4,x5])::[(q,[al,mo,to,li,at_,fo])]) H5:=s
 refine s.DN (c:=[x0,x1,x2,x3,x4,x5]) (by simp) rfl ⟨x0,x1,x2,x3,x4,x5,oa,ca,of,cf,rfl,?_,g0,g1,g2,g3,la,ga,lf,gf⟩
 exact(s.sub (List.sublist_append_left _ _)).perm (List.perm_append_comm)
end Go.Proofs.YtdcdbabponelcaaGreatDoor
namespace Go.Proofs.YtdcdbabponelcaaGreatDoor
open Go Go.AL
abbrev Nd:=Int × Int × Int
def Sw (m:Nat) (x:Nd):Nd:=if x.1=1 then(x.1,x.2.1+(m:Int),x.2.2)else x
def IU (m:Nat) (f:List Nd):List Nd:=f.map (Sw m)
abbrev St:=List BR.D × List (List Nd)
abbrev As:=List Nd × List BR.D
def iu (p:St) (x:As):St:=(p.1++x.2,p.2++[IU p.1.length x.1])
def MX (d:Bh.D):St:=(d.2.2.2.2.1,d.2.2.2.2.2)
def run (d:Bh.D) (fl:List As):St:=fl.foldl iu (MX d)
def PR (d:Bh.D) (fl:List As):Bh.D:=(d.1,d.2.1,d.2.2.1,d.2.2.2.1,(run d fl).1,(run d fl).2)
theorem Fb (d:Bh.D) (fl:List As) (x:As):run d (fl++[x])=iu (run d fl) x:=by
 unfold run;rw[List.foldl_append];rfl
def CW {α:Type}(l:List (List α)):Nat:=(l.map List.length).sum
theorem Eo {α:Type}(a b:List (List α)):CW (a++b)=CW a+CW b:=by simp[CW]
theorem Gj {α:Type}(a:List α):CW [a]=a.length:=by simp[CW]
def HV (d:Bh.D) (fl:List As):Nat:=(MX d).1.length+CW (fl.map (·.2))
def II (d:Bh.D) (fl:List As):Nat:=CW (MX d).2+CW (fl.map (·.1))
theorem Gh (d:Bh.D) (fl:List As) (x:As):HV d (fl++[x])=HV d fl+x.2.length:=by
 unfold HV;rw[List.map_append,Eo,List.map_cons,List.map_nil,Gj];omega
theorem Ih (d:Bh.D) (fl:List As) (x:As):II d (fl++[x])=II d fl+x.1.length:=by
 unfold II;rw[List.map_append,Eo,List.map_cons,List.map_nil,Gj];omega
theorem Mn {α:Type}(l:List (List α)) (i:Nat) (x:List α) (h:l[i]?=some x):CW (l.take (i+1))=CW (l.take i)+x.length:=by
 rw[List.take_add_one,h,Option.toList_some,Eo,Gj]
theorem Qi {α:Type}(l:List (List α)) (i:Nat):CW (l.take i)≤CW l:=by
 have:CW l=CW (l.take i)+CW (l.drop i):=by rw[←Eo,List.take_append_drop]
 omega
theorem F_ (d:Bh.D):∀(fl:List As),(run d fl).1.length=HV d fl∧CW (run d fl).2=II d fl:=fun fl=>by
 induction h:fl.length generalizing fl with
 | zero=>
  have:fl=[]:=List.eq_nil_of_length_eq_zero h
  subst this
  exact⟨by simp[run,HV,CW],by simp[run,II,CW]⟩
 | succ n ih=>
  have hne:fl≠[]:=fun e=>by subst e;cases h
  obtain⟨fl',x,rfl⟩:∃fl' x,fl=fl'++[x]:=⟨fl.dropLast,fl.getLast hne,(List.dropLast_concat_getLast hne).symm⟩
  obtain⟨h1,h2⟩:=ih fl' (by simpa using h)
  rw[Fb,Gh,Ih]
  refine⟨by show((run d fl').1++x.2).length=_;rw[List.length_append,h1],?_⟩
  show CW ((run d fl').2++[IU (run d fl').1.length x.1])=_
  rw[Eo,Gj,h2]
  simp[IU]
def B_ (ls:List (List As)) (i k:Nat):List As:=(ls.take i).flatten++(ls.getD i []).take k
theorem HC (ls:List (List As)):B_ ls 0 0=[]:=by simp[B_]
theorem JC (ls:List (List As)) (i k:Nat) (l:List As) (x:As) (h:ls[i]?=some l) (hx:l[k]?=some x):B_ ls i (k+1)=B_ ls i k++[x]:=by
 unfold B_
 rw[List.getD_eq_getElem?_getD,h,Option.getD_some,List.take_add_one,hx,Option.toList_some,List.append_assoc]
theorem Hm (ls:List (List As)) (i:Nat) (l:List As) (h:ls[i]?=some l):B_ ls i l.length=B_ ls (i+1) 0:=by
 unfold B_
 rw[List.getD_eq_getElem?_getD,h,Option.getD_some,List.take_length,List.take_zero,List.append_nil,List.take_add_one,h,Option.toList_some,List.flatten_append]
 simp
theorem Ky (ls:List (List As)):B_ ls ls.length 0=ls.flatten:=by simp[B_]
theorem GZ (ls:List (List As)) (i k:Nat):∃r,ls.flatten=B_ ls i k++r:=by
 unfold B_
 rcases Nat.lt_or_ge i ls.length with h | h
 ·obtain⟨l,hl⟩:∃l,ls[i]?=some l:=⟨ls[i],List.getElem?_eq_getElem h⟩
  refine⟨l.drop k++(ls.drop (i+1)).flatten,?_⟩
  rw[List.getD_eq_getElem?_getD,hl,Option.getD_some]
  have e:ls=ls.take i++(l::ls.drop (i+1)):=by
   have h2:ls.drop i=l::ls.drop (i+1):=by
    rw[List.drop_eq_getElem_cons h]
    have:ls[i]=l:=by rw[List.getElem?_eq_getElem h]at hl;exact Option.some.inj hl
    rw[this]
   rw[←h2,List.take_append_drop]
  have e3:ls.flatten=(ls.take i).flatten++(l++(ls.drop (i+1)).flatten):=by
   conv=>lhs;rw[e]
   rw[List.flatten_append,List.flatten_cons]
  rw[e3,List.append_assoc,←List.append_assoc (l.take k),List.take_append_drop]
 ·refine⟨[],?_⟩
  rw[List.getD_eq_getElem?_getD,List.getElem?_eq_none h,List.take_of_length_le h]
  simp
theorem Ii (d:Bh.D) (a r:List As):HV d a≤HV d (a++r):=by
 unfold HV;rw[List.map_append,Eo];omega
theorem OU (d:Bh.D) (a r:List As):II d a≤II d (a++r):=by
 unfold II;rw[List.map_append,Eo];omega
end Go.Proofs.YtdcdbabponelcaaGreatDoor
namespace Go.AL
variable [BY] {P:Program}
section
variable {H0 H:AH}{L:OL}
theorem BE.Zi {q o k:Nat}{c d:List AV}{K:AV→Prop}(h:BE H0 L H) (hq:q<H0.next) (hg:H0.get q=some (.cells c)) (hx:(c.drop o).take k=d) (hz:o+k≤c.length) (hK:K (.agg d)):AP (.load (some k) (.cst (.ptr q o))) H K:=by
 have h3:=h.k.get q hq
 rw[hg]at h3
 exact Cx (v:=.agg d) (by simp[Ba,Cm,Ak.ev,AH.cells?,h3,apart,hz,hx]) hK
theorem LZ {z q n i:Nat}{lim:Nu}(h:i<n):Ap (.indexAddrS z (.cst (.sl q 0 n lim)) (.cst (iv (i:Int)))) emp=some (.ptr q (i*z)):=by
 have h9:(0:Int)≤(i:Int)∧(i:Int)<(n:Int):=by omega
 simp[Ap,Ak.ev,E_,h9]
theorem Lv.idx {k n i:Nat}{o:OL}{cs:List AV}{v:AV}(h:Lv k o n cs v) (hi:i<n):∃q,o=[(q,cs)]∧(∀z,Ap (.indexAddrS z (.cst v) (.cst (iv (i:Int)))) emp=some (.ptr q (i*z)))∧∀cs',Lv k [(q,cs')] n cs' v:=by
 cases h with
 | nil=>omega
 | ex=>omega
 | op hn=>exact⟨_,rfl,fun z=>LZ hi,fun cs'=>.op hn⟩
 | exn hn=>exact⟨_,rfl,fun z=>LZ hi,fun cs'=>.exn hn⟩
theorem GL.eu {R:OL}{z n:Nat}{Pr Pr':Nat→List AV→Prop}{cs:List AV}(h:GL R z Pr n cs) (hp:∀i c,i<n→Pr i c→Pr' i c):GL R z Pr' n cs:=by
 obtain⟨⟨css,h1,h2,h3⟩,h4⟩:=h
 exact⟨⟨css,h1,h2,fun i c hc=>by
  obtain⟨g1,g2,g3⟩:=h3 i c hc
  exact⟨g1,g2,hp i c (by rw[←h2];exact(List.getElem?_eq_some_iff.1 hc).1) g3⟩⟩,h4⟩
def O9 (H:AH) (L:OL):Prop:=∀x∈L,x.1<H.next∧H.get x.1=some (.cells x.2)
theorem O9.sub {H:AH}{L L':OL}(h:O9 H L) (hs:L' ⊆ L):O9 H L':=fun x hx=>h x (hs hx)
end
theorem RS.Vs {t:Tw}{d:t.D}{v:AV}(h:RS t d [v]) (k:Nat):Sc k v:=by
 cases CC k t d [v] h with
 | cons a _=>exact a
end Go.AL
namespace Go.Proofs.YtdcdbabponelcaaGreatDoor
open Go Go.AL
variable [BY]
def nc (x:Nd):List AV:=[iv x.1,iv x.2.1,iv x.2.2]
def KU (l:List Nd):List AV:=l.flatMap nc
theorem Ig (l:List Nd):(KU l).length=l.length*3:=by
 induction l with
 | nil=>rfl
 | cons x l ih=>
  show(nc x++KU l).length=_
  rw[List.length_append,ih,List.length_cons]
  show 3+l.length*3=_
  omega
theorem Nt {x:BX.D}{c:List AV}(h:RS BX x c):c=nc x:=by
 obtain⟨c1,c2,rfl,h1,c3,c4,rfl,h3,h4⟩:=h
 have h1:c1=_:=h1
 have h3:c3=_:=h3
 have h4:c4=_:=h4
 subst h1 h3 h4
 rfl
theorem HJ (x:Nd):RS BX x (nc x):=⟨[_],_,rfl,rfl,[_],[_],rfl,rfl,rfl⟩
theorem dK {l:List Nd}{cs:List AV}(h:GX 3 (RE BX l) l.length cs):cs=KU l:=by
 obtain⟨css,rfl,h2,h3⟩:=h.ex
 have:css=l.map nc:=List.ext_getElem? fun i=>by
  rw[List.getElem?_map]
  rcases Nat.lt_or_ge i l.length with hi | hi
  ·have a2:css[i]?=some (css[i]'(by omega)):=List.getElem?_eq_getElem (by omega)
   obtain⟨_,_,x,hx,hr⟩:=h3 i _ a2
   have hx:l[i]?=some x:=hx
   rw[a2,hx,Nt hr];rfl
  ·rw[List.getElem?_eq_none (by omega),List.getElem?_eq_none hi];rfl
 rw[this];rfl
theorem Zf (l:List Nd):GX 3 (RE BX l) l.length (KU l):=⟨⟨l.map nc,rfl,by simp,fun i c hc=>by
 rw[List.getElem?_map,Option.map_eq_some_iff]at hc
 obtain⟨x,hx,rfl⟩:=hc
 exact⟨rfl,fun k=>.cons (.int _ _) (.cons (.int _ _) (.cons (.int _ _) .nil)),x,hx,HJ x⟩⟩⟩
theorem Pe (a b:List Nd) (k y r y':Int):Bj (KU (a++(k,y,r)::b)) (a.length*3+1) [iv y']=KU (a++(k,y',r)::b):=by
 have e:∀w,KU (a++(k,w,r)::b)=KU a++(iv k::iv w::iv r::KU b):=fun w=>by
  unfold KU
  rw[List.flatMap_append,List.flatMap_cons]
  rfl
 rw[e,e,CQ (by rw[List.length_append,Ig];simp;omega)]
 have hl:=Ig a
 have h1:(KU a++(iv k::iv y::iv r::KU b)).take (a.length*3+1)=KU a++[iv k]:=by
  rw[←hl,List.take_length_add_append];rfl
 have h2:(KU a++(iv k::iv y::iv r::KU b)).drop (a.length*3+1+1)=iv r::KU b:=by
  rw[show a.length*3+1+1=(KU a).length+2 by omega,List.drop_length_add_append];rfl
 simp only[List.length_cons,List.length_nil]
 rw[h1,h2];simp
theorem TW (a b:List Nd) (x:Nd) (o:Nat) (v:AV) (h:(nc x)[o]?=some v):(KU (a++x::b))[a.length*3+o]?=some v:=by
 have ho:o<3:=(List.getElem?_eq_some_iff.1 h).1
 have e:KU (a++x::b)=KU a++(nc x++KU b):=by
  unfold KU
  rw[List.flatMap_append,List.flatMap_cons]
 rw[e,List.getElem?_append_right (by rw[Ig];omega),Ig,show a.length*3+o-a.length*3=o by omega,List.getElem?_append_left ho,h]
end Go.Proofs.YtdcdbabponelcaaGreatDoor
namespace Go.Proofs.YtdcdbabponelcaaGreatDoor
open Go Go.AL Tryz
variable [BY]
structure Wk (H:AH) (q1 q7:Nat) (x0 x1 x2 x3:AV) (X:OL) (A:List BR.D) (F:List (List Nd)) (H':AH):Prop where
 ex:∃at_ fo oa ca of cf R,BE H (X++((q7,[x0,x1,x2,x3,at_,fo])::(oa++(of++(R++[(q1,Av 6 AV.nils [])]))))) H'∧Lv 18 oa A.length ca at_∧GX 18 (RE BR A) A.length ca∧Lv 1 of F.length cf fo∧GL R 1 (RE (.list BX) F) F.length cf
theorem Wk.st {H:AH}{q1 q7:Nat}{x0 x1 x2 x3:AV}{X:OL}{A:List BR.D}{F:List (List Nd)}{H':AH}(h:Wk H q1 q7 x0 x1 x2 x3 X A F H'):∃L,BE H L H':=by
 obtain⟨_,_,_,_,_,_,_,s,_⟩:=h.ex
 exact⟨_,s⟩
def FA (x:As):Prop:=∀nd∈x.1,-1000000≤nd.2.1∧nd.2.1≤1000000
def fj (m:Nat) (f:List Nd) (j:Nat):List Nd:=(f.take j).map (Sw m)++f.drop j
theorem fT (m:Nat) (f:List Nd) (j:Nat) (x:Nd) (h:f[j]?=some x):∃a b,a.length=j∧fj m f j=a++x::b∧fj m f (j+1)=a++Sw m x::b:=by
 have hj:j<f.length:=(List.getElem?_eq_some_iff.1 h).1
 refine⟨(f.take j).map (Sw m),f.drop (j+1),by simp;omega,?_,?_⟩
 ·unfold fj
  rw[List.drop_eq_getElem_cons hj]
  have:f[j]=x:=by rw[List.getElem?_eq_getElem hj]at h;exact Option.some.inj h
  rw[this]
 ·unfold fj
  rw[List.take_add_one,h];simp
theorem WJ (m:Nat) (f:List Nd):fj m f 0=f:=by simp[fj]
theorem Zu (m:Nat) (f:List Nd):fj m f f.length=IU m f:=by simp[fj,IU]
theorem eX {α:Type}{a b c r t:List α}:(a++(b++((r++c)++t))).Perm ((b++c)++(a++(r++t))):=by
 classical
 rw[List.perm_iff_count]
 intro x
 simp only[List.count_append]
 omega
theorem Je {t:Tw}{l r:List t.D}{i:Nat}{c:List AV}(hi:i<l.length) (h:RE t l i c):RE t (l++r) i c:=by
 obtain⟨x,h1,h2⟩:=h
 exact⟨x,by rw[List.getElem?_append_left hi];exact h1,h2⟩
theorem Jd {t:Tw}{l:List t.D}{x:t.D}{c:List AV}(h:RS t x c):RE t (l++[x]) l.length c:=⟨x,by simp,h⟩
set_option maxHeartbeats 8000000 in
theorem vj {H:AH}{S:OL}{d:Bh.D}{ls:List (List As)}{r:Nat}(hO:O9 H S) (hS:L8 d ls r S) (hA:HV d ls.flatten≤1000) (hM:(run d ls.flatten).2.length≤1000) (hL:ls.length≤1000) (hK:∀l∈ls,l.length≤1000) (hB:∀x∈ls.flatten,FA x) :
  CP prog 17 [.ptr r 0] H fun x=>∃c,x=.agg c∧RS Bh (PR d ls.flatten) c:=by
 obtain⟨a0,a1,a2,a3,a4,a5,ql,n,lim,vs,junk,os,rfl,hR,hv,hn,hn0,hlim⟩:=hS
 obtain⟨r1,r2⟩:=hO _ (.head _)
 obtain⟨l1,l2⟩:=hO _ (.tail _ (.head _))
 have ho:O9 H os:=hO.sub fun x hx=>.tail _ (.tail _ hx)
 have r1:r<H.next:=r1
 have r2:H.get r=some (.cells [a0,a1,a2,a3,a4,a5,.sl ql 0 n lim]):=r2
 have l1:ql<H.next:=l1
 have l2:H.get ql=some (.cells (vs++junk)):=l2
 have hvl:vs.length=ls.length:=hv.len
 have hn:n=ls.length:=hn
 refine CP.of (tk ?_)
 unfold rF
 try simp only[BU]
 refine(BE.start H).alloc fun q1 H1 s=>?_
 have s:BE H [(q1,Av 6 AV.nils [])] H1:=s
 refine AA rfl (AZ ?_)
 refine AA rfl (AA rfl (s.Zi r1 r2 (d:=[a0,a1,a2,a3,a4,a5]) rfl (by simp) ?_))
 refine Df (ov hR) (fun v H2 hp=>?_) (fun v H' hp=>by obtain⟨_,_,_,_,_,_,_,_,_,_,e,_⟩:=hp;cases e)
 obtain⟨x0,x1,x2,x3,x4,x5,oa,ca,of,cf,e,s2,g0,g1,g2,g3,la,ga,lf,gf⟩:=hp
 cases e
 have s:=s.join s2
 refine s.alloc fun q7 H3 s=>s.Cr (vs:=[x0,x1,x2,x3,x4,x5]) rfl rfl fun H4 s=>?_
 have hP:Wk H q1 q7 x0 x1 x2 x3 [] (MX d).1 (MX d).2 H4:=⟨x4,x5,oa,ca,of,cf,[],by simpa using s,la,ga,lf,gf.gl⟩
 refine AA rfl (AA rfl (s.Zj r1 r2 (x:=.sl ql 0 n lim) rfl (AA rfl ?_)))
 let I1:AV→AV→AV→AV→AV→AH→Prop:=fun a b c e f H'=>a=.ptr q1 0∧b=.ptr q7 0∧c=.sl ql 0 n lim∧e=iv (n:Int)∧∃i:Nat,f=iv (i:Int)∧i≤n∧Wk H q1 q7 x0 x1 x2 x3 [] (run d (B_ ls i 0)).1 (run d (B_ ls i 0)).2 H'
 let μ1:AV→AV→AV→AV→AV→AH→Nat:=fun _ _ _ _ f _=>match f with
  | .int _ j=>(n-j).toNat
  | _=>0
 refine⟨I1,μ1,⟨rfl,rfl,rfl,rfl,0,rfl,by omega,by rw[HC];exact hP⟩,?_⟩
 clear hP s
 intro e H5 hI
 obtain⟨e1,e2,e3,e4,i,e5,hi,hP⟩:=(hI:I1 (e 2) (e 3) (e 23) (e 24) (e 25) H5)
 have hmu1:μ1 (e 2) (e 3) (e 23) (e 24) (e 25) H5=((n:Int)-(i:Int)).toNat:=by rw[e5]
 show AB (.bin .lss (.cst (e 25)) (.cst (e 24))) _
 rw[e1,e2,e3,e4,e5]
 obtain⟨L5,s⟩:=hP.st
 refine BT (fun hlt=>Ai ?_) (fun hlt=>AZ ?_)
 ·obtain⟨l,hl⟩:∃l,ls[i]?=some l:=⟨ls[i]'(by omega),List.getElem?_eq_getElem (by omega)⟩
  obtain⟨v,o,hv1,⟨cs,hlv,hgx⟩,hsub⟩:=hv.at i l hl
  have hlv:Lv 2 o l.length cs v:=hlv
  have hgx:GX 2 (RE B5 l) l.length cs:=hgx
  have hvi:(vs++junk)[i*1]?=some v:=by rw[Nat.mul_one,List.getElem?_append_left (by omega)];exact hv1
  have hk1:l.length≤1000:=hK l (List.mem_of_getElem? hl)
  refine AA (LZ (by omega)) (s.Zj l1 l2 hvi (hlv.len ?_))
  let I2:AV→AV→AV→AV→AV→AV→AV→AV→AH→Prop:=fun a b c e f g h k H'=>a=.ptr q1 0∧b=.ptr q7 0∧c=.sl ql 0 n lim∧e=iv (n:Int)∧f=iv (i:Int)∧g=v∧h=iv (l.length:Int)∧∃j:Nat,k=iv (j:Int)∧j≤l.length∧Wk H q1 q7 x0 x1 x2 x3 [] (run d (B_ ls i j)).1 (run d (B_ ls i j)).2 H'
  let μ2:AV→AV→AV→AV→AV→AV→AV→AV→AH→Nat:=fun _ _ _ _ _ _ _ f _=>match f with
   | .int _ j=>(l.length-j).toNat
   | _=>0
  refine⟨I2,μ2,⟨rfl,rfl,rfl,rfl,rfl,rfl,rfl,0,rfl,by omega,hP⟩,?_⟩
  clear hP s
  intro g H6 hI
  obtain⟨g1',g2',g3',g4',g5',g6',g7',k,g8',hk,hP⟩:=(hI:I2 (g 2) (g 3) (g 23) (g 24) (g 25) (g 29) (g 30) (g 31) H6)
  have hmu2:μ2 (g 2) (g 3) (g 23) (g 24) (g 25) (g 29) (g 30) (g 31) H6=((l.length:Int)-(k:Int)).toNat:=by rw[g8']
  show AB (.bin .lss (.cst (g 31)) (.cst (g 30))) _
  rw[g1',g2',g3',g4',g5',g6',g7',g8']
  refine BT (fun hlt2=>Ai ?_) (fun hlt2=>AZ ?_)
  ·obtain⟨x,hx⟩:∃x,l[k]?=some x:=⟨l[k]'(by omega),List.getElem?_eq_getElem (by omega)⟩
   obtain⟨c2,k1,_,⟨x',hx',hr⟩,k4,k5,k6⟩:=hgx.at (i:=k) (by omega)
   have hx':l[k]?=some x':=hx'
   rw[hx]at hx'
   cases hx'
   obtain⟨cf1,Z5,rfl,hf,hll⟩:=hr
   obtain⟨fv,rfl⟩:=RS.one hf
   obtain⟨lv,rfl⟩:=RS.one hll
   obtain⟨f,lat⟩:=x
   have hf:RS (.list BX) f [fv]:=hf
   have hll:RS (.list BR) lat [lv]:=hll
   obtain⟨q,rfl,hix,_⟩:=hlv.idx (i:=k) (by omega)
   obtain⟨o1,o2⟩:=ho (q,cs) (hsub (.head _))
   have hmem:(f,lat)∈ls.flatten:=List.mem_flatten.2 ⟨l,List.mem_of_getElem? hl,List.mem_of_getElem? hx⟩
   have hbk:=hB _ hmem
   obtain⟨rr,hrr⟩:=GZ ls i (k+1)
   have hup:=JC ls i k l (f,lat) hl hx
   obtain⟨p,hp⟩:∃p,p=run d (B_ ls i k):=⟨_,rfl⟩
   have hst:run d (B_ ls i (k+1))=iu p (f,lat):=by rw[hup,Fb,hp]
   have hpa:p.1.length+lat.length≤1000:=by
    have h1:=(F_ d (B_ ls i (k+1))).1
    have h2:=Ii d (B_ ls i (k+1)) rr
    rw[←hrr]at h2
    rw[hst]at h1
    have h3:(p.1++lat).length=HV d (B_ ls i (k+1)):=h1
    rw[List.length_append]at h3
    omega
   have hpf:p.2.length≤1000:=by
    have:∀(a r:List As),(run d a).2.length≤(run d (a++r)).2.length:=fun a r=>by
     induction r generalizing a with
     | nil=>simp
     | cons y r ih=>
      have h1:=ih (a++[y])
      rw[List.append_assoc,List.singleton_append]at h1
      have h2:(run d (a++[y])).2.length=(run d a).2.length+1:=by rw[Fb];show((run d a).2++[_]).length=_;simp
      omega
    obtain⟨rr0,hrr0⟩:=GZ ls i k
    have h1:=this (B_ ls i k) rr0
    rw[←hrr0,←hp]at h1
    omega
   rw[←hp]at hP
   obtain⟨L6,s⟩:=hP.st
   refine AA (hix 2) (s.Zi o1 o2 k4 k5 ?_)
   obtain⟨at_,fo,oa,ca,of,cf,R,s,la,ga,lf,gf⟩:=hP.ex
   refine s.alloc fun q37 H7 s=>s.Cr (vs:=[fv,lv]) rfl rfl fun H8 s=>?_
   refine AA rfl (s.ld (x:=fv) (.head _) rfl ?_)
   refine s.UU (oj hf) fun vf o3 c3 H9 s l3 g3=>?_
   have g3:GX 3 (RE BX f) f.length c3:=g3
   have l3:Lv 3 o3 f.length c3 vf:=l3
   have hc3:=dK g3
   subst hc3
   have hfl:f.length≤100000:=hf.le
   refine l3.len ?_
   have hP:Wk H q1 q7 x0 x1 x2 x3 (o3++[(q37,[fv,lv])]) p.1 p.2 H9:=⟨at_,fo,oa,ca,of,cf,R,by simpa using s,la,ga,lf,gf⟩
   clear s la ga lf gf
   let I3:AV→AV→AV→AV→AV→AV→AV→AV→AV→AV→AV→AV→AH→Prop:=fun a b c e f1 g h m n1 o1 p1 k1 H'=>a=.ptr q1 0∧b=.ptr q7 0∧c=.ptr q37 0∧e=vf∧f1=.sl ql 0 n lim∧g=iv (n:Int)∧h=iv (i:Int)∧m=v∧n1=iv (l.length:Int)∧o1=iv (k:Int)∧p1=iv (f.length:Int) ∧
    ∃(j:Nat) (o3:OL),k1=iv (j:Int)∧j≤f.length∧Wk H q1 q7 x0 x1 x2 x3 (o3++[(q37,[fv,lv])]) p.1 p.2 H'∧Lv 3 o3 f.length (KU (fj p.1.length f j)) vf
   let μ3:AV→AV→AV→AV→AV→AV→AV→AV→AV→AV→AV→AV→AH→Nat:=fun _ _ _ _ _ _ _ _ _ _ _ f1 _=>match f1 with
    | .int _ j=>(f.length-j).toNat
    | _=>0
   refine⟨I3,μ3,⟨rfl,rfl,rfl,rfl,rfl,rfl,rfl,rfl,rfl,rfl,rfl,0,o3,rfl,by omega,hP,by rw[WJ];exact l3⟩,?_⟩
   clear hP l3
   intro u H10 hI
   obtain⟨u1,u2,u3,u4,u5,u6,u7,u8,u9,u10,u11,j,o3,u12,hj,hP,l3⟩:=(hI:I3 (u 2) (u 3) (u 7) (u 8) (u 23) (u 24) (u 25) (u 29) (u 30) (u 31) (u 39) (u 40) H10)
   have hmu3:μ3 (u 2) (u 3) (u 7) (u 8) (u 23) (u 24) (u 25) (u 29) (u 30) (u 31) (u 39) (u 40) H10=((f.length:Int)-(j:Int)).toNat:=by rw[u12]
   show AB (.bin .lss (.cst (u 40)) (.cst (u 39))) _
   rw[u1,u2,u3,u4,u5,u6,u7,u8,u9,u10,u11,u12]
   obtain⟨at_,fo,oa,ca,of,cf,R,s,la,ga,lf,gf⟩:=hP.ex
   refine BT (fun hlt3=>Ai ?_) (fun hlt3=>AZ ?_)
   ·obtain⟨y,hy⟩:∃y,f[j]?=some y:=⟨f[j]'(by omega),List.getElem?_eq_getElem (by omega)⟩
    obtain⟨A1,B1,hA1,hfj,hfj2⟩:=fT p.1.length f j y hy
    obtain⟨kd,Ly,Ry⟩:=y
    have hby:=hbk _ (List.mem_of_getElem? hy)
    have hby:-1000000≤Ly∧Ly≤1000000:=hby
    obtain⟨q3,rfl,hix3,hlv3⟩:=l3.idx (i:=j) (by omega)
    rw[hfj]at s
    have s:BE H ((q3,KU (A1++(kd,Ly,Ry)::B1))::((q37,[fv,lv])::(q7,[x0,x1,x2,x3,at_,fo])::(oa++(of++(R++[(q1,Av 6 AV.nils [])]))))) H10:=s
    have a0:=TW A1 B1 (kd,Ly,Ry) 0 (iv kd) rfl
    have a1:=TW A1 B1 (kd,Ly,Ry) 1 (iv Ly) rfl
    rw[hA1]at a0 a1
    have again:∀(H':AH) (c':List AV),BE H ((q3,c')::((q37,[fv,lv])::(q7,[x0,x1,x2,x3,at_,fo])::(oa++(of++(R++[(q1,Av 6 AV.nils [])]))))) H'→c'=KU (fj p.1.length f (j+1)) →
      I3 (.ptr q1 0) (.ptr q7 0) (.ptr q37 0) vf (.sl ql 0 n lim) (iv (n:Int)) (iv (i:Int)) v (iv (l.length:Int)) (iv (k:Int)) (iv (f.length:Int)) (iv ((j:Int)+1)) H'∧μ3 (.ptr q1 0) (.ptr q7 0) (.ptr q37 0) vf (.sl ql 0 n lim) (iv (n:Int)) (iv (i:Int)) v (iv (l.length:Int)) (iv (k:Int)) (iv (f.length:Int)) (iv ((j:Int)+1)) H'<μ3 (u 2) (u 3) (u 7) (u 8) (u 23) (u 24) (u 25) (u 29) (u 30) (u 31) (u 39) (u 40) H10:=fun H' c' s hc'=>by
     subst hc'
     refine⟨⟨rfl,rfl,rfl,rfl,rfl,rfl,rfl,rfl,rfl,rfl,rfl,j+1,_,rfl,by omega,⟨at_,fo,oa,ca,of,cf,R,s,la,ga,lf,gf⟩,hlv3 _⟩,?_⟩
     rw[hmu3]
     show((f.length:Int)-((j:Int)+1)).toNat<((f.length:Int)-(j:Int)).toNat
     omega
    refine AA (hix3 3) (AA rfl (s.ld (x:=iv kd) (.head _) a0 ?_))
    refine FM (fun hkd=>CK ?_) (fun hkd=>CL (BA ⟨by omega,by omega⟩ (again _ _ s ?_)))
    ·refine AA (hix3 3) (AA rfl (s.ld (x:=iv Ly) (.head _) a1 ?_))
     refine AA rfl (s.ld (x:=at_) (.tail _ (.tail _ (.head _))) rfl (la.len (BA ⟨by omega,by omega⟩ ?_)))
     refine AA (hix3 3) (AA rfl (s.B6 (A:=[]) (vs:=[iv (Ly+(p.1.length:Int))]) rfl rfl (by rw[Ig];simp;omega) fun H11 s=>BA ⟨by omega,by omega⟩ (again _ _ s ?_)))
     have e:Sw p.1.length (kd,Ly,Ry)=(kd,Ly+(p.1.length:Int),Ry):=if_pos hkd
     rw[hfj2,e,←hA1,Pe]
    ·have e:Sw p.1.length (kd,Ly,Ry)=(kd,Ly,Ry):=if_neg hkd
     rw[hfj2,e]
   have hjn:j=f.length:=by omega
   subst hjn
   rw[Zu]at l3
   refine AA rfl (s.ld (x:=fo) (List.mem_append_right _ (.head _)) rfl ?_)
   have s:BE H (of++((o3++(q37,[fv,lv])::(q7,[x0,x1,x2,x3,at_,fo])::oa)++(R++[(q1,Av 6 AV.nils [])]))) H10:=BE.DP (A:=o3++(q37,[fv,lv])::(q7,[x0,x1,x2,x3,at_,fo])::oa) (by simpa using s)
   refine s.app (k:=1) (c:=[vf]) lf gf.n l3.cell rfl rfl (by omega) (by decide) fun of' fo' H11 s lf'=>?_
   have s:BE H ((of'++(o3++[(q37,[fv,lv])]))++(q7,[x0,x1,x2,x3,at_,fo])::(oa++(R++[(q1,Av 6 AV.nils [])]))) H11:=by simpa using s
   refine AA rfl (s.B6 (vs:=[fo']) lf'.cell rfl (by simp) fun H12 s=>?_)
   have s:BE H ((of'++(o3++[(q37,[fv,lv])]))++(q7,[x0,x1,x2,x3,at_,fo'])::(oa++(R++[(q1,Av 6 AV.nils [])]))) H12:=s
   refine AA rfl (s.ld (x:=lv) (c:=[fv,lv]) (List.mem_append_left _ (List.mem_append_right _ (List.mem_append_right _ (.head _)))) rfl ?_)
   have fll:=hll.fl
   have lle:=hll.le
   refine fll.len ?_
   obtain⟨fy,hfy1,hfy2⟩:=((Zf (IU p.1.length f)).gl (R:=R++o3)).Gs (by rw[show(IU p.1.length f).length=f.length by simp[IU]];exact l3)
   have hfy:FZ (R++o3) vf fy:=hfy1.mono fun w hw=>by
    rcases List.mem_append.1 hw with h | h
    ·exact List.mem_append_right _ h
    ·exact h
   have hgf:GL (R++o3) 1 (RE (.list BX) (p.2++[IU p.1.length f])) (p.2++[IU p.1.length f]).length (cf++[vf]):=by
    rw[List.length_append]
    refine((gf.mono (List.subset_append_left _ _)).eu fun i c hi h=>Je hi h).add (c':=[fy]) (.cons hfy .nil) rfl rfl (fun k=>.cons (hfy2.sc k) .nil) (Jd ?_)
    exact RS.of (t:=BX) (l:=IU p.1.length f) (by show(IU p.1.length f).length≤100000;simp[IU];exact hfl) hfy2
   have hP:Wk H q1 q7 x0 x1 x2 x3 [] (p.1++lat.take 0) (p.2++[IU p.1.length f]) H12:=by
    refine⟨at_,fo',oa,ca,of',cf++[vf],R++o3,?_,by simpa using la,by simpa using ga,by simpa using lf',hgf⟩
    refine(s.sub (L':=(of'++o3)++(q7,[x0,x1,x2,x3,at_,fo'])::(oa++(R++[(q1,Av 6 AV.nils [])]))) ?_).perm ?_
    ·exact((List.Sublist.refl of').append (List.sublist_append_left o3 _)).append (List.Sublist.refl _)
    ·exact(List.Perm.cons _ eX).trans List.perm_middle.symm
   clear s la ga lf gf lf' hgf
   let I4:AV→AV→AV→AV→AV→AV→AV→AV→AV→AV→AV→AH→Prop:=fun a b c e f1 g h k1 ll nn jj H'=>a=.ptr q1 0∧b=.ptr q7 0∧c=.sl ql 0 n lim∧e=iv (n:Int)∧f1=iv (i:Int)∧g=v∧h=iv (l.length:Int)∧k1=iv (k:Int)∧ll=lv∧nn=iv (lat.length:Int) ∧
    ∃j:Nat,jj=iv (j:Int)∧j≤lat.length∧Wk H q1 q7 x0 x1 x2 x3 [] (p.1++lat.take j) (p.2++[IU p.1.length f]) H'
   let μ4:AV→AV→AV→AV→AV→AV→AV→AV→AV→AV→AV→AH→Nat:=fun _ _ _ _ _ _ _ _ _ _ f1 _=>match f1 with
    | .int _ j=>(lat.length-j).toNat
    | _=>0
   refine⟨I4,μ4,⟨rfl,rfl,rfl,rfl,rfl,rfl,rfl,rfl,rfl,rfl,0,rfl,by omega,hP⟩,?_⟩
   clear hP
   intro w H13 hI
   obtain⟨w1,w2,w3,w4,w5,w6,w7,w8,w9,w10,j,w11,hj2,hP⟩:=(hI:I4 (w 2) (w 3) (w 23) (w 24) (w 25) (w 29) (w 30) (w 31) (w 68) (w 69) (w 70) H13)
   have hmu4:μ4 (w 2) (w 3) (w 23) (w 24) (w 25) (w 29) (w 30) (w 31) (w 68) (w 69) (w 70) H13=((lat.length:Int)-(j:Int)).toNat:=by rw[w11]
   show AB (.bin .lss (.cst (w 70)) (.cst (w 69))) _
   rw[w1,w2,w3,w4,w5,w6,w7,w8,w9,w10,w11]
   refine BT (fun hlt4=>Ai ?_) (fun hlt4=>AZ ?_)
   ·obtain⟨at_,fo,oa,ca,of,cf,R,s,la,ga,lf,gf⟩:=hP.ex
    refine fll.IG (i:=j) (by
      have:j<lat.length:=by omega
      exact this) fun c hcl _ hc=>?_
    obtain⟨a,ha,hra⟩:=hc
    have ha:lat[j]?=some a:=ha
    refine s.alloc fun q51 H14 s=>s.Cr hcl rfl fun H15 s=>?_
    have s:BE H ((q51,c)::(q7,[x0,x1,x2,x3,at_,fo])::(oa++(of++(R++[(q1,Av 6 AV.nils [])])))) H15:=s
    have hm7:(q7,[x0,x1,x2,x3,at_,fo])∈((q51,c)::(q7,[x0,x1,x2,x3,at_,fo])::(oa++(of++(R++[(q1,Av 6 AV.nils [])])))):=.tail _ (.head _)
    refine AA rfl (s.ld (x:=at_) hm7 rfl (s.DN (c:=c) (.head _) hcl ?_))
    refine BK (iR hra) fun y hy=>⟨⟨s.Ei hm7 rfl,trivial⟩,?_⟩
    obtain⟨c',rfl,hr'⟩:=hy
    have hc':c'.length=18:=CM BR _ _ hr'
    have s:BE H (oa++([(q51,c),(q7,[x0,x1,x2,x3,at_,fo])]++(of++(R++[(q1,Av 6 AV.nils [])])))) H15:=BE.DP (A:=[(q51,c),(q7,[x0,x1,x2,x3,at_,fo])]) s
    have hAl:(p.1++lat.take j).length≤100000:=by rw[List.length_append,List.length_take];omega
    have hA':p.1++lat.take (j+1)=(p.1++lat.take j)++[a]:=by rw[List.take_add_one,ha,Option.toList_some,List.append_assoc]
    refine Hb (s.app (k:=18) (c:=c') la ga.ln rfl hc' rfl (by omega) (by decide) fun oa' at' H16 s la'=>⟨trivial,?_⟩)
    have s:BE H ((oa'++[(q51,c)])++(q7,[x0,x1,x2,x3,at_,fo])::(of++(R++[(q1,Av 6 AV.nils [])]))) H16:=by simpa using s
    refine AA rfl (s.B6 (vs:=[at']) la'.cell rfl (by simp) fun H17 s=>⟨trivial,BA ⟨by omega,by omega⟩ ⟨⟨rfl,rfl,rfl,rfl,rfl,rfl,rfl,rfl,rfl,rfl,j+1,rfl,by omega,?_⟩,?_⟩⟩)
    ·rw[hA']
     refine⟨at',fo,oa',ca++c',of,cf,R,?_,by rw[List.length_append];exact la',?_,lf,gf⟩
     ·have s:BE H ((oa'++[(q51,c)])++(q7,[x0,x1,x2,x3,at',fo])::(of++(R++[(q1,Av 6 AV.nils [])]))) H17:=s
      refine(s.sub (L':=oa'++(q7,[x0,x1,x2,x3,at',fo])::(of++(R++[(q1,Av 6 AV.nils [])]))) ?_).perm List.perm_middle.symm
      exact(List.sublist_append_left oa' _).append (List.Sublist.refl _)
     ·rw[List.length_append]
      exact(ga.mono fun i c hi h=>Je hi h).Dw hc' (fun k=>CC k BR _ _ hr') (Jd hr')
    ·show _<μ4 (w 2) (w 3) (w 23) (w 24) (w 25) (w 29) (w 30) (w 31) (w 68) (w 69) (w 70) H13
     rw[hmu4]
     show((lat.length:Int)-((j:Int)+1)).toNat<((lat.length:Int)-(j:Int)).toNat
     omega
   have hjn:j=lat.length:=by omega
   subst hjn
   rw[List.take_length]at hP
   refine BA ⟨by omega,by omega⟩ ⟨⟨rfl,rfl,rfl,rfl,rfl,rfl,rfl,k+1,rfl,by omega,by rw[hst];exact hP⟩,?_⟩
   show _<μ2 (g 2) (g 3) (g 23) (g 24) (g 25) (g 29) (g 30) (g 31) H6
   rw[hmu2]
   show((l.length:Int)-((k:Int)+1)).toNat<((l.length:Int)-(k:Int)).toNat
   omega
  ·have hkn:k=l.length:=by omega
   subst hkn
   rw[Hm ls i l hl]at hP
   refine BA ⟨by omega,by omega⟩ ⟨⟨rfl,rfl,rfl,rfl,i+1,rfl,by omega,hP⟩,?_⟩
   show _<μ1 (e 2) (e 3) (e 23) (e 24) (e 25) H5
   rw[hmu1]
   show((n:Int)-((i:Int)+1)).toNat<((n:Int)-(i:Int)).toNat
   omega
 ·have hin:i=ls.length:=by omega
  subst hin
  rw[Ky]at hP
  clear s
  obtain⟨at_,fo,oa,ca,of,cf,R,s,la,ga,lf,gf⟩:=hP.ex
  refine s.DN (c:=[x0,x1,x2,x3,at_,fo]) (.head _) rfl ?_
  have s:BE H (((q7,[x0,x1,x2,x3,at_,fo])::(oa++(of++R)))++(q1,Av 6 AV.nils [])::[]) H5:=by simpa using s
  refine s.B6 (vs:=[x0,x1,x2,x3,at_,fo]) rfl rfl (by decide) fun H6 s=>?_
  have s:BE H (((q7,[x0,x1,x2,x3,at_,fo])::(oa++(of++R)))++(q1,[x0,x1,x2,x3,at_,fo])::[]) H6:=s
  refine s.DN (q:=q1) (c:=[x0,x1,x2,x3,at_,fo]) (List.mem_append_right _ (.head _)) rfl ?_
  obtain⟨ya,ya1,ya2⟩:=(ga.gl (R:=[])).Gs la
  obtain⟨yf,yf1,yf2⟩:=gf.Gs lf
  have hla:(run d ls.flatten).1.length≤100000:=by rw[(F_ d ls.flatten).1];omega
  refine s.fin (y:=.agg [x0,x1,x2,x3,ya,yf]) (.agg (.cons (.low fun k=>RS.Vs g0 k) (.cons (.low fun k=>RS.Vs g1 k) (.cons (.low fun k=>RS.Vs g2 k) (.cons (.low fun k=>RS.Vs g3 k) (.cons (ya1.mono ?_) (.cons (yf1.mono ?_) .nil))))))) ⟨_,rfl,NJ (d:=PR d ls.flatten) g0 g1 g2 g3 (RS.of (t:=BR) (l:=(run d ls.flatten).1) hla ya2) (RS.of (t:=.list BX) (l:=(run d ls.flatten).2) (Nat.le_trans hM (by decide)) yf2)⟩
  ·intro w hw
   simp only[List.append_nil]at hw
   simp[hw]
  ·intro w hw
   rcases List.mem_append.1 hw with h | h<;>simp[h]
end Go.Proofs.YtdcdbabponelcaaGreatDoor
