import Derived.Test.YtlmkmpomgdbjhaaGreatDoorZa00
import Derived.MapFrom
import Derived.Carry
import Derived.Laws.IdiomRangeMap
import Derived.Defers
import Derived.Lib.BytesEntry
import Derived.Laws.BytesString
/-
  a part of the proof.
-/
set_option linter.unusedSectionVars false
set_option linter.unusedVariables false
set_option linter.unusedSimpArgs false
namespace Go.AL
section
section
variable {P:Program}{Z:Zt}{σ:Sg}{H:AH}{e:Env}{a:Act}{w:World}
theorem cells?_some {r:Nat}{l:List AV}(h:H.cells? r=some l):H.get r=some (.cells l):=by
 unfold AH.cells? at h
 split at h
 ·rename_i l' h';simp only[AD]at h;subst h;exact h'
 ·cases h
theorem WR.row (hW:WR Z σ H w){r:Nat}{l:List AV}{p:Ip}(hr:H.cells? r=some l) (hp:σ r=some p) :
  Z p.b=none/\∃c e fr,w.heap[p.b]?=some (.cells c e fr)/\c.size=p.size/\pH fr c.size/\p.base+l.length<=c.size /\
   CC Z σ l ((c.toList.drop p.base).take l.length)/\∀v∈(c.toList.drop p.base).take l.length,v.oneCell'=true:=by
 obtain⟨h1,h2⟩:=hW.h r _ p (cells?_some hr) hp
 cases h2 with
 | cells hb hs hf hl hv h1'=>exact⟨h1,_,_,_,hb,hs,hf,hl,hv,h1'⟩
theorem FD {b:Nat}{c:Array Value}{el:TypeId}{fr:Nat × Nat}(hb:w.heap[b]?=some (.cells c el fr)) {o n:Nat}(hn:o+n<=c.size) :
  (loadCells ⟨b,o,none⟩ n).run P w=.ok ((c.toList.drop o).take n).toArray w:=by
 have hlen:((c.toList.drop o).take n).length=n:=by simp;omega
 have:=run_loadCells_list (P:=P) w ⟨b,o,none⟩ ((c.toList.drop o).take n) (fun j v hv=>by
  rw[C3]
  simp only[World.cell?,hb]
  have hj:j<n:=by have:=(CJ.1 hv).1;omega
  rw[GZ hj,DD]at hv
  simpa using hv)
 rwa [hlen]at this
theorem Wt {c:Array Value}{base:Nat}{l:List AV}(hv:CC Z σ l ((c.toList.drop base).take l.length)):l.length<=c.size-base:=by
 have h:=hv.length
 rw[BL,B3]at h
 have e:c.toList.length=c.size:=Fe
 omega
theorem Ku {t:TypeId}{g:Option Nat}(hg:Ic P t=some g) {b base:Nat}{c:Array Value}{el:TypeId}{fr:Nat × Nat}(hb:w.heap[b]?=some (.cells c el fr)){l:List AV}
  (hv:CC Z σ l ((c.toList.drop base).take l.length)) (h1:∀v∈(c.toList.drop base).take l.length,v.oneCell'=true) {o:Nat} {v:AV} (hp:apart g l o=some v) :
  ∃cv,(Instr.loadAt t (.pointer (some ⟨b,base+o,none⟩))).run P w=.ok cv w/\VR Z σ v cv:=by
 have hl:=Wt hv
 unfold Ic at hg
 cases ha:ZR P t with
 | none=>simp[ha]at hg
 | some bb=>
  cases hs:Ct P t with
  | none=>simp[ha,hs]at hg
  | some n=>
   cases bb
   ·simp[ha,hs]at hg;subst hg
    simp only[apart]at hp
    obtain⟨cv,g1,g2⟩:=hv.get hp
    refine⟨cv,?_,g2⟩
    have ho:o<l.length:=(CJ.1 hp).1
    rw[GZ ho,DD]at g1
    have g1':c[base+o]?=some cv:=by simpa using g1
    have hc:w.cell? ⟨b,base+o,none⟩=some cv:=by simp[World.cell?,hb,g1']
    simp[Instr.loadAt,Instr.sureAddr,loadVar,IJ ha,hc]
   ·simp[ha,hs]at hg;subst hg
    simp only[apart]at hp
    split at hp
    ·rename_i hon
     simp only[AD]at hp;subst hp
     have hr:(loadCells ⟨b,base+o,none⟩ n).run P w=.ok ((c.toList.drop (base+o)).take n).toArray w:=by
      by_cases h0:n=0
      ·subst h0;simp[loadCells,loadCellsFrom]
      ·exact FD (P:=P) hb (o:=base+o) (n:=n) (by omega)
     refine⟨_,by simp[Instr.loadAt,Instr.sureAddr,loadVar,IJ ha,BX hs,hr];rfl,?_⟩
     have e1:(c.toList.drop (base+o)).take n=(((c.toList.drop base).take l.length).drop o).take n:=by
      rw[Fl,De,Ea,B7 (by omega)]
     refine .agg ?_ ?_
     ·simp only[e1];intro u hu;exact h1 u (ED (Dq hu))
     ·simp only[e1];exact(hv.drop _).take _
    ·cases hp
theorem Nc (hW:WR Z σ H w){t:TypeId}{g:Option Nat}(hg:Ic P t=some g){x:AV}{vx:Value}(hx:VR Z σ x vx){v:AV}(hv:BJ g x H=some v) :
  ∃cv,(Instr.loadAt t vx).run P w=.ok cv w/\VR Z σ v cv:=by
 unfold BJ at hv
 split at hv
 ·rename_i r o
  split at hv
  ·rename_i l hl
   obtain⟨p,hp,rfl⟩:=hx.HF
   obtain⟨_,c,el,fr,hb,_,_,_,h5,h6⟩:=hW.row hl hp
   exact Ku hg hb h5 h6 hv
  ·cases hv
 ·obtain⟨b,base,c,el,fr,hz,h1,h2,rfl⟩:=hx.SX
  exact Ku hg (hW.z _ _ hz) h2 h1 hv
 ·cases hv
theorem NV:∀{l:List Value}{xs:List AV},P0 l=some xs->CC Z σ xs l/\∀v∈l,v.oneCell'=true
 | [],xs,h=>by simp only[P0,AD]at h;subst h;exact⟨.nil,by simp⟩
 | v::l,xs,h=>by
  cases v<;>simp only[P0,AP,reduceCtorEq]at h
  obtain⟨ys,h1,rfl⟩:=h
  obtain⟨h2,h3⟩:=NV (l:=l) h1
  refine⟨.cons (.int _ _) h2,fun u hu=>?_⟩
  rcases DF.1 hu with rfl | hu
  ·rfl
  ·exact h3 u hu
theorem Uf (hW:WR Z σ H w){t:TypeId}{g:Option Nat}(hg:Ic P t=some g){b:Nat}{v:AV}(hv:XO g b H=some v) :
  ∃cv,(Instr.loadAt t (.pointer (some ⟨b,0,none⟩))).run P w=.ok cv w/\VR Z σ v cv:=by
 unfold XO at hv
 split at hv<;>(try cases hv;done)
 rename_i c el fr hb
 simp only[C5]at hv
 obtain⟨l,hl,hp⟩:=hv
 obtain⟨h1,h2⟩:=NV (Z:=Z) (σ:=σ) hl
 have hw:=hW.z _ _ (hW.rest.2.2 b _ hb).1
 have hlen:l.length=c.toList.length:=h1.length.symm▸rfl
 have e:(c.toList.drop 0).take l.length=c.toList:=by rw[B5,hlen,GU]
 have:=Ku (P:=P) (base:=0) (o:=0) hg hw (l:=l) (by rw[e];exact h1) (by rw[e];exact h2) hp
 simpa using this
theorem FV (hW:WR Z σ H w){esz:Nat}{x:AV}{vx:Value}(hx:VR Z σ x vx){m:Nat}{xs:List AV}(h:Ae esz x H=some (m,xs)) :
  ∃ad cap news,vx=.slice ad m cap/\CC Z σ xs news/\news.length=m*esz/\(∀v∈news,v.oneCell'=true)/\(ad=none->m=0) /\
   ∀w':World,w'.heap=w.heap->(Builtin.firstCells esz m vx).run P w'=.ok news.toArray w':=by
 unfold Ae at h
 split at h
 ·simp only[AD,Ao]at h;obtain⟨rfl,rfl⟩:=h
  exact⟨none,0,[],hx.DQ,.nil,by simp,by simp,by simp,fun w' _=>by rw[hx.DQ];simp[Builtin.firstCells]⟩
 ·rename_i l n ex
  split at h<;>simp only[AD,Ao,reduceCtorEq]at h
  rename_i hl
  obtain⟨rfl,rfl⟩:=h
  cases hx with
  | simz ad hx0=>exact⟨some ad,_,[],rfl,.nil,by simp,by simp,by simp,fun w' _=>by simp[Builtin.firstCells,loadCells,loadCellsFrom]⟩
  | simn=>exact⟨none,0,[],rfl,.nil,by simp,by simp,by simp,fun w' _=>by simp[Builtin.firstCells]⟩
  | sim hn hxx hs hz h1 hv=>
   rename_i cap ad c el fr
   obtain⟨b0,o0,s0⟩:=ad
   simp only at hs;subst hs
   have hlen:=hv.length
   refine⟨some ⟨b0,o0,none⟩,cap,_,rfl,hv,by rw[<- hlen,hl],h1,by simp,fun w' hw'=>?_⟩
   have hb:w'.heap[b0]?=some (.cells c el fr):=by rw[hw'];exact hW.z _ _ hz
   have hlen':=Wt hv
   simp only at hlen'
   simp only[Builtin.firstCells]
   rw[<- hl]
   by_cases h0:l.length=0
   ·rw[h0];simp[loadCells,loadCellsFrom]
   ·exact FD hb (by omega)
 ·rename_i r o n lim
  split at h
  ·rename_i l hl
   split at h<;>simp only[AD,Ao,reduceCtorEq]at h
   rename_i hlen
   obtain⟨rfl,rfl⟩:=h
   have main:∀(p:Ip) (cap:Nat),σ r=some p->∃news,CC Z σ ((l.drop o).take (n*esz)) news/\news.length=n*esz/\(∀v∈news,v.oneCell'=true) /\
     ∀w':World,w'.heap=w.heap->(Builtin.firstCells esz n (.slice (some ⟨p.b,p.base+o,none⟩) n cap)).run P w'=.ok news.toArray w':=by
    intro p cap hp
    obtain⟨_,c,el,fr,hb,_,_,h4,h5,h6⟩:=hW.row hl hp
    have e1:(c.toList.drop (p.base+o)).take (n*esz)=(((c.toList.drop p.base).take l.length).drop o).take (n*esz):=by
     rw[Fl,De,Ea,B7 (by omega)]
    refine⟨(c.toList.drop (p.base+o)).take (n*esz),by rw[e1];exact(h5.drop _).take _,by simp;omega,?_,fun w' hw'=>?_⟩
    ·rw[e1];intro u hu;exact h6 u (ED (Dq hu))
    ·simp only[Builtin.firstCells]
     exact FD (by rw[hw'];exact hb) (by omega)
   have zero:∀(ad:Addr) (w':World),(Builtin.firstCells esz 0 (.slice (some ad) 0 0)).run P w'=.ok #[] w':=fun ad w'=>by simp[Builtin.firstCells,loadCells,loadCellsFrom]
   cases hx with
   | slx hp hn=>
    obtain⟨news,g1,g2,g3,g4⟩:=main _ _ hp
    exact⟨_,_,news,rfl,g1,g2,g3,by simp,g4⟩
   | slxz hp ad=>exact⟨_,_,[],rfl,by simp;exact .nil,by simp,by simp,by simp,fun w' _=>zero ad w'⟩
   | slo hp hn hs=>
    obtain⟨news,g1,g2,g3,g4⟩:=main _ _ hp
    exact⟨_,_,news,rfl,g1,g2,g3,by simp,g4⟩
   | sloz hp ad=>exact⟨_,_,[],rfl,by simp;exact .nil,by simp,by simp,by simp,fun w' _=>zero ad w'⟩
  ·cases h
 ·cases h
theorem ZW (hW:WR Z σ H w){x:AV}{vx:Value}(hx:VR Z σ x vx){m:Nat}{xs:List AV}(h:Ae 1 x H=some (m,xs)) :
  ∃ad cap news,vx=.slice ad m cap/\CC Z σ xs news/\news.length=m/\(ad=none->m=0)/\∀b,ad=some b->∀(j:Nat) (v:Value),news[j]?=some v->w.cell? (b.add j)=some v:=by
 unfold Ae at h
 split at h
 ·simp only[AD,Ao]at h;obtain⟨rfl,rfl⟩:=h
  exact⟨none,0,[],hx.DQ,.nil,rfl,fun _=>rfl,fun b hb=>by cases hb⟩
 ·rename_i l n ex
  split at h<;>simp only[AD,Ao,reduceCtorEq]at h
  rename_i hl
  obtain⟨rfl,rfl⟩:=h
  cases hx with
  | simz ad hx0=>exact⟨some ad,_,[],rfl,.nil,rfl,(fun h=>by cases h),fun b _ j v hv=>by simp at hv⟩
  | simn=>exact⟨none,0,[],rfl,.nil,rfl,fun _=>rfl,fun b hb=>by cases hb⟩
  | sim hn hxx hs hz h1 hv=>
   rename_i cap ad c el fr
   obtain⟨b0,o0,s0⟩:=ad
   simp only at hs;subst hs
   have hlen:=hv.length
   refine⟨some ⟨b0,o0,none⟩,cap,_,rfl,hv,by rw[<- hlen,hl,EU],(fun h=>by cases h),fun b hb j v hj=>?_⟩
   cases hb
   have hb:w.heap[b0]?=some (.cells c el fr):=hW.z _ _ hz
   rw[C3]
   simp only[World.cell?,hb]
   simp only at hj
   rw[D0]at hj
   split at hj
   ·rw[DD]at hj
    simpa using hj
   ·cases hj
 ·rename_i r o n lim
  split at h
  ·rename_i l hl
   split at h<;>simp only[AD,Ao,reduceCtorEq]at h
   rename_i hlen
   obtain⟨rfl,rfl⟩:=h
   have main:∀(p:Ip) (cap:Nat),σ r=some p->∃news,CC Z σ ((l.drop o).take (n*1)) news/\news.length=n/\∀b,some (⟨p.b,p.base+o,none⟩:Addr)=some b->∀(j:Nat) (v:Value),news[j]?=some v->w.cell? (b.add j)=some v:=by
    intro p cap hp
    obtain⟨_,c,el,fr,hb,_,_,h4,h5,h6⟩:=hW.row hl hp
    have e1:(c.toList.drop (p.base+o)).take (n*1)=(((c.toList.drop p.base).take l.length).drop o).take (n*1):=by
     rw[Fl,De,Ea,B7 (by omega)]
    refine⟨(c.toList.drop (p.base+o)).take (n*1),by rw[e1];exact(h5.drop _).take _,by simp;omega,fun b hbb j v hj=>?_⟩
    cases hbb
    rw[C3]
    simp only[World.cell?,hb]
    rw[D0]at hj
    split at hj
    ·rw[DD]at hj
     simpa using hj
    ·cases hj
   cases hx with
   | slx hp hn=>
    obtain⟨news,g1,g2,g3⟩:=main _ 0 hp
    exact⟨_,_,news,rfl,g1,g2,(fun h=>by cases h),g3⟩
   | slxz hp ad=>exact⟨some ad,_,[],rfl,by simp;exact .nil,rfl,(fun h=>by cases h),fun b _ j v hv=>by simp at hv⟩
   | slo hp hn hs=>
    obtain⟨news,g1,g2,g3⟩:=main _ 0 hp
    exact⟨_,_,news,rfl,g1,g2,(fun h=>by cases h),g3⟩
   | sloz hp ad=>exact⟨some ad,_,[],rfl,by simp;exact .nil,rfl,(fun h=>by cases h),fun b _ j v hv=>by simp at hv⟩
  ·cases h
 ·cases h
end
end
section
def Ap (l:List AV) (o:Nat) (vs:List AV):List AV:=
 match vs with
 | [v]=>l.set o v
 | vs=>l.take o++vs++l.drop (o+vs.length)
theorem Cu {l:List AV}{o:Nat}{vs:List AV}(h:o+vs.length<=l.length):Ap l o vs=l.take o++vs++l.drop (o+vs.length):=by
 unfold Ap
 split
 ·rename_i v
  simp only[Be,G9]at h ⊢
  rw[List.set_eq_take_append_cons_drop,if_pos (by omega)]
  simp
 ·rfl
theorem O_ {l:List AV}{o:Nat}{vs:List AV}(h:o+vs.length<=l.length):(Ap l o vs).length=l.length:=by
 rw[Cu h];simp;omega
section
variable {P:Program}{Z:Zt}{σ:Sg}{H:AH}{e:Env}{a:Act}{w:World}
theorem HP (b:Nat) (el:TypeId) (fr:Nat × Nat):∀(vs:List Value) (o:Nat) (w:World) (c:Array Value),w.heap[b]?=some (.cells c el fr)->o+vs.length<=c.size ->
  ∃c',(w.setCells b o vs).heap[b]?=some (.cells c' el fr)/\c'.size=c.size/\c'.toList=c.toList.take o++vs++c.toList.drop (o+vs.length)/\∀x,x≠b->(w.setCells b o vs).heap[x]?=w.heap[x]?
 | [],o,w,c,hb,_=>⟨c,hb,rfl,by simp,fun _ _=>rfl⟩
 | v::vs,o,w,c,hb,h=>by
  simp only[Be]at h
  have h1:(w.setCell ⟨b,o,none⟩ v).heap[b]?=some (.cells (c.setIfInBounds o v) el fr):=by
   simp only[World.setCell,LI,if_true,hb,FA]
   simp
  have h2:∀x,x≠b->(w.setCell ⟨b,o,none⟩ v).heap[x]?=w.heap[x]?:=by
   intro x hx
   simp only[World.setCell,LI]
   rw[if_neg (fun e=>hx e.symm)]
  obtain⟨c',g1,g2,g3,g4⟩:=HP b el fr vs (o+1) (w.setCell ⟨b,o,none⟩ v) _ h1 (by simp;omega)
  refine⟨c',g1,by rw[g2];simp,?_,fun x hx=>(g4 x hx).trans (h2 x hx)⟩
  rw[g3,SA]
  have hs:o<c.toList.length:=by simp;omega
  have e1:(c.toList.set o v).take (o+1)=c.toList.take o++[v]:=by
   rw[List.take_set,Nx hs,G3 _ _ (by rw[BL];omega)]
   have e:o-(c.toList.take o).length=0:=by rw[BL];omega
   rw[e];rfl
  have e2:(c.toList.set o v).drop (o+1+vs.length)=c.toList.drop (o+(vs.length+1)):=by
   rw[List.drop_set_of_lt (by omega),show o+1+vs.length=o+(vs.length+1)by omega]
  rw[e1,e2]
  simp
theorem Lk {C us:List Value}{base o n:Nat}(h1:o+us.length<=n) (h2:base+n<=C.length) :
  ((C.take (base+o)++us++C.drop (base+o+us.length)).drop base).take n=((C.drop base).take n).take o++us++((C.drop base).take n).drop (o+us.length):=by
 have hC:C=C.take base++C.drop base:=(Fo base C).symm
 generalize hA:C.take base=A at *
 generalize hB:C.drop base=B at *
 have lA:A.length=base:=by rw[<- hA,BL];omega
 have lB:n<=B.length:=by rw[<- hB,B3];omega
 subst hC
 have e1:(A++B).take (base+o)=A++B.take o:=by rw[List.take_append,lA];simp[AX (by omega:A.length<=base+o)]
 have e2:(A++B).drop (base+o+us.length)=B.drop (o+us.length):=by
  rw[EZ,lA,Bt (by omega),show base+o+us.length-base=o+us.length by omega];simp
 rw[e1,e2]
 have e3:(A++B.take o++us++B.drop (o+us.length)).drop base=B.take o++us++B.drop (o+us.length):=by
  simp only[Ar]
  rw[EZ,lA,Bt (by omega)]
  simp
 rw[e3]
 have lo:(B.take o).length=o:=by rw[BL];omega
 rw[List.take_append,AX (by simp;omega),AW,lo,Ea,B7 (by omega)]
 congr 1
 rw[Fl]
theorem JS (b:Nat):∀(vs:List Value) (o:Nat) (w:World),(w.setCells b o vs).os=w.os/\(w.setCells b o vs).output=w.output
 | [],_,_=>⟨rfl,rfl⟩
 | v::vs,o,w=>JS b vs (o+1) (w.setCell ⟨b,o,none⟩ v)
theorem KZ {b:Nat}{el:TypeId}{fr:Nat × Nat}{vs:List Value}{o:Nat}{w:World}{c:Array Value}(hb:w.heap[b]?=some (.cells c el fr)) (h:o+vs.length<=c.size):Rest w (w.setCells b o vs):=by
 exact⟨(JS b vs o w).1,(JS b vs o w).2⟩
theorem WR.Ap (hW:WR Z σ H w){r:Nat}{l:List AV}{p:Ip}(hr:H.cells? r=some l) (hp:σ r=some p){o:Nat}{vs:List AV}{us:List Value}(hv:CC Z σ vs us)
  (h1:∀u∈us,u.oneCell'=true) (ho:o+vs.length<=l.length) :
  (storeCells ⟨p.b,p.base+o,none⟩ us).run P w=.ok () (w.setCells p.b (p.base+o) us)/\WR Z σ (H.set r (.cells (Go.AL.Ap l o vs))) (w.setCells p.b (p.base+o) us):=by
 obtain⟨hz,c,el,fr,hb,hs,hf,hl,hv',h1'⟩:=hW.row hr hp
 have hlen:=hv.length
 obtain⟨c',g1,g2,g3,g4⟩:=HP p.b el fr us (p.base+o) w c hb (by omega)
 constructor
 ·have:=run_storeCells_cells (P:=P) p.b (p.base+o) us 0 w (fun j hj=>by
    simp only[World.cell?,hb,GS]
    simp;omega) (fun j hj=>by
    simp only[World.frozen?,hb,GS]
    have:=hf.not (p.base+o+j) (by omega)
    simp at this ⊢
    omega) h1
  simpa using this
 ·refine hW.update (cells?_some hr) hp g4 (KZ hb (by omega)) ?_
  have e:(c'.toList.drop p.base).take (Go.AL.Ap l o vs).length=((c.toList.drop p.base).take l.length).take o++us++((c.toList.drop p.base).take l.length).drop (o+us.length):=by
   rw[O_ ho,g3]
   exact Lk (by omega) (by simp;omega)
  refine .cells g1 (by omega) (by rw[g2];exact hf) (by rw[O_ ho,g2];exact hl) ?_ ?_
  ·rw[e,Cu ho,hlen]
   exact((hv'.take o).append hv).append (hv'.drop _)
  ·rw[e];intro u hu
   rcases BV.1 hu with hu | hu
   ·rcases BV.1 hu with hu | hu
    ·exact h1' u (Dq hu)
    ·exact h1 u hu
   ·exact h1' u (ED hu)
def Nw (σ:Sg) (n:Nat) (σ':Sg):Prop:=∀r,r<n->σ' r=σ r
theorem Nw.refl (σ:Sg) (n:Nat):Nw σ n σ:=fun _ _=>rfl
theorem Nw.add (σ:Sg) (n:Nat) (p:Ip):Nw σ n (σ.add n p):=by
 intro r hr
 have:r≠n:=by omega
 simp[Sg.add,this]
theorem Nw.trans {σ σ' σ'':Sg}{n m:Nat}(h:Nw σ n σ') (h':Nw σ' m σ'') (hn:n<=m):Nw σ n σ'':=fun r hr=>(h' r (by omega)).trans (h r hr)
theorem WR.sle (hW:WR Z σ H w) {σ':Sg}(h:Nw σ H.next σ'):LH σ σ':=fun r p hr=>by
 by_cases hlt:r<H.next
 ·rw[h r hlt];exact hr
 ·rw[hW.fresh r (by omega)]at hr;cases hr
theorem WR.newRow (hW:WR Z σ H w){l:List AV}{c:Array Value}(el:TypeId) (hl:l.length<=c.size) (hv:CC Z σ l (c.toList.take l.length)) (h1:∀u∈c.toList.take l.length,u.oneCell'=true) :
  WR Z (σ.add H.next ⟨w.heap.size,0,c.size⟩) (H.push (.cells l)) (w.alloc (.cells c el))/\Nw σ H.next (σ.add H.next ⟨w.heap.size,0,c.size⟩):=by
 have hS:LH σ (σ.add H.next ⟨w.heap.size,0,c.size⟩):=Sg.F9 (hW.fresh _ (A4 _))
 refine⟨hW.push rfl ?_ (Rest.alloc _ _ _),Nw.add _ _ _⟩
 refine .cells (Dk w _) rfl (.inl rfl) (by simpa using hl) ?_ ?_
 ·simp only[B5];exact hv.mono (CO.refl _) hS
 ·simpa using h1
theorem TC (hW:WR Z σ H w){t:TypeId}{z:List AV}(hz:EM P t=some z) :
  ∃cv w' σ',(Instr.alloc t true (.tuple #[])).run P w=.ok cv w'/\Nw σ H.next σ'/\WR Z σ' (H.push (.cells z)) w'/\VR Z σ' (.ptr H.next 0) cv:=by
 obtain⟨i,zv,h1,h2,h3,h4⟩:=CX (Z:=Z) (σ:=σ) hz
 have hlen:=h3.length
 have hl:z.length=zv.cells.size:=by simpa using hlen
 have ht:zv.cells.toList.take z.length=zv.cells.toList:=AX (by simp;omega)
 obtain⟨g1,g2⟩:=hW.newRow (l:=z) (c:=zv.cells) t (by omega) (by rw[ht];exact h3) (by rw[ht];exact h4)
 refine⟨.pointer (some ⟨w.heap.size,0,none⟩),_,_,?_,g2,g1,.ptr (p:=⟨w.heap.size,0,zv.cells.size⟩) (Sg.add_same _ _ _)⟩
 simp[Instr.alloc,zeroValue,typeInfo,h1,h2,newVar,newRow]
theorem WN (hW:WR Z σ H w) (t:TypeId){x:AV}{vx:Value}(hx:VR Z σ x vx){l:List AV}(hl:x.cellsOf=some l) :
  ∃cv w' σ',(Instr.box t vx).run P w=.ok cv w'/\Nw σ H.next σ'/\WR Z σ' (H.push (.cells l)) w'/\VR Z σ' (.ptr H.next 0) cv:=by
 obtain⟨h3,h4⟩:=AV.Fk hl hx
 have hlen:=h3.length
 have hl:l.length=vx.cells.size:=by simpa using hlen
 have ht:vx.cells.toList.take l.length=vx.cells.toList:=AX (by simp;omega)
 obtain⟨g1,g2⟩:=hW.newRow (l:=l) (c:=vx.cells) t (by omega) (by rw[ht];exact h3) (by rw[ht];exact h4)
 refine⟨.pointer (some ⟨w.heap.size,0,none⟩),_,_,?_,g2,g1,.ptr (p:=⟨w.heap.size,0,vx.cells.size⟩) (Sg.add_same _ _ _)⟩
 simp[Instr.box,newVar,newRow]
theorem Sz (hW:WR Z σ H w){t:TypeId}{n:Nat}(hn:Ct P t=some n) {r o:Nat}{vp:Value}(hp:VR Z σ (.ptr r o) vp){x:AV}{vx:Value}(hx:VR Z σ x vx) {l vs:List AV}
  (hr:H.cells? r=some l) (hv:x.cellsOf=some vs) (hlen:vs.length=n) (ho:o+n<=l.length) :
  ∃w',(Instr.storeAt t vp vx).run P w=.ok () w'/\WR Z σ (H.set r (.cells (Go.AL.Ap l o vs))) w':=by
 obtain⟨p,hp',rfl⟩:=hp.HF
 obtain⟨h3,h4⟩:=AV.Fk hv hx
 have hl:vs.length=vx.cells.size:=by simpa using h3.length
 obtain⟨g1,g2⟩:=hW.Ap (P:=P) hr hp' (o:=o) h3 h4 (by omega)
 refine⟨_,?_,g2⟩
 have:vx.cells.size=n:=by omega
 simp[Instr.storeAt,Instr.sureAddr,storeVar,BX hn,this,g1]
end
end
section
section
variable {P:Program}{Z:Zt}{σ:Sg}{H:AH}{e:Env}{a:Act}{w:World}
theorem HE (n:Nat) (z:List AV):(D6 n z).length=n*z.length:=by simp[D6]
theorem Hf {z:List AV}{c:Array Value}(hv:CC Z σ z c.toList) (h1:∀u∈c.toList,u.oneCell'=true) (hz:0<z.length) (n:Nat) :
  CC Z σ (D6 n z) ((Array.range (n*c.size)).map (c[· % c.size]!)).toList/\∀u∈((Array.range (n*c.size)).map (c[· % c.size]!)).toList,u.oneCell'=true:=by
 have hl:z.length=c.size:=by simpa using hv.length
 have hget:∀i,i<c.size->c[i]! = c.toList[i]?.getD default:=by
  intro i hi
  rw[getElem!_pos c i hi]
  simp[hi]
 constructor
 ·refine CC.iL (by simp[D6,hl]) ?_
  intro i x v hx hv'
  simp only[D6,BU,AP,hl]at hx
  obtain⟨j,hj,rfl⟩:=hx
  have hji:j=i:=by
   have:=CJ.1 hj
   obtain⟨hlt,hge⟩:=this
   simpa using hge.symm
  subst hji
  have hmod:j % c.size<c.size:=HU _ (by omega)
  have hv2:v=c[j % c.size]!:=by
   simp only[GV,BU,AP]at hv'
   obtain⟨k,hk,rfl⟩:=hv'
   have:=CJ.1 hk
   obtain⟨hlt,hge⟩:=this
   have:k=j:=by simpa using hge.symm
   rw[this]
  subst hv2
  have hzz:z[j % c.size]?=some (z[j % c.size]'(by omega)):=Ab (by omega)
  obtain⟨cv,g1,g2⟩:=hv.get hzz
  rw[hzz,I6,hget _ hmod,g1,I6]
  exact g2
 ·intro u hu
  simp only[GV,Bk]at hu
  obtain⟨j,_,rfl⟩:=hu
  have hmod:j % c.size<c.size:=HU _ (by omega)
  rw[getElem!_pos c _ hmod]
  exact h1 _ (by simp)
theorem MO (hW:WR Z σ H w) (he:ER Z σ e a) {t el:TypeId}{n len:Nat}(hu:P.underlying t=some (.slice el)) (hn:Ct P el=some n){z:List AV}(hz:EM P el=some z) (hnz:n=z.length) (hn0:0<n)
  (hlim:len*n<=2 ^ 24) {ps:Array (Nat × Operand)} {qs:List (Nat × Nat × AE)} (hq:Gt (fun i=>some (i*n,n)) ps.toList=some qs) {out:List AV} (hf:Bv e (D6 len z) qs=some out) :
  ∃cv w' σ',(Instr.buildSlice t len (ps.map fun(i,x)=>(i,a.eval x))).run P w=.ok cv w'/\Nw σ H.next σ'/\WR Z σ' (H.push (.cells out)) w'/\VR Z σ' (.sl H.next 0 len (.ex len)) cv:=by
 obtain⟨i,zv,h1,h2,h3,h4⟩:=CX (Z:=Z) (σ:=σ) hz
 have hl:z.length=zv.cells.size:=by simpa using h3.length
 obtain⟨g1,g2⟩:=Hf h3 h4 (by omega) len
 obtain⟨vs',r1,r2,r3⟩:=Gq he hq (vs:=(Array.range (len*zv.cells.size)).map (zv.cells[· % zv.cells.size]!)) g1 g2 hf
 have hlo:out.length=vs'.size:=by simpa using r2.length
 have ht:vs'.toList.take out.length=vs'.toList:=AX (by simp;omega)
 obtain⟨k1,k2⟩:=hW.newRow (l:=out) (c:=vs') el (by omega) (by rw[ht];exact r2) (by rw[ht];exact r3)
 refine⟨.slice (some ⟨w.heap.size,0,none⟩) len len,_,_,?_,k2,k1,.slx (p:=⟨w.heap.size,0,vs'.size⟩) (Sg.add_same _ _ _) (A4 _)⟩
 have hns:n=zv.cells.size:=by omega
 have hlim':¬(16777216<len*n):=by omega
 by_cases h0:len*n=0
 ·have e0:((Array.range (len*n)).map (#[][· % (#[]:Array Value).size]!))=(Array.range (len*zv.cells.size)).map (zv.cells[· % zv.cells.size]!):=by
   rw[<- hns,h0];simp
  simp only[Instr.buildSlice,Sem.run_bind,run_underlying hu,Result.andThen_ok,BX hn,if_neg (show ¬(len*n>2 ^ 24)by omega),if_pos h0,Sem.run_pure,e0,GV,r1,newRow,run_newObj]
  rfl
 ·have hzv:(zeroValue el).run P w=.ok zv w:=by simp[zeroValue,typeInfo,h1,h2]
  subst hns
  simp only[Instr.buildSlice,Sem.run_bind,run_underlying hu,Result.andThen_ok,BX hn,if_neg (show ¬(len*zv.cells.size>2 ^ 24)by omega),if_neg h0,Sem.run_pure,hzv,GV,r1,newRow,run_newObj]
  rfl
theorem EG {n:Int}(h0:0<=n) (h1:n<=9223372036854775807):IntKind.i64.wrap n=n:=by
 have e:n % (2 ^ 64:Int)=n:=Int.emod_eq_of_lt h0 (by omega)
 have:IntKind.i64.wrap n=if n % (2 ^ 64:Int)>=(2 ^ 63:Int)then n % (2 ^ 64:Int)-(2 ^ 64:Int)else n % (2 ^ 64:Int):=by
  simp[IntKind.wrap,IntKind.bits,IntKind.signed]
 rw[this,e,if_neg (by omega)]
theorem QM (hW:WR Z σ H w) {t el:TypeId}(hu:P.underlying t=some (.slice el)){i:TypeInfo}(hi:P.info? el=some i){z:List AV}(hz:EM P el=some z) (hnz:i.size=z.length) (hn0:0<i.size)
  {k k':IntKind} {l c:Int} (h0:0<=l) (hlc:l<=c) (hc:c<=9223372036854775807) (hb:(i.bytes:Int)*c<=281474976710656) :
  ∃cv w' σ',(Instr.makeSlice t (.int k l) (.int k' c)).run P w=.ok cv w'/\Nw σ H.next σ'/\WR Z σ' (H.push (.cells (D6 c.toNat z))) w'/\VR Z σ' (.sl H.next 0 l.toNat (.ex c.toNat)) cv:=by
 obtain⟨i',zv,h1,h2,h3,h4⟩:=CX (Z:=Z) (σ:=σ) hz
 rw[hi]at h1;cases h1
 have hl:z.length=zv.cells.size:=by simpa using h3.length
 obtain⟨g1,g2⟩:=Hf h3 h4 (by omega) c.toNat
 have hlo:(D6 c.toNat z).length=((Array.range (c.toNat*zv.cells.size)).map (zv.cells[· % zv.cells.size]!)).size:=by simp[HE,hl]
 have ht:((Array.range (c.toNat*zv.cells.size)).map (zv.cells[· % zv.cells.size]!)).toList.take (D6 c.toNat z).length=((Array.range (c.toNat*zv.cells.size)).map (zv.cells[· % zv.cells.size]!)).toList:=
  AX (by rw[Fe];omega)
 obtain⟨k1,k2⟩:=hW.newRow (l:=D6 c.toNat z) (c:=(Array.range (c.toNat*zv.cells.size)).map (zv.cells[· % zv.cells.size]!)) el (by omega) (by rw[ht];exact g1) (by rw[ht];exact g2)
 refine⟨.slice (some ⟨w.heap.size,0,none⟩) l.toNat c.toNat,_,_,?_,k2,k1,.slx (p:=⟨w.heap.size,0,_⟩) (Sg.add_same _ _ _) (by omega)⟩
 have e1:¬(c<0):=by omega
 have e2:¬(281474976710656<(i.bytes:Int)*c):=by omega
 have e3:¬(l<0):=by omega
 have e4:¬(c<l):=by omega
 have hns:i.size=zv.cells.size:=by omega
 by_cases hz0:c.toNat*zv.cells.size=0
 ·have hzz:c.toNat=0:=by
   rcases Nat.mul_eq_zero.1 hz0 with h | h
   ·exact h
   ·omega
  simp[Instr.makeSlice,asInt,asIntOf,run_underlying hu,typeInfo,hi,EG h0 (by omega),EG (by omega:0<=c) hc,e1,e2,e3,e4,sizeOf,newRow,hzz]
  have:Array.range 0=#[]:=by simp
  rw[this]
  simp
 ·simp[Instr.makeSlice,asInt,asIntOf,run_underlying hu,typeInfo,hi,EG h0 (by omega),EG (by omega:0<=c) hc,e1,e2,e3,e4,sizeOf,hns,zeroValue,h2,newRow,hz0]
end
end
section
def BO (esz bytes:Nat) (s x:AV) (H:AH):Option (AV × AH):=
 match Ae esz x H with
 | none=>none
 | some (m,xs)=>
  match s with
  | .nils=>if m=0 then some (.nils,H)else if m*bytes<=140737488355328/\m<=9223372036854775807 then some (.sl H.next 0 m (.op esz),H.push (.cells xs))else none
  | .sim l n ex=>if m=0 then some (.sim l n ex,H)else
    if ex=true/\l.length=n*esz/\(n+m)*bytes<=140737488355328/\n+m<=9223372036854775807 then some (.sl H.next 0 (n+m) (.op esz),H.push (.cells (l++xs)))else none
  | .sl r o n (.ex q)=>match H.cells? r with
   | none=>none
   | some l=>
    if n+m<=q then(if o+(n+m)*esz<=l.length then some (.sl r o (n+m) (.ex q),H.set r (.cells (Ap l (o+n*esz) xs)))else none)
    else if o+n*esz<=l.length/\(n+m)*bytes<=140737488355328/\n+m<=9223372036854775807 then some (.sl H.next 0 (n+m) (.op esz),H.push (.cells ((l.drop o).take (n*esz)++xs)))else none
  | .sl r o n (.op es)=>match H.cells? r with
   | none=>none
   | some l=>
    if m=0 then some (.sl r o n (.op es),H)else
    if es=esz/\o+n*esz<=l.length/\(n+m)*bytes<=140737488355328/\n+m<=9223372036854775807 then
     some (.sl H.next 0 (n+m) (.op esz),(H.erase r).push (.cells ((l.drop o).take (n*esz)++xs)))else none
  | _=>none
section
variable {P:Program}{Z:Zt}{σ:Sg}{H:AH}{w:World}
theorem PI {t u el:TypeId}{i:TypeInfo}{z:Value}(ht:P.underlying t=some (.slice el)) (hu:∃d,P.underlying u=some (.slice d)) (hi:P.info? el=some i) (hz:i.zero=some z) (ty:TypeId)
  {ad ad':Option Addr} {n cap m cap':Nat} {Hj news:List Value}
  (ho:∀w':World,w'.heap=w.heap->(Builtin.firstCells i.size n (.slice ad n cap)).run P w'=.ok Hj.toArray w')
  (hn:∀w':World,w'.heap=w.heap->(Builtin.firstCells i.size m (.slice ad' m cap')).run P w'=.ok news.toArray w')
  (hg:cap<n+m) (h63:n+m<=9223372036854775807) (hb:(n+m)*i.bytes<=140737488355328) :
  (Builtin.append_ #[t,u] ty #[.slice ad n cap,.slice ad' m cap']).run P w =
   .ok (.slice (some ⟨w.heap.size,0,none⟩) (n+m) (grownCap w (n+m) cap el))
    (w.drew.alloc (.cells (Hj.toArray++news.toArray++Builtin.zeroCells z.cells (grownCap w (n+m) cap el-(n+m))) el)):=by
 obtain⟨d,hu⟩:=hu
 have hn1:¬(n+m<=cap):=by omega
 have h63':¬(9223372036854775807<((n:Int)+(m:Int))):=by omega
 have hfit:=growslice_fits hg hb
 have h48':¬(281474976710656<Builtin.nextslicecap (n+m) cap*i.bytes):=by omega
 have h1:=ho w.drew rfl
 have h2:=hn w.drew rfl
 simp[Builtin.append_,run_underlying ht,run_underlying hu,sizeOf,typeInfo,zeroValue,hi,hz,Builtin.lenOf,hn1,h63',h48',Question.forced,h1,h2,newRow,grownCap]
 congr 2
 apply DE
 simp[Ar]
theorem run_append_fits {t u el:TypeId}{i:TypeInfo}(ht:P.underlying t=some (.slice el)) (hu:∃d,P.underlying u=some (.slice d)) (hi:P.info? el=some i) (ty:TypeId)
  {b o:Nat} {n cap m cap':Nat} {ad':Option Addr} {news:List Value} {w':World}
  (hn:(Builtin.firstCells i.size m (.slice ad' m cap')).run P w=.ok news.toArray w)
  (hs:(storeCells ⟨b,o+n*i.size,none⟩ news).run P w=.ok () w') (hg:n+m<=cap) :
  (Builtin.append_ #[t,u] ty #[.slice (some ⟨b,o,none⟩) n cap,.slice ad' m cap']).run P w=.ok (.slice (some ⟨b,o,none⟩) (n+m) cap) w':=by
 obtain⟨d,hu⟩:=hu
 simp[Builtin.append_,run_underlying ht,run_underlying hu,sizeOf,typeInfo,hi,Builtin.lenOf,hg,hn,C3,hs]
theorem Nl {t u el:TypeId}{i:TypeInfo}(ht:P.underlying t=some (.slice el)) (hu:∃d,P.underlying u=some (.slice d)) (hi:P.info? el=some i) (ty:TypeId)
  {ad ad':Option Addr} {n cap cap':Nat} (hn:(Builtin.firstCells i.size 0 (.slice ad' 0 cap')).run P w=.ok #[] w) (hg:n<=cap) :
  (Builtin.append_ #[t,u] ty #[.slice ad n cap,.slice ad' 0 cap']).run P w=.ok (.slice ad n cap) w:=by
 obtain⟨d,hu⟩:=hu
 cases ad<;>simp[Builtin.append_,run_underlying ht,run_underlying hu,sizeOf,typeInfo,hi,Builtin.lenOf,hg,hn,storeCells]
theorem WR.iA {w':World}(h:WR Z σ H w){r:Nat}{o ao:Cw}{p p':Ip}(hr:H.get r=some o) (hp:σ r=some p) (hb:p'.b=p.b)
  (hother:∀b,b≠p.b->w'.heap[b]?=w.heap[b]?) (hrest:Rest w w') (ho:IZ Z (σ.add H.next p') w' p' ao) :
  WR Z (σ.add H.next p') ((H.erase r).push ao) w':=by
 have hf:σ H.next=none:=h.fresh _ (A4 _)
 have hz0:=(h.h r o p hr hp).1
 have hne:r≠H.next:=fun e=>by subst e;rw[hf]at hp;cases hp
 have old:∀q x p1,((H.erase r).push ao).get q=some x->(σ.add H.next p') q=some p1->q≠H.next->H.get q=some x/\σ q=some p1/\q≠r:=by
  intro q x p1 h1 h2 h3
  have h1':(H.erase r).get q=some x:=by
   have:q≠(H.erase r).next:=h3
   rwa [AH.Af _ _ this]at h1
  have hq:q≠r:=fun e=>by subst e;simp[AH.get_erase]at h1'
  exact⟨by simpa[AH.get_erase,hq]using h1',by simpa[Sg.add,h3]using h2,hq⟩
 have new:∀x p1,((H.erase r).push ao).get H.next=some x->(σ.add H.next p') H.next=some p1->x=ao/\p1=p':=by
  intro x p1 h1 h2
  have h1':((H.erase r).push ao).get (H.erase r).next=some x:=h1
  rw[AH.DL]at h1'
  rw[Sg.add_same]at h2
  exact⟨(GX h1').symm,(GX h2).symm⟩
 refine⟨fun b x hz=>?_,fun q x p1 hq hp1=>?_,fun r1 r2 o1 o2 p1 p2 h1 h2 h3 h4 he=>?_,fun q hq=>?_,fun q hq=>?_,h.rest.to hrest⟩
 ·rw[hother b (fun e=>by subst e;rw[hz0]at hz;cases hz)];exact h.z b x hz
 ·by_cases e:q=H.next
  ·subst e
   obtain⟨rfl,rfl⟩:=new x p1 hq hp1
   exact⟨by rw[hb];exact hz0,ho⟩
  ·obtain⟨g1,g2,g3⟩:=old q x p1 hq hp1 e
   obtain⟨k1,k2⟩:=h.h q x p1 g1 g2
   exact⟨k1,k2.mono (CO.refl _) (Sg.F9 hf) (hother _ fun e'=>g3 (h.inj q r x o p1 p g1 hr g2 hp e'))⟩
 ·by_cases e1:r1=H.next<;>by_cases e2:r2=H.next
  ·rw[e1,e2]
  ·subst e1
   obtain⟨rfl,rfl⟩:=new o1 p1 h1 h3
   obtain⟨g1,g2,g3⟩:=old r2 o2 p2 h2 h4 e2
   exact absurd (h.inj r2 r o2 o p2 p g1 hr g2 hp (by rw[<- he,hb])) g3
  ·subst e2
   obtain⟨rfl,rfl⟩:=new o2 p2 h2 h4
   obtain⟨g1,g2,g3⟩:=old r1 o1 p1 h1 h3 e1
   exact absurd (h.inj r1 r o1 o p1 p g1 hr g2 hp (by rw[he,hb])) g3
  ·obtain⟨g1,g2,g3⟩:=old r1 o1 p1 h1 h3 e1
   obtain⟨k1,k2,k3⟩:=old r2 o2 p2 h2 h4 e2
   exact h.inj r1 r2 o1 o2 p1 p2 g1 k1 g2 k2 he
 ·have hq':H.next+1<=q:=hq
  have:q≠H.next:=by omega
  simp only[Sg.add,this,if_false]
  exact h.fresh q (by omega)
 ·have hq':H.next+1<=q:=hq
  have hn:q≠(H.erase r).next:=by simp only[AH.Vi];omega
  rw[AH.Af _ _ hn]
  simp only[AH.get_erase]
  split
  ·rfl
  ·exact h.top q (by omega)
set_option maxHeartbeats 2000000 in
theorem Qy (hW:WR Z σ H w) {t u el:TypeId}{i:TypeInfo}(ht:P.underlying t=some (.slice el)) (hu:∃d,P.underlying u=some (.slice d)) (hi:P.info? el=some i){z:List AV}(hz:EM P el=some z)
  (hnz:i.size=z.length) {s x:AV} {vs vx:Value} (hs:VR Z σ s vs) (hx:VR Z σ x vx) (ty:TypeId) {v:AV} {H':AH} (h:BO i.size i.bytes s x H=some (v,H')) :
  ∃cv w' σ',(Builtin.append_ #[t,u] ty #[vs,vx]).run P w=.ok cv w'/\Nw σ H.next σ'/\WR Z σ' H' w'/\VR Z σ' v cv:=by
 obtain⟨i',zv,hi1,hz1,hz2,hz3⟩:=CX (Z:=Z) (σ:=σ) hz
 rw[hi]at hi1;cases hi1
 unfold BO at h
 split at h
 ·cases h
 ·rename_i m xs hsrc
  obtain⟨ad',cap',news,rfl,hn1,hn2,hn3,hn4,hn5⟩:=FV (P:=P) hW hx hsrc
  have nothing:∀(ad:Option Addr) (n cap:Nat),m=0->n<=cap->(Builtin.append_ #[t,u] ty #[.slice ad n cap,.slice ad' m cap']).run P w=.ok (.slice ad n cap) w:=by
   intro ad n cap hm hc
   subst hm
   have:news=[]:=By (by omega)
   subst this
   exact Nl ht hu hi ty (hn5 w rfl) hc
  have grow:∀(ad:Option Addr) (n cap:Nat) (H0:AH) (ol:List AV) (Hj:List Value),WR Z σ H0 w->H0.next=H.next->CC Z σ ol Hj->(∀v∈Hj,v.oneCell'=true)->Hj.length=n*i.size ->
    (∀w':World,w'.heap=w.heap->(Builtin.firstCells i.size n (.slice ad n cap)).run P w'=.ok Hj.toArray w')->cap<n+m->n+m<=9223372036854775807->(n+m)*i.bytes<=140737488355328 ->
    ∃cv w' σ',(Builtin.append_ #[t,u] ty #[.slice ad n cap,.slice ad' m cap']).run P w=.ok cv w'/\Nw σ H.next σ'/\WR Z σ' (H0.push (.cells (ol++xs))) w'/\VR Z σ' (.sl H.next 0 (n+m) (.op i.size)) cv:=by
   intro ad n cap H0 ol Hj hW0 hnext ho1 ho2 ho3 ho4 hg h63 hb
   have hrun:=PI (w:=w) ht hu hi hz1 ty ho4 hn5 hg h63 hb
   have hge:=grownCap_ge w (n+m) cap el
   have hzs:zv.cells.size=i.size:=by have:=hz2.length;simp at this;omega
   have hl1:ol.length=n*i.size:=by rw[ho1.length,ho3]
   have hl2:xs.length=m*i.size:=by rw[hn1.length,hn2]
   have hsz:(Hj.toArray++news.toArray++Builtin.zeroCells zv.cells (grownCap w (n+m) cap el-(n+m))).size=grownCap w (n+m) cap el*i.size:=by
    simp only[TK,I5,size_zeroCells,hzs,ho3,hn2,<- EC]
    congr 1;omega
   have htk:(Hj.toArray++news.toArray++Builtin.zeroCells zv.cells (grownCap w (n+m) cap el-(n+m))).toList.take (ol++xs).length=Hj++news:=by
    simp only[Array.toList_append,Ar,AW,hl1,hl2]
    rw[<- Ar,EA (by simp[ho3,hn2]),AX (by simp[ho3,hn2])]
   have hW1:WR Z σ H0 w.drew:=hW0.congr rfl rfl rfl
   obtain⟨k1,k2⟩:=hW1.newRow (l:=ol++xs) (c:=Hj.toArray++news.toArray++Builtin.zeroCells zv.cells (grownCap w (n+m) cap el-(n+m))) el
    (by rw[hsz,AW,hl1,hl2,<- EC];exact DY _ hge)
    (by rw[htk];exact ho1.append hn1)
    (by rw[htk];intro v hv;rcases BV.1 hv with h | h;exact ho2 v h;exact hn3 v h)
   refine⟨_,_,_,hrun,by rw[<- hnext];exact k2,k1,?_⟩
   rw[<- hnext]
   refine .slo (p:=⟨w.drew.heap.size,0,_⟩) (Sg.add_same _ _ _) hge ?_
   rw[hsz];simp
  split at h
  ·
   rw[hs.DQ]
   split at h
   ·rename_i hm
    simp only[AD,Ao]at h;obtain⟨rfl,rfl⟩:=h
    exact⟨_,_,σ,nothing none 0 0 hm (A4 _),Nw.refl _ _,hW,.nils⟩
   ·rename_i hm
    split at h<;>simp only[AD,Ao,reduceCtorEq]at h
    rename_i hc
    obtain⟨rfl,rfl⟩:=h
    have:=grow none 0 0 H [] [] hW rfl .nil (by simp) (by simp) (fun w' _=>by simp[Builtin.firstCells]) (by omega) (by omega) (by simpa using hc.1)
    simpa using this
  ·
   rename_i l n ex
   split at h
   ·rename_i hm
    simp only[AD,Ao]at h;obtain⟨rfl,rfl⟩:=h
    have hs':=hs
    cases hs with
    | sim hn _ _ _ _ _=>exact⟨_,_,σ,nothing _ _ _ hm hn,Nw.refl _ _,hW,hs'⟩
    | simz ad _=>exact⟨_,_,σ,nothing _ _ _ hm (TM _),Nw.refl _ _,hW,hs'⟩
    | simn=>exact⟨_,_,σ,nothing _ _ _ hm (A4 _),Nw.refl _ _,hW,hs'⟩
   ·split at h<;>simp only[AD,Ao,reduceCtorEq]at h
    rename_i hm hc
    obtain⟨rfl,rfl⟩:=h
    obtain⟨rfl,hl,hb,h63⟩:=hc
    obtain⟨ad,cap,Hj,rfl,ho1,ho2,ho3,ho4,ho5⟩:=FV (P:=P) hW hs (esz:=i.size) (m:=n) (xs:=l) (by simp[Ae,hl])
    have Qs:cap=n:=by
     cases hs with
     | sim _ hx _ _ _ _=>exact hx rfl
     | simz _ hx=>exact hx rfl
    exact grow ad n cap H l Hj hW rfl ho1 ho3 ho2 ho5 (by omega) h63 hb
  ·
   rename_i r o n q
   split at h
   ·cases h
   ·rename_i l hl
    split at h
    ·rename_i hfit
     split at h<;>simp only[AD,Ao,reduceCtorEq]at h
     rename_i hc
     obtain⟨rfl,rfl⟩:=h
     have hlx:xs.length=m*i.size:=by rw[hn1.length,hn2]
     cases hs with
     | slx hp hn=>
      rename_i p
      obtain⟨g1,g2⟩:=hW.Ap (P:=P) hl hp (o:=o+n*i.size) hn1 hn3 (by rw[hlx];rw[EC]at hc;omega)
      refine⟨_,_,σ,run_append_fits (b:=p.b) (o:=p.base+o) ht hu hi ty (hn5 w rfl) (by rw[Fg];exact g1) hfit,Nw.refl _ _,g2,.slx hp hfit⟩
     | slxz hp0 ad=>
      have hm:m=0:=by omega
      subst hm
      have hxe:xs=[]:=By (by omega)
      subst hxe
      refine⟨_,_,σ,nothing (some ad) 0 0 rfl (A4 _),Nw.refl _ _,?_,.slxz hp0 ad⟩
      have:H.set r (.cells (Go.AL.Ap l (o+0*i.size) []))=H:=by
       refine AH.ext (fun y=>?_) rfl
       by_cases e:y=r
       ·subst e
        rw[AH.MA,cells?_some hl]
        simp[Go.AL.Ap]
       ·rw[AH.Eh _ _ e]
      rw[this];exact hW
    ·rename_i hfit
     split at h<;>simp only[AD,Ao,reduceCtorEq]at h
     rename_i hc
     obtain⟨rfl,rfl⟩:=h
     obtain⟨hlen,hb,h63⟩:=hc
     obtain⟨ad,cap,Hj,rfl,ho1,ho2,ho3,ho4,ho5⟩:=FV (P:=P) hW hs (esz:=i.size) (m:=n) (xs:=(l.drop o).take (n*i.size)) (by simp[Ae,hl,hlen])
     have Qs:cap=q:=by cases hs<;>rfl
     exact grow ad n cap H _ Hj hW rfl ho1 ho3 ho2 ho5 (by omega) h63 hb
  ·
   rename_i r o n es
   split at h
   ·cases h
   ·rename_i l hl
    split at h
    ·rename_i hm
     simp only[AD,Ao]at h;obtain⟨rfl,rfl⟩:=h
     have hs':=hs
     cases hs with
     | slo hp hn _=>exact⟨_,_,σ,nothing _ _ _ hm hn,Nw.refl _ _,hW,hs'⟩
     | sloz hp0 ad=>exact⟨_,_,σ,nothing _ _ _ hm (A4 _),Nw.refl _ _,hW,hs'⟩
    ·rename_i hm
     split at h<;>simp only[AD,Ao,reduceCtorEq]at h
     rename_i hc
     obtain⟨rfl,rfl⟩:=h
     obtain⟨rfl,hlen,hb,h63⟩:=hc
     obtain⟨ad,cap,Hj,rfl,ho1,ho2,ho3,ho4,ho5⟩:=FV (P:=P) hW hs (esz:=i.size) (m:=n) (xs:=(l.drop o).take (n*i.size)) (by simp[Ae,hl,hlen])
     have hWe:WR Z σ (H.erase r) w:=hW.sub rfl (fun y q hy=>by
      by_cases e:y=r
      ·subst e;simp[AH.get_erase]at hy
      ·simpa[AH.get_erase,e]using hy)
     by_cases hfit:n+m<=cap
     ·cases hs with
      | slo hp hn hsz=>
       rename_i p
       have hlx:xs.length=m*i.size:=by rw[hn1.length,hn2]
       obtain⟨hz0,c,el',fr,hb',hcs,hf,hlb,hv,hv1⟩:=hW.row hl hp
       have hmul:(n+m)*i.size<=cap*i.size:=DY _ hfit
       rw[EC]at hmul
       obtain⟨c',g1,g2,g3,g4⟩:=HP p.b el' fr news (p.base+o+n*i.size) w c hb' (by rw[hn2];omega)
       have hst:=run_storeCells_cells (P:=P) p.b (p.base+o+n*i.size) news 0 w (fun j hj=>by
         simp only[World.cell?,hb',GS]
         simp;omega) (fun j hj=>by
         simp only[World.frozen?,hb',GS]
         have:=hf.not (p.base+o+n*i.size+j) (by omega)
         simp at this ⊢
         omega) hn3
       simp only[GS]at hst
       have hrun:=run_append_fits (b:=p.b) (o:=p.base+o) ht hu hi ty (hn5 w rfl) hst hfit
       refine⟨_,_,σ.add H.next ⟨p.b,p.base+o,p.size⟩,hrun,Nw.add _ _ _,hW.iA (cells?_some hl) hp rfl g4 (KZ hb' (by rw[hn2];omega)) ?_,?_⟩
       ·have hS:LH σ (σ.add H.next ⟨p.b,p.base+o,p.size⟩):=Sg.F9 (hW.fresh _ (A4 _))
        have hol:((l.drop o).take (n*i.size)).length=n*i.size:=by simp;omega
        have e1:(c'.toList.drop (p.base+o)).take ((l.drop o).take (n*i.size)++xs).length=((c.toList.drop p.base).take l.length |>.drop o).take (n*i.size)++news:=by
         rw[AW,hol,hlx,g3]
         have hC:c.toList.length=c.size:=Fe
         have:=Lk (C:=c.toList) (us:=news) (base:=p.base+o) (o:=n*i.size) (n:=n*i.size+m*i.size) (by rw[hn2];omega) (by omega)
         have ez:((c.toList.drop (p.base+o)).take (n*i.size+m*i.size)).drop (n*i.size+news.length)=[]:=Bt (by rw[BL,hn2];omega)
         have e2:((c.toList.drop (p.base+o)).take (n*i.size+m*i.size)).take (n*i.size)=(c.toList.drop (p.base+o)).take (n*i.size):=by rw[Ea,B7 (by omega)]
         have e3:(((c.toList.drop p.base).take l.length).drop o).take (n*i.size)=(c.toList.drop (p.base+o)).take (n*i.size):=by
          rw[Fl,De,Ea,B7 (by omega)]
         rw[this,ez,DJ,e2,e3]
        refine .cells g1 (by rw[g2,hcs]) (by rw[g2];exact hf) (by rw[AW,hol,hlx,g2,hcs];simp only;omega) ?_ ?_
        ·simp only[e1]
         exact(((hv.drop o).take _).append hn1).mono (CO.refl _) hS
        ·simp only[e1]
         intro v hv'
         rcases BV.1 hv' with h | h
         ·exact hv1 v (ED (Dq h))
         ·exact hn3 v h
       ·have:=VR.slo (Z:=Z) (σ:=σ.add H.next ⟨p.b,p.base+o,p.size⟩) (r:=H.next) (o:=0) (n:=n+m) (esz:=i.size) (cap:=cap) (p:=⟨p.b,p.base+o,p.size⟩) (Sg.add_same _ _ _) hfit (by simpa using hsz)
        simpa using this
      | sloz hp0 ad=>omega
     ·exact grow ad n cap (H.erase r) _ Hj hWe rfl ho1 ho3 ho2 ho5 (by omega) h63 hb
  ·cases h
end
end
section
inductive Iq (Z:Zt) (σ:Sg):List (AV × AV × Nat)->List MapEntry->Prop
 | nil:Iq Z σ [] []
 | cons {k x:AV} {n:Nat} {m:MapEntry} {es:List (AV × AV × Nat)} {ms:List MapEntry} (hk:VR Z σ k m.key) (hx:VR Z σ x m.val) (hn:m.born=n) (t:Iq Z σ es ms):Iq Z σ ((k,x,n)::es) (m::ms)
section
variable {P:Program}{Z:Zt}{σ:Sg}{H:AH}{w:World}
theorem Iq.length {es:List (AV × AV × Nat)}{ms:List MapEntry}(h:Iq Z σ es ms):es.length=ms.length:=by
 induction h with
 | nil=>rfl
 | cons _ _ _ _ ih=>simp[ih]
theorem Iq.of:∀{es:List (AV × AV × Nat)}{ms:List MapEntry},ms.length=es.length->(∀(i:Nat) (k x:AV) (n:Nat),es[i]?=some (k,x,n)->∃m,ms[i]?=some m/\VR Z σ k m.key/\VR Z σ x m.val/\m.born=n)->Iq Z σ es ms
 | [],[],_,_=>.nil
 | [],_::_,h,_=>by simp at h
 | _::_,[],h,_=>by simp at h
 | (k,x,n)::es,m::ms,h,hh=>by
  obtain⟨m',h1,h2,h3,h4⟩:=hh 0 k x n rfl
  simp only[E6,AD]at h1;subst h1
  exact .cons h2 h3 h4 (Iq.of (by simpa using h) fun i k x n hi=>hh (i+1) k x n (by simpa using hi))
theorem Iq.get {es:List (AV × AV × Nat)}{ms:List MapEntry}(h:Iq Z σ es ms):∀(i:Nat) (k x:AV) (n:Nat),es[i]?=some (k,x,n)->∃m,ms[i]?=some m/\VR Z σ k m.key/\VR Z σ x m.val/\m.born=n:=by
 induction h with
 | nil=>intro i k x n hi;simp at hi
 | cons hk hx hn t ih=>
  intro i k x n hi
  cases i with
  | zero=>simp only[E6,AD,Ao]at hi;obtain⟨rfl,rfl,rfl⟩:=hi;exact⟨_,rfl,hk,hx,hn⟩
  | succ i=>exact ih i k x n (by simpa using hi)
theorem Iq.snoc {es:List (AV × AV × Nat)}{ms:List MapEntry}(h:Iq Z σ es ms) {k x:AV}{n:Nat}{m:MapEntry}(hk:VR Z σ k m.key) (hx:VR Z σ x m.val) (hn:m.born=n):Iq Z σ (es++[(k,x,n)]) (ms++[m]):=by
 induction h with
 | nil=>exact .cons hk hx hn .nil
 | cons a b c _ ih=>exact .cons a b c ih
theorem Iq.modify {es:List (AV × AV × Nat)}{ms:List MapEntry}(h:Iq Z σ es ms) {k x:AV}{f:MapEntry->MapEntry}(hf:∀m,VR Z σ k (f m).key/\VR Z σ x (f m).val/\(f m).born=m.born):∀(j:Nat),Iq Z σ (es.modify j fun y=>(k,x,y.2.2)) (ms.modify j f):=by
 induction h with
 | nil=>intro j;simp;exact .nil
 | cons hk hx hn t ih=>
  intro j
  cases j with
  | zero=>simp only[List.modify_zero_cons];exact .cons (hf _).1 (hf _).2.1 ((hf _).2.2.trans hn) t
  | succ j=>simp only[List.modify_succ_cons];exact .cons hk hx hn (ih j)
theorem QT {ty:Bool × List SK}{L:List Lit}:∀{es:List (AV × AV × Nat)}{ms:List MapEntry}{r:Option (Nat × AV)},Iq Z σ es ms->HK ty L es=some r ->
  (∀e∈ms,∃L',KP ty e.key=some L')/\match r with
   | none=>∀e∈ms,KP ty e.key≠some L
   | some (j,v)=>∃m,ms[j]?=some m/\KP ty m.key=some L/\VR Z σ v m.val/\∀(i:Nat) (m':MapEntry),ms[i]?=some m'->KP ty m'.key=some L->i=j
 | [],_,r,.nil,h=>by
  simp only[HK,AD]at h;subst h
  exact⟨by simp,by simp⟩
 | _,_,r,.cons (k:=k) (x:=x) (n:=n) (m:=m) (es:=es) (ms:=ms) hk hx hn t,h=>by
  simp only[HK]at h
  split at h<;>(try (cases h;done))
  rename_i L' r' h1 h2
  obtain⟨g1,g2⟩:=QT t h2
  have hv:=H_ hk h1
  refine⟨fun e he=>?_,?_⟩
  ·rcases DF.1 he with rfl | he
   ·exact⟨_,hv⟩
   ·exact g1 e he
  ·cases hq:FH L' L with
   | true=>
    rw[hq]at h
    have hL:=Eg.1 hq
    subst hL
    simp only[cond_true]at h
    cases r' with
    | some p=>cases h
    | none=>
     simp only[AD]at h;subst h
     refine⟨m,rfl,hv,hx,fun i m' hi hm=>?_⟩
     cases i with
     | zero=>rfl
     | succ i=>exact absurd hm (g2 m' (CK (by simpa using hi)))
   | false=>
    rw[hq]at h
    have hL:L'≠L:=fun e=>by rw[Eg.2 e]at hq;cases hq
    simp only[cond_false,AD]at h;subst h
    cases r' with
    | none=>
     intro e he
     rcases DF.1 he with rfl | he
     ·rw[hv];intro hh;exact hL (GX hh)
     ·exact g2 e he
    | some p=>
     obtain⟨j,v⟩:=p
     obtain⟨m1,k1,k2,k3,k4⟩:=g2
     refine⟨m1,by simpa using k1,k2,k3,fun i m' hi hm=>?_⟩
     cases i with
     | zero=>
      simp only[E6,AD]at hi;subst hi
      rw[hv]at hm;exact absurd (GX hm) hL
     | succ i=>rw[k4 i m' (by simpa using hi) hm]
theorem K4 {kt:TypeId}{ty:Bool × List SK}(hk:UI P kt=some ty){L:List Lit}{kv:Value}(hkv:KP ty kv=some L){es:List (AV × AV × Nat)}{ms:List MapEntry}{r:Option (Nat × AV)}(hm:Iq Z σ es ms) (h:HK ty L es=some r) (w:World) :
  match r with
  | none=>(Instr.findKey kt kv ms).run P w=.ok none w
  | some (j,v)=>∃m,(Instr.findKey kt kv ms).run P w=.ok (some (j,m.val)) w/\ms[j]?=some m/\m.key=kv/\VR Z σ v m.val:=by
 obtain⟨g1,g2⟩:=QT hm h
 have K:=Ho hk
 have hkk:=D4 hk hkv
 rcases K.find w hkk ms (fun e he=>by obtain⟨L',h'⟩:=g1 e he;exact⟨_,D4 hk h'⟩)with⟨f1,f2⟩ | ⟨j',e',f1,f2,f3⟩
 ·cases r with
  | none=>exact f1
  | some p=>
   obtain⟨j,v⟩:=p
   obtain⟨m,k1,k2,k3,k4⟩:=g2
   exact absurd ((Wi hk k2 hkv).2 rfl) (f2 m (CK k1))
 ·cases r with
  | none=>exact absurd (by rw[f3];exact hkv) (g2 e' (CK f2))
  | some p=>
   obtain⟨j,v⟩:=p
   obtain⟨m,k1,k2,k3,k4⟩:=g2
   have hj:=k4 j' e' f2 (by rw[f3];exact hkv)
   subst hj
   rw[k1]at f2
   cases f2
   exact⟨_,f1,k1,f3,k3⟩
theorem QN (hW:WR Z σ H w){x:AV}{vx:Value}(hx:VR Z σ x vx){es:List (AV × AV × Nat)}(h:QO x H=some es) :
  (vx=.map none/\es=[])\/∃b ms clock,vx=.map (some b)/\w.heap[b]?=some (.map ms clock)/\Iq Z σ es ms.toList:=by
 unfold QO at h
 split at h
 ·simp only[AD]at h;subst h
  cases hx;exact .inl ⟨rfl,rfl⟩
 ·rename_i r
  split at h<;>simp only[AD,reduceCtorEq]at h
  rename_i es' cl hr
  subst h
  cases hx with
  | mp hp=>
   obtain⟨_,ho⟩:=hW.h _ _ _ hr hp
   cases ho with
   | map hb hn he=>exact .inr ⟨_,_,_,rfl,hb,Iq.of (by simpa using hn) (by simpa using he)⟩
 ·cases h
theorem Qw (hW:WR Z σ H w) {t kt el:TypeId}{ty:Bool × List SK}{z:AV}(ht:P.underlying t=some (.map kt el)) (hk:UI P kt=some ty) (hz:ka P el=some z) {m k:AV}{vm vk:Value}(hm:VR Z σ m vm) (hkv:VR Z σ k vk)
  {L:List Lit} (hL:MM ty k=some L) {es:List (AV × AV × Nat)} (hes:QO m H=some es) {r:Option (Nat × AV)} (hr:HK ty L es=some r) (ok:Bool) :
  ∃cv,(Instr.lookup t vm vk ok).run P w=.ok cv w/\VR Z σ (bif ok then .tup [qV r z,.bool r.isSome]else qV r z) cv:=by
 have K:=Ho hk
 have hv:=H_ hkv hL
 have hkk:=D4 hk hv
 obtain⟨zv,hz1,hz2⟩:=Q7 (Z:=Z) (σ:=σ) (w:=w) hz
 rcases QN hW hm hes with⟨rfl,rfl⟩ | ⟨b,ms,cl,rfl,hb,hms⟩
 ·have hf:=K4 hk hv (Iq.nil (Z:=Z) (σ:=σ)) hr w
  simp only[HK,AD]at hr;subst hr
  simp only at hf
  refine⟨if ok then .tuple #[zv,.bool false]else zv,?_,?_⟩
  ·simp[Instr.lookup,run_underlying ht,K.check w true hkk,hf,hz1]
  ·cases ok
   ·exact hz2
   ·exact .tup (.cons hz2 (.cons (.bool _) .nil))
 ·have hf:=K4 hk hv hms hr w
  cases r with
  | none=>
   simp only at hf
   refine⟨if ok then .tuple #[zv,.bool false]else zv,?_,?_⟩
   ·simp[Instr.lookup,run_underlying ht,MapKept.run_getObj_map hb,K.check w _ hkk,hf,hz1]
   ·cases ok
    ·exact hz2
    ·exact .tup (.cons hz2 (.cons (.bool _) .nil))
  | some p=>
   obtain⟨j,v⟩:=p
   obtain⟨m',f1,f2,f3,f4⟩:=hf
   refine⟨if ok then .tuple #[m'.val,.bool true]else m'.val,?_,?_⟩
   ·simp[Instr.lookup,run_underlying ht,MapKept.run_getObj_map hb,K.check w _ hkk,f1]
   ·cases ok
    ·exact f4
    ·exact .tup (.cons f4 (.cons (.bool _) .nil))
theorem Qx (hW:WR Z σ H w) {t kt el:TypeId}(ht:P.underlying t=some (.map kt el)){m:AV}{vm:Value}(hm:VR Z σ m vm){es:List (AV × AV × Nat)}(hes:QO m H=some es) (ty:TypeId) :
  (Builtin.len_ #[t] ty #[vm]).run P w=.ok (.int .i64 es.length) w:=by
 rcases QN hW hm hes with⟨rfl,rfl⟩ | ⟨b,ms,cl,rfl,hb,hms⟩
 ·simp[Builtin.len_,run_underlying ht,goInt]
 ·have:=hms.length
  simp[Builtin.len_,run_underlying ht,goInt,MapKept.run_getObj_map hb,this]
theorem QP (hW:WR Z σ H w) (t:TypeId) :
  ∃cv w' σ',(Instr.makeMap t none).run P w=.ok cv w'/\Nw σ H.next σ'/\WR Z σ' (H.push (.map [] 0)) w'/\VR Z σ' (.mp H.next) cv:=by
 refine⟨_,_,σ.add H.next ⟨w.heap.size,0,0⟩,(rfl:(Instr.makeMap t none).run P w=.ok (.map (some w.heap.size)) (w.alloc (.map #[] 0))),Nw.add _ _ _,hW.push rfl ?_ (Rest.WG _ _),.mp (p:=⟨w.heap.size,0,0⟩) (Sg.add_same _ _ _)⟩
 exact .map (ms:=#[]) (Dk w _) rfl (fun i k x n hi=>by simp at hi)
theorem Kd (hW:WR Z σ H w) {t kt el:TypeId}{ty:Bool × List SK}(ht:P.underlying t=some (.map kt el)) (hk:UI P kt=some ty){r:Nat}{k x:AV}{vm vk vx:Value}(hm:VR Z σ (.mp r) vm) (hkv:VR Z σ k vk) (hx:VR Z σ x vx)
  {L:List Lit} (hL:MM ty k=some L) {es:List (AV × AV × Nat)} {clock:Nat} (hr:H.get r=some (.map es clock)) {q:Option (Nat × AV)} (hq:HK ty L es=some q) :
  ∃w',(Instr.mapUpdate t vm vk vx).run P w=.ok () w'/\WR Z σ (H.set r (match q with
   | some (j,_)=>.map (es.modify j fun y=>(k,x,y.2.2)) clock
   | none=>.map (es++[(k,x,clock)]) (clock+1))) w':=by
 have K:=Ho hk
 have hv:=H_ hkv hL
 have hkk:=D4 hk hv
 cases hm with
 | mp hp=>
  rename_i p
  obtain⟨_,ho⟩:=hW.h _ _ _ hr hp
  cases ho with
  | map hb hn he=>
   rename_i ms
   have hms:Iq Z σ es ms.toList:=Iq.of (by simpa using hn) (by simpa using he)
   have hf:=K4 hk hv hms hq w
   have gh:∀(es':List (AV × AV × Nat)) (ms':Array MapEntry) (cl':Nat),Iq Z σ es' ms'.toList ->
     WR Z σ (H.set r (.map es' cl')) { w with heap:=w.heap.setIfInBounds p.b (.map ms' cl') }:=by
    intro es' ms' cl' h'
    have hlt:=(Aj.1 hb).1
    refine hW.update hr hp (fun b hne=>?_) ⟨rfl,rfl⟩ (.map (ms:=ms') ?_ ?_ ?_)
    ·simp only[HX];rw[if_neg (fun e=>hne e.symm)]
    ·simp only[HX,if_true,hlt]
    ·have:=h'.length;simpa using this.symm
    ·intro i k x n hi
     have:=h'.get i k x n hi
     simpa using this
   cases q with
   | none=>
    simp only at hf
    refine⟨{ w with heap:=w.heap.setIfInBounds p.b (.map (ms.push ⟨vk,vx,clock⟩) (clock+1)) },?_,gh _ _ _ (by rw[Array.toList_push];exact hms.snoc hkv hx rfl)⟩
    simp[Instr.mapUpdate,run_underlying ht,MapKept.run_getObj_map hb,K.check w false hkk,hf,MapKept.run_setObj_map _ hb,Result.andThen]
   | some pq=>
    obtain⟨j,v⟩:=pq
    obtain⟨m',f1,f2,f3,f4⟩:=hf
    have hj:ms[j]?=some m':=by simpa using f2
    refine⟨{ w with heap:=w.heap.setIfInBounds p.b (.map (ms.modify j fun e=>{ e with key:=vk,val:=vx }) clock) },?_,gh _ _ _ ?_⟩
    ·simp[Instr.mapUpdate,run_underlying ht,MapKept.run_getObj_map hb,K.check w false hkk,f1,hj,f3,K.stays w hkk,MapKept.run_setObj_map _ hb,Result.andThen]
    ·rw[Array.toList_modify]
     exact hms.modify (f:=fun e=>{ e with key:=vk,val:=vx }) (fun m=>⟨hkv,hx,rfl⟩) j
theorem NT {b:Nat}{c:Array Value}{el:TypeId}{fr:Nat × Nat}(hb:w.heap[b]?=some (.cells c el fr)) (hf:pH fr c.size) (o:Nat) :
  (w.freeze ⟨b,c.size,none⟩ 1).heap[b]?=some (.cells c el (c.size,c.size+1))/\(∀x,x≠b->(w.freeze ⟨b,c.size,none⟩ 1).heap[x]?=w.heap[x]?)/\Rest w (w.freeze ⟨b,c.size,none⟩ 1):=by
 unfold World.freeze
 rw[if_neg (by decide)]
 refine⟨?_,fun x hx=>?_,rfl,rfl⟩
 ·simp only[LI,if_true,hb,FA]
  rcases hf with rfl | rfl
  ·simp
  ·simp
 ·simp only[LI];rw[if_neg (fun e=>hx e.symm)]
theorem Uw (hW:WR Z σ H w) {t e:TypeId}(ht:P.underlying t=some (.slice e)) (he:P.underlying e=some (.int .u8)) {r o n m:Nat}{vx:Value}(hx:VR Z σ (.sl r o n (.ex m)) vx){l:List AV}(hr:H.cells? r=some l) (hm:0<m) :
  ∃w',(convert t t vx).run P w=.ok vx w'/\WR Z σ H w':=by
 cases hx with
 | slxz=>omega
 | slx hp hn=>
  rename_i p
  have hr':=cells?_some hr
  obtain⟨hz,c,el,fr,hb,hs,hf,hl,hv',h1'⟩:=hW.row hr hp
  obtain⟨g1,g2,g3⟩:=NT hb hf 0
  have hsh:w.shape? p.b=some (el,c.size):=by unfold World.shape?;rw[hb]
  refine⟨w.freeze ⟨p.b,c.size,none⟩ 1,by simp[convert,run_underlying ht,run_underlying he,markStringish,hsh],?_⟩
  have:=hW.update hr' hp g2 g3 (IZ.cells g1 hs (.inr rfl) hl hv' h1')
  have e1:H.set r (.cells l)=H:=AH.ext (fun x=>by
   rw[AH.AU];split
   ·rename_i h;subst h;exact hr'.symm
   ·rfl) rfl
  rw[e1]at this
  exact this
theorem Nm {t u el:TypeId}{i:TypeInfo}{z:Value}{q k:IntKind}(ht:P.underlying t=some (.slice el)) (hu:P.underlying u=some (.int q)) (hi:P.info? el=some i) (hz:i.zero=some z) (ty:TypeId)
  {n:Int} (h0:0<n) (h63:n<=9223372036854775807) (hb:n.toNat*i.bytes<=140737488355328) (hs:0<i.size) :
  (Builtin.append_ #[t,u] ty #[.slice none 0 0,.int k n]).run P w =
   .ok (.slice (some ⟨w.heap.size,0,none⟩) n.toNat (grownCap w n.toNat 0 el))
    (w.drew.alloc (.cells (Builtin.zeroCells z.cells n.toNat++Builtin.zeroCells z.cells (grownCap w n.toNat 0 el-n.toNat)) el)):=by
 have e1:¬(n<0):=by omega
 have hnn:(n.toNat:Int)=n:=by omega
 have e2:¬(281474976710656<n*(i.bytes:Int)):=by
  have:n*(i.bytes:Int)=((n.toNat*i.bytes:Nat):Int):=by rw[ID,hnn]
  rw[this];omega
 have e3:¬(n.toNat<=0):=by omega
 have e5:¬(9223372036854775807<(n.toNat:Int)):=by omega
 have hfit:=growslice_fits (need:=n.toNat) (old:=0) (bytes:=i.bytes) (by omega) hb
 have e6:¬(281474976710656<Builtin.nextslicecap n.toNat 0*i.bytes):=by omega
 have e7:n.toNat≠0:=by omega
 have e8:i.size≠0:=by omega
 have e9:¬(n<=0):=by omega
 have w64:IntKind.i64.wrap n=n:=EG (by omega) h63
 have e10:max n 0=n:=by omega
 have e11:¬(9223372036854775807<n):=by omega
 have e12:n.toNat*i.size≠0:=Nat.mul_ne_zero e7 e8
 simp[Builtin.append_,run_underlying ht,run_underlying hu,sizeOf,typeInfo,zeroValue,hi,hz,asInt,asIntOf,w64,e1,e2,e6,e7,e8,e9,e10,e11,e12,Question.forced,newRow,grownCap,Builtin.firstCells]
theorem QY (hW:WR Z σ H w) {t u el:TypeId}{i:TypeInfo}{q k:IntKind}(ht:P.underlying t=some (.slice el)) (hu:P.underlying u=some (.int q)) (hi:P.info? el=some i) (ty:TypeId){z:List AV}(hz:EM P el=some z) (hsz:i.size=z.length) (hs:0<i.size)
  {n:Int} (h0:0<n) (h63:n<=9223372036854775807) (hb:n.toNat*i.bytes<=140737488355328) :
  ∃cv w' σ',(Builtin.append_ #[t,u] ty #[.slice none 0 0,.int k n]).run P w=.ok cv w'/\Nw σ H.next σ'/\WR Z σ' (H.push (.cells (D6 n.toNat z))) w'/\VR Z σ' (.sl H.next 0 n.toNat (.op i.size)) cv:=by
 obtain⟨i',zv,h1,h2,h3,h4⟩:=CX (Z:=Z) (σ:=σ) hz
 rw[hi]at h1;cases h1
 have hl:z.length=zv.cells.size:=by simpa using h3.length
 obtain⟨g1,g2⟩:=Hf h3 h4 (by omega) n.toNat
 have hge:n.toNat<=grownCap w n.toNat 0 el:=by have:=grownCap_ge w n.toNat 0 el;exact this
 have hlo:(D6 n.toNat z).length=(Builtin.zeroCells zv.cells n.toNat).size:=by rw[size_zeroCells];simp[HE,hl]
 have htk:(Builtin.zeroCells zv.cells n.toNat++Builtin.zeroCells zv.cells (grownCap w n.toNat 0 el-n.toNat)).toList.take (D6 n.toNat z).length=(Builtin.zeroCells zv.cells n.toNat).toList:=by
  rw[Array.toList_append,EA (by rw[hlo];simp),AX (by rw[hlo];simp)]
 have hW1:WR Z σ H w.drew:=hW.congr rfl rfl rfl
 obtain⟨k1,k2⟩:=hW1.newRow (l:=D6 n.toNat z) (c:=Builtin.zeroCells zv.cells n.toNat++Builtin.zeroCells zv.cells (grownCap w n.toNat 0 el-n.toNat)) el
  (by rw[hlo,TK];omega) (by rw[htk];exact g1) (by rw[htk];exact g2)
 refine⟨_,_,_,Nm ht hu hi h2 ty h0 h63 hb hs,k2,k1,?_⟩
 refine .slo (p:=⟨w.drew.heap.size,0,_⟩) (Sg.add_same _ _ _) hge ?_
 have:(Builtin.zeroCells zv.cells n.toNat++Builtin.zeroCells zv.cells (grownCap w n.toNat 0 el-n.toNat)).size=grownCap w n.toNat 0 el*i.size:=by
  simp only[TK,size_zeroCells,<- hl,<- hsz,<- EC]
  congr 1;omega
 rw[this];simp
theorem QW (hW:WR Z σ H w) {s d e:TypeId}(hs:P.underlying s=some .string) (hd:P.underlying d=some (.slice e)) (he:P.underlying e=some (.int .u8)) (l:List UInt8) :
  ∃cv w' σ',(convert s d (.string ⟨l.toArray⟩)).run P w=.ok cv w'/\Nw σ H.next σ'/\WR Z σ' (H.push (.cells (l.map fun b=>.int .u8 (b.toNat:Int)))) w'/\VR Z σ' (.sl H.next 0 l.length (.op 1)) cv:=by
 have hge:l.length<=grownCap w l.length 0 e:=grownCap_ge w l.length 0 e
 obtain⟨c,hc⟩:∃c:Array Value,c=(l.toArray.map fun b=>Value.int .u8 (b.toNat:Int))++Array.replicate (grownCap w l.length 0 e-l.length) (Value.int .u8 0):=⟨_,rfl⟩
 have hcs:c.size=grownCap w l.length 0 e:=by rw[hc];simp;omega
 have htk:c.toList.take (l.map fun b=>AV.int .u8 (b.toNat:Int)).length=l.map fun b=>Value.int .u8 (b.toNat:Int):=by
  rw[hc];simp
 have hv:CC Z σ (l.map fun b=>AV.int .u8 (b.toNat:Int)) (l.map fun b=>Value.int .u8 (b.toNat:Int)):=by
  clear hc htk hcs hge
  induction l with
  | nil=>exact .nil
  | cons x l ih=>exact .cons (.int _ _) ih
 have h1:∀u∈(l.map fun b=>Value.int .u8 (b.toNat:Int)),u.oneCell'=true:=fun u hu=>by
  obtain⟨x,_,rfl⟩:=Bk.1 hu;rfl
 have hW1:WR Z σ H w.drew:=hW.congr rfl rfl rfl
 obtain⟨k1,k2⟩:=hW1.newRow (l:=l.map fun b=>AV.int .u8 (b.toNat:Int)) (c:=c) e (by rw[hcs];simpa using hge) (by rw[htk];exact hv) (by rw[htk];exact h1)
 have hh:w.drew.heap.size=w.heap.size:=rfl
 have hr:(H.push (.cells (l.map fun b=>AV.int .u8 (b.toNat:Int)))).get H.next=some (.cells (l.map fun b=>AV.int .u8 (b.toNat:Int))):=AH.DL _ _
 have hp:(σ.add H.next ⟨w.drew.heap.size,0,c.size⟩) H.next=some ⟨w.drew.heap.size,0,c.size⟩:=Sg.add_same _ _ _
 have hb:(w.drew.alloc (.cells c e)).heap[w.drew.heap.size]?=some (.cells c e (0,0)):=Dk _ _
 obtain⟨g1,g2,g3⟩:=NT hb (.inl rfl) 0
 have k3:=k1.update (o':=.cells (l.map fun b=>AV.int .u8 (b.toNat:Int))) hr hp g2 g3 (IZ.cells g1 rfl (.inr rfl) (by simp[hcs];omega) (by rw[B5,htk];exact hv.mono (CO.refl _) (Sg.F9 (hW.fresh _ (A4 _)))) (by rw[B5,htk];exact h1))
 have e1:(H.push (.cells (l.map fun b=>AV.int .u8 (b.toNat:Int)))).set H.next (.cells (l.map fun b=>AV.int .u8 (b.toNat:Int)))=H.push (.cells (l.map fun b=>AV.int .u8 (b.toNat:Int))):=AH.ext (fun x=>by
  rw[AH.AU];split
  ·rename_i h;subst h;exact hr.symm
  ·rfl) rfl
 rw[e1]at k3
 have hsh:(w.drew.alloc (.cells c e)).shape? w.drew.heap.size=some (e,c.size):=by unfold World.shape?;rw[hb]
 refine⟨.slice (some ⟨w.drew.heap.size,0,none⟩) l.length (grownCap w l.length 0 e),_,_,?_,k2,k3,?_⟩
 ·have hsz:(⟨l.toArray⟩:ByteArray).size=l.length:=rfl
  have hc':(List.map (fun b=>Value.int .u8 (b.toNat:Int)) l).toArray++Array.replicate ((Question.appendCap l.length 0 e).cut (w.tape w.drawn (Question.appendCap l.length 0 e))-l.length) (Value.int .u8 0)=c:=by
   rw[hc];simp[grownCap]
  have hsh':(w.drew.alloc (.cells c e)).shape? w.heap.size=some (e,c.size):=hsh
  simp[convert,run_underlying hs,run_underlying hd,run_underlying he,Conv.stringToBytes,Question.forced,newRow,markStringish,hsz,grownCap]
  rw[hc',hsh']
  simp
 ·exact .slo hp hge (by rw[hcs];simp)
theorem WK (hW:WR Z σ H w) {t e:TypeId}{i:TypeInfo}(ht:P.underlying t=some (.slice e)) (hi:P.info? e=some i) (ty:TypeId){z:List AV}(hz:EM P e=some z) (hsz:i.size=z.length) (hs:0<i.size)
  {r o n:Nat} {lim:Qe} {vx:Value} (hx:VR Z σ (.sl r o n lim) vx) {l:List AV} (hr:H.cells? r=some l) (ho:o+n*i.size<=l.length) :
  ∃w',(Builtin.clear_ #[t] ty #[vx]).run P w=.ok (.tuple #[]) w'/\WR Z σ (if n=0 then H else H.set r (.cells (Go.AL.Ap l o (D6 n z)))) w':=by
 obtain⟨i',zv,h1,h2,h3,h4⟩:=CX (Z:=Z) (σ:=σ) hz
 rw[hi]at h1;cases h1
 have hl:z.length=zv.cells.size:=by simpa using h3.length
 have main:∀(p:Ip) (cap:Nat),σ r=some p->vx=.slice (some ⟨p.b,p.base+o,none⟩) n cap->∃w',(Builtin.clear_ #[t] ty #[vx]).run P w=.ok (.tuple #[]) w'/\WR Z σ (if n=0 then H else H.set r (.cells (Go.AL.Ap l o (D6 n z)))) w':=by
  rintro p cap hp rfl
  by_cases hn:n=0
  ·subst hn
   exact⟨w,by simp[Builtin.clear_,run_underlying ht],by simpa using hW⟩
  ·obtain⟨n,rfl⟩:∃m,n=m+1:=⟨n-1,by omega⟩
   obtain⟨g1,g2⟩:=Hf h3 h4 (by omega) (n+1)
   obtain⟨k1,k2⟩:=hW.Ap (P:=P) (us:=(Builtin.zeroCells zv.cells (n+1)).toList) hr hp (o:=o) g1 g2 (by rw[HE,<- hsz];exact ho)
   have hrun:(Builtin.clear_ #[t] ty #[.slice (some ⟨p.b,p.base+o,none⟩) (n+1) cap]).run P w=((storeCells ⟨p.b,p.base+o,none⟩ (Builtin.zeroCells zv.cells (n+1)).toList).run P w).andThen fun _ w'=>.ok (.tuple #[]) w':=by
    simp[Builtin.clear_,run_underlying ht,zeroValue,typeInfo,hi,h2]
   rw[if_neg (by omega)]
   exact⟨_,by rw[hrun,k1];rfl,k2⟩
 cases hx with
 | slx hp hn=>exact main _ _ hp rfl
 | slxz hp a=>exact⟨w,by simp[Builtin.clear_,run_underlying ht],by simpa using hW⟩
 | slo hp hn hs=>exact main _ _ hp rfl
 | sloz hp a=>exact⟨w,by simp[Builtin.clear_,run_underlying ht],by simpa using hW⟩
end
def Uz (esz:Nat) (d x:AV) (H:AH):Option (AV × AH):=
 match Ae esz x H with
 | some (m,xs)=>match d with
  | .sl r o n _=>match H.cells? r with
   | some l=>if min n m=0 then some (.int .i64 0,H)else if o+min n m*esz<=l.length then some (.int .i64 ((min n m:Nat):Int),H.set r (.cells (Go.AL.Ap l o (xs.take (min n m*esz)))))else none
   | none=>none
  | _=>none
 | none=>none
section
variable {P:Program}{Z:Zt}{σ:Sg}{H:AH}{w:World}
theorem Xn {x:AV}{vx:Value}{esz m k:Nat}{xs:List AV}(hx:VR Z σ x vx) (h:Ae esz x H=some (m,xs)) (hk:k<m) :
  ∃ad cap x',vx=.slice ad m cap/\VR Z σ x' (.slice ad k cap)/\Ae esz x' H=some (k,xs.take (k*esz)):=by
 unfold Ae at h
 split at h
 ·simp only[AD,Ao]at h;omega
 ·rename_i l n ex
  split at h<;>simp only[AD,Ao,reduceCtorEq]at h
  rename_i hl
  obtain⟨rfl,rfl⟩:=h
  have hke:k*esz<=n*esz:=DY _ (by omega)
  have hlt:(l.take (k*esz)).length=k*esz:=by rw[BL];omega
  cases hx with
  | simz ad hx0=>omega
  | simn=>omega
  | sim hn hxx hs hz h1 hv=>
   rename_i cap ad c el fr
   have e1:(c.toList.drop ad.off).take (l.take (k*esz)).length=((c.toList.drop ad.off).take l.length).take (k*esz):=by
    rw[Ea,hlt,hl,B7 hke]
   refine⟨some ad,cap,.sim (l.take (k*esz)) k false,rfl,.sim (by omega) (fun h=>by cases h) hs hz ?_ ?_,by simp only[Ae,hlt,if_true]⟩
   ·rw[e1];intro u hu;exact h1 u (Dq hu)
   ·rw[e1];exact hv.take _
 ·rename_i r o n lim
  split at h
  ·rename_i l hl
   split at h<;>simp only[AD,Ao,reduceCtorEq]at h
   rename_i hlen
   obtain⟨rfl,rfl⟩:=h
   have hke:k*esz<=n*esz:=DY _ (by omega)
   have main:∀lim',Ae esz (.sl r o k lim') H=some (k,((l.drop o).take (n*esz)).take (k*esz)):=fun lim'=>by
    have hle:o+k*esz<=l.length:=by omega
    simp only[Ae,hl,hle,if_true,Ea,B7 hke]
   cases hx with
   | slx hp hn=>exact⟨_,_,.sl r o k (.ex _),rfl,.slx hp (by omega),main _⟩
   | slxz hp a=>omega
   | slo hp hn hs=>exact⟨_,_,.sl r o k (.op _),rfl,.slo hp (by omega) hs,main _⟩
   | sloz hp a=>omega
  ·cases h
 ·cases h
theorem Xo (hW:WR Z σ H w){x:AV}{vx:Value}{esz m k:Nat}{xs:List AV}(hx:VR Z σ x vx) (h:Ae esz x H=some (m,xs)) (hk:k<=m) :
  ∃ad cap news,vx=.slice ad m cap/\CC Z σ (xs.take (k*esz)) news/\news.length=k*esz/\(∀v∈news,v.oneCell'=true)/\(Builtin.firstCells esz k vx).run P w=.ok news.toArray w:=by
 rcases CT k m with hlt | hge
 ·obtain⟨ad,cap,x',rfl,h1,h2⟩:=Xn (H:=H) hx h hlt
  obtain⟨ad',cap',news,he,g1,g2,g3,_,g5⟩:=FV (P:=P) hW h1 h2
  cases he
  refine⟨ad,cap,news,rfl,g1,g2,g3,?_⟩
  have:=g5 w rfl
  cases ad<;>simpa[Builtin.firstCells]using this
 ·have e:k=m:=by omega
  subst e
  obtain⟨ad,cap,news,rfl,g1,g2,g3,_,g5⟩:=FV (P:=P) hW hx h
  have hl:xs.length=k*esz:=by rw[g1.length,g2]
  exact⟨ad,cap,news,rfl,by rw[AX (by omega)];exact g1,g2,g3,g5 w rfl⟩
theorem Uy (hW:WR Z σ H w) {t u e:TypeId}{i:TypeInfo}(ht:P.underlying t=some (.slice e)) (hi:P.info? e=some i) {d x:AV}{vd vx:Value}(hd:VR Z σ d vd) (hx:VR Z σ x vx) (ty:TypeId)
  {v:AV} {H':AH} (h:Uz i.size d x H=some (v,H')):∃cv w',(Builtin.copy_ #[t,u] ty #[vd,vx]).run P w=.ok cv w'/\WR Z σ H' w'/\VR Z σ v cv:=by
 unfold Uz at h
 split at h
 ·rename_i m xs hs
  split at h
  ·rename_i r o n lim
   split at h
   ·rename_i l hl
    obtain⟨ad,cap,news,rfl,g1,g2,g3,g4⟩:=Xo (P:=P) hW hx hs (Nat.min_le_right n m)
    have hlen:∀(bs:Option Addr) (dc:Nat),(Builtin.copy_ #[t,u] ty #[.slice bs n dc,.slice ad m cap]).run P w=match bs with
      | some a=>((storeCells a news).run P w).andThen fun _ w'=>.ok (.int .i64 ((min n m:Nat):Int)) w'
      | none=>.ok (.int .i64 ((min n m:Nat):Int)) w:=fun bs dc=>by
     have hmn:Nat.min m n=min n m:=Nat.min_comm _ _
     cases bs<;>simp[Builtin.copy_,run_underlying ht,Builtin.lenOf,sizeOf,typeInfo,hi,hmn,g4,goInt]
    have zero:min n m=0->∀(bs:Option Addr) (dc:Nat),(Builtin.copy_ #[t,u] ty #[.slice bs n dc,.slice ad m cap]).run P w=.ok (.int .i64 0) w:=fun h0 bs dc=>by
     have hn:news=[]:=By (by rw[g2,h0,G_])
     rw[hlen bs dc,h0,hn]
     cases bs<;>simp[storeCells]
    obtain⟨bs,dc,rfl⟩:∃bs dc,vd=.slice bs n dc:=by cases hd<;>exact⟨_,_,rfl⟩
    split at h
    ·rename_i h0
     simp only[AD,Ao]at h
     obtain⟨rfl,rfl⟩:=h
     exact⟨_,w,zero h0 bs dc,hW,.int _ _⟩
    ·rename_i h0
     split at h<;>simp only[AD,Ao,reduceCtorEq]at h
     rename_i hle
     obtain⟨rfl,rfl⟩:=h
     have main:∀(p:Ip),σ r=some p->bs=some ⟨p.b,p.base+o,none⟩->∃cv w',(Builtin.copy_ #[t,u] ty #[.slice bs n dc,.slice ad m cap]).run P w=.ok cv w'/\WR Z σ (H.set r (.cells (Go.AL.Ap l o (xs.take (min n m*i.size))))) w'/\VR Z σ (.int .i64 ((min n m:Nat):Int)) cv:=by
      rintro p hp rfl
      obtain⟨k1,k2⟩:=hW.Ap (P:=P) (us:=news) hl hp (o:=o) g1 g3 (by rw[g1.length,g2];exact hle)
      exact⟨_,_,by rw[hlen];simp only[k1];rfl,k2,.int _ _⟩
     cases hd with
     | slx hp hn=>exact main _ hp rfl
     | slxz hp a=>omega
     | slo hp hn hs=>exact main _ hp rfl
     | sloz hp a=>omega
   ·cases h
  ·cases h
 ·cases h
end
end
section
section
variable {P:Program}{Z:Zt}{σ:Sg}{H:AH}{w:World}
theorem S9 (hW:WR Z σ H w) {t kt el:TypeId}(ht:P.underlying t=some (.map kt el)){x:AV}{vx:Value}(hx:VR Z σ x vx){o:Cw}(h:MJ x H=some o) :
  ∃cv w' σ',(Instr.range t vx).run P w=.ok cv w'/\Nw σ H.next σ'/\WR Z σ' (H.push o) w'/\VR Z σ' (.ptr H.next 0) cv:=by
 have hf:σ H.next=none:=hW.fresh _ (A4 _)
 unfold MJ at h
 split at h
 ·simp only[AD]at h;subst h
  cases hx
  refine⟨_,_,σ.add H.next ⟨w.heap.size,0,0⟩,run_range_nilMap w t kt el ht,Nw.add _ _ _,hW.push rfl ?_ (Rest.WG _ _),.ptr (p:=⟨w.heap.size,0,0⟩) (Sg.add_same _ _ _)⟩
  exact .iter (sn:=#[]) (Dk w _) rfl (.inl ⟨rfl,rfl⟩) (fun x=>by simp) (fun c hc=>by cases hc)
 ·rename_i r
  split at h<;>simp only[AD,reduceCtorEq]at h
  rename_i es clock hr
  subst h
  cases hx with
  | mp hp=>
   rename_i p
   obtain⟨_,ho⟩:=hW.h _ _ _ hr hp
   cases ho with
   | map hb hn he=>
    refine⟨_,_,σ.add H.next ⟨w.heap.size,0,0⟩,run_range_map w t kt el p.b _ clock ht hb,Nw.add _ _ _,hW.push rfl ?_ (Rest.WG _ _),.ptr (p:=⟨w.heap.size,0,0⟩) (Sg.add_same _ _ _)⟩
    exact .iter (sn:=#[]) (Dk w _) rfl (.inr ⟨r,p,rfl,Sg.F9 hf _ _ hp,rfl⟩) (fun x=>by simp) (fun c hc=>by cases hc)
 ·cases h
theorem Iq.find {es:List (AV × AV × Nat)}{ms:List MapEntry}(h:Iq Z σ es ms){c:Nat}{y:AV × AV × Nat}(hf:es.find? (fun x=>x.2.2==c)=some y):∃m,ms.find? (fun m=>m.born==c)=some m/\VR Z σ y.1 m.key/\VR Z σ y.2.1 m.val:=by
 induction h with
 | nil=>cases hf
 | cons hk hx hn t ih=>
  subst hn
  simp only[List.find?_cons]at hf ⊢
  split at hf
  ·simp only[AD]at hf;subst hf
   exact⟨_,rfl,hk,hx⟩
  ·exact ih hf
theorem Iq.filter {es:List (AV × AV × Nat)}{ms:List MapEntry}(h:Iq Z σ es ms) {p q:Nat->Bool}(hpq:∀x,p x=q x):Iq Z σ (es.filter fun x=>!p x.2.2) (ms.filter fun m=>!q m.born):=by
 have e:(fun x:AV × AV × Nat=>!p x.2.2)=fun x=>!q x.2.2:=by funext x;rw[hpq]
 rw[e]
 induction h with
 | nil=>exact .nil
 | cons hk hx hn t ih=>
  subst hn
  simp only[Og]
  split
  ·exact .cons hk hx rfl ih
  ·exact ih
theorem Iq.mem {es:List (AV × AV × Nat)}{ms:List MapEntry}(h:Iq Z σ es ms){m:MapEntry}(hm:m∈ms):∃y∈es,VR Z σ y.1 m.key/\VR Z σ y.2.1 m.val/\m.born=y.2.2:=by
 induction h with
 | nil=>cases hm
 | cons hk hx hn t ih=>
  rcases DF.1 hm with rfl | hm
  ·exact⟨_,BY,hk,hx,hn⟩
  ·obtain⟨y,h1,h2⟩:=ih hm
   exact⟨y,Cx _ h1,h2⟩
theorem Iq.Hj {es:List (AV × AV × Nat)}{ms:List MapEntry}(h:Iq Z σ es ms){c:Nat}(ho:rp es c=true):∀m∈ms,m.born<c:=fun m hm=>by
 obtain⟨y,h1,_,_,h4⟩:=h.mem hm
 rw[h4]
 simpa using CW.1 ho y h1
theorem PH {b:Nat}{m:Option Nat}{c d:Nat}{s:Array Nat}(hb:w.heap[b]?=some (.mapIter m c s d)):(getObj b).run P w=.ok (.mapIter m c s d) w:=by
 simp only[getObj,Sem.run_bind,Sem.run,hb,Result.andThen]
theorem TB (hW:WR Z σ H w){x:AV}{vx:Value}(hx:VR Z σ x vx){v:AV}(h:K_ x H=some v):∃cv,(Instr.entry vx).run P w=.ok cv w/\VR Z σ v cv:=by
 unfold K_ at h
 split at h<;>(try (cases h;done))
 rename_i q
 split at h<;>(try (cases h;done))
 rename_i r clock seen c hq
 split at h<;>(try (cases h;done))
 rename_i es clock' hr
 split at h<;>(try (cases h;done))
 rename_i Uc
 subst Uc
 simp only[AP]at h
 obtain⟨y,hf,rfl⟩:=h
 cases hx with
 | ptr hp=>
  rename_i p
  obtain⟨_,ho⟩:=hW.h _ _ _ hq hp
  cases ho with
  | iter hb h0 hm hs hc=>
   rename_i mb sn
   rcases hm with⟨hm,_⟩ | ⟨r',q',h1,h2,h3⟩
   ·cases hm
   ·cases h1;subst h3
    obtain⟨_,ho⟩:=hW.h _ _ _ hr h2
    cases ho with
    | map hb2 hn he=>
     rename_i ms
     have hms:Iq Z σ es ms.toList:=Iq.of (by simpa using hn) (by simpa using he)
     obtain⟨m,hm1,hm2,hm3⟩:=hms.find hf
     rw[Array.find?_toList]at hm1
     refine⟨.tuple #[m.key,m.val],?_,.tup (.cons hm2 (.cons hm3 .nil))⟩
     simp only[Instr.entry,h0,GS,Sem.run_bind,PH hb,MapKept.run_getObj_map hb2,Result.andThen,hc c rfl,bne_self_eq_false,E8,if_false,hm1]
     rfl
theorem run_next_any {b bm since c0:Nat}{seen:Array Nat}{es:Array MapEntry}{clock:Nat}(hb:w.heap[b]?=some (.mapIter (some bm) since seen c0)) (hbm:w.heap[bm]?=some (.map es clock)) (hold:∀x∈es.toList,x.born<since) (hsc:since<=c0) (ty:TypeId) :
  (leftOf es seen).toList=[]/\(Instr.next (.pointer (some ⟨b,0,none⟩)) false ty).run P w=.ok (.tuple #[.bool false]) w \/
  ∃e∈(leftOf es seen).toList,∃w1:World,w1.heap=w.heap/\Rest w w1/\(Instr.next (.pointer (some ⟨b,0,none⟩)) false ty).run P w=.ok (.tuple #[.bool true,e.key,e.val]) { w1 with heap:=w1.heap.setIfInBounds b (.mapIter (some bm) since (seen.push e.born) clock) }:=by
 simp only[Instr.next,Sem.run_bind,PH hb,MapKept.run_getObj_map hbm,Result.andThen,next_test_false seen es since c0 hold hsc,E8,if_false]
 unfold leftOf
 have hmem:∀x∈(Array.filter (fun e=>!seen.contains e.born) es).toList,x.born<since:=fun x hx=>hold x (by simp at hx ⊢;exact hx.1)
 generalize Array.filter (fun e=>!seen.contains e.born) es=L at hmem ⊢
 have e1:L.filter (fun x=>decide (x.born<since))=L:=Array.filter_eq_self.2 (fun x hx=>by simpa using hmem x (by simpa using hx))
 have e2:L.filter (fun x=>decide (x.born>=since))=#[]:=by
  rw[Array.filter_eq_empty_iff]
  intro x hx
  have:=hmem x (by simpa using hx)
  simp
  omega
 simp only[e1,e2,Array.append_empty]
 by_cases h0:L.size=0
 ·left
  have:L=#[]:=IE h0
  subst this
  refine⟨rfl,?_⟩
  simp[choose,Sem.run,Question.forced]
 ·right
  have hne:L.isEmpty=false:=by simp[Array.isEmpty,h0]
  simp only[hne,E8,if_false,OD,Array.size_map]
  have hch:∃(j:Nat) (w1:World),j<L.size/\w1.heap=w.heap/\Rest w w1/\(choose (Question.mapNext L.size)).run P w=.ok j w1:=by
   by_cases hf:L.size<=1
   ·exact⟨0,w,by omega,rfl,⟨rfl,rfl⟩,by simp[choose,Sem.run,Question.forced,hf]⟩
   ·exact⟨_,w.drew,HU _ (by omega),rfl,⟨rfl,rfl⟩,by
     simp only[choose,Sem.run,Question.forced,decide_eq_true_eq,hf,if_false,Question.cut]
     rfl⟩
  obtain⟨j,w1,hj,hh,hR,hrun⟩:=hch
  refine⟨L[j],by simp,w1,hh,hR,?_⟩
  have hset:∀o':Obj,(setObj b o').run P w1=.ok () { w1 with heap:=w1.heap.setIfInBounds b o' }:=fun o'=>by
   simp only[setObj,Sem.run,hh,hb]
  simp only[hrun,Array.getElem?_map,LQ hj,FA,Sem.run_bind,hset,Result.andThen]
  rfl
theorem Gp (n x:Nat):∀l:List Nat,(KU n l).contains x=(l.contains x||x==n)
 | []=>by simp only[KU,OC,List.contains_nil,Bool.or_false,Bool.false_or]
 | m::l=>by
  unfold KU
  split
  ·simp only[OC]
   cases (x==n)<;>cases (x==m)<;>cases (l.contains x)<;>rfl
  ·simp only[OC,Gp n x l,Bool.or_assoc]
theorem QK {x:AV}{l:List (AV × AH)}(h:Jr x H=some l):∀p∈l,p.2.next=H.next:=fun p hp=>by
 unfold Jr at h
 split at h<;>simp only[AD,reduceCtorEq]at h
 ·subst h;simp only[B9]at hp;subst hp;rfl
 ·subst h
  obtain⟨q,_,rfl⟩:=Bk.1 hp
  simp
theorem Nb (hW:WR Z σ H w){x:AV}{vx:Value}(hx:VR Z σ x vx){l:List (AV × AH)}(h:Jr x H=some l) (ty:TypeId) :
  ∃p∈l,∃cv w',(Instr.next vx false ty).run P w=.ok cv w'/\WR Z σ p.2 w'/\VR Z σ p.1 cv:=by
 unfold Jr at h
 cases hq:jM x H with
 | none=>rw[hq]at h;cases h
 | some y=>
  rw[hq]at h
  unfold jM at hq
  split at hq<;>(try (cases hq;done))
  rename_i q
  cases hx with
  | ptr hp=>
   rename_i p
   split at hq<;>(try (cases hq;done))
   ·rename_i clock seen cur hg
    cases hq
    simp only[AD]at h;subst h
    obtain⟨_,ho⟩:=hW.h _ _ _ hg hp
    cases ho with
    | iter hb h0 hm hs hc=>
     rcases hm with⟨_,hm⟩ | ⟨r',q',h1,_⟩
     ·subst hm
      refine⟨_,B9.2 rfl,.tuple #[.bool false],w,?_,hW,.tup (.cons (.bool _) .nil)⟩
      simp only[Instr.next,h0,GS,Sem.run_bind,PH hb,Result.andThen]
      rfl
     ·cases h1
   ·rename_i r clock seen cur hg
    split at hq<;>(try (cases hq;done))
    rename_i es clock' hr
    split at hq<;>(try (cases hq;done))
    rename_i hcd
    obtain⟨hcc,hok⟩:=hcd
    subst hcc
    simp only[AD]at hq;subst hq
    simp only[AD]at h
    obtain⟨_,ho⟩:=hW.h _ _ _ hg hp
    cases ho with
    | iter hb h0 hm hs hc=>
     rename_i mb sn
     rcases hm with⟨hm,_⟩ | ⟨r',q',h1,h2,h3⟩
     ·cases hm
     ·cases h1;subst h3
      obtain⟨_,ho⟩:=hW.h _ _ _ hr h2
      cases ho with
      | map hb2 hn he=>
       rename_i ms
       have hms:Iq Z σ es ms.toList:=Iq.of (by simpa using hn) (by simpa using he)
       have hfl:=hms.filter (p:=fun x=>seen.contains x) (q:=fun x=>sn.contains x) (fun x=>(hs x).symm)
       have hll:(leftOf ms sn).toList=ms.toList.filter fun m=>!sn.contains m.born:=by unfold leftOf;rw[Array.toList_filter]
       rw[<- hll]at hfl
       have hptr:Value.pointer (some ⟨p.b,p.base+0,none⟩)=.pointer (some ⟨p.b,0,none⟩):=by rw[h0]
       rw[hptr]
       rcases run_next_any (P:=P) hb hb2 (hms.Hj hok) (A4 _) ty with⟨g1,g2⟩ | ⟨m,g1,w1,g2,g3,g4⟩
       ·rw[g1]at hfl
        generalize List.filter (fun x=>!seen.contains x.2.2) es=fl at hfl h
        cases hfl
        subst h
        refine⟨_,B9.2 rfl,_,w,g2,?_,.tup (.cons (.bool _) .nil)⟩
        exact hW.update hg hp (fun b _=>rfl) (Rest.refl _) (.iter hb h0 (.inr ⟨r,q',rfl,h2,rfl⟩) hs (fun c hc=>by cases hc))
       ·obtain⟨y,y1,y2,y3,y4⟩:=hfl.mem g1
        have hy:(AV.tup [.bool true,y.1,y.2.1],H.set q (.iter (some r) clock' (KU y.2.2 seen) (some y.2.2)))∈l:=by
         rw[<- h]
         generalize List.filter (fun x=>!seen.contains x.2.2) es=fl at y1
         cases fl with
         | nil=>cases y1
         | cons a b=>
          simp only[SC]
          exact Bk.2 ⟨y,y1,rfl⟩
        refine⟨_,hy,_,_,g4,?_,.tup (.cons (.bool _) (.cons y2 (.cons y3 .nil)))⟩
        have hlt:=(Aj.1 hb).1
        refine hW.update hg hp (fun b hne=>?_) g3 (.iter (sn:=sn.push m.born) (mb:=some q'.b) ?_ h0 (.inr ⟨r,q',rfl,h2,rfl⟩) (fun x=>?_) (fun c hc=>?_))
        ·simp only[g2,HX];rw[if_neg (fun e=>hne e.symm)]
        ·simp only[g2,HX,if_true,hlt]
        ·rw[contains_push,hs,Gp,y4]
        ·cases hc;rw[Array.back?_push,y4]
end
end
section
def BC (k:AK) (e:Env) (H:AH):Option (AV × AH):=
 match k with
 | .alloc z=>some (.ptr H.next 0,H.push (.cells z))
 | .box x=>match (x.ev e).cellsOf with
  | some l=>some (.ptr H.next 0,H.push (.cells l))
  | none=>none
 | .buildSlice _ len z ps=>match Bv e z ps with
  | some out=>some (.sl H.next 0 len (.ex len),H.push (.cells out))
  | none=>none
 | .mkSlice _ bytes z l c=>match l.ev e,c.ev e with
  | .int _ l,.int _ c=>if 0<=l/\l<=c/\c<=9223372036854775807/\(bytes:Int)*c<=281474976710656 then some (.sl H.next 0 l.toNat (.ex c.toNat),H.push (.cells (D6 c.toNat z)))else none
  | _,_=>none
 | .store n x v=>match x.ev e with
  | .ptr r o=>match H.cells? r,(v.ev e).cellsOf with
   | some l,some vs=>if vs.length=n/\o+n<=l.length then some (.unk,H.set r (.cells (Ap l o vs)))else none
   | _,_=>none
  | _=>none
 | .append esz bytes s x=>BO esz bytes (s.ev e) (x.ev e) H
 | .mark x=>match x.ev e with
  | .sl r o n (.ex m)=>match H.cells? r with
   | some _=>if 0<m then some (.sl r o n (.ex m),H)else none
   | none=>none
  | _=>none
 | .appendZ esz bytes z s n=>match s.ev e,n.ev e with
  | .nils,.int _ n=>if 0<n/\n.toNat*bytes<=140737488355328/\n<=9223372036854775807 then some (.sl H.next 0 n.toNat (.op esz),H.push (.cells (D6 n.toNat z)))else none
  | _,_=>none
 | .bytesOf x=>match x.ev e with
  | .str l=>some (.sl H.next 0 l.length (.op 1),H.push (.cells (l.map fun b=>.int .u8 (b.toNat:Int))))
  | _=>none
 | .Is esz z x=>match x.ev e with
  | .sl r o n lim=>match H.cells? r with
   | some l=>if o+n*esz<=l.length then some (.tup [],if n=0 then H else H.set r (.cells (Go.AL.Ap l o (D6 n z))))else none
   | none=>none
  | _=>none
 | .copy esz x y=>Uz esz (x.ev e) (y.ev e) H
 | .makeMap=>some (.mp H.next,H.push (.map [] 0))
 | .rangeM x=>match MJ (x.ev e) H with
  | some o=>some (.ptr H.next 0,H.push o)
  | none=>none
 | .mapUpd ty m k v=>match m.ev e,MM ty (k.ev e)with
  | .mp r,some L=>match H.get r with
   | some (.map es clock)=>match HK ty L es with
    | some (some (j,_))=>some (.unk,H.set r (.map (es.modify j fun x=>(k.ev e,v.ev e,x.2.2)) clock))
    | some none=>some (.unk,H.set r (.map (es++[(k.ev e,v.ev e,clock)]) (clock+1)))
    | none=>none
   | _=>none
  | _,_=>none
 | _=>none
def A6 (k:AK) (e:Env) (H:AH):Option (AV × AH):=
 match AJ k e with
 | some v=>some (v,H)
 | none=>match AY k e H with
  | some v=>some (v,H)
  | none=>BC k e H
inductive Al where
 | ret (v:AV)
 | Bd (v:AV)
def WS (Z:Zt) (σ:Sg):Al->Ending->Prop
 | .ret v,e=>∃cv,e=.returned cv/\VR Z σ v cv
 | .Bd v,e=>∃cv,e=.panicked [{ v:=cv,recovered:=false }]/\VR Z σ v cv
def Enters (P:Program) (f:FuncId):Prop:=∃fn,P.funcs[f]?=some fn/\fn.name≠"runtime.NumGoroutine"/\fn.body.isSome=true
def AQ (P:Program) (f:FuncId) (args:List AV) (H:AH) (post:Al->AH->Prop):Prop:=
 Enters P f/\∀(Z:Zt) (σ:Sg) (w:World) (vs:List Value),WR Z σ H w->CC Z σ args vs ->
  Calls P f vs.toArray w fun e w'=>∃Z' σ' H' out,CO Z Z'/\Nw σ H.next σ'/\H.next<=H'.next/\WR Z' σ' H' w'/\WS Z' σ' out e/\post out H'
theorem AQ.mono {P:Program}{f:FuncId}{args:List AV}{H:AH}{post post':Al->AH->Prop}(h:AQ P f args H post) (hp:∀o H',post o H'->post' o H'):AQ P f args H post':=
 ⟨h.1,fun Z σ w vs h1 h2=>(h.2 Z σ w vs h1 h2).mono fun _ _ ⟨Z',σ',H',out,a,b,c,d,e,f⟩=>⟨Z',σ',H',out,a,b,c,d,e,hp _ _ f⟩⟩
class YC where
 y:Nat->List AV->AH->(Al->AH->Prop)->Prop
 mono:∀{l:Nat} {args:List AV} {H:AH} {post post':Al->AH->Prop},y l args H post->(∀o H',post o H'->post' o H')->y l args H post'
instance (priority:=low) ycNone:YC:=⟨fun _ _ _ _=>False,fun h _=>h⟩
variable [YC]
def Gw (P:Program) (fv:AV) (args:List AV) (H:AH) (post:Al->AH->Prop):Prop:=
 match fv with
 | .fn (.func g) first cap=>AQ P g (first++args++cap) H post
 | .fn (.yield l) [] []=>YC.y l args H post
 | _=>False
def G1 (P:Program) (k:AK) (e:Env) (H:AH) (K:AV->AH->Prop) (Kp:AV->AH->Prop):Prop:=
 match k with
 | .call f args=>Gw P (f.ev e) (args.map (·.ev e)) H fun out H'=>match out with
  | .ret v=>K v H'
  | .Bd v=>Kp v H'
 | .panic x=>match x.ev e with
  | .ifc t v=>Kp (.ifc t v) H
  | _=>False
 | .defer _ _=>False
 | .recover=>False
 | .nextM x=>match Jr (x.ev e) H with
  | some l=>∀p∈l,K p.1 p.2
  | none=>False
 | k=>match A6 k e H with
  | some (v,H')=>K v H'
  | none=>False
def AK.B0:AK->Bool
 | .defer _ _=>true
 | _=>false
structure A_ where
 dst:Option Nat
 k:AK
 gd:Option (Nat × Bool)
def Env.put (e:Env) (d:Option Nat) (v:AV):Env:=match d with
 | some d=>e.set d v
 | none=>e
def MN:AV->Option (Option Bool)
 | .bool b=>some (some b)
 | .tup []=>some none
 | _=>none
abbrev Bp:AV:=.tup []
def CI (P:Program):List A_->Env->AH->(Env->AH->Prop)->(AV->Env->AH->Prop)->Prop
 | [],e,H,K,_=>K e H
 | o::l,e,H,K,Kp=>
  match o.gd with
  | none=>(match o.k with
   | .defer f args=>(match f.ev e,e AM with
    | .fn (.func g) first cap,.tup ds=>CI P l ((e.set AM (.tup (.tup [.fn (.func g) [] [],.tup (first++args.map (·.ev e)++cap)]::ds))).put o.dst .unk) H K Kp
    | _,_=>False)
   | k=>G1 P k e H (fun v H'=>CI P l (e.put o.dst v) H' K Kp) (fun v H'=>Kp v e H'))
  | some (s,want)=>match MN (e s)with
   | some b=>(b=some want->G1 P o.k e H (fun v H'=>CI P l (e.put o.dst v) H' K Kp) (fun v H'=>Kp v e H'))/\(b≠some want->CI P l (e.put o.dst Bp) H K Kp)
   | none=>False
inductive Ex where
 | normal
 | exit (id:Nat)
 | ret
 | Bd (v:AV)
def bc (n:Nat):Option Nat->Bool
 | some d=>decide (d<n)
 | none=>true
def Di (P:Program) (n:Nat) (ops:Array Oper) (o:Oper):Option A_:=
 match Dp P o with
 | none=>none
 | some k=>
  if bc n o.dst=true then
   match o.guard with
   | none=>some ⟨o.dst,k,none⟩
   | some (j,want)=>match (ops[j]?).bind (·.dst)with
    | some s=>if s<n/\k.B0=false then some ⟨o.dst,k,some (s,want)⟩else none
    | none=>none
  else none
def CB (P:Program) (n:Nat) (ops:Array Oper):List Oper->Option (List A_)
 | []=>some []
 | o::l=>match Di P n ops o,CB P n ops l with
  | some x,some xs=>some (x::xs)
  | _,_=>none
end
section
section
variable {P:Program}
def Inv (P:Program) (o:Oper) (k:AK):Prop:=
 match k with
 | .load g x=>∃t y,o.op=.load t y/\Ic P t=some g/\A9 y=some x
 | .strOfBytes x=>∃s d y e,o.op=.convert s d y/\P.underlying s=some (.slice e)/\P.underlying d=some .string/\P.underlying e=some (.int .u8)/\A9 y=some x
 | .alloc z=>∃t,o.op=.alloc t/\EM P t=some z
 | .box x=>∃t y,o.op=.box t y/\A9 y=some x
 | .store n x v=>∃t y u,o.op=.store t y u/\Ct P t=some n/\A9 y=some x/\A9 u=some v
 | .buildSlice n len z ps=>∃t qs e zz,o.op=.buildSlice t len qs/\P.underlying t=some (.slice e)/\Ct P e=some n/\EM P e=some zz/\n=zz.length/\0<n/\len*n<=2 ^ 24/\Gt (fun i=>some (i*n,n)) qs.toList=some ps/\z=D6 len zz
 | .mkSlice sz bytes z l c=>∃t l' c' e i,o.op=.makeSlice t l' c'/\P.underlying t=some (.slice e)/\P.info? e=some i/\EM P e=some z/\sz=i.size/\bytes=i.bytes/\i.size=z.length/\0<i.size/\A9 l'=some l/\A9 c'=some c
 | .append sz bytes s x=>∃s' x' t u i e z,o.op=.call { callee:=.builtin .append,args:=#[s',x'],argTypes:=#[t,u] }/\P.underlying t=some (.slice e)/\(∃d,P.underlying u=some (.slice d))/\P.info? e=some i/\EM P e=some z/\sz=i.size/\bytes=i.bytes/\i.size=z.length/\0<i.size/\A9 s'=some s/\A9 x'=some x
 | .call f l=>∃g args ats,o.op=.call { callee:=.value g,args,argTypes:=ats }/\A9 g=some f/\Gu args.toList=some l
 | .defer f l=>∃g args ats,o.op=.defer { callee:=.value g,args,argTypes:=ats }/\A9 g=some f/\Gu args.toList=some l
 | .panic x=>x=.cst .unk\/∃y,o.op=.panic y/\A9 y=some x
 | .move x=>∃y,(o.op=.move y\/o.op=.assign y)/\A9 y=some x
 | .recover=>∃args ats,o.op=.call { callee:=.builtin .recover,args,argTypes:=ats }
 | .mark x=>∃s y e,o.op=.convert s s y/\P.underlying s=some (.slice e)/\P.underlying e=some (.int .u8)/\A9 y=some x
 | .appendZ sz bytes z s x=>∃s' x' t u i e q,o.op=.call { callee:=.builtin .append,args:=#[s',x'],argTypes:=#[t,u] }/\P.underlying t=some (.slice e)/\P.underlying u=some (.int q)/\P.info? e=some i/\EM P e=some z/\sz=i.size/\bytes=i.bytes/\i.size=z.length/\0<i.size/\A9 s'=some s/\A9 x'=some x
 | .bytesOf x=>∃s d y e,o.op=.convert s d y/\P.underlying s=some .string/\P.underlying d=some (.slice e)/\P.underlying e=some (.int .u8)/\A9 y=some x
 | .Is sz z s=>∃s' t e i,o.op=.call { callee:=.builtin .clear,args:=#[s'],argTypes:=#[t] }/\P.underlying t=some (.slice e)/\P.info? e=some i/\EM P e=some z/\sz=i.size/\i.size=z.length/\0<i.size/\A9 s'=some s
 | .copy sz x y=>∃d s t u e i,o.op=.call { callee:=.builtin .copy,args:=#[d,s],argTypes:=#[t,u] }/\P.underlying t=some (.slice e)/\P.info? e=some i/\sz=i.size/\A9 d=some x/\A9 s=some y
 | .makeMap=>∃t,o.op=.makeMap t none
 | .rangeM x=>∃t y k el,o.op=.range t y/\P.underlying t=some (.map k el)/\A9 y=some x
 | .nextM x=>∃y,o.op=.next y false/\A9 y=some x
 | .entryM x=>∃y,o.op=.entry y/\A9 y=some x
 | .gld g v=>∃t,o.op=.load t (.global v)/\Ic P t=some g
 | .lookup ty z ok m k=>∃t m' k' kt el,o.op=.lookup t m' k' ok/\P.underlying t=some (.map kt el)/\UI P kt=some ty/\ka P el=some z/\A9 m'=some m/\A9 k'=some k
 | .mapUpd ty m k v=>∃t m' k' v' kt el,(o.op=.mapUpdate t m' k' v'\/o.op=.insert t m' k' v')/\P.underlying t=some (.map kt el)/\UI P kt=some ty/\A9 m'=some m/\A9 k'=some k/\A9 v'=some v
 | .lenMap m=>∃t m' k el,o.op=.call { callee:=.builtin .len,args:=#[m'],argTypes:=#[t] }/\P.underlying t=some (.map k el)/\A9 m'=some m
 | .ext c x y=>∃g args ats f fn y1 y2,o.op=.call { callee:=.value g,args,argTypes:=ats }/\A9 g=some (.fnc f)/\P.funcs[f]?=some fn/\fn.body=none/\Extern.allNextRows.lookup fn.origin=none /\
   fn.name=(bif c then "internal/bytealg.Compare" else "internal/bytealg.IndexByte")/\args=#[y1,y2]/\A9 y1=some x/\A9 y2=some y
 | _=>True
theorem YQ {l:List Operand}{x y:AE}(h:Gu l=some [x,y]):∃y1 y2,l=[y1,y2]/\A9 y1=some x/\A9 y2=some y:=by
 match l,h with
 | [],h=>simp[Gu]at h
 | [a],h=>
  simp only[Gu]at h
  cases q1:A9 a with
  | none=>simp[q1]at h
  | some z1=>simp[q1]at h
 | [a,b],h=>
  simp only[Gu]at h
  cases q1:A9 a with
  | none=>simp[q1]at h
  | some z1=>cases q2:A9 b with
   | none=>simp[q1,q2]at h
   | some z2=>
    simp[q1,q2]at h
    exact⟨a,b,rfl,by rw[q1,h.1],by rw[q2,h.2]⟩
 | a::b::c::l,h=>
  simp only[Gu]at h
  split at h<;>(try (cases h;done))
  rename_i h2
  split at h2<;>(try (cases h2;done))
  rename_i h3
  split at h3<;>(try (cases h3;done))
  simp only[AD]at h2 h3 h
  subst h3 h2
  simp at h
theorem bW {f:AE}{c:Bool}(h:jB P f=some c):∃g fn,f=.fnc g/\P.funcs[g]?=some fn/\fn.body=none/\Extern.allNextRows.lookup fn.origin=none/\fn.name=(bif c then "internal/bytealg.Compare" else "internal/bytealg.IndexByte"):=by
 unfold jB at h
 split at h<;>(try (cases h;done))
 rename_i g
 split at h<;>(try (cases h;done))
 rename_i fn hf
 cases h1:fn.body.isNone<;>rw[h1]at h<;>(try (cases h;done))
 cases h2:(Extern.allNextRows.lookup fn.origin).isNone<;>rw[h2]at h<;>(try (cases h;done))
 refine⟨g,fn,rfl,hf,by simpa using h1,by simpa using h2,?_⟩
 simp only[cond_true]at h
 cases h3:fn.name=="internal/bytealg.IndexByte" with
 | true=>
  rw[h3]at h
  cases h
  simpa using h3
 | false=>
  rw[h3]at h
  simp only[cond_false]at h
  cases h4:fn.name=="internal/bytealg.Compare" with
  | true=>rw[h4]at h;cases h;simpa using h4
  | false=>rw[h4]at h;cases h
theorem Uk {o:Oper}{k:AK}(h:GM P o=some k):Inv P o k:=by
 obtain⟨dst,op,ty,pos,after,guard⟩:=o
 unfold GM at h
 cases op<;>simp only[]at h<;>(try (cases h;done))
 case move y=>
  simp only[AP]at h
  obtain⟨z,hz,rfl⟩:=h
  exact⟨y,.inl rfl,hz⟩
 case assign y=>
  simp only[AP]at h
  obtain⟨z,hz,rfl⟩:=h
  exact⟨y,.inr rfl,hz⟩
 case load t y=>
  split at h
  ·rename_i h1 h2
   simp only[AD]at h
   subst h;exact⟨t,y,rfl,h1,h2⟩
  ·rename_i h1 h2
   split at h
   ·simp only[AD]at h
    subst h;exact⟨t,rfl,h1⟩
   ·cases h
  ·cases h
 case store t y u=>
  split at h<;>simp only[AD,reduceCtorEq]at h
  rename_i h1 h2 h3
  subst h;exact⟨t,y,u,rfl,h1,h2,h3⟩
 case alloc t=>
  simp only[AP]at h
  obtain⟨z,hz,rfl⟩:=h
  exact⟨t,rfl,hz⟩
 case box t y=>
  simp only[AP]at h
  obtain⟨z,hz,rfl⟩:=h
  exact⟨t,y,rfl,hz⟩
 case panic y=>
  simp only[AP]at h
  obtain⟨z,hz,rfl⟩:=h
  exact .inr ⟨y,rfl,hz⟩
 case buildSlice t len qs=>
  split at h<;>(try (cases h;done))
  rename_i e hu
  split at h<;>(try (cases h;done))
  rename_i n zz hn hz
  split at h<;>(try (cases h;done))
  rename_i hc
  simp only[AP]at h
  obtain⟨ps,hp,rfl⟩:=h
  exact⟨t,qs,e,zz,rfl,hu,hn,hz,hc.1,hc.2.1,hc.2.2,hp,rfl⟩
 case makeSlice t l c=>
  split at h<;>(try (cases h;done))
  rename_i e l' c' hu h1 h2
  split at h<;>(try (cases h;done))
  rename_i i z hi hz
  split at h<;>(try (cases h;done))
  rename_i hc
  simp only[AD]at h;subst h
  exact⟨t,l,c,e,i,rfl,hu,hi,hz,rfl,rfl,hc.1,hc.2,h1,h2⟩
 case convert s d y=>
  split at h
  ·simp only[AD]at h;subst h;trivial
  ·simp only[AD]at h;subst h;trivial
  ·rename_i e x h1 h2 h3
   split at h
   ·rename_i h4
    simp only[AD]at h;subst h;exact⟨s,d,y,e,rfl,h1,h2,h4,h3⟩
   ·cases h
  ·rename_i e x h1 h2 h3
   split at h
   ·rename_i h4
    simp only[AD]at h;subst h;exact⟨s,d,y,e,rfl,h1,h2,h4,h3⟩
   ·cases h
  ·rename_i el e x h1 h2 h3
   split at h
   ·rename_i h4
    split at h
    ·rename_i h5
     simp only[AD]at h;subst h;subst h5
     exact⟨s,y,e,rfl,h2,h4,h3⟩
    ·cases h
   ·cases h
  ·cases h
 case range t x=>
  split at h<;>(try (cases h;done))
  rename_i k el hu
  simp only[AP]at h
  obtain⟨y,hy,rfl⟩:=h
  exact⟨t,x,k,el,rfl,hu,hy⟩
 case next x s=>
  cases s<;>simp only[reduceCtorEq]at h
  simp only[AP]at h
  obtain⟨y,hy,rfl⟩:=h
  exact⟨x,rfl,hy⟩
 case entry x=>
  simp only[AP]at h
  obtain⟨y,hy,rfl⟩:=h
  exact⟨x,rfl,hy⟩
 case makeMap t r=>
  cases r<;>simp only[AD,reduceCtorEq]at h
  subst h;exact⟨t,rfl⟩
 case lookup t m k' ok=>
  split at h<;>(try (cases h;done))
  rename_i kt el m' k'' hu h1 h2
  split at h<;>simp only[AD,reduceCtorEq]at h
  rename_i ty' z h3 h4
  subst h;exact⟨t,m,k',kt,el,rfl,hu,h3,h4,h1,h2⟩
 case mapUpdate t m k' v=>
  split at h<;>(try (cases h;done))
  rename_i kt el m' k'' v' hu h1 h2 h3
  simp only[AP]at h
  obtain⟨ty',h4,rfl⟩:=h
  exact⟨t,m,k',v,kt,el,.inl rfl,hu,h4,h1,h2,h3⟩
 case insert t m k' v=>
  split at h<;>(try (cases h;done))
  rename_i kt el m' k'' v' hu h1 h2 h3
  simp only[AP]at h
  obtain⟨ty',h4,rfl⟩:=h
  exact⟨t,m,k',v,kt,el,.inr rfl,hu,h4,h1,h2,h3⟩
 case defer c=>
  obtain⟨callee,args,ats⟩:=c
  cases callee with
  | value f=>
   simp only[]at h
   split at h<;>(try (cases h;done))
   rename_i f' l h1 h2
   simp only[AD]at h;subst h
   exact⟨f,args,ats,rfl,h1,h2⟩
  | _=>simp at h
 case call c=>
  obtain⟨callee,args,ats⟩:=c
  cases callee with
  | value f=>
   simp only[]at h
   split at h<;>(try (cases h;done))
   rename_i f' l h1 h2
   simp only[AD]at h
   unfold TW at h
   split at h
   ·rename_i c hx
    split at h
    ·rename_i x y
     subst h
     obtain⟨g,fn,rfl,e1,e2,e3,e4⟩:=bW hx
     obtain⟨y1,y2,e5,e6,e7⟩:=YQ h2
     have e8:args=#[y1,y2]:=DE (by simpa using e5)
     exact⟨f,args,ats,g,fn,y1,y2,rfl,h1,e1,e2,e3,e4,e8,e6,e7⟩
    ·subst h;exact⟨f,args,ats,rfl,h1,h2⟩
   ·subst h;exact⟨f,args,ats,rfl,h1,h2⟩
  | builtin b=>
   cases b<;>simp only[]at h<;>(try (cases h;done))
   case clear=>
    split at h<;>(try (cases h;done))
    rename_i s t ha hts
    split at h<;>(try (cases h;done))
    rename_i e s' hu h1
    split at h<;>(try (cases h;done))
    rename_i i z hi hz
    split at h<;>(try (cases h;done))
    rename_i hc
    simp only[AD]at h;subst h
    have e1:args=#[s]:=DE (by simpa using ha)
    have e2:ats=#[t]:=DE (by simpa using hts)
    subst e1 e2
    exact⟨s,t,e,i,rfl,hu,hi,hz,rfl,hc.1,hc.2,h1⟩
   case copy=>
    split at h<;>(try (cases h;done))
    rename_i d s t u ha hts
    split at h<;>(try (cases h;done))
    rename_i e d' s' hu h1 h2
    split at h<;>(try (cases h;done))
    rename_i i hi
    simp only[AD]at h;subst h
    have e1:args=#[d,s]:=DE (by simpa using ha)
    have e2:ats=#[t,u]:=DE (by simpa using hts)
    subst e1 e2
    exact⟨d,s,t,u,e,i,rfl,hu,hi,rfl,h1,h2⟩
   case append=>
    split at h<;>(try (cases h;done))
    rename_i s x t u ha hts
    split at h<;>(try (cases h;done))
    rename_i e s' x' hu h1 h2
    split at h<;>(try (cases h;done))
    ·rename_i i z d hi hz hd
     split at h<;>(try (cases h;done))
     rename_i hc
     simp only[AD]at h;subst h
     have e1:args=#[s,x]:=DE (by simpa using ha)
     have e2:ats=#[t,u]:=DE (by simpa using hts)
     subst e1 e2
     exact⟨s,x,t,u,i,e,z,rfl,hu,⟨d,hd⟩,hi,hz,rfl,rfl,hc.1,hc.2,h1,h2⟩
    ·rename_i i z d hi hz hd
     split at h<;>(try (cases h;done))
     rename_i hc
     simp only[AD]at h;subst h
     have e1:args=#[s,x]:=DE (by simpa using ha)
     have e2:ats=#[t,u]:=DE (by simpa using hts)
     subst e1 e2
     exact⟨s,x,t,u,i,e,d,rfl,hu,hd,hi,hz,rfl,rfl,hc.1,hc.2,h1,h2⟩
   case recover=>
    simp only[AD]at h;subst h;exact⟨args,ats,rfl⟩
   case len=>
    split at h<;>(try (cases h;done))
    rename_i x t ha hts
    have e1:args=#[x]:=DE (by simpa using ha)
    have e2:ats=#[t]:=DE (by simpa using hts)
    subst e1 e2
    split at h<;>simp only[AD,reduceCtorEq]at h<;>subst h<;>try trivial
    rename_i k' el y hu hy
    exact⟨t,x,k',el,rfl,hu,hy⟩
   all_goals
    (repeat' (split at h))<;>(try (cases h;done))<;>(simp only[AD]at h;subst h;trivial)
  | _=>simp at h
 all_goals
  (repeat' (split at h))<;>(try (cases h;done)) <;>
   first
    | (simp only[AD]at h;subst h;trivial)
    | (simp only[AP]at h;obtain⟨_,_,rfl⟩:=h;trivial)
    | (simp only[C5,AP]at h;obtain⟨_,_,_,_,rfl⟩:=h;trivial)
    | (simp only[C5]at h;obtain⟨_,_,h⟩:=h;split at h<;>(try (cases h;done));(simp only[AD]at h;subst h;trivial))
theorem C2 {o:Oper}{k:AK}(h:Dp P o=some k):Inv P o k:=by
 unfold Dp at h
 cases h0:GM P o with
 | none=>rw[h0]at h;cases h;exact .inl rfl
 | some k'=>rw[h0]at h;cases h;exact Uk h0
end
end
section
inductive DR (Z:Zt) (σ:Sg):List AV->List Deferred->Prop
 | nil:DR Z σ [] []
 | cons {g:FuncId} {all:List AV} {capt args:Array Value} {ds:List AV} {dd:List Deferred} (h:CC Z σ all (args++capt).toList) (t:DR Z σ ds dd) :
   DR Z σ (.tup [.fn (.func g) [] [],.tup all]::ds) ({ target:=.fn (.func g) capt,args:=args }::dd)
 | mark {b:Nat} {ds:List AV} {dd:List Deferred} (h:Z b=some (.deferred (some []))) (ho:¬Z.old b) (hn:∀d∈dd,d.target≠.collected b) (t:DR Z σ ds dd):DR Z σ (.nili::ds) ({ target:=.collected b,args:=#[] }::dd)
theorem DR.mono {Z Z':Zt}{σ σ':Sg}(hZ:CO Z Z') (hS:LH σ σ'){ds:List AV}{dd:List Deferred}(h:DR Z σ ds dd):DR Z' σ' ds dd:=by
 induction h with
 | nil=>exact .nil
 | cons h _ ih=>exact .cons (h.mono hZ hS) ih
 | mark h h2 h3 _ ih=>exact .mark (hZ.le _ _ h) (by rw[hZ.old];exact h2) h3 ih
theorem DR.marks {Z:Zt}{σ:Sg}{ds:List AV}{dd:List Deferred}(h:DR Z σ ds dd){b:Nat}:∀d∈dd,d.target=.collected b->Z b=some (.deferred (some [])):=by
 induction h with
 | nil=>intro d hd;cases hd
 | cons _ _ ih=>intro d hd ht;cases hd with
  | head=>cases ht
  | tail _ hd=>exact ih d hd ht
 | mark h _ _ _ ih=>intro d hd ht;cases hd with
  | head=>cases ht;exact h
  | tail _ hd=>exact ih d hd ht
structure FR (Z:Zt) (σ:Sg) (n:Nat) (e:Env) (a:Act):Prop where
 er:ER Z σ e a
 ds:∃l,e AM=.tup l/\DR Z σ l a.defers
 sz:a.tmps.size=n
theorem FR.mono {Z Z':Zt}{σ σ':Sg}(hZ:CO Z Z') (hS:LH σ σ'){n:Nat}{e:Env}{a:Act}(h:FR Z σ n e a):FR Z' σ' n e a:=
 ⟨h.er.mono hZ hS,let ⟨l,h1,h2⟩:=h.ds;⟨l,h1,h2.mono hZ hS⟩,h.sz⟩
theorem FR.put {Z:Zt}{σ:Sg}{n:Nat}(hn:n<=AM){e:Env}{a:Act}(h:FR Z σ n e a){d:Option Nat}(hd:∀x,d=some x->x<n){x:AV}{v:Value}(hx:VR Z σ x v):FR Z σ n (e.put d x) (a.put d v):=by
 cases d with
 | none=>exact h
 | some d=>
  have hdn:=hd d rfl
  obtain⟨l,h1,h2⟩:=h.ds
  refine⟨h.er.put (by rw[h.sz];exact hdn) hx,⟨l,?_,h2⟩,by simp[Act.put,h.sz]⟩
  simp only[Env.put]
  rw[Env.Gf _ _ (by omega)];exact h1
def ExR (Z:Zt) (σ:Sg):Ex->Exit->Prop
 | .normal,x=>x=.normal
 | .exit id,x=>x=.exit id
 | .ret,x=>x=.ret
 | .Bd v,x=>∃cv,x=.panic [{ v:=cv,recovered:=false }]/\VR Z σ v cv
def QR (Z:Zt) (σ:Sg) (n m:Nat) (Q:Ex->Env->AH->Prop):Exit->Act->World->Prop:=fun x a w=>
 ∃Z' σ' y e H,CO Z Z'/\Nw σ m σ'/\m<=H.next/\WR Z' σ' H w/\FR Z' σ' n e a/\ExR Z' σ' y x/\Q y e H
section
variable {P:Program}{Z:Zt}{σ:Sg}{H:AH}{e:Env}{a:Act}{w:World}
theorem Mx {k:AK}{v:AV}{H':AH}(h:A6 k e H=some (v,H')):H.next<=H'.next:=by
 unfold A6 at h
 split at h
 ·simp only[AD,Ao]at h;rw[<- h.2];exact A4 _
 ·split at h
  ·simp only[AD,Ao]at h;rw[<- h.2];exact A4 _
  ·unfold BC at h
   split at h
   ·simp only[AD,Ao]at h;rw[<- h.2];simp
   ·split at h<;>simp only[AD,Ao,reduceCtorEq]at h
    rw[<- h.2];simp
   ·split at h<;>simp only[AD,Ao,reduceCtorEq]at h
    rw[<- h.2];simp
   ·split at h<;>(try cases h;done)
    split at h<;>simp only[AD,Ao,reduceCtorEq]at h
    rw[<- h.2];simp
   ·split at h<;>(try cases h;done)
    split at h<;>(try cases h;done)
    split at h<;>simp only[AD,Ao,reduceCtorEq]at h
    rw[<- h.2];simp
   ·unfold BO at h
    split at h<;>(try cases h;done)
    split at h
    ·split at h
     ·simp only[AD,Ao]at h;rw[<- h.2];simp
     ·split at h<;>simp only[AD,Ao,reduceCtorEq]at h
      rw[<- h.2];simp
    ·split at h
     ·simp only[AD,Ao]at h;rw[<- h.2];simp
     ·split at h<;>simp only[AD,Ao,reduceCtorEq]at h
      rw[<- h.2];simp
    ·split at h<;>(try cases h;done)
     split at h
     ·split at h<;>simp only[AD,Ao,reduceCtorEq]at h
      rw[<- h.2];simp
     ·split at h<;>simp only[AD,Ao,reduceCtorEq]at h
      rw[<- h.2];simp
    ·split at h<;>(try cases h;done)
     split at h
     ·simp only[AD,Ao]at h;rw[<- h.2];simp
     ·split at h<;>simp only[AD,Ao,reduceCtorEq]at h
      rw[<- h.2];simp
    ·cases h
   ·split at h<;>(try cases h;done)
    split at h<;>(try cases h;done)
    split at h<;>simp only[AD,Ao,reduceCtorEq]at h
    rw[<- h.2];exact A4 _
   ·split at h<;>(try cases h;done)
    split at h<;>simp only[AD,Ao,reduceCtorEq]at h
    rw[<- h.2];simp
   ·split at h<;>simp only[AD,Ao,reduceCtorEq]at h
    rw[<- h.2];simp
   ·split at h<;>(try cases h;done)
    split at h<;>(try cases h;done)
    split at h<;>simp only[AD,Ao,reduceCtorEq]at h
    rw[<- h.2];split<;>simp
   ·unfold Uz at h
    split at h<;>(try cases h;done)
    split at h<;>(try cases h;done)
    split at h<;>(try cases h;done)
    split at h
    ·simp only[AD,Ao]at h;rw[<- h.2];exact A4 _
    ·split at h<;>simp only[AD,Ao,reduceCtorEq]at h
     rw[<- h.2];simp
   ·simp only[AD,Ao]at h;rw[<- h.2];simp
   ·split at h<;>simp only[AD,Ao,reduceCtorEq]at h
    rw[<- h.2];simp
   ·split at h<;>(try cases h;done)
    split at h<;>(try cases h;done)
    split at h<;>simp only[AD,Ao,reduceCtorEq]at h<;>(rw[<- h.2];simp)
   ·cases h
theorem NW {ρ:Operand->Value}{o:Oper}{x y:Operand}{t u:TypeId}(ho:o.op=.call { callee:=.builtin .append,args:=#[x,y],argTypes:=#[t,u] }) (w:World) :
  (execOp ρ o).run P w=((do pure (.value (<- Builtin.append_ #[t,u] o.type #[ρ x,ρ y])):Sem Next)).run P w:=by
 rw[Db ho]
 simp[builtin]
theorem Jn:∀{xs:List AV}{bs:List UInt8}{vs:List Value},IX xs=some bs->CC Z σ xs vs->∃ns:List Int,vs=ns.map (Value.int .u8)/\∀r:ByteArray,ns.foldl (fun r n=>r.push (UInt8.ofNat n.toNat)) r=⟨r.data++bs.toArray⟩
 | [],bs,vs,h,hv=>by
  simp only[IX,AD]at h;subst h
  cases hv
  exact⟨[],rfl,fun r=>by simp⟩
 | x::xs,bs,vs,h,hv=>by
  cases hv with
  | cons hx ht=>
   rename_i v vs
   cases x<;>(try simp only[IX]at h)<;>(try (cases h;done))
   rename_i k n
   cases k<;>simp only[IX]at h<;>(try (cases h;done))
   simp only[AP]at h
   obtain⟨bs',h1,rfl⟩:=h
   obtain⟨ns,rfl,h2⟩:=Jn h1 ht
   have:=hx.Bh
   subst this
   refine⟨n::ns,rfl,fun r=>?_⟩
   simp only[TQ]
   rw[h2]
   obtain⟨d⟩:=r
   simp[ByteArray.push]
theorem XM:∀(l:List UInt8) (c:UInt8),bE l c=Lib.indexByte l c
 | [],_=>rfl
 | b::l,c=>by simp only[bE,Lib.indexByte,XM l c]
theorem XV:∀(a b:List UInt8),e_ a b=Lib.compareBytes a b
 | [],[]=>rfl
 | [],_::_=>rfl
 | _::_,[]=>rfl
 | a::x,b::y=>by simp only[e_,Lib.compareBytes,XV x y]
theorem QX (hW:WR Z σ H w){x:AV}{vx:Value}(hx:VR Z σ x vx){l:List UInt8}(h:WM x H=some l):(Extern.Bytes.bytesOf vx).run P w=.ok ⟨l.toArray⟩ w:=by
 unfold WM at h
 split at h<;>(try (cases h;done))
 rename_i m xs hs
 obtain⟨ad,cap,news,rfl,h1,h2,h3,h4⟩:=ZW hW hx hs
 obtain⟨ns,rfl,hf⟩:=Jn h h1
 have hfold:∀(ns:List Int) (r:ByteArray),(ns.foldl (fun r n=>r.push (UInt8.ofNat n.toNat)) r)=⟨r.data++(Lib.bytesOf ns).toArray⟩:=by
  intro ns
  induction ns with
  | nil=>intro r;simp[Lib.bytesOf]
  | cons n ns ih=>
   intro r
   simp only[TQ,ih]
   apply ByteArray.ext
   simp[ByteArray.push,Lib.bytesOf]
 cases ad with
 | none=>
  have:ns=[]:=by cases ns with
   | nil=>rfl
   | cons a b=>simp at h2;have:=h3 rfl;omega
  subst this
  have h0:=hf ByteArray.empty
  simp only[List.foldl_nil]at h0
  simp only[Extern.Bytes.bytesOf,Sem.run_pure]
  rw[h0]
  show Result.ok ({ data:=#[]++l.toArray }:ByteArray) w=_
  rw[OD]
 | some ad=>
  have hl:=Lib.run_loadBytesX (P:=P) w ns ad .empty (fun j x hj=>h4 ad rfl j (.int .u8 x) (by rw[BU,hj];rfl))
  have h5:ns.length=m:=by simpa using h2
  rw[h5]at hl
  simp only[Extern.Bytes.bytesOf,hl]
  have h0:=hf ByteArray.empty
  rw[hfold]at h0
  rw[h0]
  show Result.ok ({ data:=#[]++l.toArray }:ByteArray) w=_
  rw[OD]
theorem bU {c:Bool}{fn:Func}(h:fn.name=(bif c then "internal/bytealg.Compare" else "internal/bytealg.IndexByte")):Extern.find fn=some (bif c then Extern.BytealgCompare.compare else Extern.BytealgIndexByte.indexByte):=by
 have e1:Extern.allGenericRows.lookup "internal/bytealg.Compare"=none:=by kernel_rfl
 have e2:Extern.allTypedRows.lookup "internal/bytealg.Compare"=none:=by kernel_rfl
 have e3:Extern.allRows.lookup "internal/bytealg.Compare"=some Extern.BytealgCompare.compare:=by kernel_rfl
 have f1:Extern.allGenericRows.lookup "internal/bytealg.IndexByte"=none:=by kernel_rfl
 have f2:Extern.allTypedRows.lookup "internal/bytealg.IndexByte"=none:=by kernel_rfl
 have f3:Extern.allRows.lookup "internal/bytealg.IndexByte"=some Extern.BytealgIndexByte.indexByte:=by kernel_rfl
 unfold Extern.find
 cases c
 ·simp only[cond_false]at h ⊢
  rw[h,f1,f2,f3];rfl
 ·simp only[cond_true]at h ⊢
  rw[h,e1,e2,e3];rfl
theorem Ss {c:Bool}{fn:Func}(h:fn.name=(bif c then "internal/bytealg.Compare" else "internal/bytealg.IndexByte")) (ho:Extern.allNextRows.lookup fn.origin=none):Extern.findNext fn=none:=by
 have e1:Extern.allNextRows.lookup "internal/bytealg.Compare"=none:=by kernel_rfl
 have f1:Extern.allNextRows.lookup "internal/bytealg.IndexByte"=none:=by kernel_rfl
 unfold Extern.findNext
 cases c
 ·simp only[cond_false]at h
  simp only[h,f1,ho,TO];rfl
 ·simp only[cond_true]at h
  simp only[h,e1,ho,TO];rfl
theorem Ws {ρ:Operand->Value}{o:Oper}{g:Operand}{args:Array Operand}{ats:Array TypeId}(ho:o.op=.call { callee:=.value g,args,argTypes:=ats }){f:FuncId}(hf:ρ g=.func (.func f) #[] #[]){c:Bool}{fn:Func}
  (h1:P.funcs[f]?=some fn) (h2:fn.body=none) (h3:Extern.allNextRows.lookup fn.origin=none) (h4:fn.name=(bif c then "internal/bytealg.Compare" else "internal/bytealg.IndexByte")) (w:World) {v:Value}
  (hr:((bif c then Extern.BytealgCompare.compare else Extern.BytealgIndexByte.indexByte) (args.map ρ)).run P w=.ok v w):(execOp ρ o).run P w=.ok (.value v) w:=by
 have hn:(fn.name=="runtime.NumGoroutine")=false:=by
  rw[h4];cases c<;>kernel_rfl
 have hc:=run_callFunc_extern (P:=P) h1 hn (by rw[h2];rfl) (Ss h4 h3) (bU h4) (args.map ρ) w
 rw[hr]at hc
 have hc:(callFunc f (args.map ρ)).run P w=.ok (.value v) w:=hc
 simp[execOp,ho,resolve,hf,Deferred.ofValue,invoke,hc]
theorem NZ {o:Oper}{k:AK}(hk:Dp P o=some k) (hW:WR Z σ H w) (he:ER Z σ e a){v:AV}(hv:AY k e H=some v) :
  ∃cv,(execOp a.eval o).run P w=.ok (.value cv) w/\VR Z σ v cv:=by
 have hinv:=C2 hk
 unfold AY at hv
 split at hv
 ·obtain⟨t,y,ho,h1,h2⟩:=hinv
  obtain⟨cv,r1,r2⟩:=Nc (P:=P) hW h1 (AI he h2) hv
  exact⟨cv,by simp only[execOp,ho];exact BF w r1,r2⟩
 ·obtain⟨s,d,y,el,ho,h1,h2,h3,h4⟩:=hinv
  split at hv<;>(try cases hv;done)
  rename_i m xs hx
  simp only[AP]at hv
  obtain⟨bs,hb,rfl⟩:=hv
  obtain⟨ad,cap,news,e1,e2,e3,e4,e5,e6⟩:=FV (P:=P) hW (AI he h4) hx
  obtain⟨ns,rfl,hf⟩:=Jn hb e2
  refine⟨.string ⟨bs.toArray⟩,?_,.str bs⟩
  simp only[execOp,ho]
  refine BF w ?_
  rw[e1,run_convert_bytes_string w s d el _ _ _ h1 h3 h2]
  cases ad with
  | none=>
   have:=e5 rfl
   subst this
   have:ns=[]:=by cases ns with
    | nil=>rfl
    | cons a b=>simp at e3
   subst this
   have h0:=hf ByteArray.empty
   simp only[List.foldl_nil]at h0
   simp[Conv.bytesToString]
   rw[h0]
   show({ data:=#[]++bs.toArray }:ByteArray)=_
   rw[OD]
  | some ad=>
   have hl:=e6 w rfl
   rw[e1]at hl
   simp only[Builtin.firstCells,EU]at hl
   rw[run_bytesToString w ad m cap ns hl,hf]
   simp
 ·obtain⟨t,m',k',kt,el,ho,h1,h2,h3,h4,h5⟩:=hinv
  split at hv<;>(try cases hv;done)
  rename_i L es hL hes
  split at hv<;>(try cases hv;done)
  rename_i r hr
  simp only[AD]at hv;subst hv
  obtain⟨cv,r1,r2⟩:=Qw (P:=P) hW h1 h2 h3 (AI he h4) (AI he h5) hL hes hr _
  exact⟨cv,by simp only[execOp,ho];exact BF w r1,r2⟩
 ·obtain⟨t,m',k',el,ho,h1,h2⟩:=hinv
  split at hv<;>(try cases hv;done)
  rename_i es hes
  simp only[AD]at hv;subst hv
  refine⟨_,?_,.int _ _⟩
  rw[Db ho]
  simp[builtin,Qx (P:=P) hW h1 (AI he h2) hes o.type]
 ·obtain⟨g,args,ats,f,fn,y1,y2,ho,h1,h2,h3,h4,h5,rfl,h6,h7⟩:=hinv
  rename_i c x y
  split at hv<;>(try cases hv;done)
  rename_i l hl
  have hg:a.eval g=.func (.func f) #[] #[]:=by
   have hfv:=AI he h1
   obtain⟨vf,vc,e1,e2,e3⟩:=hfv.Mn
   have e2:vf=#[]:=by
    generalize hq:vf.toList=l2 at e2
    cases e2;exact DE (by simpa using hq)
   have e3:vc=#[]:=by
    generalize hq:vc.toList=l2 at e3
    cases e3;exact DE (by simpa using hq)
   rw[e1,e2,e3]
  have hx:=QX (P:=P) hW (AI he h6) hl
  have hm2:Array.map a.eval #[y1,y2]=#[a.eval y1,a.eval y2]:=by simp
  cases c with
  | true=>
   simp only[XZ,AP]at hv
   obtain⟨m,hm,rfl⟩:=hv
   have hy:=QX (P:=P) hW (AI he h7) hm
   refine⟨_,Ws ho hg h2 h3 h4 h5 w ?_,.int _ _⟩
   rw[hm2]
   show Sem.run P (do pure (goInt (Extern.BytealgCompare.cmp (<- Extern.Bytes.bytesOf (a.eval y1)) (<- Extern.Bytes.bytesOf (a.eval y2))))) w=_
   simp only[Sem.run_bind,Sem.run_pure,hx,hy,Result.andThen]
   rw[Lib.cmp_eq,XV];rfl
  | false=>
   simp only[XZ]at hv
   split at hv<;>(try cases hv;done)
   rename_i n hn
   simp only[AD]at hv;subst hv
   have hy:=AI he h7
   rw[hn]at hy
   have hy:=hy.Bh
   refine⟨_,Ws ho hg h2 h3 h4 h5 w ?_,.int _ _⟩
   have hs:=Lib.run_indexByteString (P:=P) ⟨l.toArray⟩ n w
   rw[XM,hm2]
   show(Extern.BytealgIndexByte.indexByte #[a.eval y1,a.eval y2]).run P w=_
   rw[hy]
   change Sem.run P (do
    let b <- Extern.Bytes.bytesOf (a.eval y1)
    let c <- Extern.Bytes.asByte (.int .u8 n)
    match (List.range b.size).find? fun i=>b[i]! == c with
    | some i=>pure (goInt i)
    | none=>pure (goInt (-1))) w=_
   change Sem.run P (do
    let b <- Extern.Bytes.bytesOf (.string ⟨l.toArray⟩)
    let c <- Extern.Bytes.asByte (.int .u8 n)
    match (List.range b.size).find? fun i=>b[i]! == c with
    | some i=>pure (goInt i)
    | none=>pure (goInt (-1))) w=_ at hs
   simp only[Extern.Bytes.bytesOf,Sem.run_bind,Sem.run_pure,Result.andThen]at hs
   simp only[Sem.run_bind,hx,Result.andThen]
   exact hs
 ·obtain⟨y,ho,h1⟩:=hinv
  obtain⟨cv,r1,r2⟩:=TB (P:=P) hW (AI he h1) hv
  exact⟨cv,by simp only[execOp,ho];exact BF w r1,r2⟩
 ·obtain⟨t,ho,h1⟩:=hinv
  obtain⟨cv,r1,r2⟩:=Uf (P:=P) hW h1 hv
  exact⟨cv,by simp only[execOp,ho];exact BF w r1,r2⟩
 ·cases hv
theorem QJ {o:Oper}{k:AK}(hk:Dp P o=some k) (hW:WR Z σ H w) (he:ER Z σ e a){v:AV}{H':AH}(h:A6 k e H=some (v,H')) :
  ∃cv w' σ',((execOp a.eval o).run P w=.ok (.value cv) w'\/((execOp a.eval o).run P w=.ok .skip w'/\cv=undef))/\Nw σ H.next σ'/\WR Z σ' H' w'/\VR Z σ' v cv:=by
 unfold A6 at h
 split at h
 ·rename_i v' hv
  simp only[AD,Ao]at h
  obtain⟨rfl,rfl⟩:=h
  obtain⟨cv,r1,r2⟩:=Na hk he hv w
  exact⟨cv,w,σ,.inl r1,Nw.refl _ _,hW,r2⟩
 ·have hinv:=C2 hk
  split at h
  ·rename_i v' hv
   simp only[AD,Ao]at h
   obtain⟨rfl,rfl⟩:=h
   obtain⟨cv,r1,r2⟩:=NZ (P:=P) hk hW he hv
   exact⟨cv,w,σ,.inl r1,Nw.refl _ _,hW,r2⟩
  ·unfold BC at h
   split at h
   ·obtain⟨t,ho,h1⟩:=hinv
    simp only[AD,Ao]at h
    obtain⟨rfl,rfl⟩:=h
    obtain⟨cv,w',σ',r1,r2,r3,r4⟩:=TC (P:=P) hW h1
    exact⟨cv,w',σ',.inl (by simp[execOp,ho,r1]),r2,r3,r4⟩
   ·obtain⟨t,y,ho,h1⟩:=hinv
    split at h<;>simp only[AD,Ao,reduceCtorEq]at h
    rename_i l hl
    obtain⟨rfl,rfl⟩:=h
    obtain⟨cv,w',σ',r1,r2,r3,r4⟩:=WN (P:=P) hW t (AI he h1) hl
    exact⟨cv,w',σ',.inl (by simp[execOp,ho,r1]),r2,r3,r4⟩
   ·obtain⟨t,qs,el,zz,ho,hu,hn,hz,hnz,h0,hlim,hq,rfl⟩:=hinv
    split at h<;>simp only[AD,Ao,reduceCtorEq]at h
    rename_i out hf
    obtain⟨rfl,rfl⟩:=h
    obtain⟨cv,w',σ',r1,r2,r3,r4⟩:=MO (P:=P) hW he hu hn hz hnz h0 hlim hq hf
    exact⟨cv,w',σ',.inl (by simp[execOp,ho,r1]),r2,r3,r4⟩
   ·obtain⟨t,l',c',el,i,ho,hu,hi,hz,rfl,rfl,hnz,h0,h1,h2⟩:=hinv
    split at h<;>(try cases h;done)
    rename_i kl l kc c hl hc
    split at h<;>simp only[AD,Ao,reduceCtorEq]at h
    rename_i hb
    obtain⟨rfl,rfl⟩:=h
    have e1:=AI he h1
    have e2:=AI he h2
    rw[hl]at e1;rw[hc]at e2
    obtain⟨cv,w',σ',r1,r2,r3,r4⟩:=QM (P:=P) (k:=kl) (k':=kc) hW hu hi hz hnz h0 hb.1 hb.2.1 hb.2.2.1 hb.2.2.2
    exact⟨cv,w',σ',.inl (by simp only[execOp,ho];rw[e1.Bh,e2.Bh];exact(by simp[r1])),r2,r3,r4⟩
   ·obtain⟨t,y,u,ho,hn,h1,h2⟩:=hinv
    split at h<;>(try cases h;done)
    rename_i r o' hx
    split at h<;>(try cases h;done)
    rename_i l vs hl hvs
    split at h<;>simp only[AD,Ao,reduceCtorEq]at h
    rename_i hb
    obtain⟨rfl,rfl⟩:=h
    have e1:=AI he h1
    rw[hx]at e1
    obtain⟨w',r1,r2⟩:=Sz (P:=P) hW hn e1 (AI he h2) hl hvs hb.1 hb.2
    exact⟨undef,w',σ,.inr ⟨by simp[execOp,ho,r1],rfl⟩,Nw.refl _ _,r2,.unk _⟩
   ·obtain⟨s',x',t,u,i,el,z,ho,ht,hu,hi,hz,rfl,rfl,hnz,h0,h1,h2⟩:=hinv
    obtain⟨cv,w',σ',r1,r2,r3,r4⟩:=Qy (P:=P) hW ht hu hi hz hnz (AI he h1) (AI he h2) o.type h
    exact⟨cv,w',σ',.inl (by rw[NW ho];simp[r1]),r2,r3,r4⟩
   ·obtain⟨s,y,el,ho,h1,h2,h3⟩:=hinv
    split at h<;>(try cases h;done)
    rename_i r o' n m hx
    split at h<;>(try cases h;done)
    rename_i l hl
    split at h<;>simp only[AD,Ao,reduceCtorEq]at h
    rename_i hm
    obtain⟨rfl,rfl⟩:=h
    have e1:=AI he h3
    rw[hx]at e1
    obtain⟨w',r1,r2⟩:=Uw (P:=P) hW h1 h2 e1 hl hm
    exact⟨_,w',σ,.inl (by simp[execOp,ho,r1]),Nw.refl _ _,r2,e1⟩
   ·obtain⟨s',x',t,u,i,el,q,ho,ht,hu,hi,hz,rfl,rfl,hnz,h0,h1,h2⟩:=hinv
    split at h<;>(try cases h;done)
    rename_i k' n hs hn
    split at h<;>simp only[AD,Ao,reduceCtorEq]at h
    rename_i hc
    obtain⟨rfl,rfl⟩:=h
    have e1:=AI he h1
    have e2:=AI he h2
    rw[hs]at e1
    rw[hn]at e2
    obtain⟨cv,w',σ',r1,r2,r3,r4⟩:=QY (P:=P) (k:=k') hW ht hu hi o.type hz hnz h0 hc.1 hc.2.2 hc.2.1
    refine⟨cv,w',σ',.inl ?_,r2,r3,r4⟩
    rw[NW ho,e1.DQ,e2.Bh];simp[r1]
   ·obtain⟨s,d,y,el,ho,hs,hd,hel,h1⟩:=hinv
    split at h<;>(try cases h;done)
    rename_i l hx
    simp only[AD,Ao]at h
    obtain⟨rfl,rfl⟩:=h
    have e1:=AI he h1
    rw[hx]at e1
    obtain⟨cv,w',σ',r1,r2,r3,r4⟩:=QW (P:=P) hW hs hd hel l
    exact⟨cv,w',σ',.inl (by simp only[execOp,ho];rw[e1.HD];simp[r1]),r2,r3,r4⟩
   ·obtain⟨s',t,el,i,ho,ht,hi,hz,rfl,hnz,h0,h1⟩:=hinv
    split at h<;>(try cases h;done)
    rename_i r o' n lim hx
    split at h<;>(try cases h;done)
    rename_i l hl
    split at h<;>(try cases h;done)
    rename_i hb
    simp only[AD,Ao]at h
    obtain⟨rfl,rfl⟩:=h
    have e1:=AI he h1
    rw[hx]at e1
    obtain⟨w',r1,r2⟩:=WK (P:=P) hW ht hi o.type hz hnz h0 e1 hl hb
    refine⟨.tuple #[],w',σ,.inl ?_,Nw.refl _ _,r2,.tup .nil⟩
    rw[Db ho]
    simp[builtin,r1]
   ·obtain⟨d,s,t,u,el,i,ho,ht,hi,rfl,h1,h2⟩:=hinv
    obtain⟨cv,w',r1,r2,r3⟩:=Uy (P:=P) (u:=u) hW ht hi (AI he h1) (AI he h2) o.type h
    refine⟨cv,w',σ,.inl ?_,Nw.refl _ _,r2,r3⟩
    rw[Db ho]
    simp[builtin,r1]
   ·obtain⟨t,ho⟩:=hinv
    simp only[AD,Ao]at h
    obtain⟨rfl,rfl⟩:=h
    obtain⟨cv,w',σ',r1,r2,r3,r4⟩:=QP (P:=P) hW t
    exact⟨cv,w',σ',.inl (by simp[execOp,ho,r1]),r2,r3,r4⟩
   ·obtain⟨t,y,kt,el,ho,ht,h1⟩:=hinv
    split at h<;>simp only[AD,Ao,reduceCtorEq]at h
    rename_i ob hob
    obtain⟨rfl,rfl⟩:=h
    obtain⟨cv,w',σ',r1,r2,r3,r4⟩:=S9 (P:=P) hW ht (AI he h1) hob
    exact⟨cv,w',σ',.inl (by simp[execOp,ho,r1]),r2,r3,r4⟩
   ·obtain⟨t,m',k',v',kt,el,ho,ht,hk',h1,h2,h3⟩:=hinv
    split at h<;>(try cases h;done)
    rename_i r L hm hL
    split at h<;>(try cases h;done)
    rename_i es clock hr
    have e1:=AI he h1
    rw[hm]at e1
    split at h<;>simp only[AD,Ao,reduceCtorEq]at h
    ·rename_i j v0 hq
     obtain⟨rfl,rfl⟩:=h
     obtain⟨w',r1,r2⟩:=Kd (P:=P) hW ht hk' e1 (AI he h2) (AI he h3) hL hr hq
     refine⟨undef,w',σ,.inr ⟨?_,rfl⟩,Nw.refl _ _,r2,.unk _⟩
     rcases ho with ho | ho<;>simp[execOp,ho,r1]
    ·rename_i hq
     obtain⟨rfl,rfl⟩:=h
     obtain⟨w',r1,r2⟩:=Kd (P:=P) hW ht hk' e1 (AI he h2) (AI he h3) hL hr hq
     refine⟨undef,w',σ,.inr ⟨?_,rfl⟩,Nw.refl _ _,r2,.unk _⟩
     rcases ho with ho | ho<;>simp[execOp,ho,r1]
   ·cases h
end
end
end Go.AL
