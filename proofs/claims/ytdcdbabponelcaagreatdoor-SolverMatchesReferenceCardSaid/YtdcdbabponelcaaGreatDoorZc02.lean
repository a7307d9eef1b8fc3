import Derived.Test.YtdcdbabponelcaaGreatDoorZc01
/-
  data in cells; copies; lists of ones own.
-/
set_option linter.unusedSectionVars false
set_option linter.unusedVariables false
set_option linter.unusedSimpArgs false
namespace Go.AL
variable [BY] {P:Program}
inductive Tw where
 | int
 | byte
 | bool
 | word
 | list (t:Tw)
 | pair (a b:Tw)
def Tw.D:Tw→Type
 | .int=>Int
 | .byte=>UInt8
 | .bool=>Bool
 | .word=>Nat
 | .list t=>List t.D
 | .pair a b=>a.D × b.D
def DI {t:Tw}(l:(Tw.list t).D):List t.D:=l
def tz:Tw→Nat
 | .pair a b=>tz a+tz b
 | _=>1
def RS:(t:Tw)→t.D→List AV→Prop
 | .int,n,c=>c=[iv n]
 | .byte,x,c=>c=[bv x]
 | .bool,b,c=>c=[.bool b]
 | .word,n,c=>c=[.int .u64 (.ofNat n)]
 | .list t,l,c=>∃v,c=[v]∧(DI l).length≤100000∧FL (tz t) (fun i c=>∃x,(DI l)[i]?=some x∧RS t x c) (DI l).length v
 | .pair a b,p,c=>∃c1 c2,c=c1++c2∧RS a p.1 c1∧RS b p.2 c2
theorem CM:∀(t:Tw) (d:t.D) (c:List AV),RS t d c→c.length=tz t
 | .int,_,c,h=>by have h:c=_:=h;subst h;rfl
 | .byte,_,c,h=>by have h:c=_:=h;subst h;rfl
 | .bool,_,c,h=>by have h:c=_:=h;subst h;rfl
 | .word,_,c,h=>by have h:c=_:=h;subst h;rfl
 | .list _,_,c,h=>by obtain⟨v,rfl,_⟩:=h;rfl
 | .pair a b,d,c,h=>by
  obtain⟨c1,c2,rfl,h1,h2⟩:=h
  rw[List.length_append,CM a _ _ h1,CM b _ _ h2];rfl
theorem DZ.app {k:Nat}{a b:List AV}(ha:DZ k a) (hb:DZ k b):DZ k (a++b):=DZ.Hs fun x hx=>by
 rcases List.mem_append.1 hx with h | h
 ·exact ha.mem h
 ·exact hb.mem h
theorem CC (k:Nat):∀(t:Tw) (d:t.D) (c:List AV),RS t d c→DZ k c
 | .int,_,c,h=>by have h:c=_:=h;subst h;exact .cons (.int _ _) .nil
 | .byte,_,c,h=>by have h:c=_:=h;subst h;exact .cons (.int _ _) .nil
 | .bool,_,c,h=>by have h:c=_:=h;subst h;exact .cons (.bool _) .nil
 | .word,_,c,h=>by have h:c=_:=h;subst h;exact .cons (.int _ _) .nil
 | .list _,_,c,h=>by obtain⟨v,rfl,_,h⟩:=h;exact .cons (h.sc k) .nil
 | .pair a b,d,c,h=>by
  obtain⟨c1,c2,rfl,h1,h2⟩:=h
  exact(CC k a _ _ h1).app (CC k b _ _ h2)
def RE (t:Tw) (l:List t.D):Nat→List AV→Prop:=fun i c=>∃x,l[i]?=some x∧RS t x c
theorem RS.fl {t:Tw}{l:(Tw.list t).D}{v:AV}(h:RS (.list t) l [v]):FL (tz t) (RE t (DI l)) (DI l).length v:=by
 obtain⟨v',e,_,h⟩:=h
 cases e;exact h
theorem RS.le {t:Tw}{l:(Tw.list t).D}{v:AV}(h:RS (.list t) l [v]):(DI l).length≤100000:=by
 obtain⟨v',e,h,_⟩:=h;exact h
theorem RS.of {t:Tw}{l:List t.D}{v:AV}(hn:l.length≤100000) (h:FL (tz t) (RE t l) l.length v):RS (.list t) (show(Tw.list t).D from l) [v]:=⟨v,rfl,hn,h⟩
def Lh (z b:Nat) (v0:AV) (h:AH) (Post:Cc→AH→Prop):Prop:=
 AB (.eq false .slice (.cst v0) (.cst .nils)) fun v1=>Ag v1 (Post (.ret .nils) h) (AW (.buildSlice z 0 [] []) h fun v2 h2=>AW (.append z b (.cst v2) (.cst v0)) h2 fun v3 h3=>Post (.ret v3) h3)
theorem UQ {z b n:Nat}{Pr:Nat→List AV→Prop}{v:AV}{H:AH}(hv:FL z Pr n v) (hn:n≤100000) (hb:b≤500):Lh z b v H (MP H (FL z Pr n)):=by
 unfold Lh
 rcases hv.ex with⟨rfl,rfl⟩ | ⟨css,ex,rfl,h2,h3,h4⟩
 ·exact AA (v:=.bool true) rfl (Ai (.same (fun k=>.nils) .nil))
 ·have he:0<n∨ex=true:=by
   rcases Nat.eq_zero_or_pos n with h | h
   ·exact .inr (h2 h)
   ·exact .inl h
  have e1:Ap (.eq false .slice (.cst (.sim css.flatten n ex)) (.cst .nils)) emp=some (.bool false):=by
   show((if 0<n∨ex=true then some false else none).map fun b=>AV.bool (bif false then !b else b))=_
   rw[if_pos he];rfl
  refine AA e1 (AZ ?_)
  have hfl:css.flatten.length=n*z:=by
   rw[Et css fun c hc=>?_,h3]
   obtain⟨i,hi⟩:=List.getElem?_of_mem hc
   exact(h4 i c hi).1
  refine CD (v:=.sl H.next 0 0 (.ex 0)) (H':=H.push (.cells [])) (by simp[CS,B2]) ?_
  have s:=(BE.start H).push (o:=[])
  have hb2:n*b≤140737488355328:=by
   have:n*b≤100000*500:=Nat.mul_le_mul hn hb
   omega
  by_cases h0:n=0
  ·subst h0
   have hx:=h2 rfl
   subst hx
   refine CD (v:=.sl H.next 0 0 (.ex 0)) (H':=(H.push (.cells [])).set H.next (.cells [])) (by
    have hc:css=[]:=List.eq_nil_of_length_eq_zero h3
    subst hc
    simp[CS,Ak.ev,Cq,BM,AH.cells?,Bj]) ?_
   have s:=s.set (c':=[])
   refine s.fin (y:=.sim [] 0 true) (FZ.row (c:=[]) (.head _) (fun _=>.nil) (fun _=>rfl)) ⟨.inr ⟨css,true,?_,fun _=>rfl,h3,h4⟩⟩
   have hc:css=[]:=List.eq_nil_of_length_eq_zero h3
   rw[hc];rfl
  ·have hpos:¬n≤0:=by omega
   refine CD (v:=.sl (H.next+1) 0 n (.op z)) (H':=(H.push (.cells [])).push (.cells css.flatten)) (by
    have h63:n≤9223372036854775807:=by omega
    simp[CS,Ak.ev,Cq,BM,AH.cells?,hfl,h0,hb2,h63]) ?_
   have s:BE H [(H.next+1,css.flatten),(H.next,[])] ((H.push (.cells [])).push (.cells css.flatten)):=s.push
   refine s.fin (y:=.sim css.flatten n false) (fun H' k hR=>?_) ⟨.inr ⟨css,false,rfl,fun h=>by omega,h3,h4⟩⟩
   obtain⟨g1,g2⟩:=hR (H.next+1,css.flatten) (.head _)
   refine .sl (l:=css.flatten) (m:=css.flatten.length) g1 (by simp[AH.cells?,g2]) (by simp) ?_ (fun h=>by omega) (fun h=>by cases h)
   rw[List.drop_zero,List.take_length]
   exact .low (DZ.Hs fun x hx=>by
    obtain⟨c,hc,hxc⟩:=List.mem_flatten.1 hx
    obtain⟨i,hi⟩:=List.getElem?_of_mem hc
    exact((h4 i c hi).2.1 k).mem hxc)
theorem Ew {t:Tw}{z b:Nat}{l:(Tw.list t).D}{v:AV}{H:AH}(hz:z=tz t) (hv:RS (.list t) l [v]) (hb:b≤500):Lh z b v H (MP H fun x=>RS (.list t) l [x]):=by
 subst hz
 have:=UQ (b:=b) (H:=H) hv.fl hv.le hb
 have e:MP H (FL (tz t) (RE t (DI l)) (DI l).length)=MP H fun x=>RS (.list t) l [x]:=by
  congr 1
  funext x
  exact propext ⟨fun h=>.of hv.le h,fun h=>h.fl⟩
 rw[←e];exact this
end Go.AL
namespace Go.AL
variable [BY] {P:Program}
def CV (P:Program) (fv:AV) (ar:List AV) (H:AH) (Q:AV→Prop):Prop:=EV P fv ar H fun o H'=>H'=H∧∃x,o=.ret x∧Q x
def Qx (P:Program) (b:Nat) (v0 v1:AV) (h:AH) (Post:Cc→AH→Prop):Prop:=(
 AB (.len (.cst v0)) fun v2=>
 A_ [1,5,8,9,10] (fun J3=>(fun(v4 v5 v6 v7 v8:AV) (h9:AH)=>
 AB (.bin .lss (.cst v8) (.cst v7)) fun v10=>
 Ag v10
 (AB (.indexAddrS 1 (.cst v6) (.cst v8)) fun v11=>
 AP (.load none (.cst v11)) h9 fun v12=>
 GN P v4 [v12] h9 (yp Post) fun v13 h13=>
 AW (.buildSlice 1 1 [.nils] [(0,1,(.cst v13))]) h13 fun v14 h14=>
 AW (.append 1 b (.cst v5) (.cst v14)) h14 fun v15 h15=>
 AB (.bin .add (.cst v8) (.cst (I 1))) fun v16=>
 J3 v4 v15 v6 v7 v16 h15)
 (Post (.ret v5) h9))) (((((BS.set 1 v1).set 5 .nils).set 8 v0).set 9 v2).set 10 (I 0)) h)
def Qy (P:Program) (z b:Nat) (zz:List AV) (v0 v1:AV) (h:AH) (Post:Cc→AH→Prop):Prop:=(
 AB (.len (.cst v0)) fun v2=>
 A_ [1,5,8,9,10] (fun J3=>(fun(v4 v5 v6 v7 v8:AV) (h9:AH)=>
 AB (.bin .lss (.cst v8) (.cst v7)) fun v10=>
 Ag v10
 (AB (.indexAddrS z (.cst v6) (.cst v8)) fun v11=>
 AP (.load (some z) (.cst v11)) h9 fun v12=>
 AW (.alloc zz) h9 fun v13 h13=>
 AW (.store z (.cst v13) (.cst v12)) h13 fun _ h14=>
 AP (.load (some z) (.cst v13)) h14 fun v15=>
 GN P v4 [v15] h14 (yp Post) fun v16 h16=>
 AW (.buildSlice z 1 zz [(0,z,(.cst v16))]) h16 fun v17 h17=>
 AW (.append z b (.cst v5) (.cst v17)) h17 fun v18 h18=>
 AB (.bin .add (.cst v8) (.cst (I 1))) fun v19=>
 J3 v4 v18 v6 v7 v19 h18)
 (Post (.ret v5) h9))) (((((BS.set 1 v1).set 5 .nils).set 8 v0).set 9 v2).set 10 (I 0)) h)
theorem Ix {t:Tw}{b:Nat}{l:(Tw.list t).D}{v fv:AV}{H:AH}(hz:1=tz t) (hv:RS (.list t) l [v]) (hb:b≤500) (hf:∀(x:t.D) (y:AV) (H':AH),D6 H H'→RS t x [y]→CV P fv [y] H' fun r=>RS t x [r]) :
  Qx P b v fv H (MP H fun x=>RS (.list t) l [x]):=by
 unfold Qx
 try simp only[BU]
 have hfl:=hv.fl
 have hle:=hv.le
 rw[←hz]at hfl
 generalize hn:(DI l).length=n at hfl hle
 refine hfl.len ?_
 let Iv:AV→AV→AV→AV→AV→AH→Prop:=fun a c d e f H'=>a=fv∧d=v∧e=iv (n:Int)∧∃(i:Nat) (o:OL) (cs:List AV),f=iv (i:Int)∧i≤n∧BE H (o++[]) H'∧Lv 1 o i cs c∧GL [] 1 (RE t (DI l)) i cs
 let μ:AV→AV→AV→AV→AV→AH→Nat:=fun _ _ _ _ f _=>match f with
  | .int _ j=>(n-j).toNat
  | _=>0
 refine⟨Iv,μ,⟨rfl,rfl,rfl,0,[],[],rfl,by omega,BE.start H,.nil,.nil⟩,?_⟩
 intro e H1 hI
 obtain⟨e1,e2,e3,i,o,cs,e4,hi,s,hl,hG⟩:=(hI:Iv (e 1) (e 5) (e 8) (e 9) (e 10) H1)
 have hmu:μ (e 1) (e 5) (e 8) (e 9) (e 10) H1=((n:Int)-(i:Int)).toNat:=by rw[e4]
 show AB (.bin .lss (.cst (e 10)) (.cst (e 9))) _
 rw[e1,e2,e3,e4]
 generalize e 5=w at hl
 refine BT (fun hlt=>Ai ?_) (fun hlt=>AZ ?_)
 ·refine hfl.Ef (by omega) fun y _ hy=>?_
  obtain⟨x,hx,hr⟩:=hy
  refine MS (hf x y H1 s.k hr) fun r hr'=>?_
  have hc:=CC 0 t x [r] hr'
  have hcell:r.cellsOf=some [r]:=by
   cases t with
   | int=>cases (show[r]=_ from hr');rfl
   | byte=>cases (show[r]=_ from hr');rfl
   | bool=>cases (show[r]=_ from hr');rfl
   | word=>cases (show[r]=_ from hr');rfl
   | list t=>exact(RS.fl hr').one
   | pair a b=>
    have h1:∀t,1≤tz t:=fun t=>by induction t<;>simp only[tz]<;>omega
    have:=h1 a
    have:=h1 b
    simp only[tz]at hz
    omega
  refine s.app (k:=1) hl hG.n hcell rfl rfl (by omega) hb fun o' v' H2 s2 hl2=>BA ⟨by omega,by omega⟩ ⟨⟨rfl,rfl,rfl,i+1,o',_,rfl,by omega,s2,hl2,hG.Dw rfl (fun k=>CC k t x [r] hr') ⟨x,hx,hr'⟩⟩,?_⟩
  show _<μ (e 1) (e 5) (e 8) (e 9) (e 10) H1
  rw[hmu]
  show((n:Int)-((i:Int)+1)).toNat<((n:Int)-(i:Int)).toNat
  omega
 ·have hin:n=i:=by omega
  subst hin
  obtain⟨y,hy1,hy2⟩:=hG.Gs hl
  exact s.fin hy1 (RS.of (l:=DI l) hv.le (by rw[hn,←hz];exact hy2))
theorem Lf {t:Tw}{z b:Nat}{zz:List AV}{l:(Tw.list t).D}{v fv:AV}{H:AH}(hz:z=tz t) (hzz:zz.length=z) (hv:RS (.list t) l [v]) (hb:b≤500)
  (hf:∀(x:t.D) (c:List AV) (H':AH),D6 H H'→RS t x c→CV P fv [.agg c] H' fun r=>∃c',r=.agg c'∧RS t x c') :
  Qy P z b zz v fv H (MP H fun x=>RS (.list t) l [x]):=by
 unfold Qy
 try simp only[BU]
 have hfl:=hv.fl
 have hle:=hv.le
 rw[←hz]at hfl
 generalize hn:(DI l).length=n at hfl hle
 refine hfl.len ?_
 let Iv:AV→AV→AV→AV→AV→AH→Prop:=fun a c d e f H'=>a=fv∧d=v∧e=iv (n:Int)∧∃(i:Nat) (o:OL) (cs:List AV),f=iv (i:Int)∧i≤n∧BE H (o++[]) H'∧Lv z o i cs c∧GL [] z (RE t (DI l)) i cs
 let μ:AV→AV→AV→AV→AV→AH→Nat:=fun _ _ _ _ f _=>match f with
  | .int _ j=>(n-j).toNat
  | _=>0
 refine⟨Iv,μ,⟨rfl,rfl,rfl,0,[],[],rfl,by omega,BE.start H,.nil,.nil⟩,?_⟩
 intro e H1 hI
 obtain⟨e1,e2,e3,i,o,cs,e4,hi,s,hl,hG⟩:=(hI:Iv (e 1) (e 5) (e 8) (e 9) (e 10) H1)
 have hmu:μ (e 1) (e 5) (e 8) (e 9) (e 10) H1=((n:Int)-(i:Int)).toNat:=by rw[e4]
 show AB (.bin .lss (.cst (e 10)) (.cst (e 9))) _
 rw[e1,e2,e3,e4]
 generalize e 5=w at hl
 refine BT (fun hlt=>Ai ?_) (fun hlt=>AZ ?_)
 ·refine hfl.IG (by omega) fun c hcl _ hy=>?_
  obtain⟨x,hx,hr⟩:=hy
  refine s.alloc fun q H2 s=>s.Cr hcl hzz fun H3 s=>s.DN (.head _) hcl ?_
  refine MS (hf x c H3 s.k hr) fun r hr'=>?_
  obtain⟨c',rfl,hr'⟩:=hr'
  have hc':c'.length=z:=by rw[CM t x c' hr',hz]
  have s:BE H (o++[]) H3:=s.sub (List.sublist_cons_self _ _)
  refine s.app (k:=z) hl hG.n rfl hc' hzz (by omega) hb fun o' v' H2 s2 hl2=>BA ⟨by omega,by omega⟩ ⟨⟨rfl,rfl,rfl,i+1,o',_,rfl,by omega,s2,hl2,hG.Dw hc' (fun k=>CC k t x c' hr') ⟨x,hx,hr'⟩⟩,?_⟩
  show _<μ (e 1) (e 5) (e 8) (e 9) (e 10) H1
  rw[hmu]
  show((n:Int)-((i:Int)+1)).toNat<((n:Int)-(i:Int)).toNat
  omega
 ·have hin:n=i:=by omega
  subst hin
  obtain⟨y,hy1,hy2⟩:=hG.Gs hl
  exact s.fin hy1 (RS.of (l:=DI l) hv.le (by rw[hn,←hz];exact hy2))
end Go.AL
namespace Go.AL
variable [BY] {P:Program}
theorem BE.join {H0 H H':AH}{L o:OL}(h:BE H0 L H) (h2:BE H o H'):BE H0 (o++L) H':=by
 have hn:=h.k.nx
 refine⟨h.k.trans h2.k,fun x hx=>?_,?_⟩
 ·rcases List.mem_append.1 hx with hx | hx
  ·obtain⟨g1,g2,g3⟩:=h2.l x hx
   exact⟨Nat.le_trans hn g1,g2,g3⟩
  ·obtain⟨g1,g2,g3⟩:=h.l x hx
   exact⟨g1,Nat.lt_of_lt_of_le g2 h2.k.nx,by rw[h2.k.get _ g2];exact g3⟩
 ·rw[List.map_append,List.nodup_append]
  refine⟨h2.nd,h.nd,fun a ha b hb e=>?_⟩
  obtain⟨x,hx,rfl⟩:=List.mem_map.1 ha
  obtain⟨y,hy,rfl⟩:=List.mem_map.1 hb
  have:=(h2.l x hx).1
  have:=(h.l y hy).2.1
  omega
structure GX (z:Nat) (Pr:Nat→List AV→Prop) (n:Nat) (cs:List AV):Prop where
 ex:∃css:List (List AV),cs=css.flatten∧css.length=n∧∀i c,css[i]?=some c→c.length=z∧(∀k,DZ k c)∧Pr i c
section
variable {z n:Nat}{Pr Pr':Nat→List AV→Prop}{cs c:List AV}
theorem GX.nil:GX z Pr 0 []:=⟨⟨[],rfl,rfl,fun i c h=>by simp at h⟩⟩
theorem GX.ln (h:GX z Pr n cs):cs.length=n*z:=by
 obtain⟨css,rfl,rfl,h3⟩:=h.ex
 exact Et css fun c hc=>by
  obtain⟨i,hi⟩:=List.getElem?_of_mem hc
  exact(h3 i c hi).1
theorem GX.gl {R:OL}(h:GX z Pr n cs):GL R z Pr n cs:=by
 have hn:=h.ln
 obtain⟨css,rfl,h2,h3⟩:=h.ex
 exact⟨⟨css,.low fun k=>DZ.Hs fun x hx=>by
  obtain⟨c,hc,hxc⟩:=List.mem_flatten.1 hx
  obtain⟨i,hi⟩:=List.getElem?_of_mem hc
  exact((h3 i c hi).2.1 k).mem hxc,h2,h3⟩,hn⟩
theorem GX.mono (h:GX z Pr n cs) (hp:∀i c,i<n→Pr i c→Pr' i c):GX z Pr' n cs:=by
 obtain⟨css,h1,h2,h3⟩:=h.ex
 exact⟨⟨css,h1,h2,fun i c hc=>by
  obtain⟨g1,g2,g3⟩:=h3 i c hc
  exact⟨g1,g2,hp i c (by rw[←h2];exact(List.getElem?_eq_some_iff.1 hc).1) g3⟩⟩⟩
theorem GX.Dw (h:GX z Pr n cs) (hc:c.length=z) (hs:∀k,DZ k c) (hp:Pr n c):GX z Pr (n+1) (cs++c):=by
 obtain⟨css,rfl,h2,h3⟩:=h.ex
 refine⟨⟨css++[c],by simp,by simp[h2],fun i d hd=>?_⟩⟩
 rcases Nat.lt_or_ge i n with hi | hi
 ·rw[List.getElem?_append_left (by omega)]at hd
  exact h3 i d hd
 ·rw[List.getElem?_append_right (by omega)]at hd
  have h0:i=n:=by
   rcases Nat.eq_zero_or_pos (i-css.length)with h | h
   ·omega
   ·rw[List.getElem?_eq_none (by simp;omega)]at hd;cases hd
  subst h0
  rw[h2,Nat.sub_self]at hd
  cases hd
  exact⟨hc,hs,hp⟩
theorem GX.at (h:GX z Pr n cs){i:Nat}(hi:i<n):∃c,c.length=z∧(∀k,DZ k c)∧Pr i c∧(cs.drop (i*z)).take z=c∧i*z+z≤cs.length∧∀j x,c[j]?=some x→cs[i*z+j]?=some x:=by
 have hn:=h.ln
 obtain⟨css,rfl,h2,h3⟩:=h.ex
 have hc:css[i]?=some (css[i]'(by omega)):=List.getElem?_eq_getElem (by omega)
 obtain⟨g1,g2,g3⟩:=h3 i _ hc
 have hz:∀c∈css,c.length=z:=fun c hc=>by
  obtain⟨i,hi⟩:=List.getElem?_of_mem hc
  exact(h3 i c hi).1
 have hx:=Ld css i _ hz hc
 have hm:i*z+z≤n*z:=by
  have:(i+1)*z≤n*z:=Nat.mul_le_mul_right _ (by omega)
  rw[Nat.add_mul,Nat.one_mul]at this;exact this
 refine⟨css[i]'(by omega),g1,g2,g3,hx,by omega,fun j x hj=>?_⟩
 have hjz:j<z:=by rw[←g1];exact(List.getElem?_eq_some_iff.1 hj).1
 have h5:((css.flatten.drop (i*z)).take z)[j]?=(css[i]'(by omega))[j]?:=by rw[hx]
 rw[List.getElem?_take,if_pos hjz,List.getElem?_drop,hj]at h5
 exact h5
end
def KW (H:AH) (z:Nat) (Pr:Nat→List AV→Prop) (n:Nat):Cc→AH→Prop:=fun o H'=>∃x o' cs,o=.ret x∧Lv z o' n cs x∧BE H o' H'∧GX z Pr n cs
theorem KW.mp {H:AH}{z n:Nat}{Pr:Nat→List AV→Prop}(o:Cc) (H':AH) (h:KW H z Pr n o H'):MP H (FL z Pr n) o H':=by
 obtain⟨x,o',cs,rfl,h1,h2,h3⟩:=h
 obtain⟨y,hy1,hy2⟩:=(h3.gl (R:=[])).Gs h1
 exact h2.fin (by simpa using hy1) hy2
theorem BE.UU {H0 H:AH}{L:OL}{g:FuncId}{ar:List AV}{z n:Nat}{Pr:Nat→List AV→Prop}{Kp K:AV→AH→Prop}(h:BE H0 L H) (hC:An P g ar H (KW H z Pr n))
  (hK:∀x o cs H',BE H0 (o++L) H'→Lv z o n cs x→GX z Pr n cs→K x H'):AX P g ar H Kp K:=
 Df hC (fun v H' hp=>by
  obtain⟨x,o',cs,e,h1,h2,h3⟩:=hp
  cases e
  exact hK _ o' cs H' (h.join h2) h1 h3) (fun v H' hp=>by obtain⟨_,_,_,e,_⟩:=hp;cases e)
theorem Rp {z b n:Nat}{Pr:Nat→List AV→Prop}{v:AV}{H:AH}(hv:FL z Pr n v) (hn:n≤100000) (hb:b≤500):Lh z b v H (KW H z Pr n):=by
 unfold Lh
 rcases hv.ex with⟨rfl,rfl⟩ | ⟨css,ex,rfl,h2,h3,h4⟩
 ·exact AA rfl (Ai ⟨_,[],[],rfl,.nil,BE.start H,.nil⟩)
 ·have he:0<n∨ex=true:=by
   rcases Nat.eq_zero_or_pos n with h | h
   ·exact .inr (h2 h)
   ·exact .inl h
  have e1:Ap (.eq false .slice (.cst (.sim css.flatten n ex)) (.cst .nils)) emp=some (.bool false):=by
   show((if 0<n∨ex=true then some false else none).map fun b=>AV.bool (bif false then !b else b))=_
   rw[if_pos he];rfl
  refine AA e1 (AZ ?_)
  have hG:GX z Pr n css.flatten:=⟨⟨css,rfl,h3,h4⟩⟩
  have hfl:=hG.ln
  refine CD (v:=.sl H.next 0 0 (.ex 0)) (H':=H.push (.cells [])) (by simp[CS,B2]) ?_
  have s:=(BE.start H).push (o:=[])
  have hb2:n*b≤140737488355328:=by
   have:n*b≤100000*500:=Nat.mul_le_mul hn hb
   omega
  by_cases h0:n=0
  ·subst h0
   have hc:css=[]:=List.eq_nil_of_length_eq_zero h3
   subst hc
   refine CD (v:=.sl H.next 0 0 (.ex 0)) (H':=(H.push (.cells [])).set H.next (.cells [])) (by
    have hx:=h2 rfl
    subst hx
    simp[CS,Ak.ev,Cq,BM,AH.cells?,Bj]) ?_
   exact⟨_,_,[],rfl,.ex _,s.set (c':=[]),.nil⟩
  ·have hpos:¬n≤0:=by omega
   refine CD (v:=.sl (H.next+1) 0 n (.op z)) (H':=(H.push (.cells [])).push (.cells css.flatten)) (by
    have h63:n≤9223372036854775807:=by omega
    simp[CS,Ak.ev,Cq,BM,AH.cells?,hfl,h0,hb2,h63]) ?_
   have s:BE H [(H.next+1,css.flatten),(H.next,[])] ((H.push (.cells [])).push (.cells css.flatten)):=s.push
   exact⟨_,[(H.next+1,css.flatten)],_,rfl,.op (by omega),s.sub (.cons_cons _ (List.nil_sublist _)),hG⟩
theorem Rm {t:Tw}{b:Nat}{l:(Tw.list t).D}{v fv:AV}{H:AH}(hz:1=tz t) (hv:RS (.list t) l [v]) (hb:b≤500) (hf:∀(x:t.D) (y:AV) (H':AH),D6 H H'→RS t x [y]→CV P fv [y] H' fun r=>RS t x [r]) :
  Qx P b v fv H (KW H 1 (RE t (DI l)) (DI l).length):=by
 unfold Qx
 try simp only[BU]
 have hfl:=hv.fl
 have hle:=hv.le
 rw[←hz]at hfl
 generalize hn:(DI l).length=n at hfl hle
 refine hfl.len ?_
 let Iv:AV→AV→AV→AV→AV→AH→Prop:=fun a c d e f H'=>a=fv∧d=v∧e=iv (n:Int)∧∃(i:Nat) (o:OL) (cs:List AV),f=iv (i:Int)∧i≤n∧BE H (o++[]) H'∧Lv 1 o i cs c∧GX 1 (RE t (DI l)) i cs
 let μ:AV→AV→AV→AV→AV→AH→Nat:=fun _ _ _ _ f _=>match f with
  | .int _ j=>(n-j).toNat
  | _=>0
 refine⟨Iv,μ,⟨rfl,rfl,rfl,0,[],[],rfl,by omega,BE.start H,.nil,.nil⟩,?_⟩
 intro e H1 hI
 obtain⟨e1,e2,e3,i,o,cs,e4,hi,s,hl,hG⟩:=(hI:Iv (e 1) (e 5) (e 8) (e 9) (e 10) H1)
 have hmu:μ (e 1) (e 5) (e 8) (e 9) (e 10) H1=((n:Int)-(i:Int)).toNat:=by rw[e4]
 show AB (.bin .lss (.cst (e 10)) (.cst (e 9))) _
 rw[e1,e2,e3,e4]
 generalize e 5=w at hl
 refine BT (fun hlt=>Ai ?_) (fun hlt=>AZ ?_)
 ·refine hfl.Ef (by omega) fun y _ hy=>?_
  obtain⟨x,hx,hr⟩:=hy
  refine MS (hf x y H1 s.k hr) fun r hr'=>?_
  have hc:=CC 0 t x [r] hr'
  have hcell:r.cellsOf=some [r]:=by
   cases t with
   | int=>cases (show[r]=_ from hr');rfl
   | byte=>cases (show[r]=_ from hr');rfl
   | bool=>cases (show[r]=_ from hr');rfl
   | word=>cases (show[r]=_ from hr');rfl
   | list t=>exact(RS.fl hr').one
   | pair a b=>
    have h1:∀t,1≤tz t:=fun t=>by induction t<;>simp only[tz]<;>omega
    have:=h1 a
    have:=h1 b
    simp only[tz]at hz
    omega
  refine s.app (k:=1) hl hG.ln hcell rfl rfl (by omega) hb fun o' v' H2 s2 hl2=>BA ⟨by omega,by omega⟩ ⟨⟨rfl,rfl,rfl,i+1,o',_,rfl,by omega,s2,hl2,hG.Dw rfl (fun k=>CC k t x [r] hr') ⟨x,hx,hr'⟩⟩,?_⟩
  show _<μ (e 1) (e 5) (e 8) (e 9) (e 10) H1
  rw[hmu]
  show((n:Int)-((i:Int)+1)).toNat<((n:Int)-(i:Int)).toNat
  omega
 ·have hin:n=i:=by omega
  subst hin
  exact⟨_,o,cs,rfl,hl,by simpa using s,hG⟩
theorem Rn {t:Tw}{z b:Nat}{zz:List AV}{l:(Tw.list t).D}{v fv:AV}{H:AH}(hz:z=tz t) (hzz:zz.length=z) (hv:RS (.list t) l [v]) (hb:b≤500)
  (hf:∀(x:t.D) (c:List AV) (H':AH),D6 H H'→RS t x c→CV P fv [.agg c] H' fun r=>∃c',r=.agg c'∧RS t x c') :
  Qy P z b zz v fv H (KW H z (RE t (DI l)) (DI l).length):=by
 unfold Qy
 try simp only[BU]
 have hfl:=hv.fl
 have hle:=hv.le
 rw[←hz]at hfl
 generalize hn:(DI l).length=n at hfl hle
 refine hfl.len ?_
 let Iv:AV→AV→AV→AV→AV→AH→Prop:=fun a c d e f H'=>a=fv∧d=v∧e=iv (n:Int)∧∃(i:Nat) (o:OL) (cs:List AV),f=iv (i:Int)∧i≤n∧BE H (o++[]) H'∧Lv z o i cs c∧GX z (RE t (DI l)) i cs
 let μ:AV→AV→AV→AV→AV→AH→Nat:=fun _ _ _ _ f _=>match f with
  | .int _ j=>(n-j).toNat
  | _=>0
 refine⟨Iv,μ,⟨rfl,rfl,rfl,0,[],[],rfl,by omega,BE.start H,.nil,.nil⟩,?_⟩
 intro e H1 hI
 obtain⟨e1,e2,e3,i,o,cs,e4,hi,s,hl,hG⟩:=(hI:Iv (e 1) (e 5) (e 8) (e 9) (e 10) H1)
 have hmu:μ (e 1) (e 5) (e 8) (e 9) (e 10) H1=((n:Int)-(i:Int)).toNat:=by rw[e4]
 show AB (.bin .lss (.cst (e 10)) (.cst (e 9))) _
 rw[e1,e2,e3,e4]
 generalize e 5=w at hl
 refine BT (fun hlt=>Ai ?_) (fun hlt=>AZ ?_)
 ·refine hfl.IG (by omega) fun c hcl _ hy=>?_
  obtain⟨x,hx,hr⟩:=hy
  refine s.alloc fun q H2 s=>s.Cr hcl hzz fun H3 s=>s.DN (.head _) hcl ?_
  refine MS (hf x c H3 s.k hr) fun r hr'=>?_
  obtain⟨c',rfl,hr'⟩:=hr'
  have hc':c'.length=z:=by rw[CM t x c' hr',hz]
  have s:BE H (o++[]) H3:=s.sub (List.sublist_cons_self _ _)
  refine s.app (k:=z) hl hG.ln rfl hc' hzz (by omega) hb fun o' v' H2 s2 hl2=>BA ⟨by omega,by omega⟩ ⟨⟨rfl,rfl,rfl,i+1,o',_,rfl,by omega,s2,hl2,hG.Dw hc' (fun k=>CC k t x c' hr') ⟨x,hx,hr'⟩⟩,?_⟩
  show _<μ (e 1) (e 5) (e 8) (e 9) (e 10) H1
  rw[hmu]
  show((n:Int)-((i:Int)+1)).toNat<((n:Int)-(i:Int)).toNat
  omega
 ·have hin:n=i:=by omega
  subst hin
  exact⟨_,o,cs,rfl,hl,by simpa using s,hG⟩
def fZ (fetch:AV→AV→AH→(AV→Prop)→Prop) (ne:AV→AV→AH→(AV→AH→Prop)→Prop) (v0 v1:AV) (h:AH) (Post:Cc→AH→Prop):Prop:=(
 AB (.len (.cst v0)) fun v2=>
 AB (.len (.cst v1)) fun v3=>
 AB (.bin .neq (.cst v2) (.cst v3)) fun v4=>
 Ag v4
 (Post (.ret (.bool false)) h)
 (A_ [0,1,5] (fun J5=>(fun(v6 v7 v8:AV) (h9:AH)=>
 AB (.len (.cst v6)) fun v10=>
 AB (.bin .lss (.cst v8) (.cst v10)) fun v11=>
 Ag v11
 (fetch v6 v8 h9 fun v13=>
 fetch v7 v8 h9 fun v15=>
 ne v13 v15 h9 fun v16 h16=>
 Ag v16
 (Post (.ret (.bool false)) h16)
 (AB (.bin .add (.cst v8) (.cst (I 1))) fun v17=>
 J5 v6 v7 v17 h16))
 (Post (.ret (.bool true)) h9))) (((BS.set 0 v0).set 1 v1).set 5 (I 0)) h))
theorem Fq {t:Tw}{l:(Tw.list t).D}{a b:AV}{H:AH}{fetch:AV→AV→AH→(AV→Prop)→Prop}{ne:AV→AV→AH→(AV→AH→Prop)→Prop}(X:t.D→AV→Prop)
  (hf:∀(v:AV) (i:Nat) (K:AV→Prop),RS (.list t) l [v]→i<(DI l).length→(∀d y,(DI l)[i]?=some d→X d y→K y)→fetch v (iv (i:Int)) H K)
  (hn:∀(d:t.D) y y' (K:AV→AH→Prop),X d y→X d y'→K (.bool false) H→ne y y' H K)
  (ha:RS (.list t) l [a]) (hb:RS (.list t) l [b]):fZ fetch ne a b H (MP H fun x=>x=.bool true):=by
 unfold fZ
 try simp only[BU]
 obtain⟨n,hl⟩:∃n,n=(DI l).length:=⟨_,rfl⟩
 have hle:=ha.le
 have fa:=ha.fl
 have fb:=hb.fl
 rw[←hl]at hle fa fb
 refine fa.len (fb.len (DB rfl (AZ ?_)))
 let Iv:AV→AV→AV→AH→Prop:=fun x y w H'=>x=a∧y=b∧∃i:Nat,w=iv (i:Int)∧i≤n∧H'=H
 let μ:AV→AV→AV→AH→Nat:=fun _ _ f _=>match f with
  | .int _ j=>(n-j).toNat
  | _=>0
 refine⟨Iv,μ,⟨rfl,rfl,0,rfl,by omega,rfl⟩,?_⟩
 intro e H1 hI
 obtain⟨e1,e2,i,e3,hi,rfl⟩:=(hI:Iv (e 0) (e 1) (e 5) H1)
 have hmu:μ (e 0) (e 1) (e 5) H1=((n:Int)-(i:Int)).toNat:=by rw[e3]
 show AB (.len (.cst (e 0))) _
 rw[e1,e2,e3]
 refine fa.len (BT (fun hlt=>Ai ?_) (fun hlt=>AZ (.same (fun k=>.bool _) rfl)))
 refine hf a i _ ha (by omega) fun d y hd hx=>?_
 refine hf b i _ hb (by omega) fun d' y' hd' hx'=>?_
 rw[hd]at hd'
 cases hd'
 refine hn d y y' _ hx hx' (AZ (BA ⟨by omega,by omega⟩ ⟨⟨rfl,rfl,i+1,rfl,by omega,rfl⟩,?_⟩))
 show _<μ (e 0) (e 1) (e 5) H1
 rw[hmu]
 show((n:Int)-((i:Int)+1)).toNat<((n:Int)-(i:Int)).toNat
 omega
abbrev Zv (v i:AV) (h:AH) (K:AV→Prop):Prop:=AB (.indexAddrS 1 (.cst v) (.cst i)) fun w=>AP (.load none (.cst w)) h K
abbrev WK (z:Nat) (v i:AV) (h:AH) (K:AV→Prop):Prop:=AB (.indexAddrS z (.cst v) (.cst i)) fun w=>AP (.load (some z) (.cst w)) h K
theorem Nh {t:Tw}{l:(Tw.list t).D}{H:AH}(hz:tz t=1) (v:AV) (i:Nat) (K:AV→Prop) (hv:RS (.list t) l [v]) (hi:i<(DI l).length) (hK:∀d y,(DI l)[i]?=some d→RS t d [y]→K y):Zv v (iv (i:Int)) H K:=by
 have h:=hv.fl
 rw[hz]at h
 refine h.Ef hi fun x _ hx=>?_
 obtain⟨d,h1,h2⟩:=hx
 exact hK d x h1 h2
theorem Ng {t:Tw}{l:(Tw.list t).D}{H:AH}{z:Nat}(hz:tz t=z) (v:AV) (i:Nat) (K:AV→Prop) (hv:RS (.list t) l [v]) (hi:i<(DI l).length) (hK:∀d y,(DI l)[i]?=some d→(∃c,y=.agg c∧RS t d c)→K y):WK z v (iv (i:Int)) H K:=by
 have h:=hv.fl
 rw[hz]at h
 refine h.IG hi fun c _ _ hx=>?_
 obtain⟨d,h1,h2⟩:=hx
 exact hK d _ h1 ⟨c,rfl,h2⟩
end Go.AL
