import Derived.Test.YtdcdbabponelcaaGreatDoorZc01
import Derived.Test.YtdcdbabponelcaaGreatDoorZg02
/-
  copies; new solvers; comparisons.
-/
set_option linter.unusedSectionVars false
set_option linter.unusedVariables false
set_option linter.unusedSimpArgs false
namespace Go.AL
variable [GLC] {P:Program}
inductive Tw where
 | int
 | byte
 | bool
 | word
 | list (t:Tw)
 | pair (a b:Tw)
def Tw.D:Tw→Type
 | .int=>Int
 | .byte=>UInt8
 | .bool=>Bool
 | .word=>Nat
 | .list t=>List t.D
 | .pair a b=>a.D × b.D
def asT {t:Tw}(l:(Tw.list t).D):List t.D:=l
def tz:Tw→Nat
 | .pair a b=>tz a+tz b
 | _=>1
def RS:(t:Tw)→t.D→List AV→Prop
 | .int,n,c=>c=[iv n]
 | .byte,x,c=>c=[bv x]
 | .bool,b,c=>c=[.bool b]
 | .word,n,c=>c=[.int .u64 (.ofNat n)]
 | .list t,l,c=>∃v,c=[v]∧(asT l).length≤100000∧FL (tz t) (fun i c=>∃x,(asT l)[i]?=some x∧RS t x c) (asT l).length v
 | .pair a b,p,c=>∃c1 c2,c=c1++c2∧RS a p.1 c1∧RS b p.2 c2
theorem RS_len:∀(t:Tw) (d:t.D) (c:List AV),RS t d c→c.length=tz t
 | .int,_,c,h=>by have h:c=_:=h;subst h;rfl
 | .byte,_,c,h=>by have h:c=_:=h;subst h;rfl
 | .bool,_,c,h=>by have h:c=_:=h;subst h;rfl
 | .word,_,c,h=>by have h:c=_:=h;subst h;rfl
 | .list _,_,c,h=>by obtain⟨v,rfl,_⟩:=h;rfl
 | .pair a b,d,c,h=>by
  obtain⟨c1,c2,rfl,h1,h2⟩:=h
  rw[List.length_append,RS_len a _ _ h1,RS_len b _ _ h2];rfl
theorem Scs.app {k:Nat}{a b:List AV}(ha:Scs k a) (hb:Scs k b):Scs k (a++b):=Scs.of_mem fun x hx=>by
 rcases List.mem_append.1 hx with h | h
 ·exact ha.mem h
 ·exact hb.mem h
theorem RS_sc (k:Nat):∀(t:Tw) (d:t.D) (c:List AV),RS t d c→Scs k c
 | .int,_,c,h=>by have h:c=_:=h;subst h;exact .cons (.int _ _) .nil
 | .byte,_,c,h=>by have h:c=_:=h;subst h;exact .cons (.int _ _) .nil
 | .bool,_,c,h=>by have h:c=_:=h;subst h;exact .cons (.bool _) .nil
 | .word,_,c,h=>by have h:c=_:=h;subst h;exact .cons (.int _ _) .nil
 | .list _,_,c,h=>by obtain⟨v,rfl,_,h⟩:=h;exact .cons (h.sc k) .nil
 | .pair a b,d,c,h=>by
  obtain⟨c1,c2,rfl,h1,h2⟩:=h
  exact(RS_sc k a _ _ h1).app (RS_sc k b _ _ h2)
def RE (t:Tw) (l:List t.D):Nat→List AV→Prop:=fun i c=>∃x,l[i]?=some x∧RS t x c
theorem RS.fl {t:Tw}{l:(Tw.list t).D}{v:AV}(h:RS (.list t) l [v]):FL (tz t) (RE t (asT l)) (asT l).length v:=by
 obtain⟨v',e,_,h⟩:=h
 cases e;exact h
theorem RS.le {t:Tw}{l:(Tw.list t).D}{v:AV}(h:RS (.list t) l [v]):(asT l).length≤100000:=by
 obtain⟨v',e,h,_⟩:=h;exact h
theorem RS.of {t:Tw}{l:List t.D}{v:AV}(hn:l.length≤100000) (h:FL (tz t) (RE t l) l.length v):RS (.list t) (show(Tw.list t).D from l) [v]:=⟨v,rfl,hn,h⟩
theorem FL.rs {t:Tw}{z n:Nat}{Pr:Nat→List AV→Prop}{v:AV}(hz:z=tz t) (h:FL z Pr n v) (hn:n≤100000) (hp:∀i c,Pr i c→∃x,RS t x c):∃l:List t.D,l.length=n∧RS (.list t) (show(Tw.list t).D from l) [v]:=by
 subst hz
 rcases h.ex with⟨rfl,rfl⟩ | ⟨css,b,rfl,h2,h3,h4⟩
 ·exact⟨[],rfl,.of (by simp) .nil⟩
 ·have key:∀(css:List (List AV)) (k:Nat),(∀i c,css[i]?=some c→Pr (k+i) c)→∃l:List t.D,l.length=css.length∧∀(i:Nat) (c:List AV),css[i]?=some c→∃x:t.D,l[i]?=some x∧RS t x c:=by
   intro css
   induction css with
   | nil=>exact fun k _=>⟨[],rfl,fun i c h=>by simp at h⟩
   | cons c css ih=>
    intro k hk
    obtain⟨x,hx⟩:=hp k c (hk 0 c rfl)
    obtain⟨l,hl1,hl2⟩:=ih (k+1) (fun i d hd=>by
     have:=hk (i+1) d (by simpa using hd)
     rwa [show k+(i+1)=k+1+i by omega]at this)
    refine⟨x::l,by simp[hl1],fun i d hd=>?_⟩
    cases i with
    | zero=>cases hd;exact⟨x,rfl,hx⟩
    | succ i=>simpa using hl2 i d (by simpa using hd)
  obtain⟨l,hl1,hl2⟩:=key css 0 fun i c hc=>by rw[Nat.zero_add];exact(h4 i c hc).2.2
  refine⟨l,by omega,.of (by omega) ⟨.inr ⟨css,b,?_,fun h=>h2 (by omega),by omega,fun i c hc=>⟨(h4 i c hc).1,(h4 i c hc).2.1,hl2 i c hc⟩⟩⟩⟩
  rw[hl1,h3]
def cloneG (z b:Nat) (v0:AV) (h:AH) (Post:AOut→AH→Prop):Prop:=
 y_pu (.eq false .slice (.cst v0) (.cst .nils)) fun v1=>y_if0 v1 (Post (.ret .nils) h) (y_ef (.buildSlice z 0 [] []) h fun v2 h2=>y_ef (.append z b (.cst v2) (.cst v0)) h2 fun v3 h3=>Post (.ret v3) h3)
theorem clone_ok {z b n:Nat}{Pr:Nat→List AV→Prop}{v:AV}{H:AH}(hv:FL z Pr n v) (hn:n≤100000) (hb:b≤500):cloneG z b v H (MP H (FL z Pr n)):=by
 unfold cloneG
 rcases hv.ex with⟨rfl,rfl⟩ | ⟨css,ex,rfl,h2,h3,h4⟩
 ·exact y_pu_of (v:=.bool true) rfl (if0_t (.same (fun k=>.nils) .nil))
 ·have he:0<n∨ex=true:=by
   rcases Nat.eq_zero_or_pos n with h | h
   ·exact .inr (h2 h)
   ·exact .inl h
  have e1:apure (.eq false .slice (.cst (.sim css.flatten n ex)) (.cst .nils)) emp=some (.bool false):=by
   show((if 0<n∨ex=true then some false else none).map fun b=>AV.bool (bif false then !b else b))=_
   rw[if_pos he];rfl
  refine y_pu_of e1 (if0_f ?_)
  have hfl:css.flatten.length=n*z:=by
   rw[flat_len css fun c hc=>?_,h3]
   obtain⟨i,hi⟩:=List.getElem?_of_mem hc
   exact(h4 i c hi).1
  refine y_ef_of (v:=.sl H.next 0 0 (.ex 0)) (H':=H.push (.cells [])) (by simp[aeff,afill]) ?_
  have s:=(NSt.start H).push (o:=[])
  have hb2:n*b≤140737488355328:=by
   have:n*b≤100000*500:=Nat.mul_le_mul hn hb
   omega
  by_cases h0:n=0
  ·subst h0
   have hx:=h2 rfl
   subst hx
   refine y_ef_of (v:=.sl H.next 0 0 (.ex 0)) (H':=(H.push (.cells [])).set H.next (.cells [])) (by
    have hc:css=[]:=List.eq_nil_of_length_eq_zero h3
    subst hc
    simp[aeff,AOpd.ev,aappend,aslcells,AH.cells?,splice]) ?_
   have s:=s.set (c':=[])
   refine s.fin (y:=.sim [] 0 true) (FZ.row (c:=[]) (.head _) (fun _=>.nil) (fun _=>rfl)) ⟨.inr ⟨css,true,?_,fun _=>rfl,h3,h4⟩⟩
   have hc:css=[]:=List.eq_nil_of_length_eq_zero h3
   rw[hc];rfl
  ·have hpos:¬n≤0:=by omega
   refine y_ef_of (v:=.sl (H.next+1) 0 n (.op z)) (H':=(H.push (.cells [])).push (.cells css.flatten)) (by
    have h63:n≤9223372036854775807:=by omega
    simp[aeff,AOpd.ev,aappend,aslcells,AH.cells?,hfl,h0,hb2,h63]) ?_
   have s:NSt H [(H.next+1,css.flatten),(H.next,[])] ((H.push (.cells [])).push (.cells css.flatten)):=s.push
   refine s.fin (y:=.sim css.flatten n false) (fun H' k hR=>?_) ⟨.inr ⟨css,false,rfl,fun h=>by omega,h3,h4⟩⟩
   obtain⟨g1,g2⟩:=hR (H.next+1,css.flatten) (.head _)
   refine .sl (l:=css.flatten) (m:=css.flatten.length) g1 (by simp[AH.cells?,g2]) (by simp) ?_ (fun h=>by omega) (fun h=>by cases h)
   rw[List.drop_zero,List.take_length]
   exact .low (Scs.of_mem fun x hx=>by
    obtain⟨c,hc,hxc⟩:=List.mem_flatten.1 hx
    obtain⟨i,hi⟩:=List.getElem?_of_mem hc
    exact((h4 i c hi).2.1 k).mem hxc)
theorem clone_rs {t:Tw}{z b:Nat}{l:(Tw.list t).D}{v:AV}{H:AH}(hz:z=tz t) (hv:RS (.list t) l [v]) (hb:b≤500):cloneG z b v H (MP H fun x=>RS (.list t) l [x]):=by
 subst hz
 have:=clone_ok (b:=b) (H:=H) hv.fl hv.le hb
 have e:MP H (FL (tz t) (RE t (asT l)) (asT l).length)=MP H fun x=>RS (.list t) l [x]:=by
  congr 1
  funext x
  exact propext ⟨fun h=>.of hv.le h,fun h=>h.fl⟩
 rw[←e];exact this
end Go.AL
namespace Go.AL
variable [GLC] {P:Program}
def CV (P:Program) (fv:AV) (ar:List AV) (H:AH) (Q:AV→Prop):Prop:=ACallV P fv ar H fun o H'=>H'=H∧∃x,o=.ret x∧Q x
def eachB (P:Program) (b:Nat) (v0 v1:AV) (h:AH) (Post:AOut→AH→Prop):Prop:=(
 y_pu (.len (.cst v0)) fun v2=>
 y_loop [1,5,8,9,10] (fun J3=>(fun(v4 v5 v6 v7 v8:AV) (h9:AH)=>
 y_pu (.bin .lss (.cst v8) (.cst v7)) fun v10=>
 y_if0 v10
 (y_pu (.indexAddrS 1 (.cst v6) (.cst v8)) fun v11=>
 y_rd (.load none (.cst v11)) h9 fun v12=>
 y_cl P v4 [v12] h9 (yp Post) fun v13 h13=>
 y_ef (.buildSlice 1 1 [.nils] [(0,1,(.cst v13))]) h13 fun v14 h14=>
 y_ef (.append 1 b (.cst v5) (.cst v14)) h14 fun v15 h15=>
 y_pu (.bin .add (.cst v8) (.cst (I 1))) fun v16=>
 J3 v4 v15 v6 v7 v16 h15)
 (Post (.ret v5) h9))) (((((jenv.set 1 v1).set 5 .nils).set 8 v0).set 9 v2).set 10 (I 0)) h)
def eachA (P:Program) (z b:Nat) (zz:List AV) (v0 v1:AV) (h:AH) (Post:AOut→AH→Prop):Prop:=(
 y_pu (.len (.cst v0)) fun v2=>
 y_loop [1,5,8,9,10] (fun J3=>(fun(v4 v5 v6 v7 v8:AV) (h9:AH)=>
 y_pu (.bin .lss (.cst v8) (.cst v7)) fun v10=>
 y_if0 v10
 (y_pu (.indexAddrS z (.cst v6) (.cst v8)) fun v11=>
 y_rd (.load (some z) (.cst v11)) h9 fun v12=>
 y_ef (.alloc zz) h9 fun v13 h13=>
 y_ef (.store z (.cst v13) (.cst v12)) h13 fun _ h14=>
 y_rd (.load (some z) (.cst v13)) h14 fun v15=>
 y_cl P v4 [v15] h14 (yp Post) fun v16 h16=>
 y_ef (.buildSlice z 1 zz [(0,z,(.cst v16))]) h16 fun v17 h17=>
 y_ef (.append z b (.cst v5) (.cst v17)) h17 fun v18 h18=>
 y_pu (.bin .add (.cst v8) (.cst (I 1))) fun v19=>
 J3 v4 v18 v6 v7 v19 h18)
 (Post (.ret v5) h9))) (((((jenv.set 1 v1).set 5 .nils).set 8 v0).set 9 v2).set 10 (I 0)) h)
theorem eachB_ok {t:Tw}{b:Nat}{l:(Tw.list t).D}{v fv:AV}{H:AH}(hz:1=tz t) (hv:RS (.list t) l [v]) (hb:b≤500) (hf:∀(x:t.D) (y:AV) (H':AH),KeepN H H'→RS t x [y]→CV P fv [y] H' fun r=>RS t x [r]) :
  eachB P b v fv H (MP H fun x=>RS (.list t) l [x]):=by
 unfold eachB
 try simp only[I_lit]
 have hfl:=hv.fl
 have hle:=hv.le
 rw[←hz]at hfl
 generalize hn:(asT l).length=n at hfl hle
 refine hfl.len ?_
 let Iv:AV→AV→AV→AV→AV→AH→Prop:=fun a c d e f H'=>a=fv∧d=v∧e=iv (n:Int)∧∃(i:Nat) (o:List (Nat × List AV)) (cs:List AV),f=iv (i:Int)∧i≤n∧NSt H (o++[]) H'∧Lv 1 o i cs c∧GL [] 1 (RE t (asT l)) i cs
 let μ:AV→AV→AV→AV→AV→AH→Nat:=fun _ _ _ _ f _=>match f with
  | .int _ j=>(n-j).toNat
  | _=>0
 refine⟨Iv,μ,⟨rfl,rfl,rfl,0,[],[],rfl,by omega,NSt.start H,.nil,.nil⟩,?_⟩
 intro e H1 hI
 obtain⟨e1,e2,e3,i,o,cs,e4,hi,s,hl,hG⟩:=(hI:Iv (e 1) (e 5) (e 8) (e 9) (e 10) H1)
 have hmu:μ (e 1) (e 5) (e 8) (e 9) (e 10) H1=((n:Int)-(i:Int)).toNat:=by rw[e4]
 show y_pu (.bin .lss (.cst (e 10)) (.cst (e 9))) _
 rw[e1,e2,e3,e4]
 generalize e 5=w at hl
 refine c_lss (fun hlt=>if0_t ?_) (fun hlt=>if0_f ?_)
 ·refine hfl.at1 (by omega) fun y _ hy=>?_
  obtain⟨x,hx,hr⟩:=hy
  refine y_cpv (hf x y H1 s.k hr) fun r hr'=>?_
  have hc:=RS_sc 0 t x [r] hr'
  have hcell:r.cellsOf=some [r]:=by
   cases t with
   | int=>cases (show[r]=_ from hr');rfl
   | byte=>cases (show[r]=_ from hr');rfl
   | bool=>cases (show[r]=_ from hr');rfl
   | word=>cases (show[r]=_ from hr');rfl
   | list t=>exact(RS.fl hr').one
   | pair a b=>
    have h1:∀t,1≤tz t:=fun t=>by induction t<;>simp only[tz]<;>omega
    have:=h1 a
    have:=h1 b
    simp only[tz]at hz
    omega
  refine s.app (k:=1) hl hG.n hcell rfl rfl (by omega) hb fun o' v' H2 s2 hl2=>s_add ⟨by omega,by omega⟩ ⟨⟨rfl,rfl,rfl,i+1,o',_,rfl,by omega,s2,hl2,hG.addS rfl (fun k=>RS_sc k t x [r] hr') ⟨x,hx,hr'⟩⟩,?_⟩
  show _<μ (e 1) (e 5) (e 8) (e 9) (e 10) H1
  rw[hmu]
  show((n:Int)-((i:Int)+1)).toNat<((n:Int)-(i:Int)).toNat
  omega
 ·have hin:n=i:=by omega
  subst hin
  obtain⟨y,hy1,hy2⟩:=hG.frz hl
  exact s.fin hy1 (RS.of (l:=asT l) hv.le (by rw[hn,←hz];exact hy2))
theorem eachA_ok {t:Tw}{z b:Nat}{zz:List AV}{l:(Tw.list t).D}{v fv:AV}{H:AH}(hz:z=tz t) (hzz:zz.length=z) (hv:RS (.list t) l [v]) (hb:b≤500)
  (hf:∀(x:t.D) (c:List AV) (H':AH),KeepN H H'→RS t x c→CV P fv [.agg c] H' fun r=>∃c',r=.agg c'∧RS t x c') :
  eachA P z b zz v fv H (MP H fun x=>RS (.list t) l [x]):=by
 unfold eachA
 try simp only[I_lit]
 have hfl:=hv.fl
 have hle:=hv.le
 rw[←hz]at hfl
 generalize hn:(asT l).length=n at hfl hle
 refine hfl.len ?_
 let Iv:AV→AV→AV→AV→AV→AH→Prop:=fun a c d e f H'=>a=fv∧d=v∧e=iv (n:Int)∧∃(i:Nat) (o:List (Nat × List AV)) (cs:List AV),f=iv (i:Int)∧i≤n∧NSt H (o++[]) H'∧Lv z o i cs c∧GL [] z (RE t (asT l)) i cs
 let μ:AV→AV→AV→AV→AV→AH→Nat:=fun _ _ _ _ f _=>match f with
  | .int _ j=>(n-j).toNat
  | _=>0
 refine⟨Iv,μ,⟨rfl,rfl,rfl,0,[],[],rfl,by omega,NSt.start H,.nil,.nil⟩,?_⟩
 intro e H1 hI
 obtain⟨e1,e2,e3,i,o,cs,e4,hi,s,hl,hG⟩:=(hI:Iv (e 1) (e 5) (e 8) (e 9) (e 10) H1)
 have hmu:μ (e 1) (e 5) (e 8) (e 9) (e 10) H1=((n:Int)-(i:Int)).toNat:=by rw[e4]
 show y_pu (.bin .lss (.cst (e 10)) (.cst (e 9))) _
 rw[e1,e2,e3,e4]
 generalize e 5=w at hl
 refine c_lss (fun hlt=>if0_t ?_) (fun hlt=>if0_f ?_)
 ·refine hfl.atA (by omega) fun c hcl _ hy=>?_
  obtain⟨x,hx,hr⟩:=hy
  refine s.alloc fun q H2 s=>s.putA hcl hzz fun H3 s=>s.ldA (.head _) hcl ?_
  refine y_cpv (hf x c H3 s.k hr) fun r hr'=>?_
  obtain⟨c',rfl,hr'⟩:=hr'
  have hc':c'.length=z:=by rw[RS_len t x c' hr',hz]
  have s:NSt H (o++[]) H3:=s.sub (List.sublist_cons_self _ _)
  refine s.app (k:=z) hl hG.n rfl hc' hzz (by omega) hb fun o' v' H2 s2 hl2=>s_add ⟨by omega,by omega⟩ ⟨⟨rfl,rfl,rfl,i+1,o',_,rfl,by omega,s2,hl2,hG.addS hc' (fun k=>RS_sc k t x c' hr') ⟨x,hx,hr'⟩⟩,?_⟩
  show _<μ (e 1) (e 5) (e 8) (e 9) (e 10) H1
  rw[hmu]
  show((n:Int)-((i:Int)+1)).toNat<((n:Int)-(i:Int)).toNat
  omega
 ·have hin:n=i:=by omega
  subst hin
  obtain⟨y,hy1,hy2⟩:=hG.frz hl
  exact s.fin hy1 (RS.of (l:=asT l) hv.le (by rw[hn,←hz];exact hy2))
end Go.AL
namespace Go.AL
variable [GLC] {P:Program}
def rdL {α:Type}(rd:List AV→Option α) (z:Nat):Nat→List AV→Option (List α)
 | 0,cs=>match cs with
  | []=>some []
  | _::_=>none
 | n+1,cs=>match rd (cs.take z),rdL rd z n (cs.drop z)with
  | some x,some l=>some (x::l)
  | _,_=>none
theorem rdL_sound {α:Type}{rd:List AV→Option α}{z:Nat}:∀{n:Nat}{cs:List AV}{l:List α},rdL rd z n cs=some l→∃css:List (List AV),cs=css.flatten∧css.length=n∧l.length=n∧∀(i:Nat) (c:List AV),css[i]?=some c→∃x:α,l[i]?=some x∧rd c=some x
 | 0,cs,l,h=>by
  cases cs with
  | nil=>cases h;exact⟨[],rfl,rfl,rfl,fun i c h=>by simp at h⟩
  | cons _ _=>cases h
 | n+1,cs,l,h=>by
  unfold rdL at h
  split at h
  ·rename_i x l' h1 h2
   cases h
   obtain⟨css,e1,e2,e3,e4⟩:=rdL_sound h2
   refine⟨cs.take z::css,by rw[List.flatten_cons,←e1,List.take_append_drop],by simp[e2],by simp[e3],fun i c hc=>?_⟩
   cases i with
   | zero=>cases hc;exact⟨x,rfl,h1⟩
   | succ i=>simpa using e4 i c (by simpa using hc)
  ·cases h
def rdT:(t:Tw)→List AV→Option t.D
 | .int,c=>match c with
  | [.int .i64 n]=>some n
  | _=>none
 | .byte,c=>match c with
  | [.int .u8 (.ofNat n)]=>if n<256 then some (UInt8.ofNat n)else none
  | _=>none
 | .bool,c=>match c with
  | [.bool b]=>some b
  | _=>none
 | .word,c=>match c with
  | [.int .u64 (.ofNat n)]=>some n
  | _=>none
 | .list t,c=>match c with
  | [.nils]=>some []
  | [.sim cs n ex]=>if n≤100000∧(n=0→ex=true)then rdL (rdT t) (tz t) n cs else none
  | _=>none
 | .pair a b,c=>match rdT a (c.take (tz a)),rdT b (c.drop (tz a))with
  | some x,some y=>some (x,y)
  | _,_=>none
theorem rdT_sound:∀(t:Tw) (c:List AV) (d:t.D),rdT t c=some d→RS t d c
 | .int,c,d,h=>by
  unfold rdT at h
  split at h<;>(try cases h;done)
  cases h;rfl
 | .byte,c,d,h=>by
  unfold rdT at h
  split at h<;>(try cases h;done)
  split at h<;>(try cases h;done)
  rename_i n hn
  cases h
  show[AV.int .u8 (Int.ofNat n)]=[bv (UInt8.ofNat n)]
  have:(UInt8.ofNat n).toNat=n:=by simp;omega
  unfold bv
  rw[this];rfl
 | .bool,c,d,h=>by
  unfold rdT at h
  split at h<;>(try cases h;done)
  cases h;rfl
 | .word,c,d,h=>by
  unfold rdT at h
  split at h<;>(try cases h;done)
  cases h;rfl
 | .list t,c,d,h=>by
  unfold rdT at h
  split at h<;>(try cases h;done)
  ·cases h;exact RS.of (l:=[]) (by simp) .nil
  ·rename_i cs n ex
   have hc:n≤100000∧(n=0→ex=true):=Classical.byContradiction fun hc=>by
    have e:(if n≤100000∧(n=0→ex=true)then rdL (rdT t) (tz t) n cs else none)=none:=if_neg hc
    have h':(if n≤100000∧(n=0→ex=true)then rdL (rdT t) (tz t) n cs else none)=some d:=h
    rw[e]at h';cases h'
   have h:rdL (rdT t) (tz t) n cs=some d:=by
    have h':(if n≤100000∧(n=0→ex=true)then rdL (rdT t) (tz t) n cs else none)=some d:=h
    rw[if_pos hc]at h';exact h'
   obtain⟨css,e1,e2,e3,e4⟩:=rdL_sound h
   have e3:(asT d).length=n:=e3
   refine⟨_,rfl,by omega,⟨.inr ⟨css,ex,by rw[e1,e3],fun h0=>hc.2 (by omega),by omega,fun i c hc=>?_⟩⟩⟩
   obtain⟨x,hx,hr⟩:=e4 i c hc
   have hr:=rdT_sound t c x hr
   exact⟨RS_len t x c hr,fun k=>RS_sc k t x c hr,x,hx,hr⟩
 | .pair a b,c,d,h=>by
  unfold rdT at h
  split at h<;>(try cases h;done)
  rename_i x y h1 h2
  cases h
  exact⟨c.take (tz a),c.drop (tz a),(List.take_append_drop _ _).symm,rdT_sound a _ x h1,rdT_sound b _ y h2⟩
theorem rd_ex {t:Tw}{c:List AV}(h:(rdT t c).isSome=true):∃d,RS t d c:=by
 cases hd:rdT t c with
 | none=>rw[hd]at h;cases h
 | some d=>exact⟨d,rdT_sound t c d hd⟩
end Go.AL
namespace Go.Proofs.YtdcdbabponelcaaGreatDoor
open Go Go.AL
variable [GLC]
abbrev wItem:Tw:=.pair .int .byte
abbrev wClass:Tw:=.pair .word (.pair .word (.pair .word .word))
abbrev wDfa:Tw:=.pair (.list wClass) (.pair (.list (.list .int)) (.list .bool))
abbrev wRow:Tw:=.pair (.list .int) .int
abbrev wPiece:Tw:=.pair .bool .byte
abbrev wMove:Tw:=.pair .int (.list wPiece)
abbrev wMach:Tw:=.pair (.list wClass) (.pair (.list (.list wMove)) (.pair (.list .bool) (.list (.list .byte))))
abbrev wRule:Tw:=.pair .int (.pair .int (.pair .int (.pair .int .bool)))
abbrev wAtom:Tw:=.pair .int (.pair (.list wItem) (.pair (.list wItem) (.pair wDfa (.pair wRow (.pair wMach (.pair wRule .int))))))
abbrev wLit:Tw:=.pair wAtom .bool
abbrev wNode:Tw:=.pair .int (.pair .int .int)
abbrev wPrb:Tw:=.pair (.list .byte) (.pair (.list .int) (.pair (.list .int) (.pair (.list wLit) (.pair (.list wAtom) (.list (.list wNode))))))
section
variable {H:AH}{v:AV}
theorem C66 {l:(Tw.list .byte).D}(h:RS (.list .byte) l [v]):CP Tryz.prog 66 [v] H fun x=>RS (.list .byte) l [x]:=CP.of (T66 (clone_rs (z:=1) (b:=1) rfl h (by decide)))
theorem C67 {l:(Tw.list .int).D}(h:RS (.list .int) l [v]):CP Tryz.prog 67 [v] H fun x=>RS (.list .int) l [x]:=CP.of (T67 (clone_rs (z:=1) (b:=8) rfl h (by decide)))
theorem C72 {l:(Tw.list wItem).D}(h:RS (.list wItem) l [v]):CP Tryz.prog 72 [v] H fun x=>RS (.list wItem) l [x]:=CP.of (T72 (clone_rs (z:=2) (b:=16) rfl h (by decide)))
theorem C122 {l:(Tw.list wClass).D}(h:RS (.list wClass) l [v]):CP Tryz.prog 122 [v] H fun x=>RS (.list wClass) l [x]:=CP.of (T122 (clone_rs (z:=4) (b:=32) rfl h (by decide)))
theorem C124 {l:(Tw.list .bool).D}(h:RS (.list .bool) l [v]):CP Tryz.prog 124 [v] H fun x=>RS (.list .bool) l [x]:=CP.of (T124 (clone_rs (z:=1) (b:=1) rfl h (by decide)))
theorem C126 {l:(Tw.list wPiece).D}(h:RS (.list wPiece) l [v]):CP Tryz.prog 126 [v] H fun x=>RS (.list wPiece) l [x]:=CP.of (T126 (clone_rs (z:=2) (b:=2) rfl h (by decide)))
theorem C34 {l:(Tw.list wNode).D}(h:RS (.list wNode) l [v]):CP Tryz.prog 34 [v] H fun x=>RS (.list wNode) l [x]:=CP.of (T34 (clone_rs (z:=3) (b:=24) rfl h (by decide)))
theorem C71 {l:(Tw.list (.list wNode)).D}(h:RS (.list (.list wNode)) l [v]):CP Tryz.prog 71 [v,.fn (.func 34) [] []] H fun x=>RS (.list (.list wNode)) l [x]:=CP.of (T71 (eachB_ok (b:=24) rfl h (by decide) fun _ _ _ _ h=>C34 h))
theorem C123 {l:(Tw.list (.list .int)).D}(h:RS (.list (.list .int)) l [v]):CP Tryz.prog 123 [v,.fn (.func 67) [] []] H fun x=>RS (.list (.list .int)) l [x]:=CP.of (T123 (eachB_ok (b:=24) rfl h (by decide) fun _ _ _ _ h=>C67 h))
theorem C95 {l:(Tw.list (.list .byte)).D}(h:RS (.list (.list .byte)) l [v]):CP Tryz.prog 95 [v,.fn (.func 66) [] []] H fun x=>RS (.list (.list .byte)) l [x]:=CP.of (T95 (eachB_ok (b:=24) rfl h (by decide) fun _ _ _ _ h=>C66 h))
end
theorem RS.one {t:Tw}{d:(Tw.list t).D}{c:List AV}(h:RS (.list t) d c):∃v,c=[v]:=by obtain⟨v,h,_⟩:=h;exact⟨v,h⟩
theorem RS.cell {t:Tw}{d:(Tw.list t).D}{v:AV}(h:RS (.list t) d [v]):v.cellsOf=some [v]:=(RS.fl h).one
theorem C125 {H:AH}{d:wMove.D}{c:List AV}(h:RS wMove d c):CP Tryz.prog 125 [.agg c] H fun x=>∃c',x=.agg c'∧RS wMove d c':=by
 obtain⟨c1,c2,rfl,h1,h2⟩:=h
 obtain⟨v,rfl⟩:=RS.one h2
 have h1:c1=[iv d.1]:=h1
 subst h1
 refine CP.of (T125 ?_)
 unfold G125
 try simp only[I_lit]
 refine(NSt.start H).box rfl fun q H1 s=>s.alloc fun q2 H2 s=>?_
 refine y_pu_of (v:=.ptr q 0) rfl (s.ld (x:=iv d.1) (.tail _ (.head _)) rfl ?_)
 refine y_pu_of (v:=.ptr q 1) rfl (s.ld (x:=v) (.tail _ (.head _)) rfl ?_)
 refine y_cp (C126 h2) fun x hx=>⟨⟨s.ldE (.tail _ (.head _)) rfl,trivial⟩,?_⟩
 have hr:RS wMove d ([iv d.1]++[x]):=⟨[iv d.1],[x],rfl,rfl,hx⟩
 refine y_pu_of (v:=.agg [iv d.1,x]) (by
  have:=RS.cell hx
  simp[apure,afill,AOpd.ev,this]
  rfl) (s.putA rfl rfl fun H3 s=>⟨trivial,s.ldA (.head _) rfl (s.finS (fun k=>.agg (RS_sc k wMove d _ hr)) ⟨_,rfl,hr⟩)⟩)
theorem C128 {H:AH}{v:AV}{l:(Tw.list wMove).D}(h:RS (.list wMove) l [v]):CP Tryz.prog 128 [v,.fn (.func 125) [] []] H fun x=>RS (.list wMove) l [x]:=
 CP.of (T128 (eachA_ok (z:=2) (b:=32) (zz:=[I 0,.nils]) rfl rfl h (by decide) fun _ _ _ _ h=>C125 h))
theorem C127 {H:AH}{v:AV}{l:(Tw.list wMove).D}{q:Nat}(hq:H.get q=some (.cells [.fn (.func 125) [] []])) (h:RS (.list wMove) l [v]):CP Tryz.prog 127 [v,.ptr q 0] H fun x=>RS (.list wMove) l [x]:=by
 refine CP.of (T127 ?_)
 unfold G127
 refine y_rd_of (v:=.fn (.func 125) [] []) (by simp[aread,aload,AOpd.ev,AH.cells?,hq,apart]) ?_
 refine y_cp (C128 h) fun x hx=>.same (fun k=>by cases RS_sc k _ _ _ hx with | cons a _=>exact a) hx
theorem C129 {H:AH}{v:AV}{l:(Tw.list (.list wMove)).D}{q:Nat}(hlt:q<H.next) (hq:H.get q=some (.cells [.fn (.func 125) [] []])) (h:RS (.list (.list wMove)) l [v]):CP Tryz.prog 129 [v,.fn (.func 127) [] [.ptr q 0]] H fun x=>RS (.list (.list wMove)) l [x]:=
 CP.of (T129 (eachB_ok (b:=24) rfl h (by decide) fun _ _ H' hk h=>C127 (by rw[hk.get q hlt];exact hq) h))
theorem C73 {H:AH}{d:wDfa.D}{c:List AV}(h:RS wDfa d c):CP Tryz.prog 73 [.agg c] H fun x=>∃c',x=.agg c'∧RS wDfa d c':=by
 obtain⟨c1,c2,rfl,h1,c3,c4,rfl,h2,h3⟩:=h
 obtain⟨v1,rfl⟩:=RS.one h1
 obtain⟨v2,rfl⟩:=RS.one h2
 obtain⟨v3,rfl⟩:=RS.one h3
 refine CP.of (T73 ?_)
 unfold G73
 try simp only[I_lit]
 refine(NSt.start H).box rfl fun q H1 s=>s.alloc fun q2 H2 s=>?_
 refine y_pu_of (v:=.ptr q 0) rfl (s.ld (x:=v1) (.tail _ (.head _)) rfl ?_)
 refine y_pu_of (v:=.ptr q 1) rfl (s.ld (x:=v2) (.tail _ (.head _)) rfl ?_)
 refine y_pu_of (v:=.ptr q 2) rfl (s.ld (x:=v3) (.tail _ (.head _)) rfl ?_)
 refine y_cp (C122 h1) fun x1 x1'=>⟨⟨s.ldE (.tail _ (.head _)) rfl,s.ldE (.tail _ (.head _)) rfl,trivial⟩,?_⟩
 refine y_cp (C123 h2) fun x2 x2'=>⟨⟨s.ldE (.tail _ (.head _)) rfl,trivial⟩,?_⟩
 refine y_cp (C124 h3) fun x3 x3'=>⟨trivial,?_⟩
 have hr:RS wDfa d [x1,x2,x3]:=⟨[x1],[x2,x3],rfl,x1',[x2],[x3],rfl,x2',x3'⟩
 refine y_pu_of (v:=.agg [x1,x2,x3]) (by
  have a1:=RS.cell x1'
  have a2:=RS.cell x2'
  have a3:=RS.cell x3'
  simp[apure,afill,AOpd.ev,a1,a2,a3]) (s.putA rfl rfl fun H3 s=>⟨trivial,s.ldA (.head _) rfl (s.finS (fun k=>.agg (RS_sc k wDfa d _ hr)) ⟨_,rfl,hr⟩)⟩)
theorem C74 {H:AH}{d:wMach.D}{c:List AV}(h:RS wMach d c):CP Tryz.prog 74 [.agg c] H fun x=>∃c',x=.agg c'∧RS wMach d c':=by
 obtain⟨c1,c2,rfl,h1,c3,c4,rfl,h2,c5,c6,rfl,h3,h4⟩:=h
 obtain⟨v1,rfl⟩:=RS.one h1
 obtain⟨v2,rfl⟩:=RS.one h2
 obtain⟨v3,rfl⟩:=RS.one h3
 obtain⟨v4,rfl⟩:=RS.one h4
 refine CP.of (T74 ?_)
 unfold G74
 try simp only[I_lit]
 refine(NSt.start H).box rfl fun q H1 s=>s.alloc fun q2 H2 s=>s.alloc fun q3 H3 s=>s.put (vs:=[.fn (.func 125) [] []]) rfl rfl (by decide) fun H4 s=>?_
 have s:NSt H [(q3,[.fn (.func 125) [] []]),(q2,rpl 4 .nils []),(q,[v1,v2,v3,v4])] H4:=s
 have hm:(q,[v1,v2,v3,v4])∈[(q3,[AV.fn (.func 125) [] []]),(q2,rpl 4 .nils []),(q,[v1,v2,v3,v4])]:=.tail _ (.tail _ (.head _))
 obtain⟨_,g2,g3⟩:=s.l _ (.head _)
 refine y_pu_of (v:=.ptr q 0) rfl (s.ld (x:=v1) hm rfl ?_)
 refine y_pu_of (v:=.ptr q 1) rfl (s.ld (x:=v2) hm rfl ?_)
 refine y_pu_of (v:=.ptr q 2) rfl (s.ld (x:=v3) hm rfl ?_)
 refine y_pu_of (v:=.ptr q 3) rfl (s.ld (x:=v4) hm rfl ?_)
 refine y_cp (C122 h1) fun x1 x1'=>⟨⟨s.ldE hm rfl,s.ldE hm rfl,s.ldE hm rfl,trivial⟩,?_⟩
 refine y_cp (C129 g2 g3 h2) fun x2 x2'=>⟨⟨s.ldE hm rfl,s.ldE hm rfl,trivial⟩,?_⟩
 refine y_cp (C124 h3) fun x3 x3'=>⟨⟨s.ldE hm rfl,trivial⟩,?_⟩
 refine y_cp (C95 h4) fun x4 x4'=>⟨trivial,?_⟩
 have hr:RS wMach d [x1,x2,x3,x4]:=⟨[x1],[x2,x3,x4],rfl,x1',[x2],[x3,x4],rfl,x2',[x3],[x4],rfl,x3',x4'⟩
 refine y_pu_of (v:=.agg [x1,x2,x3,x4]) (by
  have a1:=RS.cell x1'
  have a2:=RS.cell x2'
  have a3:=RS.cell x3'
  have a4:=RS.cell x4'
  show apure (.build [.nils,.nils,.nils,.nils] [(0,1,(.cst x1)),(1,1,(.cst x2)),(2,1,(.cst x3)),(3,1,(.cst x4))]) emp=_
  simp[apure,afill,AOpd.ev,a1,a2,a3,a4]) (s.putM (A:=[(q3,_)]) rfl rfl (by decide) fun H5 s=>⟨trivial,s.ldA (c:=[x1,x2,x3,x4]) (.tail _ (.head _)) rfl (s.finS (fun k=>.agg (RS_sc k wMach d _ hr)) ⟨_,rfl,hr⟩)⟩)
end Go.Proofs.YtdcdbabponelcaaGreatDoor
namespace Go.Proofs.YtdcdbabponelcaaGreatDoor
open Go Go.AL
variable [GLC]
theorem len3 {c:List AV}(h:c.length=3):∃a b d,c=[a,b,d]:=by match c,h with | [a,b,d],_=>exact⟨a,b,d,rfl⟩
theorem len4 {c:List AV}(h:c.length=4):∃a b d e,c=[a,b,d,e]:=by match c,h with | [a,b,d,e],_=>exact⟨a,b,d,e,rfl⟩
theorem len5 {c:List AV}(h:c.length=5):∃a b d e f,c=[a,b,d,e,f]:=by match c,h with | [a,b,d,e,f],_=>exact⟨a,b,d,e,f,rfl⟩
theorem atom_cells {d:wAtom.D}{c:List AV}(h:RS wAtom d c):∃T U d1 d2 d3 A m1 m2 m3 m4 q1 q2 q3 q4 q5,c=[iv d.1,T,U,d1,d2,d3,A,iv d.2.2.2.2.1.2,m1,m2,m3,m4,q1,q2,q3,q4,q5,iv d.2.2.2.2.2.2.2] ∧
  RS (.list wItem) d.2.1 [T]∧RS (.list wItem) d.2.2.1 [U]∧RS wDfa d.2.2.2.1 [d1,d2,d3]∧RS (.list .int) d.2.2.2.2.1.1 [A]∧RS wMach d.2.2.2.2.2.1 [m1,m2,m3,m4]∧RS wRule d.2.2.2.2.2.2.1 [q1,q2,q3,q4,q5]:=by
 obtain⟨c0,_,rfl,h0,cT,_,rfl,hT,cU,_,rfl,hU,cD,_,rfl,hD,cR,_,rfl,hR,cM,_,rfl,hM,cQ,cN,rfl,hQ,hN⟩:=h
 obtain⟨cA,cC,rfl,hA,hC⟩:=hR
 obtain⟨T,rfl⟩:=RS.one hT
 obtain⟨U,rfl⟩:=RS.one hU
 obtain⟨A,rfl⟩:=RS.one hA
 obtain⟨d1,d2,d3,rfl⟩:=len3 (RS_len _ _ _ hD)
 obtain⟨m1,m2,m3,m4,rfl⟩:=len4 (RS_len _ _ _ hM)
 obtain⟨q1,q2,q3,q4,q5,rfl⟩:=len5 (RS_len _ _ _ hQ)
 have h0:c0=[iv d.1]:=h0
 have hC:cC=[iv d.2.2.2.2.1.2]:=hC
 have hN:cN=[iv d.2.2.2.2.2.2.2]:=hN
 subst h0 hC hN
 exact⟨T,U,d1,d2,d3,A,m1,m2,m3,m4,q1,q2,q3,q4,q5,rfl,hT,hU,hD,hA,hM,hQ⟩
theorem atom_of {d:wAtom.D}{T U d1 d2 d3 A m1 m2 m3 m4 q1 q2 q3 q4 q5:AV}(hT:RS (.list wItem) d.2.1 [T]) (hU:RS (.list wItem) d.2.2.1 [U]) (hD:RS wDfa d.2.2.2.1 [d1,d2,d3]) (hA:RS (.list .int) d.2.2.2.2.1.1 [A]) (hM:RS wMach d.2.2.2.2.2.1 [m1,m2,m3,m4])
  (hQ:RS wRule d.2.2.2.2.2.2.1 [q1,q2,q3,q4,q5]):RS wAtom d [iv d.1,T,U,d1,d2,d3,A,iv d.2.2.2.2.1.2,m1,m2,m3,m4,q1,q2,q3,q4,q5,iv d.2.2.2.2.2.2.2]:=
 ⟨[_],_,rfl,rfl,[_],_,rfl,hT,[_],_,rfl,hU,[_,_,_],_,rfl,hD,[_,_],_,rfl,⟨[_],[_],rfl,hA,rfl⟩,[_,_,_,_],_,rfl,hM,[_,_,_,_,_],[_],rfl,hQ,rfl⟩
set_option maxHeartbeats 1000000 in
theorem C35 {H:AH}{d:wAtom.D}{c:List AV}(h:RS wAtom d c):CP Tryz.prog 35 [.agg c] H fun x=>∃c',x=.agg c'∧RS wAtom d c':=by
 obtain⟨T,U,d1,d2,d3,A,m1,m2,m3,m4,r1,r2,r3,r4,r5,rfl,hT,hU,hD,hA,hM,hQ⟩:=atom_cells h
 refine CP.of (T35 ?_)
 unfold G35
 try simp only[I_lit]
 refine(NSt.start H).box rfl fun q H1 s=>s.alloc fun q2 H2 s=>?_
 refine y_pu_of (v:=.ptr q 1) rfl (s.ld (x:=T) (.tail _ (.head _)) rfl ?_)
 refine y_pu_of (v:=.ptr q 2) rfl (s.ld (x:=U) (.tail _ (.head _)) rfl ?_)
 refine y_cp (C72 hT) fun T' hT'=>⟨⟨s.ldE (.tail _ (.head _)) rfl,trivial⟩,y_pu_of (v:=.ptr q 1) rfl ?_⟩
 refine y_cp (C72 hU) fun U' hU'=>⟨trivial,?_⟩
 refine s.putM (A:=[(q2,_)]) (RS.cell hT') rfl (Nat.le_of_ble_eq_true rfl) fun H3 s=>⟨trivial,y_pu_of (v:=.ptr q 2) rfl ?_⟩
 refine s.putM (A:=[(q2,_)]) (RS.cell hU') rfl (Nat.le_of_ble_eq_true rfl) fun H4 s=>⟨trivial,?_⟩
 refine y_pu_of (v:=.ptr q 3) rfl (s.ldP (d:=[d1,d2,d3]) (.tail _ (.head _)) rfl (Nat.le_of_ble_eq_true rfl) ?_)
 refine y_pu_of (v:=.ptr q 8) rfl (s.ldP (d:=[m1,m2,m3,m4]) (.tail _ (.head _)) rfl (Nat.le_of_ble_eq_true rfl) ?_)
 refine y_cp (C73 hD) fun x hx=>⟨⟨s.ldPE (.tail _ (.head _)) rfl (Nat.le_of_ble_eq_true rfl),trivial⟩,y_pu_of (v:=.ptr q 3) rfl ?_⟩
 obtain⟨cD,rfl,hD'⟩:=hx
 obtain⟨e1,e2,e3,rfl⟩:=len3 (RS_len _ _ _ hD')
 refine y_cp (C74 hM) fun x hx=>⟨trivial,?_⟩
 obtain⟨cM,rfl,hM'⟩:=hx
 obtain⟨n1,n2,n3,n4,rfl⟩:=len4 (RS_len _ _ _ hM')
 refine s.putM (A:=[(q2,_)]) rfl rfl (Nat.le_of_ble_eq_true rfl) fun H5 s=>⟨trivial,y_pu_of (v:=.ptr q 8) rfl ?_⟩
 refine s.putM (A:=[(q2,_)]) rfl rfl (Nat.le_of_ble_eq_true rfl) fun H6 s=>⟨trivial,y_pu_of (v:=.ptr q 6) rfl (y_pu_of (v:=.ptr q 6) rfl ?_)⟩
 refine s.ld (x:=A) (.tail _ (.head _)) rfl ?_
 refine y_cp (C67 hA) fun A' hA'=>y_pu_of (v:=.ptr q 6) rfl (y_pu_of (v:=.ptr q 6) rfl ?_)
 refine s.putM (A:=[(q2,_)]) (RS.cell hA') rfl (Nat.le_of_ble_eq_true rfl) fun H7 s=>?_
 have hr:=atom_of hT' hU' hD' hA' hM' hQ
 refine s.ldA (c:=[iv d.1,T',U',e1,e2,e3,A',iv d.2.2.2.2.1.2,n1,n2,n3,n4,r1,r2,r3,r4,r5,iv d.2.2.2.2.2.2.2]) (.tail _ (.head _)) rfl ?_
 refine s.putM (A:=[]) rfl rfl (Nat.le_of_ble_eq_true rfl) fun H8 s=>?_
 refine s.ldA (c:=[iv d.1,T',U',e1,e2,e3,A',iv d.2.2.2.2.1.2,n1,n2,n3,n4,r1,r2,r3,r4,r5,iv d.2.2.2.2.2.2.2]) (.head _) rfl ?_
 exact s.finS (fun k=>.agg (RS_sc k wAtom d _ hr)) ⟨_,rfl,hr⟩
theorem C69 {H:AH}{d:wLit.D}{c:List AV}(h:RS wLit d c):CP Tryz.prog 69 [.agg c] H fun x=>∃c',x=.agg c'∧RS wLit d c':=by
 obtain⟨ca,cb,rfl,ha,hb⟩:=h
 have hb:cb=[.bool d.2]:=hb
 subst hb
 have hl:=RS_len _ _ _ ha
 have hl:ca.length=18:=hl
 refine CP.of (T69 ?_)
 unfold G69
 try simp only[I_lit]
 refine(NSt.start H).box rfl fun q H1 s=>s.alloc fun q2 H2 s=>?_
 refine y_pu_of (v:=.ptr q 0) rfl (s.ldP (d:=ca) (.tail _ (.head _)) (by rw[List.drop_zero,List.take_append_of_le_length (by omega),List.take_of_length_le (by omega)]) (by simp[hl]) ?_)
 refine y_cp (C35 ha) fun x hx=>y_pu_of (v:=.ptr q 0) rfl ?_
 obtain⟨c',rfl,ha'⟩:=hx
 have hl':c'.length=18:=RS_len _ _ _ ha'
 refine s.putM (A:=[(q2,_)]) rfl hl' (by simp[hl]) fun H3 s=>?_
 have e:splice (ca++[AV.bool d.2]) 0 c'=c'++[.bool d.2]:=by
  rw[splice_eq (by simp[hl,hl'])]
  rw[hl',List.take_zero,List.nil_append,Nat.zero_add,List.drop_append,hl,List.drop_of_length_le (by omega)]
  rfl
 rw[e]at s
 have hr:RS wLit d (c'++[.bool d.2]):=⟨c',[.bool d.2],rfl,ha',rfl⟩
 have hr19:(c'++[AV.bool d.2]).length=19:=by simp[hl']
 refine s.ldA (c:=c'++[.bool d.2]) (.tail _ (.head _)) hr19 ?_
 refine NSt.putA (q:=q2) s hr19 rfl fun H8 s=>s.ldA (.head _) hr19 (s.finS (fun k=>.agg (RS_sc k wLit d _ hr)) ⟨_,rfl,hr⟩)
theorem C68 {H:AH}{v:AV}{l:(Tw.list wLit).D}(h:RS (.list wLit) l [v]):CP Tryz.prog 68 [v,.fn (.func 69) [] []] H fun x=>RS (.list wLit) l [x]:=
 CP.of (T68 (eachA_ok (z:=19) (b:=312) (zz:=(I 0)::(rpl 6 .nils ((I 0)::(rpl 4 .nils (rpl 4 (I 0) ((.bool false)::((I 0)::((.bool false)::[])))))))) rfl rfl h (by decide) fun _ _ _ _ h=>C69 h))
theorem C70 {H:AH}{v:AV}{l:(Tw.list wAtom).D}(h:RS (.list wAtom) l [v]):CP Tryz.prog 70 [v,.fn (.func 35) [] []] H fun x=>RS (.list wAtom) l [x]:=
 CP.of (T70 (eachA_ok (z:=18) (b:=304) (zz:=(I 0)::(rpl 6 .nils ((I 0)::(rpl 4 .nils (rpl 4 (I 0) ((.bool false)::((I 0)::[]))))))) rfl rfl h (by decide) fun _ _ _ _ h=>C35 h))
theorem prb_cells {d:wPrb.D}{c:List AV}(h:RS wPrb d c):∃al mo to li at_ fo,c=[al,mo,to,li,at_,fo]∧RS (.list .byte) d.1 [al]∧RS (.list .int) d.2.1 [mo]∧RS (.list .int) d.2.2.1 [to]∧RS (.list wLit) d.2.2.2.1 [li]∧RS (.list wAtom) d.2.2.2.2.1 [at_]∧RS (.list (.list wNode)) d.2.2.2.2.2 [fo]:=by
 obtain⟨c0,_,rfl,h0,c1,_,rfl,h1,c2,_,rfl,h2,c3,_,rfl,h3,c4,c5,rfl,h4,h5⟩:=h
 obtain⟨v0,rfl⟩:=RS.one h0
 obtain⟨v1,rfl⟩:=RS.one h1
 obtain⟨v2,rfl⟩:=RS.one h2
 obtain⟨v3,rfl⟩:=RS.one h3
 obtain⟨v4,rfl⟩:=RS.one h4
 obtain⟨v5,rfl⟩:=RS.one h5
 exact⟨v0,v1,v2,v3,v4,v5,rfl,h0,h1,h2,h3,h4,h5⟩
theorem prb_of {d:wPrb.D}{al mo to li at_ fo:AV}(h0:RS (.list .byte) d.1 [al]) (h1:RS (.list .int) d.2.1 [mo]) (h2:RS (.list .int) d.2.2.1 [to]) (h3:RS (.list wLit) d.2.2.2.1 [li]) (h4:RS (.list wAtom) d.2.2.2.2.1 [at_]) (h5:RS (.list (.list wNode)) d.2.2.2.2.2 [fo]) :
  RS wPrb d [al,mo,to,li,at_,fo]:=⟨[_],_,rfl,h0,[_],_,rfl,h1,[_],_,rfl,h2,[_],_,rfl,h3,[_],[_],rfl,h4,h5⟩
set_option maxHeartbeats 1000000 in
theorem C30 {H:AH}{d:wPrb.D}{c:List AV}(h:RS wPrb d c):CP Tryz.prog 30 [.agg c] H fun x=>∃c',x=.agg c'∧RS wPrb d c':=by
 obtain⟨al,mo,to,li,at_,fo,rfl,h0,h1,h2,h3,h4,h5⟩:=prb_cells h
 refine CP.of (T30 ?_)
 unfold G30
 try simp only[I_lit]
 refine(NSt.start H).box rfl fun q H1 s=>s.alloc fun q2 H2 s=>?_
 have hm:(q,[al,mo,to,li,at_,fo])∈[(q2,rpl 6 AV.nils []),(q,[al,mo,to,li,at_,fo])]:=.tail _ (.head _)
 refine y_pu_of (v:=.ptr q 0) rfl (s.ld (x:=al) hm rfl ?_)
 refine y_pu_of (v:=.ptr q 1) rfl (s.ld (x:=mo) hm rfl ?_)
 refine y_pu_of (v:=.ptr q 2) rfl (s.ld (x:=to) hm rfl ?_)
 refine y_pu_of (v:=.ptr q 3) rfl (s.ld (x:=li) hm rfl ?_)
 refine y_pu_of (v:=.ptr q 4) rfl (s.ld (x:=at_) hm rfl ?_)
 refine y_pu_of (v:=.ptr q 5) rfl (s.ld (x:=fo) hm rfl ?_)
 refine y_cp (C66 h0) fun x0 g0=>⟨⟨s.ldE hm rfl,s.ldE hm rfl,s.ldE hm rfl,s.ldE hm rfl,s.ldE hm rfl,trivial⟩,?_⟩
 refine y_cp (C67 h1) fun x1 g1=>⟨⟨s.ldE hm rfl,s.ldE hm rfl,s.ldE hm rfl,s.ldE hm rfl,trivial⟩,?_⟩
 refine y_cp (C67 h2) fun x2 g2=>⟨⟨s.ldE hm rfl,s.ldE hm rfl,s.ldE hm rfl,trivial⟩,?_⟩
 refine y_cp (C68 h3) fun x3 g3=>⟨⟨s.ldE hm rfl,s.ldE hm rfl,trivial⟩,?_⟩
 refine y_cp (C70 h4) fun x4 g4=>⟨⟨s.ldE hm rfl,trivial⟩,?_⟩
 refine y_cp (C71 h5) fun x5 g5=>⟨trivial,?_⟩
 have hr:=prb_of g0 g1 g2 g3 g4 g5
 refine y_pu_of (v:=.agg [x0,x1,x2,x3,x4,x5]) (by
  have a0:=RS.cell g0
  have a1:=RS.cell g1
  have a2:=RS.cell g2
  have a3:=RS.cell g3
  have a4:=RS.cell g4
  have a5:=RS.cell g5
  show apure (.build [.nils,.nils,.nils,.nils,.nils,.nils] [(0,1,(.cst x0)),(1,1,(.cst x1)),(2,1,(.cst x2)),(3,1,(.cst x3)),(4,1,(.cst x4)),(5,1,(.cst x5))]) emp=_
  simp[apure,afill,AOpd.ev,a0,a1,a2,a3,a4,a5]) (s.putA rfl rfl fun H3 s=>⟨trivial,s.ldA (.head _) rfl (s.finS (fun k=>.agg (RS_sc k wPrb d _ hr)) ⟨_,rfl,hr⟩)⟩)
end Go.Proofs.YtdcdbabponelcaaGreatDoor
namespace Go.Proofs.YtdcdbabponelcaaGreatDoor
open Go Go.AL
open Go.Proofs.YtdcdbabponelcaaGreatDoor.San (MC RC5)
variable [GLC]
theorem VTm.rs {n:Nat}{T:AV}(h:VTm n T):∃d,RS (.list wItem) d [T]:=by
 obtain⟨m,hm,h⟩:=h
 obtain⟨l,_,h⟩:=h.rs (t:=wItem) rfl (by omega) fun i c hc=>by
  obtain⟨x,b,rfl,_⟩:=hc
  exact⟨(x,b),[_],[_],rfl,rfl,rfl⟩
 exact⟨l,h⟩
theorem cls_rs:∃d,RS (.list wClass) d [.sim clsC 3 true]:=rd_ex (by kernel_rfl)
theorem VDfa.rs {c:List AV}(h:VDfa c):∃d,RS wDfa d c:=by
 obtain⟨m,nx,ac,_,_,rfl,h1,h2⟩:=h
 obtain⟨d0,h0⟩:=cls_rs
 obtain⟨l1,_,h1⟩:=h1.rs (t:=.list .int) rfl (by omega) fun i c hc=>by
  obtain⟨v,rfl,hv⟩:=hc
  obtain⟨l,_,hl⟩:=hv.rs (t:=.int) rfl (by omega) fun i c hc=>by
   obtain⟨a,rfl,_⟩:=hc
   exact⟨a,rfl⟩
  exact⟨l,hl⟩
 obtain⟨l2,_,h2⟩:=h2.rs (t:=.bool) rfl (by omega) fun i c hc=>by
  obtain⟨b,rfl⟩:=hc
  exact⟨b,rfl⟩
 exact⟨(d0,l1,l2),[_],[_,_],rfl,h0,[_],[_],rfl,h1,h2⟩
theorem MC_rs {j:Nat}(hj:j<8):∃d,RS wMach d (MC j):=by
 have h8:j=0∨j=1∨j=2∨j=3∨j=4∨j=5∨j=6∨j=7:=by omega
 rcases h8 with rfl | rfl | rfl | rfl | rfl | rfl | rfl | rfl<;>exact rd_ex (by kernel_rfl)
theorem VRu.rs {c:List AV}(h:VRu c):∃d,RS wRule d c:=by
 obtain⟨d,t,o,_,_,_,rfl⟩:=h
 exact⟨((16:Int),((1+d:Nat):Int),((11+t:Nat):Int),(o:Int),false),[_],_,rfl,rfl,[_],_,rfl,rfl,[_],_,rfl,rfl,[_],[_],rfl,rfl,rfl⟩
theorem nil_rs (t:Tw):RS (.list t) (show(Tw.list t).D from[]) [.nils]:=.of (by simp) .nil
theorem zD:RS wDfa ([],[],[]) [.nils,.nils,.nils]:=⟨[_],[_,_],rfl,nil_rs _,[_],[_],rfl,nil_rs _,nil_rs _⟩
theorem zM:RS wMach ([],[],[],[]) [.nils,.nils,.nils,.nils]:=⟨[_],[_,_,_],rfl,nil_rs _,[_],[_,_],rfl,nil_rs _,[_],[_],rfl,nil_rs _,nil_rs _⟩
theorem zQ:RS wRule ((0:Int),(0:Int),(0:Int),(0:Int),false) [iv 0,iv 0,iv 0,iv 0,.bool false]:=⟨[_],_,rfl,rfl,[_],_,rfl,rfl,[_],_,rfl,rfl,[_],[_],rfl,rfl,rfl⟩
theorem VAt.rs {n k:Nat}(hnk:n+k≤100){c:List AV}(h:VAt n k c):∃d,RS wAtom d c:=by
 cases h with
 | isIn hT hd=>
  obtain⟨t,hT⟩:=hT.rs
  obtain⟨d,hd⟩:=hd.rs
  exact⟨((1:Int),t,[],d,([],(0:Int)),([],[],[],[]),((0:Int),(0:Int),(0:Int),(0:Int),false),(0:Int)),atom_of (d:=((1:Int),t,[],d,([],(0:Int)),([],[],[],[]),((0:Int),(0:Int),(0:Int),(0:Int),false),(0:Int))) hT (nil_rs _) hd (nil_rs _) zM zQ⟩
 | isEq hT hU=>
  obtain⟨t,hT⟩:=hT.rs
  obtain⟨u,hU⟩:=hU.rs
  exact⟨((2:Int),t,u,([],[],[]),([],(0:Int)),([],[],[],[]),((0:Int),(0:Int),(0:Int),(0:Int),false),(0:Int)),atom_of (d:=((2:Int),t,u,([],[],[]),([],(0:Int)),([],[],[],[]),((0:Int),(0:Int),(0:Int),(0:Int),false),(0:Int))) hT hU zD (nil_rs _) zM zQ⟩
 | isRow hA h1 h2=>
  rename_i A C
  obtain⟨a,_,hA⟩:=hA.rs (t:=.int) rfl (by omega) fun i c hc=>by
   obtain⟨a,rfl,_⟩:=hc
   exact⟨a,rfl⟩
  exact⟨((3:Int),[],[],([],[],[]),(a,C),([],[],[],[]),((0:Int),(0:Int),(0:Int),(0:Int),false),(0:Int)),atom_of (d:=((3:Int),[],[],([],[],[]),(a,C),([],[],[],[]),((0:Int),(0:Int),(0:Int),(0:Int),false),(0:Int))) (nil_rs _) (nil_rs _) zD hA zM zQ⟩
 | isIm hT hU hj hm=>
  obtain⟨t,hT⟩:=hT.rs
  obtain⟨u,hU⟩:=hU.rs
  obtain⟨m,hM⟩:=MC_rs hj
  rw[hm]at hM
  exact⟨((4:Int),t,u,([],[],[]),([],(0:Int)),m,((0:Int),(0:Int),(0:Int),(0:Int),false),(0:Int)),atom_of (d:=((4:Int),t,u,([],[],[]),([],(0:Int)),m,((0:Int),(0:Int),(0:Int),(0:Int),false),(0:Int))) hT hU zD (nil_rs _) hM zQ⟩
 | isNum hT hq h1 h2=>
  rename_i T q1 q2 q3 q4 q5 N
  obtain⟨t,hT⟩:=hT.rs
  obtain⟨q,hQ⟩:=hq.rs
  exact⟨((5:Int),t,[],([],[],[]),([],(0:Int)),([],[],[],[]),q,N),atom_of (d:=((5:Int),t,[],([],[],[]),([],(0:Int)),([],[],[],[]),q,N)) hT (nil_rs _) zD (nil_rs _) zM hQ⟩
theorem VLt.rs {n k:Nat}(hnk:n+k≤100){c:List AV}(h:VLt n k c):∃d,RS wLit d c:=by
 obtain⟨a,b,rfl,h⟩:=h
 obtain⟨d,hd⟩:=h.rs hnk
 exact⟨(d,b),a,[.bool b],rfl,hd,rfl⟩
theorem VFo.rs {m:Nat}{v:AV}(h:VFo m v):∃d,RS (.list wNode) d [v]:=by
 obtain⟨n,_,_,h⟩:=h
 obtain⟨l,_,h⟩:=h.rs (t:=wNode) rfl (by omega) fun i c hc=>by
  obtain⟨kd,L,R,rfl,_⟩:=hc
  exact⟨(kd,L,R),[_],_,rfl,rfl,[_],[_],rfl,rfl,rfl⟩
 exact⟨l,h⟩
def alD:(Tw.list .byte).D:=([97,98]:List UInt8)
theorem al_rs:RS (.list .byte) alD [alV]:=rdT_sound (.list .byte) [alV] alD (by kernel_rfl)
theorem VPr.rs {sh:Nat}{c:List AV}(h:VPr sh c):∃d:wPrb.D,d.1=alD∧RS wPrb d c:=by
 obtain⟨mo,to,li,at_,fo,nl,na,nf,rfl,h1,h2,hl,h3,ha,h4,hf,h5⟩:=h.ex
 have hnk:1+sh % 2+sh / 2 % 2≤100:=by omega
 obtain⟨d1,_,h1⟩:=h1.rs (t:=.int) rfl (by omega) fun i c hc=>⟨_,hc⟩
 obtain⟨d2,_,h2⟩:=h2.rs (t:=.int) rfl (by omega) fun i c hc=>⟨_,hc⟩
 obtain⟨d3,_,h3⟩:=h3.rs (t:=wLit) rfl (by omega) fun i c hc=>hc.rs hnk
 obtain⟨d4,_,h4⟩:=h4.rs (t:=wAtom) rfl (by omega) fun i c hc=>hc.rs hnk
 obtain⟨d5,_,h5⟩:=h5.rs (t:=.list wNode) rfl (by omega) fun i c hc=>by
  obtain⟨v,rfl,hv⟩:=hc
  exact hv.rs
 exact⟨(alD,d1,d2,d3,d4,d5),rfl,prb_of (d:=(alD,d1,d2,d3,d4,d5)) al_rs h1 h2 h3 h4 h5⟩
end Go.Proofs.YtdcdbabponelcaaGreatDoor
namespace Go.Proofs.YtdcdbabponelcaaGreatDoor
open Go Go.AL
variable [GLC]
theorem VPr.prq {sh nal:Nat}{c:List AV}(h:VPr sh c):∃mo to li at_ fo,c=[alV,mo,to,li,at_,fo]∧FL 1 (fun i c=>c=[iv (1+((sh / 4+i) % 3:Nat))]) (1+sh % 2) mo∧FL 1 (fun _ c=>c=[iv 12]) (sh / 2 % 2) to∧∃nl na nf,
  ∀(al mo':AV) (Al:Nat→UInt8) (M:Nat→Int),FL 1 (fun i c=>c=[bv (Al i)]) nal al→0<nal→nal≤16→FL 1 (fun i c=>c=[iv (M i)]) (1+sh % 2) mo' →
   PrQ al mo' to li at_ fo nal (1+sh % 2) (sh / 2 % 2) nl na nf Al M (fun _=>12) (fun _=>true) (fun _=>true) (fun _=>8):=by
 obtain⟨mo,to,li,at_,fo,nl,na,nf,rfl,h1,h2,hl,h3,ha,h4,hf,h5⟩:=h.ex
 refine⟨mo,to,li,at_,fo,rfl,h1,h2,nl,na,nf,fun al mo' Al M g1 g2 g3 g4=>⟨g1,g2,g3,g4,h2,by omega,h3,by omega,?_,by omega,?_,by omega,?_⟩⟩
 ·exact h4.mono fun i c _ hc H hg=>C64 hg (by omega) (by omega) hc
 ·exact h5.mono fun i c _ hc=>by
   obtain⟨v,rfl,hv⟩:=hc
   have hv':=hv
   obtain⟨m,m1,m8,hm⟩:=hv'
   exact⟨v,_,m,rfl,m8,hm,fun H hg=>C65 (by omega) hv⟩
 ·have:nf=0∨nf=1:=by omega
  rcases this with rfl | rfl<;>simp[sumN]
theorem al_fl:FL 1 (fun i c=>c=[bv (if i=0 then 97 else 98)]) 2 alV:=⟨.inr ⟨[[N .u8 97],[N .u8 98]],true,rfl,fun _=>rfl,rfl,fun i c hc=>by
 match i,hc with
 | 0,hc=>cases hc;exact⟨rfl,fun k=>.cons (.int _ _) .nil,rfl⟩
 | 1,hc=>cases hc;exact⟨rfl,fun k=>.cons (.int _ _) .nil,rfl⟩
 | i+2,hc=>simp at hc⟩⟩
def alB:AV:=.sim [N .u8 98,N .u8 97] 2 true
theorem alB_fl:FL 1 (fun i c=>c=[bv (if i=0 then 98 else 97)]) 2 alB:=⟨.inr ⟨[[N .u8 98],[N .u8 97]],true,rfl,fun _=>rfl,rfl,fun i c hc=>by
 match i,hc with
 | 0,hc=>cases hc;exact⟨rfl,fun k=>.cons (.int _ _) .nil,rfl⟩
 | 1,hc=>cases hc;exact⟨rfl,fun k=>.cons (.int _ _) .nil,rfl⟩
 | i+2,hc=>simp at hc⟩⟩
theorem C29q {H:AH}(hg:H.gl=GLC.G){sh:Nat}{c:List AV}(h:VPr sh c):CP Tryz.prog 29 [.agg c] H fun x=>x=iv 0:=by
 obtain⟨mo,to,li,at_,fo,rfl,h1,h2,nl,na,nf,hp⟩:=h.prq (nal:=2)
 refine(C29 hg (hp alV mo _ _ al_fl (by omega) (by omega) h1)).mono fun x hx=>?_
 obtain⟨t,rfl,ht⟩:=hx
 have:t=true:=ht.2 ⟨fun j hj=>by
  have:j=0:=by omega
  subst this;decide,fun j hj=>by(show(0:Int)≤1+((sh / 4+j) % 3:Nat)∧(1:Int)+((sh / 4+j) % 3:Nat)≤8);omega,fun j hj=>by(show(0:Int)≤12∧(12:Int)≤64);omega,fun j hj=>rfl,fun j hj=>rfl⟩
 subst this;rfl
theorem C29b {H:AH}(hg:H.gl=GLC.G){sh:Nat}{mo to li at_ fo:AV}(h:VPr sh [alV,mo,to,li,at_,fo]):CP Tryz.prog 29 [.agg [alB,mo,to,li,at_,fo]] H fun x=>x=iv 1:=by
 obtain⟨mo',to',li',at_',fo',e,h1,h2,nl,na,nf,hp⟩:=h.prq (nal:=2)
 cases e
 refine(C29 hg (hp alB mo _ _ alB_fl (by omega) (by omega) h1)).mono fun x hx=>?_
 obtain⟨t,rfl,ht⟩:=hx
 have:t=false:=by
  cases t with
  | false=>rfl
  | true=>
   have:=(ht.1 rfl).1 0 (by omega)
   exact absurd this (by decide)
 subst this;rfl
theorem C29w {H:AH}(hg:H.gl=GLC.G){sh:Nat}{mo mo2 to li at_ fo:AV}{M:Nat→Int}(h:VPr sh [alV,mo,to,li,at_,fo]) (hm:FL 1 (fun i c=>c=[iv (M i)]) (1+sh % 2) mo2):CP Tryz.prog 29 [.agg [alV,mo2,to,li,at_,fo]] H fun x=>x=iv 0∨x=iv 1:=by
 obtain⟨mo',to',li',at_',fo',e,h1,h2,nl,na,nf,hp⟩:=h.prq (nal:=2)
 cases e
 refine(C29 hg (hp alV mo2 _ _ al_fl (by omega) (by omega) hm)).mono fun x hx=>?_
 obtain⟨t,rfl,ht⟩:=hx
 cases t
 ·exact .inr rfl
 ·exact .inl rfl
theorem C44 {H:AH}:CP Tryz.prog 44 [alV,alV] H fun x=>x=.bool true:=by
 refine CP.of (T44 ?_)
 unfold G44
 exact y_rd_of (v:=.str [97,98]) rfl (y_rd_of (v:=.str [97,98]) rfl (y_pu_of (v:=.bool true) rfl (.same (fun k=>.bool _) rfl)))
theorem C45 {H:AH}{a b:AV}{n:Nat}{A B:Nat→Int}(ha:FL 1 (fun i c=>c=[iv (A i)]) n a) (hb:FL 1 (fun i c=>c=[iv (B i)]) n b) (hn:n≤1000000):CP Tryz.prog 45 [a,b] H fun x=>∃t:Bool,x=.bool t∧(t=true↔∀j,j<n→A j=B j):=by
 refine CP.of (T45 ?_)
 unfold G45
 try simp only[I_lit]
 refine ha.len (hb.len (f_neq rfl (if0_f (ha.len ?_))))
 let Iv:AV→AV→AV→AV→AH→Prop:=fun x y z w H'=>x=a∧y=b∧z=iv (n:Int)∧∃i:Nat,w=iv (i:Int)∧i≤n∧(∀j,j<i→A j=B j)∧H'=H
 let μ:AV→AV→AV→AV→AH→Nat:=fun _ _ _ f _=>match f with
  | .int _ j=>(n-j).toNat
  | _=>0
 refine⟨Iv,μ,⟨rfl,rfl,rfl,0,rfl,by omega,fun j hj=>by omega,rfl⟩,?_⟩
 intro e H1 hI
 obtain⟨e1,e2,e3,i,e4,hi,hall,rfl⟩:=(hI:Iv (e 0) (e 1) (e 12) (e 13) H1)
 have hmu:μ (e 0) (e 1) (e 12) (e 13) H1=((n:Int)-(i:Int)).toNat:=by rw[e4]
 show y_pu (.bin .lss (.cst (e 13)) (.cst (e 12))) _
 rw[e1,e2,e3,e4]
 refine c_lss (fun hlt=>if0_t ?_) (fun hlt=>if0_f (.same (fun k=>.bool _) ⟨true,rfl,fun _ j hj=>hall j (by omega),fun _=>rfl⟩))
 refine ha.at1 (by omega) fun x _ hx=>?_
 cases hx
 refine hb.at1 (by omega) fun y _ hy=>?_
 cases hy
 refine c_neq (fun hne=>if0_t (.same (fun k=>.bool _) ⟨false,rfl,fun h=>(by cases h),fun h=>absurd (h i (by omega)) hne⟩)) (fun heq=>if0_f (s_add ⟨by omega,by omega⟩ ⟨⟨rfl,rfl,rfl,i+1,rfl,by omega,fun j hj=>?_,rfl⟩,?_⟩))
 ·by_cases e:j=i
  ·subst e;exact heq
  ·exact hall j (by omega)
 ·show _<μ (e 0) (e 1) (e 12) (e 13) H1
  rw[hmu]
  show((n:Int)-((i:Int)+1)).toNat<((n:Int)-(i:Int)).toNat
  omega
def NewP (H:AH) (d:wPrb.D):AOut→AH→Prop:=fun o H'=>KeepN H H'∧∃r ql c',o=.ret (.tup [.ptr r 0,iv 0])∧H.next≤ql∧ql<r∧r<H'.next∧H'.get r=some (.cells (c'++[.sl ql 0 1 (.ex 1)]))∧H'.get ql=some (.cells [.nils])∧RS wPrb d c'
theorem C7 {H:AH}{d:wPrb.D}{c:List AV}(hv:∀H':AH,H'.gl=H.gl→CP Tryz.prog 29 [.agg c] H' fun x=>x=iv 0) (hc:RS wPrb d c):ACall Tryz.prog 7 [.agg c] H (NewP H d):=by
 have hl:c.length=6:=RS_len _ _ _ hc
 refine T7 ?_
 unfold G7
 try simp only[I_lit]
 refine(NSt.start H).box rfl fun q H1 s=>s.ldA (.head _) hl ?_
 refine y_cp (hv H1 s.k.gl) fun x hx=>?_
 subst hx
 refine f_neq rfl (if0_f (s.ldA (.head _) hl ?_))
 refine y_nw_of (c:=[.nils]) (f:=fun r=>.sl r 0 1 (.ex 1)) rfl ?_
 have s2:=s.push (o:=[.nils])
 refine y_cp (C30 hc) fun x hx=>⟨⟨⟨[.nils],_,rfl,by simp⟩,trivial⟩,?_⟩
 obtain⟨c',rfl,hc'⟩:=hx
 have hl':c'.length=6:=RS_len _ _ _ hc'
 refine y_pu_of (v:=.agg (c'++[.sl H1.next 0 1 (.ex 1)])) ?_ ?_
 ·match c',hl' with
  | [a0,a1,a2,a3,a4,a5],_=>rfl
 refine y_nw_of (c:=c'++[.sl H1.next 0 1 (.ex 1)]) (f:=fun r=>.ptr r 0) rfl ?_
 have s3:=s2.push (o:=c'++[.sl H1.next 0 1 (.ex 1)])
 obtain⟨a1,a2,a3⟩:=s3.l _ (.head _)
 obtain⟨b1,b2,b3⟩:=s3.l _ (.tail _ (.head _))
 exact⟨s3.k,_,H1.next,c',rfl,b1,by simp,a2,a3,b3,hc'⟩
theorem C7n {H:AH}{c:List AV}(hl:c.length=6) (hv:∀H':AH,H'.gl=H.gl→CP Tryz.prog 29 [.agg c] H' fun x=>x=iv 1):CP Tryz.prog 7 [.agg c] H fun x=>x=.tup [.nilp,iv 1]:=by
 refine CP.of (T7 ?_)
 unfold G7
 try simp only[I_lit]
 refine(NSt.start H).box rfl fun q H1 s=>s.ldA (.head _) hl ?_
 refine y_cp (hv H1 s.k.gl) fun x hx=>?_
 subst hx
 exact t_neq (by decide) (if0_t (s.finS (fun k=>.tup (.cons .nilp (.cons (.int _ _) .nil))) rfl))
theorem C9n {H:AH}:CP Tryz.prog 9 [.nilp] H fun x=>x=iv 7:=by
 refine CP.of (T9 ?_)
 unfold G9
 exact y_pu_of (v:=.bool true) rfl (if0_t (.same (fun k=>.int _ _) rfl))
theorem C11n {H:AH}:CP Tryz.prog 11 [.nilp] H fun x=>x=iv 7:=by
 refine CP.of (T11 ?_)
 unfold G11
 exact y_pu_of (v:=.bool true) rfl (grp_ft (y_pu_of rfl (if0_t (.same (fun k=>.int _ _) rfl))))
theorem C14n {H:AH}{a b:AV}:CP Tryz.prog 14 [.nilp,a,b] H fun x=>x=iv 7:=by
 refine CP.of (T14 ?_)
 unfold G14
 exact y_pu_of (v:=.bool true) rfl (if0_t (.same (fun k=>.int _ _) rfl))
def ouZ:List AV:=[iv 0,.nils,.nils,.nils,.nils,iv 0]
theorem ouZ_sc (k:Nat):Scs k ouZ:=by unfold ouZ;repeat constructor
theorem C22n {H:AH}{f:AV}:CP Tryz.prog 22 [.nilp,f] H fun x=>x=.tup [.agg ouZ,iv 7]:=by
 refine CP.of (T22 ?_)
 unfold G22
 try simp only[I_lit]
 refine(NSt.start H).alloc fun q H1 s=>y_pu_of (v:=.bool true) rfl (if0_t (y_pu_of (v:=.agg ouZ) rfl (s.putA rfl rfl fun H2 s=>s.ldA (c:=ouZ) (.head _) rfl (s.finS (fun k=>.tup (.cons (.agg (ouZ_sc k)) (.cons (.int _ _) .nil))) rfl))))
theorem C22f {H:AH}{r:Nat}{f:Int}(hf:f<0∨1073741824<f):CP Tryz.prog 22 [.ptr r 0,iv f] H fun x=>x=.tup [.agg ouZ,iv 1]:=by
 refine CP.of (T22 ?_)
 unfold G22
 try simp only[I_lit]
 refine(NSt.start H).alloc fun q H1 s=>y_pu_of (v:=.bool false) rfl (if0_f ?_)
 refine c_lss (fun h=>grp_ft ?_) (fun h=>grp_ff (t_gtr (by omega) ?_))
 ·exact y_pu_of rfl (if0_t (y_pu_of (v:=.agg ouZ) rfl (s.putA rfl rfl fun H2 s=>s.ldA (c:=ouZ) (.head _) rfl (s.finS (fun k=>.tup (.cons (.agg (ouZ_sc k)) (.cons (.int _ _) .nil))) rfl))))
 ·exact y_pu_of rfl (if0_t (y_pu_of (v:=.agg ouZ) rfl (s.putA rfl rfl fun H2 s=>s.ldA (c:=ouZ) (.head _) rfl (s.finS (fun k=>.tup (.cons (.agg (ouZ_sc k)) (.cons (.int _ _) .nil))) rfl))))
def prZ:List AV:=[.nils,.nils,.nils,.nils,.nils,.nils]
theorem C17n {H:AH}:CP Tryz.prog 17 [.nilp] H fun x=>x=.agg prZ:=by
 refine CP.of (T17 ?_)
 unfold G17
 refine(NSt.start H).alloc fun q H1 s=>y_pu_of (v:=.bool true) rfl (if0_t (y_pu_of (v:=.agg prZ) rfl (s.putA rfl rfl fun H2 s=>s.ldA (c:=prZ) (.head _) rfl (s.finS (fun k=>.agg (by unfold prZ;repeat constructor)) rfl))))
end Go.Proofs.YtdcdbabponelcaaGreatDoor
