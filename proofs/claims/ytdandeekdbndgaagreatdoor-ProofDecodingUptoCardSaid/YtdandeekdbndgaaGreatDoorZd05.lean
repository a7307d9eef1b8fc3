import Derived.Test.YtdandeekdbndgaaGreatDoorZd02
import Derived.Test.YtdandeekdbndgaaGreatDoorZd04
import Derived.Test.YtdandeekdbndgaaGreatDoorZd01
/-
  comparisons of equal data are true; the bound on proofs.
-/
namespace Go.AL
open Co
variable {P:Program}
theorem loop3 {a b c n:Nat}{e0:Env}{H0:AH}{x y:AV}{body:JP [a,b,c]→JP [a,b,c]}(hab:a≠b) (hac:a≠c) (hbc:b≠c) (ha:e0 a=x) (hb:e0 b=y) (hc:e0 c=.int .i64 ((0:Nat):Int)){Q:AH→Prop}(h0:Q H0)
  (hbody:∀(i:Nat) (H:AH) (J:AV→AV→AV→AH→Prop),i≤n→Q H→(i<n→∀H',Q H'→J x y (.int .i64 ((i+1:Nat):Int)) H')→(body J:AV→AV→AV→AH→Prop) x y (.int .i64 (i:Int)) H):y_loop [a,b,c] body e0 H0:=by
 let Iv:AV→AV→AV→AH→Prop:=fun u v w H'=>u=x∧v=y∧∃i:Nat,w=.int .i64 (i:Int)∧i≤n∧Q H'
 let μ:AV→AV→AV→AH→Nat:=fun _ _ w _=>match w with
  | .int _ j=>(n-j).toNat
  | _=>0
 refine⟨Iv,μ,⟨ha,hb,0,hc,Nat.zero_le _,h0⟩,?_⟩
 intro e H hI
 obtain⟨e1,e2,i,e3,hi,hq⟩:=(hI:Iv (e a) (e b) (e c) H)
 show(body _:AV→AV→AV→AH→Prop) (e a) (e b) (e c) H
 rw[e1,e2,e3]
 refine hbody i H _ hi hq fun hlt H' hq'=>?_
 have g1:(((emp.set a x).set b y).set c (.int .i64 ((i+1:Nat):Int))) a=x:=by simp[Env.set_get,hab,hac]
 have g2:(((emp.set a x).set b y).set c (.int .i64 ((i+1:Nat):Int))) b=y:=by simp[Env.set_get,hbc]
 have g3:(((emp.set a x).set b y).set c (.int .i64 ((i+1:Nat):Int))) c=.int .i64 ((i+1:Nat):Int):=by simp[Env.set_get]
 show Iv ((((emp.set a x).set b y).set c (.int .i64 ((i+1:Nat):Int))) a) ((((emp.set a x).set b y).set c (.int .i64 ((i+1:Nat):Int))) b) ((((emp.set a x).set b y).set c (.int .i64 ((i+1:Nat):Int))) c) H'∧μ ((((emp.set a x).set b y).set c (.int .i64 ((i+1:Nat):Int))) a) ((((emp.set a x).set b y).set c (.int .i64 ((i+1:Nat):Int))) b) ((((emp.set a x).set b y).set c (.int .i64 ((i+1:Nat):Int))) c) H'<μ (e a) (e b) (e c) H
 rw[g1,g2,g3,e3]
 refine⟨⟨rfl,rfl,i+1,rfl,hlt,hq'⟩,?_⟩
 show((n:Int)-((i+1:Nat):Int)).toNat<((n:Int)-(i:Int)).toNat
 omega
theorem loop4 {a b b' c n:Nat}{e0:Env}{H0:AH}{x y z:AV}{body:JP [a,b,b',c]→JP [a,b,b',c]}(hab:a≠b) (hab':a≠b') (hac:a≠c) (hbb:b≠b') (hbc:b≠c) (hbc':b'≠c) (ha:e0 a=x) (hb:e0 b=y) (hb':e0 b'=z) (hc:e0 c=.int .i64 ((0:Nat):Int)){Q:AH→Prop}(h0:Q H0)
  (hbody:∀(i:Nat) (H:AH) (J:AV→AV→AV→AV→AH→Prop),i≤n→Q H→(i<n→∀H',Q H'→J x y z (.int .i64 ((i+1:Nat):Int)) H')→(body J:AV→AV→AV→AV→AH→Prop) x y z (.int .i64 (i:Int)) H):y_loop [a,b,b',c] body e0 H0:=by
 let Iv:AV→AV→AV→AV→AH→Prop:=fun u v v' w H'=>u=x∧v=y∧v'=z∧∃i:Nat,w=.int .i64 (i:Int)∧i≤n∧Q H'
 let μ:AV→AV→AV→AV→AH→Nat:=fun _ _ _ w _=>match w with
  | .int _ j=>(n-j).toNat
  | _=>0
 refine⟨Iv,μ,⟨ha,hb,hb',0,hc,Nat.zero_le _,h0⟩,?_⟩
 intro e H hI
 obtain⟨e1,e2,e2',i,e3,hi,hq⟩:=(hI:Iv (e a) (e b) (e b') (e c) H)
 show(body _:AV→AV→AV→AV→AH→Prop) (e a) (e b) (e b') (e c) H
 rw[e1,e2,e2',e3]
 refine hbody i H _ hi hq fun hlt H' hq'=>?_
 obtain⟨E,hE⟩:∃E,E=(((emp.set a x).set b y).set b' z).set c (.int .i64 ((i+1:Nat):Int)):=⟨_,rfl⟩
 have g1:E a=x:=by simp[hE,Env.set_get,hab,hab',hac]
 have g2:E b=y:=by simp[hE,Env.set_get,hbb,hbc]
 have g2':E b'=z:=by simp[hE,Env.set_get,hbc']
 have g3:E c=.int .i64 ((i+1:Nat):Int):=by simp[hE,Env.set_get]
 have:Iv (E a) (E b) (E b') (E c) H'∧μ (E a) (E b) (E b') (E c) H'<μ (e a) (e b) (e b') (e c) H:=by
  rw[g1,g2,g2',g3,e3]
  refine⟨⟨rfl,rfl,rfl,i+1,rfl,hlt,hq'⟩,?_⟩
  show((n:Int)-((i+1:Nat):Int)).toNat<((n:Int)-(i:Int)).toNat
  omega
 rw[hE]at this
 exact this
structure LR (t:Ty) (l:List t.D) (v:AV):Prop where
 one:v.cellsOf=some [v]
 len:apure (.len (.cst v)) emp=some (.int .i64 (l.length:Int))
 at_:∀(i:Nat) (hi:i<l.length),∃cs c,apure (.indexAddrS (tsz t) (.cst v) (.cst (.int .i64 (i:Int)))) emp=some (.pim cs (i*tsz t))∧RC t (l[i]'hi) c∧c.length=tsz t∧(∀j,j<tsz t→cs[i*tsz t+j]?=c[j]?) ∧
  (∀H,aread (.load (some (tsz t)) (.cst (.pim cs (i*tsz t)))) emp H=some (.agg c))
 cells:∃cs,(∀H,aslcells (tsz t) v H=some (l.length,cs))∧∃css:List (List AV),cs=css.flatten∧css.length=l.length∧∀(i:Nat) (x:t.D) (y:List AV),l[i]?=some x→css[i]?=some y→RC t x y
theorem lr_of {t:Ty}{l:(Ty.list t).D}{v:AV}(h:RC (.list t) l [v]):LR t (asL l) v:=by
 obtain⟨cs,css,hf,h1,h2,h3,h4⟩:=list_parts h
 generalize hn:(asL l).length=n at hf h2
 refine⟨by cases hf<;>rfl,by rw[hn];cases hf<;>rfl,fun i hi=>?_,?_⟩
 ·have hi':i<css.length:=by omega
  have hc:css[i]?=some (css[i]'hi'):=List.getElem?_eq_getElem hi'
  have hR:=h4 i _ _ (List.getElem?_eq_getElem hi) hc
  have hx:=flat_idx css i _ h3 hc
  have hl:=h3 _ (List.getElem_mem hi')
  cases hf with
  | nil=>omega
  | sim hcs=>
   have hm:i*tsz t+tsz t≤n*tsz t:=by
    have:(i+1)*tsz t≤n*tsz t:=Nat.mul_le_mul_right _ (by omega)
    rw[Nat.add_mul,Nat.one_mul]at this;exact this
   refine⟨cs,css[i]'hi',?_,hR,hl,fun j hj=>?_,fun H=>?_⟩
   ·have h9:(0:Int)≤(i:Int)∧(i:Int)<(n:Int):=by omega
    simp[apure,AOpd.ev,aidxS,h9]
   ·rw[h1,←hx,List.getElem?_take,if_pos hj,List.getElem?_drop]
   ·have:i*tsz t+tsz t≤cs.length:=by omega
    simp only[aread,aload,AOpd.ev,apart,this,if_true]
    rw[h1,hx]
 ·refine⟨cs,fun H=>?_,css,h1,by rw[h2,hn],h4⟩
  rw[hn]
  cases hf with
  | nil=>rfl
  | sim hcs=>simp[aslcells,hcs]
theorem QV.lr {t:Ty}{l:(Ty.list t).D}{v:AV}(h:QV (.list t) l v):LR t (asL l) v:=lr_of h
theorem avb_map:∀l:List UInt8,avbytes (l.map bv)=some l
 | []=>rfl
 | x::l=>by
  show(avbytes (l.map bv)).map (UInt8.ofNat ((x.toNat:Int)).toNat::·)=_
  rw[avb_map l,Int.toNat_natCast]
  simp
theorem LR.bytes {l:List UInt8}{v:AV}(h:LR .byte l v) (H:AH):aread (.strOfBytes (.cst v)) emp H=some (.str l):=by
 obtain⟨cs,h1,css,h2,h3,h4⟩:=h.cells
 have hcl:css.length=l.length:=h3
 have hcs:cs=l.map bv:=by
  have:css=l.map fun x=>[bv x]:=by
   refine List.ext_getElem? fun i=>?_
   rw[List.getElem?_map]
   rcases Nat.lt_or_ge i l.length with hi | hi
   ·have a1:=List.getElem?_eq_getElem hi
    have a2:css[i]?=some (css[i]'(by omega)):=List.getElem?_eq_getElem (by omega)
    rw[a1,a2]
    have:css[i]'(by omega)=[bv (l[i]'hi)]:=h4 i _ _ a1 a2
    rw[this];rfl
   ·rw[List.getElem?_eq_none (by omega),List.getElem?_eq_none hi];rfl
  rw[h2,this]
  clear h1 h2 h3 h4 this h hcl
  induction l with
  | nil=>rfl
  | cons x l ih=>simp only[List.map_cons,List.flatten_cons,ih];rfl
 have h1:aslcells 1 v H=some (l.length,cs):=h1 H
 show(match aslcells 1 v H with | some (_,xs)=>(avbytes xs).map AV.str | none=>none)=_
 rw[h1,hcs]
 show(avbytes (l.map bv)).map AV.str=_
 rw[avb_map];rfl
theorem cmp_head {n:Nat}{v0 v1:AV}{A B:Prop}(h0:apure (.len (.cst v0)) emp=some (.int .i64 (n:Int))) (h1:apure (.len (.cst v1)) emp=some (.int .i64 (n:Int))) (hB:B) :
  y_pu (.len (.cst v0)) fun v2=>y_pu (.len (.cst v1)) fun v3=>y_pu (.bin .neq (.cst v2) (.cst v3)) fun v4=>y_if0 v4 A B:=
 y_pu_of h0 (y_pu_of h1 (y_pu_of (v:=.bool false) (by show some (AV.bool ((n:Int) != (n:Int)))=_;simp) (y_if0_of (fun h=>by cases h) fun _=>hB)))
theorem cmp_idx {i n:Nat}{v0:AV}{A B:Prop}(h0:apure (.len (.cst v0)) emp=some (.int .i64 (n:Int))) (hA:i<n→A) (hB:n≤i→B) :
  y_pu (.len (.cst v0)) fun v2=>y_pu (.bin .lss (.cst (.int .i64 (i:Int))) (.cst v2)) fun v4=>y_if0 v4 A B:=
 y_pu_of h0 (y_pu_of (v:=.bool (decide ((i:Int)<(n:Int)))) rfl (y_if0_of (fun h=>hA (by have:=of_decide_eq_true h;omega)) fun h=>hB (by have:=of_decide_eq_false h;omega)))
theorem cmp_inc {i n:Nat}{K:AV→Prop}(hn:I64 (n:Int)) (hi:i<n) (hK:K (.int .i64 ((i+1:Nat):Int))):y_pu (.bin .add (.cst (.int .i64 (i:Int))) (.cst (I 1))) K:=by
 have h2:=hn.2
 refine y_pu_of (v:=.int .i64 ((i+1:Nat):Int)) ?_ hK
 have hwr:IntKind.i64.wrap ((i:Int)+1)=((i+1:Nat):Int):=by
  have:((i+1:Nat):Int)=(i:Int)+1:=by omega
  rw[this,wrap_i64];split<;>omega
 show some (AV.int .i64 (IntKind.i64.wrap ((i:Int)+1)))=_
 rw[hwr]
theorem if_f {A B:Prop}(h:B):y_if0 (.bool false) A B:=y_if0_of (fun h=>by cases h) fun _=>h
theorem if_t {A B:Prop}(h:A):y_if0 (.bool true) A B:=y_if0_of (fun _=>h) fun h=>by cases h
theorem grp_t {T:Type}{J:T}{A B:T→Prop}(h:A J):y_grp true (.bool true) J A B:=⟨fun _=>h,fun h=>absurd rfl h⟩
theorem grp_f {T:Type}{J:T}{A B:T→Prop}(h:A J):y_grp false (.bool false) J A B:=⟨fun _=>h,fun h=>absurd rfl h⟩
theorem un_not {K:AV→Prop}(hK:K (.bool false)):y_pu (.un .not (.cst (.bool true))) K:=y_pu_of rfl hK
theorem neq_self (n:Int):apure (.bin .neq (.cst (.int .i64 n)) (.cst (.int .i64 n))) emp=some (.bool false):=by show some (AV.bool (n != n))=_;simp
theorem eql_self (n:Int):apure (.bin .eql (.cst (.int .i64 n)) (.cst (.int .i64 n))) emp=some (.bool true):=by show some (AV.bool (n==n))=_;simp
theorem neq_str (l:List UInt8):apure (.bin .neq (.cst (.str l)) (.cst (.str l))) emp=some (.bool false):=by show some (AV.bool (!(l==l)))=_;simp
theorem eq_bool (b:Bool):apure (.eq true .bool (.cst (.bool b)) (.cst (.bool b))) emp=some (.bool false):=by cases b<;>rfl
theorem eq_bool' (b:Bool):apure (.eq false .bool (.cst (.bool b)) (.cst (.bool b))) emp=some (.bool true):=by cases b<;>rfl
def TPost (H:AH):AOut→AH→Prop:=fun o H'=>o=.ret (.bool true)∧KeepN H H'
theorem KeepN.refl (H:AH):KeepN H H:=⟨Nat.le_refl _,fun _ _=>rfl,rfl⟩
structure Sm (H0:AH) (L:List (Nat × List AV)) (H:AH):Prop where
 k:KeepN H0 H
 l:∀x∈L,x.1<H.next∧H.get x.1=some (.cells x.2)
theorem Sm.start (H:AH):Sm H [] H:=⟨KeepN.refl _,fun x hx=>by cases hx⟩
theorem Sm.keep {H0 H H':AH}{L:List (Nat × List AV)}(s:Sm H0 L H) (h:KeepN H H'):Sm H0 L H':=⟨s.k.trans h,fun x hx=>by
 obtain⟨h1,h2⟩:=s.l x hx
 exact⟨Nat.lt_of_lt_of_le h1 h.nx,by rw[h.get _ h1];exact h2⟩⟩
theorem Sm.box {H0 H:AH}{L:List (Nat × List AV)}{x:AV}{c:List AV}{K:AV→AH→Prop}(s:Sm H0 L H) (hx:x.cellsOf=some c) (hK:∀q H',Sm H0 ((q,c)::L) H'→K (.ptr q 0) H'):y_ef (.box (.cst x)) H K:=by
 refine box_new hx (hK _ _ ?_)
 have s':=s.keep (KeepN.push H (.cells c))
 refine⟨s'.k,fun x hx=>?_⟩
 cases hx with
 | head=>exact⟨by simp,by simp⟩
 | tail _ hx=>exact s'.l x hx
theorem Sm.copy {H0 H:AH}{L:List (Nat × List AV)}{c z:List AV}{n:Nat}{K:AV→AV→AH→Prop}(s:Sm H0 L H) (hz:z.length=n) (hc:c.length=n) (hK:∀q H',Sm H0 ((q,c)::L) H'→K (.ptr q 0) .unk H') :
  y_ef (.alloc z) H fun v15 h15=>y_ef (.store n (.cst v15) (.cst (.agg c))) h15 fun v16 h16=>K v15 v16 h16:=by
 refine y_ef_of (v:=.ptr H.next 0) (H':=H.push (.cells z)) rfl ?_
 have hs:splice z 0 c=c:=by rw[splice_eq (by omega)];simp[hc,hz]
 refine y_ef_of (v:=.unk) (H':=(H.push (.cells z)).set H.next (.cells c)) (by simp[aeff,AOpd.ev,AH.cells?,AH.get_push,AV.cellsOf,hs,hc,hz]) (hK _ _ ?_)
 have k1:KeepN H ((H.push (.cells z)).set H.next (.cells c)):=⟨by simp,fun q hq=>by
  have:q≠H.next:=by omega
  simp[AH.get_set,AH.get_push,this],rfl⟩
 have s':=s.keep k1
 refine⟨s'.k,fun x hx=>?_⟩
 cases hx with
 | head=>exact⟨by simp,by simp[AH.get_set]⟩
 | tail _ hx=>exact s'.l x hx
theorem Sm.call {H0 H:AH}{L:List (Nat × List AV)}{g:FuncId}{ar:List AV}{K:AV→AH→Prop}{Kp:AV→AH→Prop}(s:Sm H0 L H) (hC:ACall P g ar H (TPost H)) (hK:∀H',Sm H0 L H'→K (.bool true) H'):y_call P g ar H Kp K:=
 y_call_of hC (fun v H' h=>by obtain⟨h1,h2⟩:=h;cases h1;exact hK _ (s.keep h2)) (fun v H' h=>by cases h.1)
theorem Sm.fin {H0 H:AH}{L:List (Nat × List AV)}(s:Sm H0 L H):TPost H0 (.ret (.bool true)) H:=⟨rfl,s.k⟩
def Fld (c:List AV) (o:Nat) (t:Ty) (d:t.D):Prop:=o+tsz t≤c.length∧RC t d ((c.drop o).take (tsz t))
theorem Fld.start {t:Ty}{d:t.D}{c:List AV}(h:RC t d c):Fld c 0 t d:=by
 have:=RC_len _ _ _ h
 refine⟨by omega,?_⟩
 rw[List.drop_zero,List.take_of_length_le (by omega)];exact h
theorem Fld.fst {a b:Ty}{d:(Ty.pair a b).D}{c:List AV}{o:Nat}(h:Fld c o (.pair a b) d):Fld c o a d.1:=by
 obtain⟨h1,c1,c2,h2,h3,h4⟩:=h
 have l1:=RC_len _ _ _ h3
 have h1:o+(tsz a+tsz b)≤c.length:=h1
 have h2:(c.drop o).take (tsz a+tsz b)=c1++c2:=h2
 refine⟨by omega,?_⟩
 have:(c.drop o).take (tsz a)=c1:=by
  have h5:=congrArg (List.take (tsz a)) h2
  rw[List.take_take,List.take_append_of_le_length (by omega),List.take_of_length_le (l:=c1) (by omega)]at h5
  rw[←h5];congr 1;omega
 rw[this];exact h3
theorem Fld.snd {a b:Ty}{d:(Ty.pair a b).D}{c:List AV}{o:Nat}(h:Fld c o (.pair a b) d):Fld c (o+tsz a) b d.2:=by
 obtain⟨h1,c1,c2,h2,h3,h4⟩:=h
 have l1:=RC_len _ _ _ h3
 have l2:=RC_len _ _ _ h4
 have h1:o+(tsz a+tsz b)≤c.length:=h1
 have h2:(c.drop o).take (tsz a+tsz b)=c1++c2:=h2
 refine⟨by omega,?_⟩
 have:(c.drop (o+tsz a)).take (tsz b)=c2:=by
  have h5:=congrArg (List.drop (tsz a)) h2
  rw[List.drop_take,List.drop_drop,List.drop_append_of_le_length (by omega),List.drop_of_length_le (l:=c1) (by omega),List.nil_append]at h5
  rw[←h5];congr 1;omega
 rw[this];exact h4
theorem Fld.one {t:Ty}{d:t.D}{c:List AV}{o:Nat}(h:Fld c o t d) (ht:tsz t=1):∃x,c[o]?=some x∧RC t d [x]:=by
 obtain⟨h1,h2⟩:=h
 rw[ht]at h1 h2
 have hlt:o<c.length:=by omega
 refine⟨c[o]'hlt,List.getElem?_eq_getElem hlt,?_⟩
 have:(c.drop o).take 1=[c[o]'hlt]:=by rw[List.drop_eq_getElem_cons hlt];rfl
 rw[←this];exact h2
theorem Fld.agg {t:Ty}{d:t.D}{c:List AV}{o:Nat}(h:Fld c o t d):∃c1,(c.drop o).take (tsz t)=c1∧c1.length=tsz t∧o+tsz t≤c.length∧RC t d c1:=⟨_,rfl,RC_len _ _ _ h.2,h.1,h.2⟩
theorem Fld.int {d:Int}{c:List AV}{o:Nat}(h:Fld c o .int d):c[o]?=some (.int .i64 d):=by
 obtain⟨x,h1,h2⟩:=h.one rfl
 have h2:[x]=[AV.int .i64 d]:=h2
 cases h2;exact h1
theorem Fld.bool {d:Bool}{c:List AV}{o:Nat}(h:Fld c o .bool d):c[o]?=some (.bool d):=by
 obtain⟨x,h1,h2⟩:=h.one rfl
 have h2:[x]=[AV.bool d]:=h2
 cases h2;exact h1
theorem Fld.list {t:Ty}{d:(Ty.list t).D}{c:List AV}{o:Nat}(h:Fld c o (.list t) d):∃x,c[o]?=some x∧QV (.list t) d x:=by
 obtain⟨x,h1,h2⟩:=h.one rfl
 exact⟨x,h1,h2⟩
theorem Sm.ld {H0 H:AH}{L:List (Nat × List AV)}{q o:Nat}{c:List AV}{x:AV}{K:AV→Prop}(s:Sm H0 L H) (hm:(q,c)∈L) (hx:c[o]?=some x) (hK:K x):y_rd (.load none (.cst (.ptr q o))) H K:=by
 obtain⟨_,h3⟩:=s.l _ hm
 exact y_rd_of (v:=x) (by simpa[aread,aload,AOpd.ev,AH.cells?,h3,apart]using hx) hK
theorem Sm.ldA {H0 H:AH}{L:List (Nat × List AV)}{q o k:Nat}{c c1:List AV}{K:AV→Prop}(s:Sm H0 L H) (hm:(q,c)∈L) (hx:(c.drop o).take k=c1) (hl:o+k≤c.length) (hK:K (.agg c1)):y_rd (.load (some k) (.cst (.ptr q o))) H K:=by
 obtain⟨_,h3⟩:=s.l _ hm
 exact y_rd_of (v:=.agg c1) (by simp[aread,aload,AOpd.ev,AH.cells?,h3,apart,hl,hx]) hK
theorem LR.at1 {t:Ty}{l:List t.D}{v:AV}(h:LR t l v) (ht:tsz t=1){i:Nat}(hi:i<l.length):∃a x,apure (.indexAddrS 1 (.cst v) (.cst (.int .i64 (i:Int)))) emp=some a∧(∀H,aread (.load none (.cst a)) emp H=some x)∧RC t (l[i]'hi) [x]:=by
 obtain⟨cs,c,a1,a2,a3,a4,_⟩:=h.at_ i hi
 rw[ht]at a1 a3 a4
 match c,a3 with
 | [x],_=>exact⟨_,x,a1,fun H=>by simpa[aread,aload,AOpd.ev,apart]using a4 0 (by omega),a2⟩
theorem LR.atA {t:Ty}{l:List t.D}{v:AV}(h:LR t l v){k:Nat}(ht:tsz t=k){i:Nat}(hi:i<l.length):∃a c,apure (.indexAddrS k (.cst v) (.cst (.int .i64 (i:Int)))) emp=some a∧(∀H,aread (.load (some k) (.cst a)) emp H=some (.agg c))∧RC t (l[i]'hi) c∧c.length=k ∧
  ∀j,j<k→∃a',apure (.fieldAddr j (.cst a)) emp=some a'∧∀H,aread (.load none (.cst a')) emp H=c[j]?:=by
 subst ht
 obtain⟨cs,c,a1,a2,a3,a4,a5⟩:=h.at_ i hi
 exact⟨_,c,a1,a5,a2,a3,fun j hj=>⟨.pim cs (i*tsz t+j),rfl,fun H=>by simpa[aread,aload,AOpd.ev,apart]using a4 j hj⟩⟩
theorem at_wf {t:Ty}{l:(Ty.list t).D}(hw:(Ty.list t).wf l){i:Nat}(hi:i<(asL l).length):t.wf ((asL l)[i]'hi):=hw.2 _ (List.getElem_mem hi)
def SAME (P:Program) (g:FuncId) (t:Ty):Prop:=∀{H:AH}{v0 v1:AV}{d:t.D},QV t d v0→QV t d v1→t.wf d→ACall P g [v0,v1] H (TPost H)
theorem lit64 {n:Int}(h:I64 n):(Lit.int .i64 n).wf=true:=by
 obtain⟨h1,h2⟩:=h
 show(decide ((-9223372036854775808:Int)≤n)&&decide (n≤9223372036854775807))=true
 simp[h1,h2]
end Go.AL
namespace Go.Proofs.YtdandeekdbndgaaGreatDoor
open Go Go.AL Go.AL.Co
theorem S71:SAME Tryz.prog 69 tInts:=fun{H v0 v1 d} h0 h1 hw=>by
 have l0:=QV.lr (t:=.int) h0
 have l1:=QV.lr (t:=.int) h1
 have hw:(Ty.list .int).wf d:=hw
 have hn:I64 ((asL (t:=.int) d).length:Int):=hw.1
 refine T71 ?_
 unfold G71
 refine cmp_head l0.len l1.len ?_
 refine loop3 (n:=(asL (t:=.int) d).length) (by decide) (by decide) (by decide) rfl rfl rfl (Q:=KeepN H) (KeepN.refl H) fun i H1 J hi hq hJ=>?_
 refine cmp_idx l0.len (fun hlt=>?_) (fun _=>⟨rfl,hq⟩)
 obtain⟨a,x,a1,a2,a3⟩:=l0.at1 rfl hlt
 obtain⟨b,y,b1,b2,b3⟩:=l1.at1 rfl hlt
 have a3:[x]=[AV.int .i64 ((asL (t:=.int) d)[i]'hlt)]:=a3
 have b3:[y]=[AV.int .i64 ((asL (t:=.int) d)[i]'hlt)]:=b3
 cases a3;cases b3
 refine y_pu_of a1 (y_rd_of (a2 _) (y_pu_of b1 (y_rd_of (b2 _) ?_)))
 refine y_pu_of (neq_self _) (if_f ?_)
 exact cmp_inc hn hlt (hJ hlt _ hq)
theorem S97:SAME Tryz.prog 112 tInts:=fun{H v0 v1 d} h0 h1 hw=>by
 have l0:=QV.lr (t:=.int) h0
 have l1:=QV.lr (t:=.int) h1
 have hw:(Ty.list .int).wf d:=hw
 have hn:I64 ((asL (t:=.int) d).length:Int):=hw.1
 refine T97 ?_
 unfold G97
 refine cmp_head l0.len l1.len ?_
 refine loop3 (n:=(asL (t:=.int) d).length) (by decide) (by decide) (by decide) rfl rfl rfl (Q:=KeepN H) (KeepN.refl H) fun i H1 J hi hq hJ=>?_
 refine cmp_idx l0.len (fun hlt=>?_) (fun _=>⟨rfl,hq⟩)
 obtain⟨a,x,a1,a2,a3⟩:=l0.at1 rfl hlt
 obtain⟨b,y,b1,b2,b3⟩:=l1.at1 rfl hlt
 have a3:[x]=[AV.int .i64 ((asL (t:=.int) d)[i]'hlt)]:=a3
 have b3:[y]=[AV.int .i64 ((asL (t:=.int) d)[i]'hlt)]:=b3
 cases a3;cases b3
 refine y_pu_of a1 (y_rd_of (a2 _) (y_pu_of b1 (y_rd_of (b2 _) ?_)))
 refine y_pu_of (neq_self _) (if_f ?_)
 exact cmp_inc hn hlt (hJ hlt _ hq)
theorem S162:SAME Tryz.prog 181 (.list .bool):=fun{H v0 v1 d} h0 h1 hw=>by
 have l0:=QV.lr (t:=.bool) h0
 have l1:=QV.lr (t:=.bool) h1
 have hw:(Ty.list .bool).wf d:=hw
 have hn:I64 ((asL (t:=.bool) d).length:Int):=hw.1
 refine T162 ?_
 unfold G162
 refine cmp_head l0.len l1.len ?_
 refine loop3 (n:=(asL (t:=.bool) d).length) (by decide) (by decide) (by decide) rfl rfl rfl (Q:=KeepN H) (KeepN.refl H) fun i H1 J hi hq hJ=>?_
 refine cmp_idx l0.len (fun hlt=>?_) (fun _=>⟨rfl,hq⟩)
 obtain⟨a,x,a1,a2,a3⟩:=l0.at1 rfl hlt
 obtain⟨b,y,b1,b2,b3⟩:=l1.at1 rfl hlt
 have a3:[x]=[AV.bool ((asL (t:=.bool) d)[i]'hlt)]:=a3
 have b3:[y]=[AV.bool ((asL (t:=.bool) d)[i]'hlt)]:=b3
 cases a3;cases b3
 refine y_pu_of a1 (y_rd_of (a2 _) (y_pu_of b1 (y_rd_of (b2 _) ?_)))
 refine y_pu_of (eq_bool _) (if_f ?_)
 exact cmp_inc hn hlt (hJ hlt _ hq)
theorem S163:SAME Tryz.prog 182 (.list tBytes):=fun{H v0 v1 d} h0 h1 hw=>by
 have l0:=QV.lr (t:=tBytes) h0
 have l1:=QV.lr (t:=tBytes) h1
 have hw:(Ty.list tBytes).wf d:=hw
 have hn:I64 ((asL (t:=tBytes) d).length:Int):=hw.1
 refine T163 ?_
 unfold G163
 refine cmp_head l0.len l1.len ?_
 refine loop3 (n:=(asL (t:=tBytes) d).length) (by decide) (by decide) (by decide) rfl rfl rfl (Q:=KeepN H) (KeepN.refl H) fun i H1 J hi hq hJ=>?_
 refine cmp_idx l0.len (fun hlt=>?_) (fun _=>⟨rfl,hq⟩)
 obtain⟨a,x,a1,a2,a3⟩:=l0.at1 rfl hlt
 obtain⟨b,y,b1,b2,b3⟩:=l1.at1 rfl hlt
 have c0:=(QV.lr (t:=.byte) (l:=(asL (t:=tBytes) d)[i]'hlt) a3).bytes H1
 have c1:=(QV.lr (t:=.byte) (l:=(asL (t:=tBytes) d)[i]'hlt) b3).bytes H1
 refine y_pu_of a1 (y_rd_of (a2 _) (y_rd_of c0 (y_pu_of b1 (y_rd_of (b2 _) (y_rd_of c1 ?_)))))
 refine y_pu_of (v:=.bool false) (neq_str _) (if_f ?_)
 exact cmp_inc hn hlt (hJ hlt _ hq)
theorem S72:SAME Tryz.prog 70 (.list tInts):=fun{H v0 v1 d} h0 h1 hw=>by
 have l0:=QV.lr (t:=tInts) h0
 have l1:=QV.lr (t:=tInts) h1
 have hw:(Ty.list tInts).wf d:=hw
 have hn:I64 ((asL (t:=tInts) d).length:Int):=hw.1
 refine T72 ?_
 unfold G72
 refine cmp_head l0.len l1.len ?_
 refine loop3 (n:=(asL (t:=tInts) d).length) (by decide) (by decide) (by decide) rfl rfl rfl (Q:=KeepN H) (KeepN.refl H) fun i H1 J hi hq hJ=>?_
 refine cmp_idx l0.len (fun hlt=>?_) (fun _=>⟨rfl,hq⟩)
 obtain⟨a,x,a1,a2,a3⟩:=l0.at1 rfl hlt
 obtain⟨b,y,b1,b2,b3⟩:=l1.at1 rfl hlt
 refine y_pu_of a1 (y_rd_of (a2 _) (y_pu_of b1 (y_rd_of (b2 _) ?_)))
 refine(Sm.mk hq (L:=[]) (by simp)).call (S71 (d:=(asL (t:=tInts) d)[i]'hlt) a3 b3 (at_wf hw hlt)) fun H2 s=>un_not (if_f ?_)
 exact cmp_inc hn hlt (hJ hlt _ s.k)
theorem eq_item {n:Int}{x:UInt8}(w:I64 n):apure (.eq true (.wide (true,[(.i .i64),(.i .u8)])) (.cst (.agg ([.int .i64 n]++[bv x]))) (.cst (.agg ([.int .i64 n]++[bv x])))) emp=some (.bool false):=by
 have hx:=x.toNat_lt
 have h1:(Lit.int .i64 n).wf=true:=lit64 w
 have h2:(Lit.int .u8 (x.toNat:Int)).wf=true:=by
  show(decide ((0:Int)≤(x.toNat:Int))&&decide ((x.toNat:Int)≤255))=true
  simp;omega
 have hk:akey (true,[(.i .i64),(.i .u8)]) (.agg ([.int .i64 n]++[bv x]))=some [.int .i64 n,.int .u8 (x.toNat:Int)]:=by
  simp[akey,alits,alit,bv,h1,h2]
 have he:litsEq [.int .i64 n,.int .u8 (x.toNat:Int)] [.int .i64 n,.int .u8 (x.toNat:Int)]=true:=litsEq_iff.2 rfl
 simp only[apure,aeq,AOpd.ev,hk,he];rfl
theorem eq_piece {n:Bool}{x:UInt8}:apure (.eq true (.wide (true,[.b,(.i .u8)])) (.cst (.agg ([.bool n]++[bv x]))) (.cst (.agg ([.bool n]++[bv x])))) emp=some (.bool false):=by
 have hx:=x.toNat_lt
 have h2:(Lit.int .u8 (x.toNat:Int)).wf=true:=by
  show(decide ((0:Int)≤(x.toNat:Int))&&decide ((x.toNat:Int)≤255))=true
  simp;omega
 have hk:akey (true,[.b,(.i .u8)]) (.agg ([.bool n]++[bv x]))=some [.bool n,.int .u8 (x.toNat:Int)]:=by
  simp[akey,alits,alit,bv,h2]
 have he:litsEq [.bool n,.int .u8 (x.toNat:Int)] [.bool n,.int .u8 (x.toNat:Int)]=true:=litsEq_iff.2 rfl
 simp only[apure,aeq,AOpd.ev,hk,he];rfl
theorem eq_class {a b c d:Nat}(h1:a<2 ^ 64) (h2:b<2 ^ 64) (h3:c<2 ^ 64) (h4:d<2 ^ 64):apure (.eq true (.wide (true,[(.i .u64),(.i .u64),(.i .u64),(.i .u64)])) (.cst (.agg [.int .u64 a,.int .u64 b,.int .u64 c,.int .u64 d])) (.cst (.agg [.int .u64 a,.int .u64 b,.int .u64 c,.int .u64 d]))) emp=some (.bool false):=by
 have hw:∀n:Nat,n<2 ^ 64→(Lit.int .u64 (n:Int)).wf=true:=fun n hn=>by
  show(decide ((0:Int)≤(n:Int))&&decide ((n:Int)≤18446744073709551615))=true
  simp;omega
 have hk:akey (true,[(.i .u64),(.i .u64),(.i .u64),(.i .u64)]) (.agg [.int .u64 a,.int .u64 b,.int .u64 c,.int .u64 d])=some [.int .u64 a,.int .u64 b,.int .u64 c,.int .u64 d]:=by
  simp[akey,alits,alit,hw _ h1,hw _ h2,hw _ h3,hw _ h4]
 have he:litsEq [.int .u64 a,.int .u64 b,.int .u64 c,.int .u64 d] [.int .u64 a,.int .u64 b,.int .u64 c,.int .u64 d]=true:=litsEq_iff.2 rfl
 simp only[apure,aeq,AOpd.ev,hk,he];rfl
theorem class_cells {d:tClass.D}{c:List AV}(h:RC tClass d c):c=cw (asV (n:=32) d):=by
 obtain⟨_,h2,h3⟩:=h
 have h2:c.length=4:=h2
 match c,h2 with
 | [x0,x1,x2,x3],_=>
  have e0:=h3 0 (by omega)
  have e1:=h3 1 (by omega)
  have e2:=h3 2 (by omega)
  have e3:=h3 3 (by omega)
  simp only[List.getElem?_cons_zero,List.getElem?_cons_succ,Option.some.injEq]at e0 e1 e2 e3
  rw[e0,e1,e2,e3];rfl
theorem wd_lt (bs:List UInt8) (j:Nat):w8 ((bs.drop (8*j)).take 8)<2 ^ 64:=by
 have h:=w8_lt ((bs.drop (8*j)).take 8)
 have h2:((bs.drop (8*j)).take 8).length≤8:=by simp;omega
 exact Nat.lt_of_lt_of_le h (Nat.pow_le_pow_right (by omega) (by omega))
theorem S160:SAME Tryz.prog 179 tItems:=fun{H v0 v1 d} h0 h1 hw=>by
 have l0:=QV.lr (t:=tItem) h0
 have l1:=QV.lr (t:=tItem) h1
 have hw:(Ty.list tItem).wf d:=hw
 have hn:I64 ((asL (t:=tItem) d).length:Int):=hw.1
 refine T160 ?_
 unfold G160
 refine cmp_head l0.len l1.len ?_
 refine loop3 (n:=(asL (t:=tItem) d).length) (by decide) (by decide) (by decide) rfl rfl rfl (Q:=KeepN H) (KeepN.refl H) fun i H1 J hi hq hJ=>?_
 refine cmp_idx l0.len (fun hlt=>?_) (fun _=>⟨rfl,hq⟩)
 obtain⟨a,c,a1,a2,a3,a4,a5⟩:=l0.atA (k:=2) rfl hlt
 obtain⟨b,c',b1,b2,b3,b4,b5⟩:=l1.atA (k:=2) rfl hlt
 obtain⟨w1,_⟩:=at_wf hw hlt
 obtain⟨_,_,rfl,p1,p2⟩:=a3
 obtain⟨_,_,rfl,q1,q2⟩:=b3
 cases p1;cases p2;cases q1;cases q2
 refine y_pu_of a1 (y_rd_of (a2 _) (y_pu_of b1 (y_rd_of (b2 _) ?_)))
 refine y_pu_of (v:=.bool false) (eq_item (w:=w1)) (if_f ?_)
 exact cmp_inc hn hlt (hJ hlt _ hq)
theorem S161:SAME Tryz.prog 180 (.list tClass):=fun{H v0 v1 d} h0 h1 hw=>by
 have l0:=QV.lr (t:=tClass) h0
 have l1:=QV.lr (t:=tClass) h1
 have hw:(Ty.list tClass).wf d:=hw
 have hn:I64 ((asL (t:=tClass) d).length:Int):=hw.1
 refine T161 ?_
 unfold G161
 refine cmp_head l0.len l1.len ?_
 refine loop3 (n:=(asL (t:=tClass) d).length) (by decide) (by decide) (by decide) rfl rfl rfl (Q:=KeepN H) (KeepN.refl H) fun i H1 J hi hq hJ=>?_
 refine cmp_idx l0.len (fun hlt=>?_) (fun _=>⟨rfl,hq⟩)
 obtain⟨a,c,a1,a2,a3,a4,a5⟩:=l0.atA (k:=4) rfl hlt
 obtain⟨b,c',b1,b2,b3,b4,b5⟩:=l1.atA (k:=4) rfl hlt
 have e0:=class_cells a3
 have e1:=class_cells b3
 subst e0;subst e1
 refine y_pu_of a1 (y_rd_of (a2 _) (y_pu_of b1 (y_rd_of (b2 _) ?_)))
 refine y_pu_of (v:=.bool false) (eq_class (wd_lt _ 0) (wd_lt _ 1) (wd_lt _ 2) (wd_lt _ 3)) (if_f ?_)
 exact cmp_inc hn hlt (hJ hlt _ hq)
theorem S95:SAME Tryz.prog 110 tItems:=fun{H v0 v1 d} h0 h1 hw=>by
 refine T95 ?_
 unfold G95
 exact y_call_of (S160 h0 h1 hw) (fun v H' h=>h) (fun v H' h=>h)
theorem S74:SAME Tryz.prog 72 (.list tEqn):=fun{H v0 v1 d} h0 h1 hw=>by
 have l0:=QV.lr (t:=tEqn) h0
 have l1:=QV.lr (t:=tEqn) h1
 have hw:(Ty.list tEqn).wf d:=hw
 have hn:I64 ((asL (t:=tEqn) d).length:Int):=hw.1
 refine T74 ?_
 unfold G74
 refine cmp_head l0.len l1.len ?_
 refine loop3 (n:=(asL (t:=tEqn) d).length) (by decide) (by decide) (by decide) rfl rfl rfl (Q:=KeepN H) (KeepN.refl H) fun i H1 J hi hq hJ=>?_
 refine cmp_idx l0.len (fun hlt=>?_) (fun _=>⟨rfl,hq⟩)
 obtain⟨a,c,a1,a2,a3,a4,a5⟩:=l0.atA (k:=2) rfl hlt
 obtain⟨b,c',b1,b2,b3,b4,b5⟩:=l1.atA (k:=2) rfl hlt
 obtain⟨w1,w2⟩:=at_wf hw hlt
 have Fa:=Fld.start a3
 have Fb:=Fld.start b3
 obtain⟨x0,x1,x2⟩:=(Fld.fst Fa).list (t:=tItem)
 obtain⟨y0,y1,y2⟩:=(Fld.fst Fb).list (t:=tItem)
 obtain⟨x3,x4,x5⟩:=(Fld.snd Fa).list (t:=tItem)
 obtain⟨y3,y4,y5⟩:=(Fld.snd Fb).list (t:=tItem)
 obtain⟨a6,a7,a8⟩:=a5 0 (by omega)
 obtain⟨b6,b7,b8⟩:=b5 0 (by omega)
 obtain⟨a9,a10,a11⟩:=a5 1 (by omega)
 obtain⟨b9,b10,b11⟩:=b5 1 (by omega)
 refine y_pu_of a1 (y_pu_of a7 (y_rd_of ((a8 _).trans x1) (y_pu_of b1 (y_pu_of b7 (y_rd_of ((b8 _).trans y1) ?_)))))
 refine(Sm.mk hq (L:=[]) (by simp)).call (S95 x2 y2 w1) fun H2 s=>un_not (grp_f ?_)
 refine y_pu_of a1 (y_pu_of a10 (y_rd_of ((a11 _).trans x4) (y_pu_of b1 (y_pu_of b10 (y_rd_of ((b11 _).trans y4) ?_)))))
 refine s.call (S95 x5 y5 w2) fun H3 s=>un_not (y_pu_of (v:=.bool false) rfl (if_f ?_))
 exact cmp_inc hn hlt (hJ hlt _ s.k)
set_option maxHeartbeats 1000000 in
theorem S73:SAME Tryz.prog 71 (.list tStep):=fun{H v0 v1 d} h0 h1 hw=>by
 have l0:=QV.lr (t:=tStep) h0
 have l1:=QV.lr (t:=tStep) h1
 have hw:(Ty.list tStep).wf d:=hw
 have hn:I64 ((asL (t:=tStep) d).length:Int):=hw.1
 refine T73 ?_
 unfold G73
 refine cmp_head l0.len l1.len ?_
 refine loop3 (n:=(asL (t:=tStep) d).length) (by decide) (by decide) (by decide) rfl rfl rfl (Q:=KeepN H) (KeepN.refl H) fun i H1 J hi hq hJ=>?_
 refine cmp_idx l0.len (fun hlt=>?_) (fun _=>⟨rfl,hq⟩)
 obtain⟨a,c,a1,a2,a3,a4,a5⟩:=l0.atA (k:=8) rfl hlt
 obtain⟨b,c',b1,b2,b3,b4,b5⟩:=l1.atA (k:=8) rfl hlt
 obtain⟨w0,w1,w2⟩:=at_wf hw hlt
 have Fa0:=Fld.start a3
 have Fb0:=Fld.start b3
 have Fa1:=Fld.snd Fa0
 have Fb1:=Fld.snd Fb0
 have Fa2:=Fld.snd Fa1
 have Fb2:=Fld.snd Fb1
 have Fa3:=Fld.snd Fa2
 have Fb3:=Fld.snd Fb2
 have Fa4:=Fld.snd Fa3
 have Fb4:=Fld.snd Fb3
 have Fa5:=Fld.snd Fa4
 have Fb5:=Fld.snd Fb4
 have Fa6:=Fld.snd Fa5
 have Fb6:=Fld.snd Fb5
 have Fa7:=Fld.snd Fa6
 have Fb7:=Fld.snd Fb6
 have gx0:=(Fld.fst Fa0).int
 have gy0:=(Fld.fst Fb0).int
 obtain⟨x1,gx1,rx1⟩:=(Fld.fst Fa1).list (t:=.int)
 obtain⟨y1,gy1,ry1⟩:=(Fld.fst Fb1).list (t:=.int)
 have gx2:=(Fld.fst Fa2).int
 have gy2:=(Fld.fst Fb2).int
 have gx3:=(Fld.fst Fa3).int
 have gy3:=(Fld.fst Fb3).int
 have gx4:=(Fld.fst Fa4).int
 have gy4:=(Fld.fst Fb4).int
 have gx5:=(Fld.fst Fa5).int
 have gy5:=(Fld.fst Fb5).int
 have gx6:=(Fld.fst Fa6).int
 have gy6:=(Fld.fst Fb6).int
 have gx7:=Fa7.int
 have gy7:=Fb7.int
 have hz:((I 0)::(.nils::(rpl 6 (I 0) []))).length=8:=rfl
 refine y_pu_of a1 (y_rd_of (a2 _) ((Sm.mk hq (L:=[]) (by simp)).copy hz a4 fun q H2 s2=>?_))
 refine y_pu_of b1 (y_rd_of (b2 _) (s2.copy hz b4 fun q' H3 s3=>?_))
 refine y_pu_of (v:=.ptr q 0) rfl (s3.ld (.tail _ (.head _)) gx0 (y_pu_of (v:=.ptr q' 0) rfl (s3.ld (.head _) gy0 ?_)))
 refine y_pu_of (neq_self _) ?_
 refine grp_f (y_pu_of (v:=.ptr q 1) rfl (s3.ld (.tail _ (.head _)) gx1 (y_pu_of (v:=.ptr q' 1) rfl (s3.ld (.head _) gy1 ?_))))
 refine s3.call (S71 rx1 ry1 w1) fun H4 s4=>un_not (y_pu_of (v:=.bool false) rfl ?_)
 refine grp_f (y_pu_of (v:=.ptr q 2) rfl (s4.ld (.tail _ (.head _)) gx2 (y_pu_of (v:=.ptr q' 2) rfl (s4.ld (.head _) gy2 ?_))))
 refine y_pu_of (neq_self _) (y_pu_of (v:=.bool false) rfl ?_)
 refine grp_f (y_pu_of (v:=.ptr q 3) rfl (s4.ld (.tail _ (.head _)) gx3 (y_pu_of (v:=.ptr q' 3) rfl (s4.ld (.head _) gy3 ?_))))
 refine y_pu_of (neq_self _) (y_pu_of (v:=.bool false) rfl ?_)
 refine grp_f (y_pu_of (v:=.ptr q 4) rfl (s4.ld (.tail _ (.head _)) gx4 (y_pu_of (v:=.ptr q' 4) rfl (s4.ld (.head _) gy4 ?_))))
 refine y_pu_of (neq_self _) (y_pu_of (v:=.bool false) rfl ?_)
 refine grp_f (y_pu_of (v:=.ptr q 5) rfl (s4.ld (.tail _ (.head _)) gx5 (y_pu_of (v:=.ptr q' 5) rfl (s4.ld (.head _) gy5 ?_))))
 refine y_pu_of (neq_self _) (y_pu_of (v:=.bool false) rfl ?_)
 refine grp_f (y_pu_of (v:=.ptr q 6) rfl (s4.ld (.tail _ (.head _)) gx6 (y_pu_of (v:=.ptr q' 6) rfl (s4.ld (.head _) gy6 ?_))))
 refine y_pu_of (neq_self _) (y_pu_of (v:=.bool false) rfl ?_)
 refine grp_f (y_pu_of (v:=.ptr q 7) rfl (s4.ld (.tail _ (.head _)) gx7 (y_pu_of (v:=.ptr q' 7) rfl (s4.ld (.head _) gy7 ?_))))
 refine y_pu_of (neq_self _) (y_pu_of (v:=.bool false) rfl ?_)
 exact if_f (cmp_inc hn hlt (hJ hlt _ s4.k))
end Go.Proofs.YtdandeekdbndgaaGreatDoor
namespace Go.AL
open Co
def tDFA:Ty:=.pair (.list tClass) (.pair (.list tInts) (.list .bool))
def tMach:Ty:=.pair (.list tClass) (.pair (.list (.list tMove)) (.pair (.list .bool) (.list tBytes)))
theorem take3 {c:List AV}{o:Nat}{x y z:AV}(h1:c[o]?=some x) (h2:c[o+1]?=some y) (h3:c[o+2]?=some z):(c.drop o).take 3=[x,y,z]∧o+3≤c.length:=by
 obtain⟨a1,a2⟩:=List.getElem?_eq_some_iff.1 h1
 obtain⟨b1,b2⟩:=List.getElem?_eq_some_iff.1 h2
 obtain⟨c1,c2⟩:=List.getElem?_eq_some_iff.1 h3
 refine⟨?_,by omega⟩
 rw[List.drop_eq_getElem_cons a1,List.drop_eq_getElem_cons b1,List.drop_eq_getElem_cons c1,a2,b2,c2];rfl
theorem take4 {c:List AV}{o:Nat}{x y z u:AV}(h1:c[o]?=some x) (h2:c[o+1]?=some y) (h3:c[o+2]?=some z) (h4:c[o+3]?=some u):(c.drop o).take 4=[x,y,z,u]∧o+4≤c.length:=by
 obtain⟨a1,a2⟩:=List.getElem?_eq_some_iff.1 h1
 obtain⟨b1,b2⟩:=List.getElem?_eq_some_iff.1 h2
 obtain⟨c1,c2⟩:=List.getElem?_eq_some_iff.1 h3
 obtain⟨d1,d2⟩:=List.getElem?_eq_some_iff.1 h4
 refine⟨?_,by omega⟩
 rw[List.drop_eq_getElem_cons a1,List.drop_eq_getElem_cons b1,List.drop_eq_getElem_cons c1,List.drop_eq_getElem_cons d1,a2,b2,c2,d2];rfl
theorem QV.rc {t:Ty}{l:(Ty.list t).D}{v:AV}(h:QV (.list t) l v):RC (.list t) l [v]:=h
end Go.AL
namespace Go.Proofs.YtdandeekdbndgaaGreatDoor
open Go Go.AL Go.AL.Co
theorem S164:SAME Tryz.prog 183 tMove:=fun{H v0 v1 d} h0 h1 hw=>by
 obtain⟨c,rfl,r1⟩:=h0
 obtain⟨c',rfl,r2⟩:=h1
 obtain⟨w1,w2⟩:=hw
 have F:=Fld.start r1
 have F':=Fld.start r2
 have gx0:=(Fld.fst F).int
 have gy0:=(Fld.fst F').int
 obtain⟨x1,gx1,rx1⟩:=(Fld.snd F).list (t:=tPiece)
 obtain⟨y1,gy1,ry1⟩:=(Fld.snd F').list (t:=tPiece)
 have lx:=rx1.lr
 have ly:=ry1.lr
 have hn:I64 ((asL (t:=tPiece) d.2).length:Int):=w2.1
 refine T164 ?_
 unfold G164
 refine(Sm.start H).box (c:=c) rfl fun q H1 s1=>s1.box (c:=c') rfl fun q' H2 s2=>?_
 refine y_pu_of (v:=.ptr q 0) rfl (s2.ld (.tail _ (.head _)) gx0 (y_pu_of (v:=.ptr q' 0) rfl (s2.ld (.head _) gy0 ?_)))
 refine y_pu_of (neq_self _) (grp_f ?_)
 refine y_pu_of (v:=.ptr q 1) rfl (s2.ld (.tail _ (.head _)) gx1 (y_pu_of lx.len (y_pu_of (v:=.ptr q' 1) rfl (s2.ld (.head _) gy1 (y_pu_of ly.len ?_)))))
 refine y_pu_of (neq_self _) (y_pu_of (v:=.bool false) rfl (if_f ?_))
 refine loop3 (n:=(asL (t:=tPiece) d.2).length) (by decide) (by decide) (by decide) rfl rfl rfl (Q:=Sm H [(q',c'),(q,c)]) s2 fun i H3 J hi s hJ=>?_
 refine y_pu_of (v:=.ptr q 1) rfl (s.ld (.tail _ (.head _)) gx1 (cmp_idx lx.len (fun hlt=>?_) (fun _=>s.fin)))
 obtain⟨a,e,a1,a2,a3,a4,a5⟩:=lx.atA (k:=2) rfl hlt
 obtain⟨b,e',b1,b2,b3,b4,b5⟩:=ly.atA (k:=2) rfl hlt
 obtain⟨_,_,rfl,p1,p2⟩:=a3
 obtain⟨_,_,rfl,q1,q2⟩:=b3
 cases p1;cases p2;cases q1;cases q2
 refine y_pu_of (v:=.ptr q 1) rfl (s.ld (.tail _ (.head _)) gx1 (y_pu_of a1 (y_rd_of (a2 _) (y_pu_of (v:=.ptr q' 1) rfl (s.ld (.head _) gy1 (y_pu_of b1 (y_rd_of (b2 _) ?_)))))))
 refine y_pu_of (v:=.bool false) eq_piece (if_f ?_)
 exact cmp_inc hn hlt (hJ hlt _ s)
theorem S96:SAME Tryz.prog 111 tDFA:=fun{H v0 v1 d} h0 h1 hw=>by
 obtain⟨c,rfl,r1⟩:=h0
 obtain⟨c',rfl,r2⟩:=h1
 obtain⟨w1,w2,w3⟩:=hw
 have F:=Fld.start r1
 have F':=Fld.start r2
 obtain⟨x0,gx0,rx0⟩:=(Fld.fst F).list (t:=tClass)
 obtain⟨y0,gy0,ry0⟩:=(Fld.fst F').list (t:=tClass)
 obtain⟨x1,gx1,rx1⟩:=(Fld.fst (Fld.snd F)).list (t:=tInts)
 obtain⟨y1,gy1,ry1⟩:=(Fld.fst (Fld.snd F')).list (t:=tInts)
 obtain⟨x2,gx2,rx2⟩:=(Fld.snd (Fld.snd F)).list (t:=.bool)
 obtain⟨y2,gy2,ry2⟩:=(Fld.snd (Fld.snd F')).list (t:=.bool)
 have lx:=rx1.lr
 have ly:=ry1.lr
 have hn:I64 ((asL (t:=tInts) d.2.1).length:Int):=w2.1
 refine T96 ?_
 unfold G96
 refine(Sm.start H).box (c:=c) rfl fun q H1 s1=>s1.box (c:=c') rfl fun q' H2 s2=>?_
 refine y_pu_of (v:=.ptr q 0) rfl (s2.ld (.tail _ (.head _)) gx0 (y_pu_of (v:=.ptr q' 0) rfl (s2.ld (.head _) gy0 ?_)))
 refine s2.call (S161 rx0 ry0 w1) fun H3 s3=>un_not (grp_f ?_)
 refine y_pu_of (v:=.ptr q 2) rfl (s3.ld (.tail _ (.head _)) gx2 (y_pu_of (v:=.ptr q' 2) rfl (s3.ld (.head _) gy2 ?_)))
 refine s3.call (S162 rx2 ry2 w3) fun H4 s4=>un_not (y_pu_of (v:=.bool false) rfl (grp_f ?_))
 refine y_pu_of (v:=.ptr q 1) rfl (s4.ld (.tail _ (.head _)) gx1 (y_pu_of lx.len (y_pu_of (v:=.ptr q' 1) rfl (s4.ld (.head _) gy1 (y_pu_of ly.len ?_)))))
 refine y_pu_of (neq_self _) (y_pu_of (v:=.bool false) rfl (if_f ?_))
 refine loop3 (n:=(asL (t:=tInts) d.2.1).length) (by decide) (by decide) (by decide) rfl rfl rfl (Q:=Sm H [(q',c'),(q,c)]) s4 fun i H5 J hi s hJ=>?_
 refine y_pu_of (v:=.ptr q 1) rfl (s.ld (.tail _ (.head _)) gx1 (cmp_idx lx.len (fun hlt=>?_) (fun _=>s.fin)))
 obtain⟨a,e,a1,a2,a3⟩:=lx.at1 rfl hlt
 obtain⟨b,e',b1,b2,b3⟩:=ly.at1 rfl hlt
 refine y_pu_of (v:=.ptr q 1) rfl (s.ld (.tail _ (.head _)) gx1 (y_pu_of a1 (y_rd_of (a2 _) (y_pu_of (v:=.ptr q' 1) rfl (s.ld (.head _) gy1 (y_pu_of b1 (y_rd_of (b2 _) ?_)))))))
 refine s.call (S97 (d:=(asL (t:=tInts) d.2.1)[i]'hlt) a3 b3 (at_wf w2 hlt)) fun H6 s6=>un_not (if_f ?_)
 exact cmp_inc hn hlt (hJ hlt _ s6)
theorem S98:SAME Tryz.prog 113 tMach:=fun{H v0 v1 d} h0 h1 hw=>by
 obtain⟨c,rfl,r1⟩:=h0
 obtain⟨c',rfl,r2⟩:=h1
 obtain⟨w1,w2,w3,w4⟩:=hw
 have F:=Fld.start r1
 have F':=Fld.start r2
 obtain⟨x0,gx0,rx0⟩:=(Fld.fst F).list (t:=tClass)
 obtain⟨y0,gy0,ry0⟩:=(Fld.fst F').list (t:=tClass)
 obtain⟨x1,gx1,rx1⟩:=(Fld.fst (Fld.snd F)).list (t:=.list tMove)
 obtain⟨y1,gy1,ry1⟩:=(Fld.fst (Fld.snd F')).list (t:=.list tMove)
 obtain⟨x2,gx2,rx2⟩:=(Fld.fst (Fld.snd (Fld.snd F))).list (t:=.bool)
 obtain⟨y2,gy2,ry2⟩:=(Fld.fst (Fld.snd (Fld.snd F'))).list (t:=.bool)
 obtain⟨x3,gx3,rx3⟩:=(Fld.snd (Fld.snd (Fld.snd F))).list (t:=tBytes)
 obtain⟨y3,gy3,ry3⟩:=(Fld.snd (Fld.snd (Fld.snd F'))).list (t:=tBytes)
 have lx:=rx1.lr
 have ly:=ry1.lr
 have hn:I64 ((asL (t:=.list tMove) d.2.1).length:Int):=w2.1
 refine T98 ?_
 unfold G98
 refine(Sm.start H).box (c:=c) rfl fun q H1 s1=>s1.box (c:=c') rfl fun q' H2 s2=>?_
 refine y_pu_of (v:=.ptr q 0) rfl (s2.ld (.tail _ (.head _)) gx0 (y_pu_of (v:=.ptr q' 0) rfl (s2.ld (.head _) gy0 ?_)))
 refine s2.call (S161 rx0 ry0 w1) fun H3 s3=>un_not (grp_f ?_)
 refine y_pu_of (v:=.ptr q 2) rfl (s3.ld (.tail _ (.head _)) gx2 (y_pu_of (v:=.ptr q' 2) rfl (s3.ld (.head _) gy2 ?_)))
 refine s3.call (S162 rx2 ry2 w3) fun H4 s4=>un_not (y_pu_of (v:=.bool false) rfl (grp_f ?_))
 refine y_pu_of (v:=.ptr q 3) rfl (s4.ld (.tail _ (.head _)) gx3 (y_pu_of (v:=.ptr q' 3) rfl (s4.ld (.head _) gy3 ?_)))
 refine s4.call (S163 rx3 ry3 w4) fun H4 s4=>un_not (y_pu_of (v:=.bool false) rfl (grp_f ?_))
 refine y_pu_of (v:=.ptr q 1) rfl (s4.ld (.tail _ (.head _)) gx1 (y_pu_of lx.len (y_pu_of (v:=.ptr q' 1) rfl (s4.ld (.head _) gy1 (y_pu_of ly.len ?_)))))
 refine y_pu_of (neq_self _) (y_pu_of (v:=.bool false) rfl (if_f ?_))
 refine loop3 (n:=(asL (t:=.list tMove) d.2.1).length) (by decide) (by decide) (by decide) rfl rfl rfl (Q:=Sm H [(q',c'),(q,c)]) s4 fun i H5 J hi s hJ=>?_
 refine y_pu_of (v:=.ptr q 1) rfl (s.ld (.tail _ (.head _)) gx1 (cmp_idx lx.len (fun hlt=>?_) (fun _=>s.fin)))
 obtain⟨a,e,a1,a2,a3⟩:=lx.at1 rfl hlt
 obtain⟨b,e',b1,b2,b3⟩:=ly.at1 rfl hlt
 have mx:=lr_of a3
 have my:=lr_of b3
 obtain⟨l,hl⟩:∃l:(Ty.list tMove).D,l=(asL (t:=.list tMove) d.2.1)[i]'hlt:=⟨_,rfl⟩
 have wl:=at_wf w2 hlt
 rw[←hl]at mx my wl
 have hm:I64 ((asL (t:=tMove) l).length:Int):=wl.1
 refine y_pu_of (v:=.ptr q 1) rfl (s.ld (.tail _ (.head _)) gx1 (y_pu_of a1 (y_rd_of (a2 _) (y_pu_of mx.len (y_pu_of (v:=.ptr q' 1) rfl (s.ld (.head _) gy1 (y_pu_of b1 (y_rd_of (b2 _) (y_pu_of my.len ?_)))))))))
 refine y_pu_of (neq_self _) (if_f ?_)
 refine loop4 (n:=(asL (t:=tMove) l).length) (by decide) (by decide) (by decide) (by decide) (by decide) (by decide) rfl rfl rfl rfl (Q:=Sm H [(q',c'),(q,c)]) s fun j H6 J2 hj s6 hJ2=>?_
 refine y_pu_of (v:=.ptr q 1) rfl (s6.ld (.tail _ (.head _)) gx1 (y_pu_of a1 (y_rd_of (a2 _) (cmp_idx mx.len (fun hlt2=>?_) (fun _=>?_)))))
 ·obtain⟨u,f,u1,u2,u3,u4,u5⟩:=mx.atA (k:=2) rfl hlt2
  obtain⟨u',f',v1,v2,v3,v4,v5⟩:=my.atA (k:=2) rfl hlt2
  refine y_pu_of (v:=.ptr q 1) rfl (s6.ld (.tail _ (.head _)) gx1 (y_pu_of a1 (y_rd_of (a2 _) (y_pu_of u1 (y_rd_of (u2 _) ?_)))))
  refine y_pu_of (v:=.ptr q' 1) rfl (s6.ld (.head _) gy1 (y_pu_of b1 (y_rd_of (b2 _) (y_pu_of v1 (y_rd_of (v2 _) ?_)))))
  refine s6.call (S164 (d:=(asL (t:=tMove) l)[j]'hlt2) ⟨_,rfl,u3⟩ ⟨_,rfl,v3⟩ (at_wf wl hlt2)) fun H7 s7=>un_not (if_f ?_)
  exact cmp_inc hm hlt2 (hJ2 hlt2 _ s7)
 ·exact cmp_inc hn hlt (hJ hlt _ s6)
theorem eq_q {a b c d:Int}{e:Bool}(h1:I64 a) (h2:I64 b) (h3:I64 c) (h4:I64 d):apure (.eq false (.wide (true,[(.i .i64),(.i .i64),(.i .i64),(.i .i64),.b])) (.cst (.agg [.int .i64 a,.int .i64 b,.int .i64 c,.int .i64 d,.bool e])) (.cst (.agg [.int .i64 a,.int .i64 b,.int .i64 c,.int .i64 d,.bool e]))) emp=some (.bool true):=by
 have hk:akey (true,[(.i .i64),(.i .i64),(.i .i64),(.i .i64),.b]) (.agg [.int .i64 a,.int .i64 b,.int .i64 c,.int .i64 d,.bool e])=some [.int .i64 a,.int .i64 b,.int .i64 c,.int .i64 d,.bool e]:=by
  simp[akey,alits,alit,lit64 h1,lit64 h2,lit64 h3,lit64 h4]
 have he:litsEq [.int .i64 a,.int .i64 b,.int .i64 c,.int .i64 d,.bool e] [.int .i64 a,.int .i64 b,.int .i64 c,.int .i64 d,.bool e]=true:=litsEq_iff.2 rfl
 simp only[apure,aeq,AOpd.ev,hk,he];rfl
theorem q_cells {d:tQ.D}{c:List AV}(h:RC tQ d c):c=[.int .i64 d.1,.int .i64 d.2.1,.int .i64 d.2.2.1,.int .i64 d.2.2.2.1,.bool d.2.2.2.2]:=by
 obtain⟨_,_,rfl,p1,_,_,rfl,p2,_,_,rfl,p3,_,_,rfl,p4,p5⟩:=h
 cases p1;cases p2;cases p3;cases p4;cases p5;rfl
structure AtomF (d:tLit.D) (c:List AV):Prop where
 f0:c[0]?=some (.int .i64 d.1)
 f1:∃x,c[1]?=some x∧QV tItems d.2.1 x
 f2:∃x,c[2]?=some x∧QV tItems d.2.2.1 x
 f3:∃x,c[3]?=some x∧QV (.list tClass) d.2.2.2.1 x
 f4:∃x,c[4]?=some x∧QV (.list tInts) d.2.2.2.2.1 x
 f5:∃x,c[5]?=some x∧QV (.list .bool) d.2.2.2.2.2.1 x
 f6:∃x,c[6]?=some x∧QV tInts d.2.2.2.2.2.2.1 x
 f7:c[7]?=some (.int .i64 d.2.2.2.2.2.2.2.1)
 f8:∃x,c[8]?=some x∧QV (.list tClass) d.2.2.2.2.2.2.2.2.1 x
 f9:∃x,c[9]?=some x∧QV (.list (.list tMove)) d.2.2.2.2.2.2.2.2.2.1 x
 f10:∃x,c[10]?=some x∧QV (.list .bool) d.2.2.2.2.2.2.2.2.2.2.1 x
 f11:∃x,c[11]?=some x∧QV (.list tBytes) d.2.2.2.2.2.2.2.2.2.2.2.1 x
 f12:∃c1,(c.drop 12).take 5=c1∧12+5≤c.length∧RC tQ d.2.2.2.2.2.2.2.2.2.2.2.2.1 c1
 f13:c[17]?=some (.int .i64 d.2.2.2.2.2.2.2.2.2.2.2.2.2.1)
theorem litF {d:tLit.D}{c:List AV}(h:RC tLit d c):AtomF d c∧c[18]?=some (.bool d.2.2.2.2.2.2.2.2.2.2.2.2.2.2)∧c.length=19:=by
 have hl:=RC_len _ _ _ h
 have F0:=Fld.start h
 have F1:=Fld.snd F0
 have F2:=Fld.snd F1
 have F3:=Fld.snd F2
 have F4:=Fld.snd F3
 have F5:=Fld.snd F4
 have F6:=Fld.snd F5
 have F7:=Fld.snd F6
 have F8:=Fld.snd F7
 have F9:=Fld.snd F8
 have F10:=Fld.snd F9
 have F11:=Fld.snd F10
 have F12:=Fld.snd F11
 have F13:=Fld.snd F12
 have F14:=Fld.snd F13
 exact⟨⟨(Fld.fst F0).int,(Fld.fst F1).list (t:=tItem),(Fld.fst F2).list (t:=tItem),(Fld.fst F3).list (t:=tClass),(Fld.fst F4).list (t:=tInts),(Fld.fst F5).list (t:=.bool),(Fld.fst F6).list (t:=.int),(Fld.fst F7).int,(Fld.fst F8).list (t:=tClass),(Fld.fst F9).list (t:=.list tMove),(Fld.fst F10).list (t:=.bool),(Fld.fst F11).list (t:=tBytes),(by obtain⟨c1,e1,_,e2,e3⟩:=(Fld.fst F12).agg;exact⟨c1,e1,e2,e3⟩),(Fld.fst F13).int⟩,F14.bool,hl⟩
theorem AtomF.take {d:tLit.D}{c:List AV}(h:AtomF d c) (hl:c.length=19):AtomF d (c.take 18):=by
 have e:∀(i:Nat) (x:AV),i<18→c[i]?=some x→(c.take 18)[i]?=some x:=fun i x hi hx=>by rw[List.getElem?_take,if_pos hi];exact hx
 exact⟨e _ _ (by omega) h.f0,h.f1.imp fun x hx=>⟨e _ _ (by omega) hx.1,hx.2⟩,h.f2.imp fun x hx=>⟨e _ _ (by omega) hx.1,hx.2⟩,h.f3.imp fun x hx=>⟨e _ _ (by omega) hx.1,hx.2⟩,h.f4.imp fun x hx=>⟨e _ _ (by omega) hx.1,hx.2⟩,h.f5.imp fun x hx=>⟨e _ _ (by omega) hx.1,hx.2⟩,h.f6.imp fun x hx=>⟨e _ _ (by omega) hx.1,hx.2⟩,e _ _ (by omega) h.f7,h.f8.imp fun x hx=>⟨e _ _ (by omega) hx.1,hx.2⟩,h.f9.imp fun x hx=>⟨e _ _ (by omega) hx.1,hx.2⟩,h.f10.imp fun x hx=>⟨e _ _ (by omega) hx.1,hx.2⟩,h.f11.imp fun x hx=>⟨e _ _ (by omega) hx.1,hx.2⟩,(by obtain⟨c1,e1,e2,e3⟩:=h.f12;exact⟨c1,by rw[List.drop_take,List.take_take];exact e1,by simp;omega,e3⟩),e _ _ (by omega) h.f13⟩
set_option maxHeartbeats 1000000 in
theorem S43 {H:AH}{d:tLit.D}{c c':List AV}(F:AtomF d c) (F':AtomF d c') (hw:tLit.wf d):ACall Tryz.prog 52 [.agg c,.agg c'] H (TPost H):=by
 obtain⟨w0,w1,w2,w3,w4,w5,w6,w7,w8,w9,w10,w11,w12,w13,w14⟩:=hw
 have gx0:=F.f0
 have gy0:=F'.f0
 obtain⟨x1,gx1,rx1⟩:=F.f1
 obtain⟨y1,gy1,ry1⟩:=F'.f1
 obtain⟨x2,gx2,rx2⟩:=F.f2
 obtain⟨y2,gy2,ry2⟩:=F'.f2
 obtain⟨x3,gx3,rx3⟩:=F.f3
 obtain⟨y3,gy3,ry3⟩:=F'.f3
 obtain⟨x4,gx4,rx4⟩:=F.f4
 obtain⟨y4,gy4,ry4⟩:=F'.f4
 obtain⟨x5,gx5,rx5⟩:=F.f5
 obtain⟨y5,gy5,ry5⟩:=F'.f5
 obtain⟨x6,gx6,rx6⟩:=F.f6
 obtain⟨y6,gy6,ry6⟩:=F'.f6
 have gx7:=F.f7
 have gy7:=F'.f7
 obtain⟨x8,gx8,rx8⟩:=F.f8
 obtain⟨y8,gy8,ry8⟩:=F'.f8
 obtain⟨x9,gx9,rx9⟩:=F.f9
 obtain⟨y9,gy9,ry9⟩:=F'.f9
 obtain⟨x10,gx10,rx10⟩:=F.f10
 obtain⟨y10,gy10,ry10⟩:=F'.f10
 obtain⟨x11,gx11,rx11⟩:=F.f11
 obtain⟨y11,gy11,ry11⟩:=F'.f11
 obtain⟨x12,gx12,hx12,rx12⟩:=F.f12
 obtain⟨y12,gy12,hy12,ry12⟩:=F'.f12
 have gx13:=F.f13
 have gy13:=F'.f13
 obtain⟨tx3,ux3⟩:=take3 gx3 gx4 gx5
 obtain⟨ty3,uy3⟩:=take3 gy3 gy4 gy5
 obtain⟨tx8,ux8⟩:=take4 gx8 gx9 gx10 gx11
 obtain⟨ty8,uy8⟩:=take4 gy8 gy9 gy10 gy11
 have ex:=q_cells rx12
 have ey:=q_cells ry12
 subst ex;subst ey
 obtain⟨wa,wb,wc,wd,_⟩:=w12
 have rx3:QV tDFA (d.2.2.2.1,d.2.2.2.2.1,d.2.2.2.2.2.1) (.agg [x3,x4,x5]):=⟨_,rfl,[x3],[x4,x5],rfl,rx3.rc,[x4],[x5],rfl,rx4.rc,rx5.rc⟩
 have ry3:QV tDFA (d.2.2.2.1,d.2.2.2.2.1,d.2.2.2.2.2.1) (.agg [y3,y4,y5]):=⟨_,rfl,[y3],[y4,y5],rfl,ry3.rc,[y4],[y5],rfl,ry4.rc,ry5.rc⟩
 have rx8:QV tMach (d.2.2.2.2.2.2.2.2.1,d.2.2.2.2.2.2.2.2.2.1,d.2.2.2.2.2.2.2.2.2.2.1,d.2.2.2.2.2.2.2.2.2.2.2.1) (.agg [x8,x9,x10,x11]):=⟨_,rfl,[x8],[x9,x10,x11],rfl,rx8.rc,[x9],[x10,x11],rfl,rx9.rc,[x10],[x11],rfl,rx10.rc,rx11.rc⟩
 have ry8:QV tMach (d.2.2.2.2.2.2.2.2.1,d.2.2.2.2.2.2.2.2.2.1,d.2.2.2.2.2.2.2.2.2.2.1,d.2.2.2.2.2.2.2.2.2.2.2.1) (.agg [y8,y9,y10,y11]):=⟨_,rfl,[y8],[y9,y10,y11],rfl,ry8.rc,[y9],[y10,y11],rfl,ry9.rc,[y10],[y11],rfl,ry10.rc,ry11.rc⟩
 refine T43 ?_
 unfold G43
 refine(Sm.start H).box (c:=c) rfl fun q H1 s1=>s1.box (c:=c') rfl fun q' H2 s2=>?_
 refine y_pu_of (v:=.ptr q 0) rfl (s2.ld (.tail _ (.head _)) gx0 (y_pu_of (v:=.ptr q' 0) rfl (s2.ld (.head _) gy0 ?_)))
 refine y_pu_of (eql_self _) ?_
 refine grp_t (y_pu_of (v:=.ptr q 1) rfl (s2.ld (.tail _ (.head _)) gx1 (y_pu_of (v:=.ptr q' 1) rfl (s2.ld (.head _) gy1 ?_))))
 refine s2.call (S95 rx1 ry1 w1) fun H3 s3=>y_pu_of (v:=.bool true) rfl ?_
 refine grp_t (y_pu_of (v:=.ptr q 2) rfl (s3.ld (.tail _ (.head _)) gx2 (y_pu_of (v:=.ptr q' 2) rfl (s3.ld (.head _) gy2 ?_))))
 refine s3.call (S95 rx2 ry2 w2) fun H4 s4=>y_pu_of (v:=.bool true) rfl ?_
 refine grp_t (y_pu_of (v:=.ptr q 3) rfl (s4.ldA (.tail _ (.head _)) tx3 ux3 (y_pu_of (v:=.ptr q' 3) rfl (s4.ldA (.head _) ty3 uy3 ?_))))
 refine s4.call (S96 rx3 ry3 ⟨w3,w4,w5⟩) fun H5 s5=>y_pu_of (v:=.bool true) rfl ?_
 refine grp_t (y_pu_of (v:=.ptr q 6) rfl (y_pu_of (v:=.ptr q 6) rfl (s5.ld (.tail _ (.head _)) gx6 (y_pu_of (v:=.ptr q' 6) rfl (y_pu_of (v:=.ptr q' 6) rfl (s5.ld (.head _) gy6 ?_))))))
 refine s5.call (S97 rx6 ry6 w6) fun H6 s6=>y_pu_of (v:=.bool true) rfl ?_
 refine grp_t (y_pu_of (v:=.ptr q 6) rfl (y_pu_of (v:=.ptr q 7) rfl (s6.ld (.tail _ (.head _)) gx7 (y_pu_of (v:=.ptr q' 6) rfl (y_pu_of (v:=.ptr q' 7) rfl (s6.ld (.head _) gy7 ?_))))))
 refine y_pu_of (eql_self _) (y_pu_of (v:=.bool true) rfl ?_)
 refine grp_t (y_pu_of (v:=.ptr q 8) rfl (s6.ldA (.tail _ (.head _)) tx8 ux8 (y_pu_of (v:=.ptr q' 8) rfl (s6.ldA (.head _) ty8 uy8 ?_))))
 refine s6.call (S98 rx8 ry8 ⟨w8,w9,w10,w11⟩) fun H7 s7=>y_pu_of (v:=.bool true) rfl ?_
 refine grp_t (y_pu_of (v:=.ptr q 12) rfl (s7.ldA (.tail _ (.head _)) gx12 hx12 (y_pu_of (v:=.ptr q' 12) rfl (s7.ldA (.head _) gy12 hy12 ?_))))
 refine y_pu_of (eq_q wa wb wc wd) (y_pu_of (v:=.bool true) rfl ?_)
 refine grp_t (y_pu_of (v:=.ptr q 17) rfl (s7.ld (.tail _ (.head _)) gx13 (y_pu_of (v:=.ptr q' 17) rfl (s7.ld (.head _) gy13 ?_))))
 refine y_pu_of (eql_self _) (y_pu_of (v:=.bool true) rfl ?_)
 exact s7.fin
end Go.Proofs.YtdandeekdbndgaaGreatDoor
namespace Go.Proofs.YtdandeekdbndgaaGreatDoor
open Go Go.AL Go.AL.Co
theorem S13:SAME Tryz.prog 16 tLit:=fun{H v0 v1 d} h0 h1 hw=>by
 obtain⟨c,rfl,r1⟩:=h0
 obtain⟨c',rfl,r2⟩:=h1
 obtain⟨F,gx,lx⟩:=litF r1
 obtain⟨F',gy,ly⟩:=litF r2
 refine T13 ?_
 unfold G13
 refine(Sm.start H).box (c:=c) rfl fun q H1 s1=>s1.box (c:=c') rfl fun q' H2 s2=>?_
 refine y_pu_of (v:=.ptr q 18) rfl (s2.ld (.tail _ (.head _)) gx (y_pu_of (v:=.ptr q' 18) rfl (s2.ld (.head _) gy ?_)))
 refine y_pu_of (eq_bool' _) (grp_t ?_)
 refine y_pu_of (v:=.ptr q 0) rfl (s2.ldA (.tail _ (.head _)) (c1:=c.take 18) (by rw[List.drop_zero]) (by omega) (y_pu_of (v:=.ptr q' 0) rfl (s2.ldA (.head _) (c1:=c'.take 18) (by rw[List.drop_zero]) (by omega) ?_)))
 refine s2.call (S43 (F.take lx) (F'.take ly) hw) fun H3 s3=>y_pu_of (v:=.bool true) rfl ?_
 exact s3.fin
set_option maxHeartbeats 1000000 in
theorem S30:SAME Tryz.prog 25 tNode:=fun{H v0 v1 d} h0 h1 hw=>by
 obtain⟨c,rfl,r1⟩:=h0
 obtain⟨c',rfl,r2⟩:=h1
 obtain⟨w0,w1,w2,w3,w4,w5,w6,w7,w8⟩:=hw
 have F0:=Fld.start r1
 have K0:=Fld.start r2
 have F1:=Fld.snd F0
 have K1:=Fld.snd K0
 have F2:=Fld.snd F1
 have K2:=Fld.snd K1
 have F3:=Fld.snd F2
 have K3:=Fld.snd K2
 have F4:=Fld.snd F3
 have K4:=Fld.snd K3
 have F5:=Fld.snd F4
 have K5:=Fld.snd K4
 have F6:=Fld.snd F5
 have K6:=Fld.snd K5
 have F7:=Fld.snd F6
 have K7:=Fld.snd K6
 have F8:=Fld.snd F7
 have K8:=Fld.snd K7
 have gx0:=(Fld.fst F0).int
 have gy0:=(Fld.fst K0).int
 have gx1:=(Fld.fst F1).int
 have gy1:=(Fld.fst K1).int
 have gx2:=(Fld.fst F2).int
 have gy2:=(Fld.fst K2).int
 have gx3:=(Fld.fst F3).int
 have gy3:=(Fld.fst K3).int
 obtain⟨x4,gx4,lx4,hx4,rx4⟩:=(Fld.fst F4).agg
 obtain⟨y4,gy4,ly4,hy4,ry4⟩:=(Fld.fst K4).agg
 obtain⟨x5,gx5,rx5⟩:=(Fld.fst F5).list (t:=.int)
 obtain⟨y5,gy5,ry5⟩:=(Fld.fst K5).list (t:=.int)
 obtain⟨x6,gx6,rx6⟩:=(Fld.fst F6).list (t:=tInts)
 obtain⟨y6,gy6,ry6⟩:=(Fld.fst K6).list (t:=tInts)
 obtain⟨x7,gx7,rx7⟩:=(Fld.fst F7).list (t:=tStep)
 obtain⟨y7,gy7,ry7⟩:=(Fld.fst K7).list (t:=tStep)
 obtain⟨x8,gx8,rx8⟩:=F8.list (t:=tEqn)
 obtain⟨y8,gy8,ry8⟩:=K8.list (t:=tEqn)
 refine T30 ?_
 unfold G30
 refine(Sm.start H).box (c:=c) rfl fun q H1 s1=>s1.box (c:=c') rfl fun q' H2 s2=>?_
 refine y_pu_of (v:=.ptr q 0) rfl (s2.ld (.tail _ (.head _)) gx0 (y_pu_of (v:=.ptr q' 0) rfl (s2.ld (.head _) gy0 ?_)))
 refine y_pu_of (eql_self _) ?_
 refine grp_t (y_pu_of (v:=.ptr q 1) rfl (s2.ld (.tail _ (.head _)) gx1 (y_pu_of (v:=.ptr q' 1) rfl (s2.ld (.head _) gy1 ?_))))
 refine y_pu_of (eql_self _) (y_pu_of (v:=.bool true) rfl ?_)
 refine grp_t (y_pu_of (v:=.ptr q 2) rfl (s2.ld (.tail _ (.head _)) gx2 (y_pu_of (v:=.ptr q' 2) rfl (s2.ld (.head _) gy2 ?_))))
 refine y_pu_of (eql_self _) (y_pu_of (v:=.bool true) rfl ?_)
 refine grp_t (y_pu_of (v:=.ptr q 3) rfl (s2.ld (.tail _ (.head _)) gx3 (y_pu_of (v:=.ptr q' 3) rfl (s2.ld (.head _) gy3 ?_))))
 refine y_pu_of (eql_self _) (y_pu_of (v:=.bool true) rfl ?_)
 refine grp_t (y_pu_of (v:=.ptr q 4) rfl (s2.ldA (.tail _ (.head _)) gx4 hx4 (y_pu_of (v:=.ptr q' 4) rfl (s2.ldA (.head _) gy4 hy4 ?_))))
 refine s2.call (S13 ⟨_,rfl,rx4⟩ ⟨_,rfl,ry4⟩ w4) fun H3 s3=>y_pu_of (v:=.bool true) rfl ?_
 refine grp_t (y_pu_of (v:=.ptr q 23) rfl (s3.ld (.tail _ (.head _)) gx5 (y_pu_of (v:=.ptr q' 23) rfl (s3.ld (.head _) gy5 ?_))))
 refine s3.call (S71 rx5 ry5 w5) fun H4 s4=>y_pu_of (v:=.bool true) rfl ?_
 refine grp_t (y_pu_of (v:=.ptr q 24) rfl (s4.ld (.tail _ (.head _)) gx6 (y_pu_of (v:=.ptr q' 24) rfl (s4.ld (.head _) gy6 ?_))))
 refine s4.call (S72 rx6 ry6 w6) fun H5 s5=>y_pu_of (v:=.bool true) rfl ?_
 refine grp_t (y_pu_of (v:=.ptr q 25) rfl (s5.ld (.tail _ (.head _)) gx7 (y_pu_of (v:=.ptr q' 25) rfl (s5.ld (.head _) gy7 ?_))))
 refine s5.call (S73 rx7 ry7 w7) fun H6 s6=>y_pu_of (v:=.bool true) rfl ?_
 refine grp_t (y_pu_of (v:=.ptr q 26) rfl (s6.ld (.tail _ (.head _)) gx8 (y_pu_of (v:=.ptr q' 26) rfl (s6.ld (.head _) gy8 ?_))))
 refine s6.call (S74 rx8 ry8 w8) fun H7 s7=>y_pu_of (v:=.bool true) rfl ?_
 exact s7.fin
theorem S8:SAME Tryz.prog 8 tProof:=fun{H v0 v1 d} h0 h1 hw=>by
 have l0:=QV.lr (t:=tNode) h0
 have l1:=QV.lr (t:=tNode) h1
 have hw:(Ty.list tNode).wf d:=hw
 have hn:I64 ((asL (t:=tNode) d).length:Int):=hw.1
 refine T8 ?_
 unfold G8
 refine cmp_head l0.len l1.len ?_
 refine loop3 (n:=(asL (t:=tNode) d).length) (by decide) (by decide) (by decide) rfl rfl rfl (Q:=KeepN H) (KeepN.refl H) fun i H1 J hi hq hJ=>?_
 refine cmp_idx l0.len (fun hlt=>?_) (fun _=>⟨rfl,hq⟩)
 obtain⟨a,c,a1,a2,a3,a4,a5⟩:=l0.atA (k:=27) rfl hlt
 obtain⟨b,c',b1,b2,b3,b4,b5⟩:=l1.atA (k:=27) rfl hlt
 refine y_pu_of a1 (y_rd_of (a2 _) (y_pu_of b1 (y_rd_of (b2 _) ?_)))
 refine(Sm.mk hq (L:=[]) (by simp)).call (S30 (d:=(asL (t:=tNode) d)[i]'hlt) ⟨_,rfl,a3⟩ ⟨_,rfl,b3⟩ (at_wf hw hlt)) fun H2 s=>un_not (if_f ?_)
 exact cmp_inc hn hlt (hJ hlt _ s.k)
end Go.Proofs.YtdandeekdbndgaaGreatDoor
namespace Go.AL
open Co
theorem loop2 {a c n:Nat}{e0:Env}{H0:AH}{x:AV}{body:JP [a,c]→JP [a,c]}(hac:a≠c) (ha:e0 a=x) (hc:e0 c=.int .i64 ((0:Nat):Int)){Q:AH→Prop}(h0:Q H0)
  (hbody:∀(i:Nat) (H:AH) (J:AV→AV→AH→Prop),i≤n→Q H→(i<n→∀H',Q H'→J x (.int .i64 ((i+1:Nat):Int)) H')→(body J:AV→AV→AH→Prop) x (.int .i64 (i:Int)) H):y_loop [a,c] body e0 H0:=by
 let Iv:AV→AV→AH→Prop:=fun u w H'=>u=x∧∃i:Nat,w=.int .i64 (i:Int)∧i≤n∧Q H'
 let μ:AV→AV→AH→Nat:=fun _ w _=>match w with
  | .int _ j=>(n-j).toNat
  | _=>0
 refine⟨Iv,μ,⟨ha,0,hc,Nat.zero_le _,h0⟩,?_⟩
 intro e H hI
 obtain⟨e1,i,e3,hi,hq⟩:=(hI:Iv (e a) (e c) H)
 show(body _:AV→AV→AH→Prop) (e a) (e c) H
 rw[e1,e3]
 refine hbody i H _ hi hq fun hlt H' hq'=>?_
 obtain⟨E,hE⟩:∃E,E=(emp.set a x).set c (.int .i64 ((i+1:Nat):Int)):=⟨_,rfl⟩
 have g1:E a=x:=by simp[hE,Env.set_get,hac]
 have g3:E c=.int .i64 ((i+1:Nat):Int):=by simp[hE,Env.set_get]
 have:Iv (E a) (E c) H'∧μ (E a) (E c) H'<μ (e a) (e c) H:=by
  rw[g1,g3,e3]
  refine⟨⟨rfl,i+1,rfl,hlt,hq'⟩,?_⟩
  show((n:Int)-((i+1:Nat):Int)).toNat<((n:Int)-(i:Int)).toNat
  omega
 rw[hE]at this
 exact this
theorem grp_s {T:Type}{J:T}{A B:T→Prop}(h:B J):y_grp false (.bool true) J A B:=⟨fun h=>by simp at h,fun _=>h⟩
theorem grp_st {T:Type}{J:T}{A B:T→Prop}(h:B J):y_grp true (.bool false) J A B:=⟨fun h=>by simp at h,fun _=>h⟩
theorem gtr_ok {n m:Int}:apure (.bin .gtr (.cst (.int .i64 n)) (.cst (.int .i64 m))) emp=some (.bool (decide (n>m))):=rfl
theorem gtr_ex {n m:Int}{K:AV→Prop}(hK:∀b,K (.bool b)):y_pu (.bin .gtr (.cst (.int .i64 n)) (.cst (.int .i64 m))) K:=y_pu_of gtr_ok (hK _)
def BPost (H:AH):AOut→AH→Prop:=fun o H'=>(∃t,o=.ret (.bool t))∧KeepN H H'
end Go.AL
namespace Go.Proofs.YtdandeekdbndgaaGreatDoor
open Go Go.AL Go.AL.Co
set_option maxHeartbeats 1000000 in
theorem P5 {H:AH}{v0:AV}{d:tProof.D}(h0:QV tProof d v0) (hw:tProof.wf d):ACall Tryz.prog 5 [v0] H (BPost H):=by
 have l0:=QV.lr (t:=tNode) h0
 have hw:(Ty.list tNode).wf d:=hw
 have hn:I64 ((asL (t:=tNode) d).length:Int):=hw.1
 refine T5 ?_
 unfold G5
 generalize hz:(rpl 5 (I 0) (rpl 6 .nils ((I 0)::(rpl 4 .nils (rpl 4 (I 0) ((.bool false)::((I 0)::((.bool false)::(rpl 4 .nils [])))))))))=z
 have hzl:z.length=27:=by rw[←hz];rfl
 refine y_pu_of l0.len (y_pu_of gtr_ok (y_if0_of (fun _=>⟨⟨_,rfl⟩,KeepN.refl _⟩) fun _=>?_))
 refine loop2 (n:=(asL (t:=tNode) d).length) (by decide) rfl rfl (Q:=KeepN H) (KeepN.refl H) fun i H1 J hi hq hJ=>?_
 refine cmp_idx l0.len (fun hlt=>?_) (fun _=>⟨⟨_,rfl⟩,hq⟩)
 obtain⟨a,c,a1,a2,a3,a4,a5⟩:=l0.atA (k:=27) rfl hlt
 generalize (asL (t:=tNode) d)[i]'hlt=x at a3
 have F0:=Fld.start a3
 have F1:=Fld.snd F0
 have F2:=Fld.snd F1
 have F3:=Fld.snd F2
 have F4:=Fld.snd F3
 have F5:=Fld.snd F4
 have F6:=Fld.snd F5
 have F7:=Fld.snd F6
 have F8:=Fld.snd F7
 obtain⟨c4,g4,_,_,r4⟩:=(Fld.fst F4).agg
 have g4:(c.drop 4).take 19=c4:=g4
 obtain⟨A,_,_⟩:=litF r4
 have gl:∀(j:Nat) (y:AV),j<19→c4[j]?=some y→c[4+j]?=some y:=fun j y hj hy=>by
  rw[←g4,List.getElem?_take,if_pos hj,List.getElem?_drop]at hy
  exact hy
 obtain⟨x5,gx5,rx5⟩:=(Fld.fst F5).list (t:=.int)
 obtain⟨x6,gx6,rx6⟩:=(Fld.fst F6).list (t:=tInts)
 obtain⟨x7,gx7,rx7⟩:=(Fld.fst F7).list (t:=tStep)
 obtain⟨x8,gx8,rx8⟩:=F8.list (t:=tEqn)
 obtain⟨y1,gy1,ry1⟩:=A.f1
 have gy1:=gl 1 _ (by omega) gy1
 obtain⟨y2,gy2,ry2⟩:=A.f2
 have gy2:=gl 2 _ (by omega) gy2
 obtain⟨y4,gy4,ry4⟩:=A.f4
 have gy4:=gl 4 _ (by omega) gy4
 obtain⟨y9,gy9,ry9⟩:=A.f9
 have gy9:=gl 9 _ (by omega) gy9
 refine y_pu_of a1 (y_rd_of (a2 _) ((Sm.mk hq (L:=[]) (by simp)).copy hzl a4 fun q H2 s=>?_))
 refine y_pu_of (v:=.ptr q 23) rfl ?_
 refine s.ld (.head _) gx5 (y_pu_of rx5.lr.len (gtr_ex fun b=>?_))
 cases b with
 | true=>
  refine grp_s (y_pu_of (v:=.bool true) rfl ?_)
  refine grp_s (y_pu_of (v:=.bool true) rfl ?_)
  refine grp_s (y_pu_of (v:=.bool true) rfl ?_)
  refine grp_s (y_pu_of (v:=.bool true) rfl ?_)
  refine grp_s (y_pu_of (v:=.bool true) rfl ?_)
  refine grp_s (y_pu_of (v:=.bool true) rfl ?_)
  refine grp_s (y_pu_of (v:=.bool true) rfl ?_)
  exact if_t ⟨⟨_,rfl⟩,s.k⟩
 | false=>
  refine grp_f ?_
  refine y_pu_of (v:=.ptr q 24) rfl ?_
  refine s.ld (.head _) gx6 (y_pu_of rx6.lr.len (gtr_ex fun b=>?_))
  refine y_pu_of (v:=.bool b) rfl ?_
  cases b with
  | true=>
   refine grp_s (y_pu_of (v:=.bool true) rfl ?_)
   refine grp_s (y_pu_of (v:=.bool true) rfl ?_)
   refine grp_s (y_pu_of (v:=.bool true) rfl ?_)
   refine grp_s (y_pu_of (v:=.bool true) rfl ?_)
   refine grp_s (y_pu_of (v:=.bool true) rfl ?_)
   refine grp_s (y_pu_of (v:=.bool true) rfl ?_)
   exact if_t ⟨⟨_,rfl⟩,s.k⟩
  | false=>
   refine grp_f ?_
   refine y_pu_of (v:=.ptr q 25) rfl ?_
   refine s.ld (.head _) gx7 (y_pu_of rx7.lr.len (gtr_ex fun b=>?_))
   refine y_pu_of (v:=.bool b) rfl ?_
   cases b with
   | true=>
    refine grp_s (y_pu_of (v:=.bool true) rfl ?_)
    refine grp_s (y_pu_of (v:=.bool true) rfl ?_)
    refine grp_s (y_pu_of (v:=.bool true) rfl ?_)
    refine grp_s (y_pu_of (v:=.bool true) rfl ?_)
    refine grp_s (y_pu_of (v:=.bool true) rfl ?_)
    exact if_t ⟨⟨_,rfl⟩,s.k⟩
   | false=>
    refine grp_f ?_
    refine y_pu_of (v:=.ptr q 26) rfl ?_
    refine s.ld (.head _) gx8 (y_pu_of rx8.lr.len (gtr_ex fun b=>?_))
    refine y_pu_of (v:=.bool b) rfl ?_
    cases b with
    | true=>
     refine grp_s (y_pu_of (v:=.bool true) rfl ?_)
     refine grp_s (y_pu_of (v:=.bool true) rfl ?_)
     refine grp_s (y_pu_of (v:=.bool true) rfl ?_)
     refine grp_s (y_pu_of (v:=.bool true) rfl ?_)
     exact if_t ⟨⟨_,rfl⟩,s.k⟩
    | false=>
     refine grp_f ?_
     refine y_pu_of (v:=.ptr q 4) rfl ?_
     refine y_pu_of (v:=.ptr q 4) rfl ?_
     refine y_pu_of (v:=.ptr q 5) rfl ?_
     refine s.ld (.head _) gy1 (y_pu_of ry1.lr.len (gtr_ex fun b=>?_))
     refine y_pu_of (v:=.bool b) rfl ?_
     cases b with
     | true=>
      refine grp_s (y_pu_of (v:=.bool true) rfl ?_)
      refine grp_s (y_pu_of (v:=.bool true) rfl ?_)
      refine grp_s (y_pu_of (v:=.bool true) rfl ?_)
      exact if_t ⟨⟨_,rfl⟩,s.k⟩
     | false=>
      refine grp_f ?_
      refine y_pu_of (v:=.ptr q 4) rfl ?_
      refine y_pu_of (v:=.ptr q 4) rfl ?_
      refine y_pu_of (v:=.ptr q 6) rfl ?_
      refine s.ld (.head _) gy2 (y_pu_of ry2.lr.len (gtr_ex fun b=>?_))
      refine y_pu_of (v:=.bool b) rfl ?_
      cases b with
      | true=>
       refine grp_s (y_pu_of (v:=.bool true) rfl ?_)
       refine grp_s (y_pu_of (v:=.bool true) rfl ?_)
       exact if_t ⟨⟨_,rfl⟩,s.k⟩
      | false=>
       refine grp_f ?_
       refine y_pu_of (v:=.ptr q 4) rfl ?_
       refine y_pu_of (v:=.ptr q 4) rfl ?_
       refine y_pu_of (v:=.ptr q 7) rfl ?_
       refine y_pu_of (v:=.ptr q 8) rfl ?_
       refine s.ld (.head _) gy4 (y_pu_of ry4.lr.len (gtr_ex fun b=>?_))
       refine y_pu_of (v:=.bool b) rfl ?_
       cases b with
       | true=>
        refine grp_s (y_pu_of (v:=.bool true) rfl ?_)
        exact if_t ⟨⟨_,rfl⟩,s.k⟩
       | false=>
        refine grp_f ?_
        refine y_pu_of (v:=.ptr q 4) rfl ?_
        refine y_pu_of (v:=.ptr q 4) rfl ?_
        refine y_pu_of (v:=.ptr q 12) rfl ?_
        refine y_pu_of (v:=.ptr q 13) rfl ?_
        refine s.ld (.head _) gy9 (y_pu_of ry9.lr.len (gtr_ex fun b=>?_))
        refine y_pu_of (v:=.bool b) rfl ?_
        cases b with
        | true=>
         exact if_t ⟨⟨_,rfl⟩,s.k⟩
        | false=>
         exact if_f (cmp_inc hn hlt (hJ hlt _ s.k))
end Go.Proofs.YtdandeekdbndgaaGreatDoor
