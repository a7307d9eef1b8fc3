import Derived.Test.YtlmkmpomgdbjhaaGreatDoorRows
import Derived.Lib.LaidTab
import Derived.Test.YtlmkmpomgdbjhaaGreatDoorCards
import Derived.WalkKit
import Derived.ProofKit
import Derived.OpenShut
import Derived.Deep.DeepHandedRow
import Derived.ReadAgain
import Derived.Test.YtlmkmpomgdbjhaaGreatDoorZa19
import Derived.Test.YtlmkmpomgdbjhaaGreatDoorZa21
/-
  a part of the proof.
-/
set_option linter.unusedSectionVars false
set_option linter.unusedVariables false
set_option linter.unusedSimpArgs false
namespace Go.AL
section
open Co
open Go.Proofs.YtlmkmpomgdbjhaaGreatDoor.Rows (uptoBulk uptoBulkAll)
variable [BQ]
theorem ba:∀(k u:Nat),u<128 ^ (k+1)->(MG u).length<=k+1:=by
 intro k
 induction k with
 | zero=>
  intro u hu
  unfold MG
  rw[if_pos (by omega)];simp
 | succ k ih=>
  intro u hu
  unfold MG
  split
  ·simp
  ·have h1:u / 128<128 ^ (k+1):=Nat.div_lt_of_lt_mul (by rw[HS,<- Iu];exact hu)
   have:=ih (u / 128) h1
   simp only[Be];omega
theorem P_ {n:Int}(h:Q0 n):(Ba n).length<=10:=ba 9 _ (C6 (kz h) (by decide))
section
variable {H:Type}{enc:TypeId × Value->H}{P:Program}{W:World}{Z:Zt}{σ:Sg}
def RD (enc:TypeId × Value->H) (P:Program) (W:World) (Z:Zt) (σ:Sg) (t:TypeId) (τ:Ty):Prop:=∀(fuel:Nat) (cs:List Value) (D:DataW H) (ps:List MemPlace),DataW.trod enc P W 0 (fun _=>true) true fuel t cs=some (D,ps) ->
 ∃(d:τ.D) (l:List AV),RC τ d l/\CC Z σ l cs/\(∀v∈cs,v.oneCell'=true)/\τ.wf d/\(τ.enc d).length<=40*uptoBulk D
theorem El {t:TypeId}{cs:List Value}{x:DataW H × List MemPlace}(h:DataW.trod enc P W 0 (fun _=>true) true 0 t cs=some x):False:=by
 simp[DataW.trod]at h
theorem RD.int {t:TypeId}(ht:P.underlying t=some (.int .i64)):RD enc P W Z σ t .int:=fun fuel cs D ps h=>by
 cases fuel with
 | zero=>exact(El h).elim
 | succ fuel=>
  cases cs with
  | nil=>simp[DataW.trod,ht]at h
  | cons v rest=>
   cases rest with
   | cons _ _=>simp[DataW.trod,ht]at h
   | nil=>
    cases v<;>simp[DataW.trod,ht]at h
    rename_i k n
    obtain⟨⟨rfl,hw⟩,rfl,rfl⟩:=h
    have hw':Q0 n:=by
     have:(decide ((-9223372036854775808:Int)<=n)&&decide (n<=9223372036854775807))=true:=hw
     simp at this;exact this
    refine⟨n,[.int .i64 n],rfl,.cons (.int _ _) .nil,fun v hv=>by simp at hv;subst hv;rfl,hw',?_⟩
    have:=P_ hw'
    show(Ba n).length<=40*1
    omega
theorem RD.byte {t:TypeId}(ht:P.underlying t=some (.int .u8)):RD enc P W Z σ t .byte:=fun fuel cs D ps h=>by
 cases fuel with
 | zero=>exact(El h).elim
 | succ fuel=>
  cases cs with
  | nil=>simp[DataW.trod,ht]at h
  | cons v rest=>
   cases rest with
   | cons _ _=>simp[DataW.trod,ht]at h
   | nil=>
    cases v<;>simp[DataW.trod,ht]at h
    rename_i k n
    obtain⟨⟨rfl,hw⟩,rfl,rfl⟩:=h
    have hw':0<=n/\n<=255:=by
     have:(decide ((0:Int)<=n)&&decide (n<=255))=true:=hw
     simp at this;exact this
    have e:bv (UInt8.ofNat n.toNat)=.int .u8 n:=by
     have:(UInt8.ofNat n.toNat).toNat=n.toNat:=by simp;omega
     unfold bv;rw[this,Int.toNat_of_nonneg hw'.1]
    refine⟨UInt8.ofNat n.toNat,[.int .u8 n],by show _=[bv _];rw[e],.cons (.int _ _) .nil,fun v hv=>by simp at hv;subst hv;rfl,trivial,?_⟩
    show 1<=40*1
    omega
theorem RD.bool {t:TypeId}(ht:P.underlying t=some .bool):RD enc P W Z σ t .bool:=fun fuel cs D ps h=>by
 cases fuel with
 | zero=>exact(El h).elim
 | succ fuel=>
  cases cs with
  | nil=>simp[DataW.trod,ht]at h
  | cons v rest=>
   cases rest with
   | cons _ _=>simp[DataW.trod,ht]at h
   | nil=>
    cases v<;>simp[DataW.trod,ht]at h
    rename_i b
    obtain⟨rfl,rfl⟩:=h
    refine⟨b,[.bool b],rfl,.cons (.bool _) .nil,fun v hv=>by simp at hv;subst hv;rfl,trivial,?_⟩
    show 1<=40*1
    omega
theorem YO:∀{k:Nat}{a:Addr}{cs:List Value},0<k->W.cells? 0 a k=some cs->∃c e fr,W.heap[a.block]?=some (.cells c e fr)/\a.spot=none/\cs=(c.toList.drop a.off).take k/\a.off+k<=c.size:=fun{k a cs} hk h=>by
 unfold World.cells? at h
 rw[if_pos (TM _)]at h
 have hl:cs.length=k:=by have:=Lib.mapM_length h;simpa using this
 have hat:∀i,i<k->∃v,cs[i]?=some v/\W.cell? (a.add i)=some v:=fun i hi=>Lib.mapM_at h i i (by simp[hi])
 obtain⟨v0,_,h0⟩:=hat 0 hk
 have ha0:a.add 0=a:=rfl
 rw[ha0]at h0
 unfold World.cell? at h0
 split at h0
 ·rename_i c e fr hb
  split at h0
  ·cases h0
  ·rename_i hs
   have hs:a.spot=none:=by cases hsp:a.spot<;>simp_all
   have hcell:∀i,i<k->cs[i]?=c[a.off+i]?:=fun i hi=>by
    obtain⟨v,q1,q2⟩:=hat i hi
    rw[q1]
    have e1:(a.add i).block=a.block/\(a.add i).spot=none/\(a.add i).off=a.off+i:=by
     unfold Addr.add
     split
     ·rename_i hz;subst hz;exact⟨rfl,hs,rfl⟩
     ·exact⟨rfl,rfl,rfl⟩
    unfold World.cell? at q2
    rw[e1.1,hb,e1.2.1,e1.2.2]at q2
    simpa using q2.symm
   have hsz:a.off+k<=c.size:=by
    obtain⟨v,q1,_⟩:=hat (k-1) (by omega)
    have:=hcell (k-1) (by omega)
    rw[q1]at this
    have:=(Aj.1 this.symm).1
    omega
   refine⟨c,e,fr,hb,hs,I_ fun i=>?_,hsz⟩
   rcases CT i k with hi | hi
   ·rw[hcell i hi,D0,if_pos hi,DD];simp
   ·rw[BT (by omega),BT (by simp;omega)]
 ·cases h0
theorem Ur:∀(a b:List (DataW H)),uptoBulkAll (a++b)=uptoBulkAll a+uptoBulkAll b
 | [],b=>by simp[uptoBulkAll]
 | x::a,b=>by
  show uptoBulk x+uptoBulkAll (a++b)=uptoBulk x+uptoBulkAll a+uptoBulkAll b
  rw[Ur a b];omega
theorem bu (x:DataW H):uptoBulkAll [x]=uptoBulk x:=by simp[uptoBulkAll]
set_option maxHeartbeats 1000000 in
theorem RD.list {t e:TypeId}{τ:Ty}(hZ:∀b o,W.heap[b]?=some o->Z b=some o) (ht:P.underlying t=some (.slice e)) (hc:P.cellsOf e=Dd τ) (hp:0<Dd τ) (hE:RD enc P W Z σ e τ):RD enc P W Z σ t (.list τ):=fun fuel cs D ps h=>by
 cases fuel with
 | zero=>exact(El h).elim
 | succ fuel=>
  cases cs with
  | nil=>simp[DataW.trod,ht]at h
  | cons v rest=>
   cases rest with
   | cons _ _=>simp[DataW.trod,ht]at h
   | nil=>
    cases v<;>try (simp[DataW.trod,ht]at h;done)
    rename_i base len cap
    cases base with
    | none=>
     have hz:len=0/\cap=0/\D=.nil:=by
      cases len with
      | zero=>cases cap with
       | zero=>simp[DataW.trod,ht]at h;exact⟨rfl,rfl,h.1.symm⟩
       | succ _=>simp[DataW.trod,ht]at h
      | succ _=>simp[DataW.trod,ht]at h
     obtain⟨rfl,rfl,rfl⟩:=hz
     refine⟨([]:List τ.D),[.nils],⟨.nils,[],rfl,.nil,[],rfl,rfl,fun i x y hx=>by simp[GA]at hx⟩,.cons .nils .nil,fun v hv=>by simp at hv;subst hv;rfl,⟨by show Q0 0;unfold Q0;omega,fun x hx=>by simp[GA]at hx⟩,?_⟩
     have:=P_ (n:=0) (by unfold Q0;omega)
     show(Ba 0++[]).length<=40*1
     rw[DJ];omega
    | some a=>
     simp only[DataW.trod,ht]at h
     split at h
     ·rename_i hcond
      simp only[C5,AP,Ao]at h
      obtain⟨elems,hm,rest,hr,rfl,_⟩:=h
      have hlen:elems.length=len:=by have:=Lib.mapM_length hm;simpa using this
      have hat:∀i,i<len->∃x,elems[i]?=some x/\((W.cells? 0 (a.add (i*P.cellsOf e)) (P.cellsOf e)).bind (DataW.trod enc P W 0 (fun _=>true) true fuel e))=some x:=fun i hi=>Lib.mapM_at hm i i (by simp[hi])
      have key:∀n,n<=len->∃(ds:List τ.D) (css:List (List AV)),ds.length=n/\css.length=n/\(∀(i:Nat) (x:τ.D) (y:List AV),ds[i]?=some x->css[i]?=some y->RC τ x y) /\
        (0<n->∃c el fr,W.heap[a.block]?=some (.cells c el fr)/\a.spot=none/\CC Z σ css.flatten ((c.toList.drop a.off).take (n*Dd τ))/\(∀v∈(c.toList.drop a.off).take (n*Dd τ),v.oneCell'=true)) /\
        (∀x∈ds,τ.wf x)/\(ds.flatMap τ.enc).length<=40*uptoBulkAll ((elems.take n).map (·.1)):=by
       intro n
       induction n with
       | zero=>intro _;exact⟨[],[],rfl,rfl,fun i x y hx=>by simp at hx,fun h=>absurd h (by omega),fun x hx=>by simp at hx,by simp⟩
       | succ n ih=>
        intro hn
        obtain⟨ds,css,q1,q2,q3,q4,q5,q6⟩:=ih (by omega)
        obtain⟨⟨D1,rf⟩,x1,x2⟩:=hat n (by omega)
        rw[C5]at x2
        obtain⟨cs1,x2,x3⟩:=x2
        rw[hc]at x2
        obtain⟨c,el,fr,y1,y2,y3,y4⟩:=YO hp x2
        obtain⟨d1,l1,z1,z2,z3,z4,z5⟩:=hE fuel cs1 D1 rf x3
        have e1:(a.add (n*Dd τ)).block=a.block/\(a.add (n*Dd τ)).off=a.off+n*Dd τ:=by
         unfold Addr.add
         split
         ·rename_i hz;rw[hz];exact⟨rfl,rfl⟩
         ·exact⟨rfl,rfl⟩
        rw[e1.1]at y1
        rw[e1.2]at y3 y4
        have hspot:a.spot=none:=by
         rcases DB n with h0 | h0
         ·subst h0;rw[G_]at y2;exact y2
         ·obtain⟨_,_,_,_,hs,_⟩:=q4 h0;exact hs
        have htk:(c.toList.drop a.off).take ((n+1)*Dd τ)=(c.toList.drop a.off).take (n*Dd τ)++cs1:=by
         rw[EC,GY,List.take_add,De,y3]
        have hpre:CC Z σ css.flatten ((c.toList.drop a.off).take (n*Dd τ))/\∀v∈(c.toList.drop a.off).take (n*Dd τ),v.oneCell'=true:=by
         rcases DB n with h0 | h0
         ·subst h0
          have:css=[]:=GG.1 q2
          subst this
          simp only[G_,Iz,List.flatten_nil]
          exact⟨.nil,fun v hv=>by simp at hv⟩
         ·obtain⟨c',_,_,w1,_,w2,w3⟩:=q4 h0
          rw[y1]at w1
          cases w1
          exact⟨w2,w3⟩
        refine⟨ds++[d1],css++[l1],by simp[q1],by simp[q2],fun i x y hx hy=>?_,fun _=>⟨c,el,fr,y1,hspot,?_,?_⟩,fun x hx=>?_,?_⟩
        ·rcases CT i n with hi | hi
         ·rw[Dr (by omega)]at hx hy
          exact q3 i x y hx hy
         ·rw[C4 (by omega)]at hx hy
          rw[q1]at hx;rw[q2]at hy
          have hj:i-n=0:=by
           rcases DB (i-n)with h | h
           ·exact h
           ·rw[BT (by simp;omega)]at hx;cases hx
          rw[hj]at hx hy
          cases hx;cases hy;exact z1
        ·rw[htk]
         have:(css++[l1]).flatten=css.flatten++l1:=by simp
         rw[this]
         exact hpre.1.append z2
        ·rw[htk]
         intro v hv
         rcases BV.1 hv with h | h
         ·exact hpre.2 v h
         ·exact z3 v h
        ·rcases BV.1 hx with h | h
         ·exact q5 x h
         ·simp at h;subst h;exact z4
        ·have e2:(elems.take (n+1)).map (·.1)=(elems.take n).map (·.1)++[D1]:=by
          rw[Cr,x1];simp
         have e3:(ds++[d1]).flatMap τ.enc=ds.flatMap τ.enc++τ.enc d1:=by simp
         rw[e2,Ur,bu,e3,AW]
         omega
      obtain⟨ds,css,q1,q2,q3,q4,q5,q6⟩:=key len (A4 _)
      have hfl:css.flatten.length=len*Dd τ:=by
       rw[F2 css fun x hx=>?_,q2]
       obtain⟨i,hi⟩:=DC hx
       have hlt:=(CJ.1 hi).1
       exact LF τ _ _ (q3 i _ x (Ab (by omega)) hi)
      have hI:Q0 ((ds.length:Nat):Int):=by
       have:=hcond.2.1
       have h2:=hcond.2.2
       have h3:maxLen=9223372036854775807:=rfl
       rw[q1];unfold Q0;omega
      refine⟨ds,[.sim css.flatten len false],⟨_,css.flatten,rfl,by show kV (Dd τ) _ _ ds.length;rw[q1];exact .sim hfl,css,rfl,by show css.length=ds.length;omega,q3⟩,.cons ?_ .nil,fun v hv=>by simp at hv;subst hv;rfl,⟨hI,q5⟩,?_⟩
      ·rcases DB len with h0 | h0
       ·subst h0
        have:css=[]:=GG.1 q2
        subst this
        exact .simz a (fun h=>by cases h)
       ·obtain⟨c,el,fr,y1,y2,y3,y4⟩:=q4 h0
        refine .sim (c:=c) (e:=el) (fr:=fr) hcond.2.1 (fun h=>by cases h) y2 (hZ _ _ y1) ?_ ?_
        ·rw[hfl];exact y4
        ·rw[hfl];exact y3
      ·have h1:=P_ hI
       have h2:elems.take len=elems:=AX (by omega)
       rw[h2]at q6
       show(Ba (ds.length:Int)++ds.flatMap τ.enc).length<=40*(uptoBulkAll (elems.map (·.1))+uptoBulkAll (rest.map (·.1))+1)
       rw[AW];omega
     ·cases h
inductive Yc (enc:TypeId × Value->H) (P:Program) (W:World) (Z:Zt) (σ:Sg):Nat->List Field->Ty->Prop
 | one {o:Nat} {f:Field} {τ:Ty} (ho:f.offset=o) (hc:P.cellsOf f.type=Dd τ) (hE:RD enc P W Z σ f.type τ):Yc enc P W Z σ o [f] τ
 | cons {o:Nat} {f:Field} {fs:List Field} {τ τ':Ty} (ho:f.offset=o) (hc:P.cellsOf f.type=Dd τ) (hE:RD enc P W Z σ f.type τ) (h:Yc enc P W Z σ (o+Dd τ) fs τ'):Yc enc P W Z σ o (f::fs) (.pair τ τ')
theorem Yc.rd {o:Nat}{fs:List Field}{τ:Ty}(hF:Yc enc P W Z σ o fs τ):∀(fuel:Nat) (cs:List Value) (xs:List (DataW H × List MemPlace)),
  (fs.mapM fun f=>DataW.trod enc P W 0 (fun _=>true) true fuel f.type ((cs.drop f.offset).take (P.cellsOf f.type)))=some xs ->
  ∃(d:τ.D) (l:List AV),RC τ d l/\CC Z σ l ((cs.drop o).take (Dd τ))/\(∀v∈(cs.drop o).take (Dd τ),v.oneCell'=true)/\τ.wf d/\(τ.enc d).length<=40*uptoBulkAll (xs.map (·.1)):=by
 induction hF with
 | one ho hc hE=>
  intro fuel cs xs h
  rename_i f τ
  subst ho
  simp only[I0,List.mapM_nil,Option.bind_eq_bind,C5,Option.pure_def,AD]at h
  obtain⟨⟨D,p⟩,h1,_,rfl,rfl⟩:=h
  rw[hc]at h1
  obtain⟨d,l,z1,z2,z3,z4,z5⟩:=hE fuel _ D p h1
  exact⟨d,l,z1,z2,z3,z4,by show _<=40*(uptoBulk D+0);omega⟩
 | cons ho hc hE hF ih=>
  intro fuel cs xs h
  rename_i f fs τ τ'
  subst ho
  simp only[I0,Option.bind_eq_bind,C5,Option.pure_def,AD]at h
  obtain⟨⟨D,p⟩,h1,ys,h2,rfl⟩:=h
  rw[hc]at h1
  obtain⟨d,l,z1,z2,z3,z4,z5⟩:=hE fuel _ D p h1
  obtain⟨d',l',y1,y2,y3,y4,y5⟩:=ih fuel cs ys h2
  have e:(cs.drop f.offset).take (Dd (.pair τ τ'))=(cs.drop f.offset).take (Dd τ)++(cs.drop (f.offset+Dd τ)).take (Dd τ'):=by
   show(cs.drop f.offset).take (Dd τ+Dd τ')=_
   rw[List.take_add,De]
  refine⟨(d,d'),l++l',⟨l,l',rfl,z1,y1⟩,by rw[e];exact z2.append y2,by
   rw[e];intro v hv
   rcases BV.1 hv with h | h
   ·exact z3 v h
   ·exact y3 v h,⟨z4,y4⟩,?_⟩
  show(τ.enc d++τ'.enc d').length<=40*(uptoBulk D+uptoBulkAll (ys.map (·.1)))
  rw[AW];omega
theorem RD.struct {t:TypeId}{fs:Array Field}{τ:Ty}(ht:P.underlying t=some (.struct fs)) (hc:P.cellsOf t=Dd τ) (hF:Yc enc P W Z σ 0 fs.toList τ):RD enc P W Z σ t τ:=fun fuel cs D ps h=>by
 cases fuel with
 | zero=>exact(El h).elim
 | succ fuel=>
  have h:(if cs.length=P.cellsOf t then(fs.toList.mapM fun f=>DataW.trod enc P W 0 (fun _=>true) true fuel f.type ((cs.drop f.offset).take (P.cellsOf f.type))).map fun xs=>((.agg (xs.map (·.1)):DataW H),xs.flatMap (·.2))else none)=some (D,ps):=by
   simpa[DataW.trod,ht]using h
  split at h
  ·rename_i hl
   simp only[AP,Ao]at h
   obtain⟨xs,h1,rfl,_⟩:=h
   obtain⟨d,l,z1,z2,z3,z4,z5⟩:=hF.rd fuel cs xs h1
   have e:(cs.drop 0).take (Dd τ)=cs:=by rw[B5];exact AX (by omega)
   rw[e]at z2 z3
   exact⟨d,l,z1,z2,z3,z4,by show _<=40*(uptoBulkAll (xs.map (·.1))+1);omega⟩
  ·cases h
def Gk:Nat->Nat->List UInt8
 | 0,_=>[]
 | k+1,n=>UInt8.ofNat (n % 256)::Gk k (n / 256)
theorem XC:∀k n,(Gk k n).length=k
 | 0,_=>rfl
 | k+1,n=>by show(Gk k (n / 256)).length+1=k+1;rw[XC k]
theorem ZI:∀k n,n<256 ^ k->w8 (Gk k n)=n
 | 0,n,h=>by
   have:n=0:=by simpa using h
   subst this;rfl
 | k+1,n,h=>by
  have h1:n / 256<256 ^ k:=Nat.div_lt_of_lt_mul (by rw[HS,<- Iu];exact h)
  show(UInt8.ofNat (n % 256)).toNat+256*w8 (Gk k (n / 256))=n
  rw[ZI k _ h1]
  have:(UInt8.ofNat (n % 256)).toNat=n % 256:=by simp
  rw[this];omega
theorem ZM {t:TypeId}(ht:P.underlying t=some (.int .u64)){fuel:Nat}{cs:List Value}{D:DataW H}{ps:List MemPlace}(h:DataW.trod enc P W 0 (fun _=>true) true fuel t cs=some (D,ps)):∃n:Nat,cs=[.int .u64 (n:Int)]/\n<18446744073709551616:=by
 cases fuel with
 | zero=>exact(El h).elim
 | succ fuel=>
  cases cs with
  | nil=>simp[DataW.trod,ht]at h
  | cons v rest=>
   cases rest with
   | cons _ _=>simp[DataW.trod,ht]at h
   | nil=>
    cases v<;>simp[DataW.trod,ht]at h
    rename_i k n
    obtain⟨⟨rfl,hw⟩,_,_⟩:=h
    have hw':0<=n/\n<=18446744073709551615:=by
     have:(decide ((0:Int)<=n)&&decide (n<=18446744073709551615))=true:=hw
     simp at this;exact this
    exact⟨n.toNat,by rw[Int.toNat_of_nonneg hw'.1],by omega⟩
theorem RD.lI {t e:TypeId}(ht:P.underlying t=some (.array 4 e)) (he:P.underlying e=some (.int .u64)) (hce:P.cellsOf e=1) (hct:P.cellsOf t=4):RD enc P W Z σ t (.vec 32):=fun fuel cs D ps h=>by
 cases fuel with
 | zero=>exact(El h).elim
 | succ fuel=>
  have h:(if cs.length=P.cellsOf t then((List.range 4).mapM fun i=>DataW.trod enc P W 0 (fun _=>true) true fuel e ((cs.drop (i*P.cellsOf e)).take (P.cellsOf e))).map fun xs=>((.agg (xs.map (·.1)):DataW H),xs.flatMap (·.2))else none)=some (D,ps):=by
   simpa[DataW.trod,ht]using h
  split at h
  ·rename_i hl
   rw[hct]at hl
   simp only[AP,Ao]at h
   obtain⟨xs,h1,rfl,_⟩:=h
   match cs,hl with
   | [c0,c1,c2,c3],_=>
    have hat:∀i,i<4->∃n:Nat,(([c0,c1,c2,c3].drop (i*1)).take 1)=[.int .u64 (n:Int)]/\n<18446744073709551616:=fun i hi=>by
     obtain⟨x,_,x2⟩:=Lib.mapM_at h1 i i (by simp[hi])
     rw[hce]at x2
     exact ZM he x2
    obtain⟨n0,a0,b0⟩:=hat 0 (by omega)
    obtain⟨n1,a1,b1⟩:=hat 1 (by omega)
    obtain⟨n2,a2,b2⟩:=hat 2 (by omega)
    obtain⟨n3,a3,b3⟩:=hat 3 (by omega)
    simp at a0 a1 a2 a3
    subst a0;subst a1;subst a2;subst a3
    have w:∀n,n<18446744073709551616->w8 (Gk 8 n)=n:=fun n hn=>ZI 8 n hn
    have e8:∀n,(Gk 8 n).length=8:=XC 8
    refine⟨(Gk 8 n0++(Gk 8 n1++(Gk 8 n2++Gk 8 n3)):List UInt8),[.int .u64 n0,.int .u64 n1,.int .u64 n2,.int .u64 n3],⟨?_,rfl,fun i hi=>?_⟩,.cons (.int _ _) (.cons (.int _ _) (.cons (.int _ _) (.cons (.int _ _) .nil))),fun v hv=>?_,?_,?_⟩
    ·show(Gk 8 n0++(Gk 8 n1++(Gk 8 n2++Gk 8 n3))).length=32
     simp[e8]
    ·have hi:i<4:=hi
     have hcase:i=0\/i=1\/i=2\/i=3:=by omega
     show _=some (AV.int .u64 ((w8 (((Gk 8 n0++(Gk 8 n1++(Gk 8 n2++Gk 8 n3))).drop (8*i)).take 8):Nat):Int))
     rcases hcase with rfl | rfl | rfl | rfl
     ·have:((Gk 8 n0++(Gk 8 n1++(Gk 8 n2++Gk 8 n3))).drop (8*0)).take 8=Gk 8 n0:=by
       rw[Nat.mul_zero,B5,EA (by rw[e8];omega),AX (by rw[e8];omega)]
      rw[this,w _ b0];rfl
     ·have:((Gk 8 n0++(Gk 8 n1++(Gk 8 n2++Gk 8 n3))).drop (8*1)).take 8=Gk 8 n1:=by
       rw[EZ,Bt (by rw[e8];omega),Bf,e8,show 8*1-8=0 by omega,B5,EA (by rw[e8];omega),AX (by rw[e8];omega)]
      rw[this,w _ b1];rfl
     ·have:((Gk 8 n0++(Gk 8 n1++(Gk 8 n2++Gk 8 n3))).drop (8*2)).take 8=Gk 8 n2:=by
       rw[EZ,Bt (by rw[e8];omega),Bf,e8,EZ,Bt (by rw[e8];omega),Bf,e8,show 8*2-8-8=0 by omega,B5,EA (by rw[e8];omega),AX (by rw[e8];omega)]
      rw[this,w _ b2];rfl
     ·have:((Gk 8 n0++(Gk 8 n1++(Gk 8 n2++Gk 8 n3))).drop (8*3)).take 8=Gk 8 n3:=by
       rw[EZ,Bt (by rw[e8];omega),Bf,e8,EZ,Bt (by rw[e8];omega),Bf,e8,EZ,Bt (by rw[e8];omega),Bf,e8,show 8*3-8-8-8=0 by omega,B5,AX (by rw[e8];omega)]
      rw[this,w _ b3];rfl
    ·simp only[DF,G8,or_false]at hv
     rcases hv with rfl | rfl | rfl | rfl<;>rfl
    ·show(Gk 8 n0++(Gk 8 n1++(Gk 8 n2++Gk 8 n3))).length=32
     simp[e8]
    ·show(Gk 8 n0++(Gk 8 n1++(Gk 8 n2++Gk 8 n3))).length<=40*(uptoBulkAll (xs.map (·.1))+1)
     simp[e8];omega
  ·cases h
theorem RD.map {t:TypeId}{τ τ':Ty}(h:RD enc P W Z σ t τ) (f:τ.D->τ'.D) (h1:∀d l,RC τ d l->RC τ' (f d) l) (h2:∀d,τ.wf d->τ'.wf (f d)) (h3:∀d,τ'.enc (f d)=τ.enc d):RD enc P W Z σ t τ':=fun fuel cs D ps hh=>by
 obtain⟨d,l,z1,z2,z3,z4,z5⟩:=h fuel cs D ps hh
 exact⟨f d,l,h1 d l z1,z2,z3,h2 d z4,by rw[h3];exact z5⟩
end
end
end Go.AL
namespace Go.Proofs.YtlmkmpomgdbjhaaGreatDoor
section
open Go Go.AL Go.AL.Co
variable [BQ] {H:Type}{enc:TypeId × Value->H}{W:World}{Z:Zt}{σ:Sg}
def hX:Ty:=.pair BM .int
def Zg:Ty:=.pair .int (.pair CG (.pair CG (.pair gv (.pair hX (.pair ZU (.pair tQ .int))))))
def h_:Ty:=.pair Zg .bool
theorem Gi:RD enc Tryz.prog W Z σ 3 .int:=RD.int Tryz.underlying3
theorem qP:RD enc Tryz.prog W Z σ 4 .bool:=RD.bool Tryz.underlying4
theorem rV:RD enc Tryz.prog W Z σ 5 .byte:=RD.byte Tryz.underlying5
theorem lx:RD enc Tryz.prog W Z σ 49 Bl:=RD.lI Tryz.underlying49 Tryz.underlying47 (by kernel_rfl) (by kernel_rfl)
theorem rE:RD enc Tryz.prog W Z σ 256 O9:=RD.struct Tryz.underlying256 (by kernel_rfl) (.cons rfl (by kernel_rfl) Gi (.one rfl (by kernel_rfl) rV))
theorem lq:RD enc Tryz.prog W Z σ 245 Gd:=RD.struct Tryz.underlying245 (by kernel_rfl) (.cons rfl (by kernel_rfl) qP (.one rfl (by kernel_rfl) rV))
section
variable (hZ:∀b o,W.heap[b]?=some o->Z b=some o)
 include hZ
theorem rY:RD enc Tryz.prog W Z σ 24 Ch:=RD.list hZ Tryz.underlying24 (by kernel_rfl) (by decide) rV
theorem dZ:RD enc Tryz.prog W Z σ 54 BM:=RD.list hZ Tryz.underlying54 (by kernel_rfl) (by decide) Gi
theorem dY:RD enc Tryz.prog W Z σ 145 CG:=RD.list hZ Tryz.underlying145 (by kernel_rfl) (by decide) rE
theorem lp:RD enc Tryz.prog W Z σ 146 (.list Bl):=RD.list hZ Tryz.underlying146 (by kernel_rfl) (by decide) lx
theorem lk:RD enc Tryz.prog W Z σ 62 (.list BM):=RD.list hZ Tryz.underlying62 (by kernel_rfl) (by decide) (dZ hZ)
theorem lj:RD enc Tryz.prog W Z σ 147 (.list .bool):=RD.list hZ Tryz.underlying147 (by kernel_rfl) (by decide) qP
theorem lu:RD enc Tryz.prog W Z σ 240 (.list Gd):=RD.list hZ Tryz.underlying240 (by kernel_rfl) (by decide) lq
theorem lr:RD enc Tryz.prog W Z σ 242 DH:=RD.struct Tryz.underlying242 (by kernel_rfl) (.cons rfl (by kernel_rfl) Gi (.one rfl (by kernel_rfl) (lu hZ)))
theorem lv:RD enc Tryz.prog W Z σ 238 (.list DH):=RD.list hZ Tryz.underlying238 (by kernel_rfl) (by decide) (lr hZ)
theorem rS:RD enc Tryz.prog W Z σ 152 (.list (.list DH)):=RD.list hZ Tryz.underlying152 (by kernel_rfl) (by decide) (lv hZ)
theorem rQ:RD enc Tryz.prog W Z σ 114 (.list Ch):=RD.list hZ Tryz.underlying114 (by kernel_rfl) (by decide) (rY hZ)
theorem rU:RD enc Tryz.prog W Z σ 149 gv:=RD.struct Tryz.underlying149 (by kernel_rfl) (.cons rfl (by kernel_rfl) (lp hZ) (.cons rfl (by kernel_rfl) (lk hZ) (.one rfl (by kernel_rfl) (lj hZ))))
theorem rT:RD enc Tryz.prog W Z σ 151 hX:=RD.struct Tryz.underlying151 (by kernel_rfl) (.cons rfl (by kernel_rfl) (dZ hZ) (.one rfl (by kernel_rfl) Gi))
theorem rP:RD enc Tryz.prog W Z σ 154 ZU:=RD.struct Tryz.underlying154 (by kernel_rfl) (.cons rfl (by kernel_rfl) (lp hZ) (.cons rfl (by kernel_rfl) (rS hZ) (.cons rfl (by kernel_rfl) (lj hZ) (.one rfl (by kernel_rfl) (rQ hZ)))))
 omit hZ in
theorem rO:RD enc Tryz.prog W Z σ 51 tQ:=RD.struct Tryz.underlying51 (by kernel_rfl) (.cons rfl (by kernel_rfl) Gi (.cons rfl (by kernel_rfl) Gi (.cons rfl (by kernel_rfl) Gi (.cons rfl (by kernel_rfl) Gi (.one rfl (by kernel_rfl) qP)))))
theorem rN:RD enc Tryz.prog W Z σ 156 Zg:=RD.struct Tryz.underlying156 (by kernel_rfl) (.cons rfl (by kernel_rfl) Gi (.cons rfl (by kernel_rfl) (dY hZ) (.cons rfl (by kernel_rfl) (dY hZ) (.cons rfl (by kernel_rfl) (rU hZ) (.cons rfl (by kernel_rfl) (rT hZ) (.cons rfl (by kernel_rfl) (rP hZ) (.cons rfl (by kernel_rfl) rO (.one rfl (by kernel_rfl) Gi))))))))
theorem lh:RD enc Tryz.prog W Z σ 158 h_:=RD.struct Tryz.underlying158 (by kernel_rfl) (.cons rfl (by kernel_rfl) (rN hZ) (.one rfl (by kernel_rfl) qP))
def fT (d:h_.D):Ge.D:=(d.1.1,d.1.2.1,d.1.2.2.1,d.1.2.2.2.1.1,d.1.2.2.2.1.2.1,d.1.2.2.2.1.2.2,d.1.2.2.2.2.1.1,d.1.2.2.2.2.1.2,d.1.2.2.2.2.2.1.1,d.1.2.2.2.2.2.1.2.1,d.1.2.2.2.2.2.1.2.2.1,d.1.2.2.2.2.2.1.2.2.2,d.1.2.2.2.2.2.2.1,d.1.2.2.2.2.2.2.2,d.2)
theorem rM:RD enc Tryz.prog W Z σ 158 Ge:=(lh hZ).map fT
 (by
  rintro d l ⟨_,_,rfl,⟨_,_,rfl,h0,_,_,rfl,h1,_,_,rfl,h2,_,_,rfl,⟨_,_,rfl,h3,_,_,rfl,h4,h5⟩,_,_,rfl,⟨_,_,rfl,h6,h7⟩,_,_,rfl,⟨_,_,rfl,h8,_,_,rfl,h9,_,_,rfl,h10,h11⟩,_,_,rfl,h12,h13⟩,h14⟩
  simp only[Ar]
  exact⟨_,_,rfl,h0,_,_,rfl,h1,_,_,rfl,h2,_,_,rfl,h3,_,_,rfl,h4,_,_,rfl,h5,_,_,rfl,h6,_,_,rfl,h7,_,_,rfl,h8,_,_,rfl,h9,_,_,rfl,h10,_,_,rfl,h11,_,_,rfl,h12,_,_,rfl,h13,h14⟩)
 (by
  rintro d ⟨⟨w0,w1,w2,⟨w3,w4,w5⟩,⟨w6,w7⟩,⟨w8,w9,w10,w11⟩,w12,w13⟩,w14⟩
  exact⟨w0,w1,w2,w3,w4,w5,w6,w7,w8,w9,w10,w11,w12,w13,w14⟩)
 (by
  intro d
  simp only[Ge,h_,Zg,hX,gv,ZU,fT,Ty.enc,Ar])
theorem rG:RD enc Tryz.prog W Z σ 175 Em:=RD.struct Tryz.underlying175 (by kernel_rfl) (.cons rfl (by kernel_rfl) Gi (.cons rfl (by kernel_rfl) (dZ hZ) (.cons rfl (by kernel_rfl) Gi (.cons rfl (by kernel_rfl) Gi (.cons rfl (by kernel_rfl) Gi (.cons rfl (by kernel_rfl) Gi (.cons rfl (by kernel_rfl) Gi (.one rfl (by kernel_rfl) Gi))))))))
theorem rK:RD enc Tryz.prog W Z σ 160 (.list Em):=RD.list hZ Tryz.underlying160 (by kernel_rfl) (by decide) (rG hZ)
theorem rF:RD enc Tryz.prog W Z σ 179 IK:=RD.struct Tryz.underlying179 (by kernel_rfl) (.cons rfl (by kernel_rfl) (dY hZ) (.one rfl (by kernel_rfl) (dY hZ)))
theorem rJ:RD enc Tryz.prog W Z σ 161 (.list IK):=RD.list hZ Tryz.underlying161 (by kernel_rfl) (by decide) (rF hZ)
theorem rI:RD enc Tryz.prog W Z σ 163 HC:=RD.struct Tryz.underlying163 (by kernel_rfl) (.cons rfl (by kernel_rfl) Gi (.cons rfl (by kernel_rfl) Gi (.cons rfl (by kernel_rfl) Gi (.cons rfl (by kernel_rfl) Gi (.cons rfl (by kernel_rfl) (rM hZ) (.cons rfl (by kernel_rfl) (dZ hZ) (.cons rfl (by kernel_rfl) (lk hZ) (.cons rfl (by kernel_rfl) (rK hZ) (.one rfl (by kernel_rfl) (rJ hZ))))))))))
theorem rZ:RD enc Tryz.prog W Z σ 89 Ad:=RD.list hZ Tryz.underlying89 (by kernel_rfl) (by decide) (rI hZ)
end
end
end Go.Proofs.YtlmkmpomgdbjhaaGreatDoor
namespace Go.AL
section
open Co Sha
variable [BQ]
theorem Uq {Z:Zt}{σ:Sg}:∀cs:List Value,(∀i,i<cs.length->∃b:UInt8,CC Z σ [bv b] ((cs.drop i).take 1)/\∀v∈(cs.drop i).take 1,v.oneCell'=true) ->
  ∃bs:List UInt8,bs.length=cs.length/\CC Z σ (bs.map bv) cs/\∀v∈cs,v.oneCell'=true
 | [],_=>⟨[],rfl,.nil,fun v hv=>by cases hv⟩
 | c::cs,h=>by
  obtain⟨b,h1,h2⟩:=h 0 (JB _)
  obtain⟨bs,g1,g2,g3⟩:=Uq cs fun i hi=>by
   have:=h (i+1) (Nat.succ_lt_succ hi)
   simpa using this
  have h1:CC Z σ [bv b] [c]:=h1
  have h2:∀v∈[c],v.oneCell'=true:=h2
  refine⟨b::bs,by simp[g1],?_,fun v hv=>?_⟩
  ·cases h1 with
   | cons q _=>exact .cons q g2
  ·cases hv with
   | head=>exact h2 _ (.head _)
   | tail _ hv=>exact g3 v hv
section
variable {H:Type}{enc:TypeId × Value->H}{P:Program}{W:World}{Z:Zt}{σ:Sg}
theorem VM {t e:TypeId}{k:Nat}(ht:P.underlying t=some (.array k e)) (he:P.underlying e=some (.int .u8)) (hce:P.cellsOf e=1) (hct:P.cellsOf t=k){fuel:Nat}{cs:List Value}{D:DataW H}{ps:List MemPlace}
  (h:DataW.trod enc P W 0 (fun _=>true) true fuel t cs=some (D,ps)):∃bs:List UInt8,bs.length=k/\CC Z σ (bs.map bv) cs/\∀v∈cs,v.oneCell'=true:=by
 cases fuel with
 | zero=>exact(El h).elim
 | succ fuel=>
  have h:(if cs.length=P.cellsOf t then((List.range k).mapM fun i=>DataW.trod enc P W 0 (fun _=>true) true fuel e ((cs.drop (i*P.cellsOf e)).take (P.cellsOf e))).map fun xs=>((.agg (xs.map (·.1)):DataW H),xs.flatMap (·.2))else none)=some (D,ps):=by
   simpa[DataW.trod,ht]using h
  split at h
  ·rename_i hl
   rw[hct]at hl
   simp only[AP,Ao]at h
   obtain⟨xs,h1,rfl,_⟩:=h
   obtain⟨bs,g1,g2,g3⟩:=Uq (Z:=Z) (σ:=σ) cs fun i hi=>by
    obtain⟨⟨D1,p1⟩,_,x2⟩:=Lib.mapM_at h1 i i (by rw[EE (by omega)])
    rw[hce,EU]at x2
    obtain⟨d,l,z1,z2,z3,_,_⟩:=RD.byte (Z:=Z) (σ:=σ) he fuel _ D1 p1 x2
    obtain rfl:l=[bv d]:=z1
    exact⟨d,z2,z3⟩
   exact⟨bs,by omega,g2,g3⟩
  ·cases h
end
theorem bZ (u:Nat):1<=(MG u).length:=by
 unfold MG
 split<;>simp
theorem Xv (d:Ad.D):1<=(Ad.enc d).length:=by
 have h:1<=(Ba ((GA d).length:Int)++(GA d).flatMap HC.enc).length:=by
  rw[AW]
  have:=bZ (zz ((GA d).length:Int))
  show 1<=(MG _).length+_
  omega
 exact h
theorem Zd {A B:Int}{l:List Ad.D}:(Gh A B l).length<=24+9*(l.flatMap Ad.enc).length:=by
 have h:∀l:List Ad.D,(l.flatMap fun d=>Gz ((Ad.enc d).length:Int)++Ad.enc d).length<=9*(l.flatMap Ad.enc).length:=fun l=>by
  induction l with
  | nil=>simp
  | cons d l ih=>
   have:=Xv d
   rw[Gb,Gb,AW,AW,AW,HI]
   omega
 have:=h l
 unfold Gh
 simp only[AW,HI]
 omega
end
end Go.AL
namespace Go.Proofs.YtlmkmpomgdbjhaaGreatDoor
section
open Go Go.AL Go.AL.Co
variable [BQ] {H:Type}{enc:TypeId × Value->H}{W:World}{Z:Zt}{σ:Sg}
def ZS:Ty:=.pair .int (.pair .int (.list Ad))
theorem rX (hZ:∀b o,W.heap[b]?=some o->Z b=some o):RD enc Tryz.prog W Z σ 27 (.list Ad):=RD.list hZ Tryz.underlying27 (by kernel_rfl) (by decide) (rZ hZ)
theorem rW (hZ:∀b o,W.heap[b]?=some o->Z b=some o):RD enc Tryz.prog W Z σ 29 ZS:=RD.struct Tryz.underlying29 (by kernel_rfl) (.cons rfl (by kernel_rfl) Gi (.cons rfl (by kernel_rfl) Gi (.one rfl (by kernel_rfl) (rX hZ))))
theorem lg {fuel:Nat}{cs:List Value}{D:DataW H}{ps:List MemPlace}(h:DataW.trod enc Tryz.prog W 0 (fun _=>true) true fuel 23 cs=some (D,ps)):∃bs:List UInt8,bs.length=32/\CC Z σ (bs.map bv) cs/\∀v∈cs,v.oneCell'=true:=
 VM Tryz.underlying23 Tryz.underlying5 (by kernel_rfl) (by kernel_rfl) h
end
section
open Go Go.AL Go.AL.Co Go.ChangeShapes Go.WideShapes Go.ChangeAt Go.RowKit
set_option maxRecDepth 100000
theorem own:ownKnob Tryz.prog.godebug=none:=by kernel_rfl
theorem Lj {P:Program}{W:World}{name:String}{k:IntKind}{zs:List Int}{g:Nat}{t e:TypeId}{n:Nat}(hg:P.globalNamed name=some g) (hty:(P.globals[g]?).map (·.type)=some t) (ht:P.underlying t=some (.array n e)) (he:P.underlying e=some (.int k))
  (hce:P.cellsOf e=1) (hct:P.cellsOf t=n):∀{l:List (String × DataW Unit)},(name,Lib.tabData k zs)∈l->laidMet P l W->Lib.TabIs P W name k zs:=by
 intro l hm h
 obtain⟨ps,hv,-⟩:=h
 induction l generalizing ps with
 | nil=>cases hm
 | cons x l ih=>
  obtain⟨nm,dt⟩:=x
  obtain⟨g',t',cs,fuel,p,q,hg',ht',hvar,hd,hr,_⟩:=hv
  cases hm with
  | head=>
   obtain rfl:=GX (hg.symm.trans hg')
   obtain rfl:=GX (hty.symm.trans ht')
   unfold Lib.TabIs
   rw[hvar,<- Lib.cells_of_tab ht he hce hct hd]
  | tail _ hm=>exact ih hm q hr
def WU:List Int:=sI.map Int.ofNat
def qh:List Int:=Sha.K.map fun x=>(x.toNat:Int)
abbrev Pd:List (String × DataW Unit):=Rows.sliceRoundTripUptoRow.laid
theorem nf:Tryz.prog.globalNamed "math/bits.deBruijn64tab"=some 1:=by kernel_rfl
theorem gK:Tryz.prog.globalNamed "univocal/digest.rounds"=some 0:=by kernel_rfl
theorem iP:("math/bits.deBruijn64tab",Lib.tabData .u8 WU)∈Pd:=CK (i:=0) (by kernel_rfl)
theorem rn:("univocal/digest.rounds",Lib.tabData .u32 qh)∈Pd:=CK (i:=5) (by kernel_rfl)
theorem mi {W:World}(h:laidMetH Tryz.prog Pd W):Lib.TabIs Tryz.prog W "math/bits.deBruijn64tab" .u8 WU:=
 Lj nf (by kernel_rfl) (t:=220) Tryz.underlying220 Tryz.underlying5 (by kernel_rfl) (by kernel_rfl) iP h
theorem yi {W:World}(h:laidMetH Tryz.prog Pd W):Lib.TabIs Tryz.prog W "univocal/digest.rounds" .u32 qh:=
 Lj gK (by kernel_rfl) (t:=268) Tryz.underlying268 Tryz.underlying185 (by kernel_rfl) (by kernel_rfl) rn h
theorem q_ {W:World}(h:laidMetH Tryz.prog Pd W):M0 W:=fun t ht n hn=>by
 have h1:=(mi h).cell nf t (by show t<64;exact ht)
 have h2:WU.getD t 0=(n:Int):=by
  unfold WU
  rw[Ac,BU,hn];rfl
 rw[h2]at h1
 exact h1
def Xf (W:World):Zt:=⟨fun b=>W.heap[b]?,W.os,W.output,fun _=>false,fun _=>False⟩
def IV (W:World) (b:Nat):Option Obj:=match W.heap[b]? with
 | some (.cells c e fr)=>some (.cells c e fr)
 | _=>none
theorem YP {W:World}{b:Nat}{o:Obj}(h:IV W b=some o):W.heap[b]?=some o/\fp o:=by
 unfold IV at h
 split at h
 ·rename_i c e fr hb
  cases h
  exact⟨hb,c,e,fr,rfl⟩
 ·cases h
theorem dW (W:World) [hG:BQ] (hg:BQ.G=IV W):WR (Xf W) (fun _=>none) (Ah KH.emp) W:=by
 have hnx:KH.emp.nx=0:=by kernel_rfl
 have hnone:∀r,(Ah KH.emp).get r=none:=fun r=>by
  rw[FC,hnx,if_neg (by omega)]
 refine⟨fun b o h=>h,fun r o p hr=>?_,fun r r' o o' p p' hr=>?_,fun r _=>rfl,fun r _=>hnone r,rfl,rfl,fun b o hb=>?_⟩
 ·rw[hnone]at hr;cases hr
 ·rw[hnone]at hr;cases hr
 ·have hb:BQ.G b=some o:=hb
  rw[hg]at hb;exact YP hb
theorem dN {W:World}(hL:laidMetH Tryz.prog Pd W) [hG:BQ] (hg:BQ.G=IV W):Bq:=by
 have hT:=q_ hL
 have h0:∃o,IV W 1=some o/\W.heap[1]?=some o:=by
  have h3:=hT 0 (by omega) 0 rfl
  unfold World.cell? at h3
  split at h3
  ·rename_i c e fr heq
   exact⟨_,by unfold IV;rw[heq],heq⟩
  ·cases h3
 obtain⟨o0,Uc,ho0⟩:=h0
 exact⟨⟨o0,by rw[hg];exact Uc,fun w hw t ht n hn=>by
  have:=hT t ht n hn
  unfold World.cell? at this ⊢
  rw[hw];rw[ho0]at this;exact this⟩⟩
theorem dL {W:World}(hL:laidMetH Tryz.prog Pd W) [hG:BQ] (hg:BQ.G=IV W):Bj:=by
 have h:=yi hL
 unfold Lib.TabIs World.var? at h
 rw[gK,LU]at h
 split at h
 ·rename_i cs t fr heq
  cases h
  refine⟨⟨t,fr,?_⟩⟩
  rw[hg]
  unfold IV
  rw[heq]
  unfold qh
  rw[SC];rfl
 ·cases h
theorem Um {H:Type}{enc:TypeId × Value->H}{P:Program}{w w':World}{base:Nat}{spare:Nat->Bool}{held:Bool}:∀{ts:List TypeId}{vs:List Value}{ds:List (DataW H)}{ps:List MemPlace},
  DataW.TrodAll enc P w base spare held ts vs ds ps->(∀p∈ps,w.sameAt w' p)->DataW.TrodAll enc P w' base spare held ts vs ds ps
 | [],[],[],_,h,_=>h
 | _::_,_::_,_::_,_,⟨p,q,⟨n,h1⟩,h2,e⟩,hs=>⟨p,q,⟨n,DataW.trod_carry n _ _ _ h1 fun x hx=>hs x (by rw[e];exact Cj _ hx)⟩,Um h2 fun x hx=>hs x (by rw[e];exact BS _ hx),e⟩
theorem Zk [BQ] {base:Nat}{H:Type}{enc:TypeId × Value->H}{W:World}{σ:Sg}{v:Value}{D:DataW H}{p:List MemPlace}(hv:Value.okWide Tryz.prog W .any base 23 v) (h:DataW.Trod enc Tryz.prog W 0 (fun _=>true) true 23 v D p) :
  ∃bs:List UInt8,bs.length=32/\VR (Xf W) σ (.agg (bs.map bv)) v:=by
 obtain⟨cs,rfl⟩:∃cs,v=.agg cs:=by
  simp only[Value.okWide,Tryz.underlying23]at hv
  obtain⟨cs,h1,_⟩:=hv
  exact⟨cs,h1⟩
 obtain⟨fuel,h⟩:=h
 obtain⟨bs,h1,h2,h3⟩:=lg (Z:=Xf W) (σ:=σ) h
 exact⟨bs,h1,.agg h3 h2⟩
theorem Xr [BQ] {base:Nat}{H:Type}{enc:TypeId × Value->H}{W:World}{σ:Sg}{v:Value}{D:DataW H}{p:List MemPlace}(hv:Value.okWide Tryz.prog W .any base 29 v) (h:DataW.Trod enc Tryz.prog W 0 (fun _=>true) true 29 v D p) :
  ∃(A B:Int) (l:(Ty.list Ad).D) (x:AV),RC (.list Ad) l [x]/\VR (Xf W) σ (.agg [iv A,iv B,x]) v/\Q0 A/\Q0 B/\(Ty.list Ad).wf l/\((Ty.list Ad).enc l).length<=40*Rows.uptoBulk D:=by
 obtain⟨cs,rfl,_⟩:=okWide_struct Tryz.underlying29 hv
 obtain⟨fuel,h⟩:=h
 obtain⟨d,l,z1,z2,z3,z4,z5⟩:=rW (enc:=enc) (σ:=σ) (Z:=Xf W) (fun b o h=>h) fuel _ D p h
 obtain⟨A,B,l'⟩:=d
 obtain⟨_,_,rfl,rfl,_,_,rfl,rfl,y1⟩:=z1
 obtain⟨x,cs',rfl,hx⟩:=y1
 refine⟨A,B,l',x,⟨x,cs',rfl,hx⟩,.agg z3 z2,z4.1,z4.2.1,z4.2.2,?_⟩
 have e:(ZS.enc (A,B,l')).length=(Ba A).length+((Ba B).length+((Ty.list Ad).enc l').length):=by
  show(Ba A++(Ba B++(Ty.list Ad).enc l')).length=_
  rw[AW,AW]
 have z5:(ZS.enc (A,B,l')).length<=40*Rows.uptoBulk D:=z5
 omega
theorem VT [BQ] {A B:Int}{l:(Ty.list Ad).D}{n:Nat}(h:((Ty.list Ad).enc l).length<=40*n) (hn:n<=1048576):(Gh A B (GA (t:=Ad) l)).length<68719400000:=by
 have h1:=Zd (A:=A) (B:=B) (l:=GA (t:=Ad) l)
 have e:((Ty.list Ad).enc l).length=(Ba ((GA (t:=Ad) l).length:Int)).length+((GA (t:=Ad) l).flatMap Ad.enc).length:=by
  show(Ba _++_).length=_
  rw[AW]
 omega
end
section
open Go Go.AL Go.AL.Co Go.ChangeShapes Go.WideShapes Go.ChangeAt Go.RowKit
theorem uS [BQ] [Bq] [Bj] {H:AH}(hg:H.gl=BQ.G):CP Tryz.prog 6 [] H fun x=>x=.bool true:=
 (San.EF H [] hg .nil).mono fun o H' ⟨h1,h2⟩=>⟨h2,_,h1,rfl⟩
theorem kids:Kids Tryz.prog (·<Tryz.prog.types.size):=kids_rows aL (by kernel_rfl)
theorem full:∀t e,t<Tryz.prog.types.size->Tryz.prog.underlying t=some (.slice e)->0<Tryz.prog.cellsOf e:=jA
set_option maxRecDepth 100000 in
theorem Zj {base:Nat}{H:Type}{enc:TypeId × Value->H}{W:World}{v:Value}{D:DataW H}{p:List MemPlace}(hv:Value.okWide Tryz.prog W .any base 41 v) (h:DataW.Trod enc Tryz.prog W 0 (fun _=>true) true 41 v D p):∃a:Nat,a<65536/\v=.int .u16 (a:Int):=by
 obtain⟨n,rfl⟩:=okWide_int Tryz.underlying41 hv
 obtain⟨fuel,h⟩:=h
 obtain⟨z,h1,_,h2⟩:=DataW.trod_int Tryz.underlying41 h
 have h1:[Value.int IntKind.u16 n]=[Value.int IntKind.u16 z]:=h1
 simp only[Ny,Value.int.injEq,and_true,true_and]at h1
 subst h1
 have h2:(decide ((0:Int)<=n)&&decide (n<=65535))=true:=h2
 simp only[AS,decide_eq_true_eq]at h2
 exact⟨n.toNat,by omega,by rw[Int.toNat_of_nonneg h2.1]⟩
set_option maxRecDepth 100000 in
set_option maxHeartbeats 2000000 in
theorem bk (H:Type) (enc:TypeId × Value->H) (W:World) (base:Nat) (args:Array Value) (ds gs:List (DataW H)) (before:List MemPlace)
  (hval:∀(j:Nat) t v,Tryz.f5.params[j]?=some t->args[j]?=some v->Value.okWide Tryz.prog W .any base t v)
  (hW:DataW.Whole enc Tryz.prog Tryz.f5.params.toList Rows.sliceIntegritySpec.vars false W args.toList ds gs before) (hcond:Rows.uptoSmall H (ds++gs)=true) (hL:laidMetH Tryz.prog Rows.sliceIntegrityUptoRow.laid W) :
  Calls Tryz.prog 5 args W fun e W'=>∃v,e=.returned v/\Rows.sliceIntegritySpec.post enc Tryz.prog Tryz.f5 false true false false W args v W':=by
 have hW':=hW
 have hlt:=hW.lt
 obtain⟨p,q,hA0,hV,rfl,hfz,hnd⟩:=hW
 have hAll:DataW.TrodAll enc Tryz.prog W 0 (fun _=>true) true Tryz.f5.params.toList args.toList ds p:=hA0
 rw[Tryz.params5]at hAll hval
 obtain⟨v0,vs0,d0,ds0,p0,q0,hargs,rfl,rfl,h0,r0⟩:=trodAll_cons hAll
 obtain⟨v1,vs1,d1,ds1,p1,q1,rfl,rfl,rfl,h1,r1⟩:=trodAll_cons r0
 obtain⟨v2,vs2,d2,ds2,p2,q2,rfl,rfl,rfl,h2,r2⟩:=trodAll_cons r1
 obtain⟨rfl,rfl,rfl⟩:=trodAll_nil r2
 obtain rfl:args=#[v0,v1,v2]:=by cases args;simp_all
 obtain⟨rfl,rfl⟩:=trodVars_none hV
 letI hG:BQ:=⟨IV W⟩
 letI hC:Bq:=dN hL rfl
 letI hK:Bj:=dL hL rfl
 have hbulk:Rows.uptoBulk d0+(Rows.uptoBulk d1+(Rows.uptoBulk d2+0))<=1048576:=by
  have:decide (Rows.uptoBulkAll ([d0,d1,d2]++[])<=1048576)=true:=hcond
  have:=of_decide_eq_true this
  simpa[Rows.uptoBulkAll]using this
 obtain⟨A,B,l,x,b1,b2,hA,hB,hwf,hlen⟩:=Xr (enc:=enc) (σ:=fun _=>none) (hval 0 29 v0 rfl rfl) h0
 obtain⟨hid,hh,c2⟩:=Zk (enc:=enc) (σ:=fun _=>none) (hval 1 23 v1 rfl rfl) h1
 obtain⟨a,ha,rfl⟩:=Zj (hval 2 41 v2 rfl rfl) h2
 have walk:=(C5L (H:=Ah KH.emp) (hid:=hid) (A:=A) (B:=B) (pv:=x) (l:=GA (t:=Ad) l) (a:=a) (fun H hg=>uS hg) rfl hh (fe b1) hwf.2 ha (VT hlen (by omega))).2 (Xf W) (fun _=>none) W [v0,v1,.int .u16 (a:Int)] (dW W rfl) (.cons b2 (.cons c2 (.cons (.int _ _) .nil)))
 refine Calls.mono walk fun e W' hx=>?_
 obtain⟨Z',σ',H',out,y1,_,_,y4,y5,rfl,x,rfl,rfl⟩:=hx
 obtain⟨cv,rfl,y6⟩:=y5
 cases y6
 have hheap:∀i,i<W.heap.size->W'.heap[i]?=W.heap[i]?:=fun i hi=>by
  have h1:W.heap[i]?=some (W.heap[i]'hi):=LQ hi
  rw[h1]
  exact y4.z _ _ (y1.le _ _ h1)
 have hos:W'.os=W.os:=y4.rest.1.trans y1.os
 have hout:W'.output=W.output:=y4.rest.2.1.trans y1.out
 refine⟨_,rfl,[d0,d1,d2],[],_,[],p0++(p1++(p2++[])),[],hW',?_,?_,rfl,⟨hos,hout,fun i hi=>?_⟩,fun h=>by cases h⟩
 ·exact trodAll_cons_mk (shut_bool Tryz.underlying4 true) trodAll_mk0
 ·have hres:=DataW.TrodAll.respare kids full (spare':=fun b=>decide (b<W.heap.size)) (fun t ht=>?_) hA0 (fun x hx=>decide_eq_true (hlt x (by simpa using hx)))
  ·refine Um hres fun x hx=>?_
   have hb:=hlt x (by simpa using hx)
   cases x with
   | cell bb off=>
    show _=_
    have hb:bb<W.heap.size:=hb
    simp only[World.cell?,hheap bb hb]
   | map bb=>
    show _=_
    have hb:bb<W.heap.size:=hb
    simp only[hheap bb hb]
  ·rw[Tryz.params5]at ht
   have hz:41<Tryz.prog.types.size:=by rw[types_size];omega
   simp only[DF,G8,or_false]at ht
   rcases ht with rfl | rfl | rfl<;>exact Bz (by omega) hz
 ·rw[hheap i hi]
  cases W.heap[i]? with
  | none=>rfl
  | some o=>
   cases o<;>first | rfl | exact⟨rfl,rfl,rfl,fun _ _=>rfl⟩ | exact .inr ⟨rfl,rfl⟩
end
end Go.Proofs.YtlmkmpomgdbjhaaGreatDoor
