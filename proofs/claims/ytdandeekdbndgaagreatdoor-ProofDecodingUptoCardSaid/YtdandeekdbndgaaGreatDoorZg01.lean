import Derived.Test.YtdandeekdbndgaaGreatDoorZd02
import Derived.Test.YtdandeekdbndgaaGreatDoorRows
import Derived.Lib.LaidTab
import Derived.Test.YtdandeekdbndgaaGreatDoorZd05
/-
  what is read of arguments is data of the coding.
-/
namespace Go.AL
open Co
open Go.Proofs.YtdandeekdbndgaaGreatDoor.Rows (uptoBulk uptoBulkAll)
theorem encU_len:∀(k u:Nat),u<128 ^ (k+1)→(encU u).length≤k+1:=by
 intro k
 induction k with
 | zero=>
  intro u hu
  unfold encU
  rw[if_pos (by omega)];simp
 | succ k ih=>
  intro u hu
  unfold encU
  split
  ·simp
  ·have h1:u / 128<128 ^ (k+1):=Nat.div_lt_of_lt_mul (by rw[Nat.mul_comm,←Nat.pow_succ];exact hu)
   have:=ih (u / 128) h1
   simp only[List.length_cons];omega
theorem encN_len {n:Int}(h:I64 n):(encN n).length≤10:=encU_len 9 _ (Nat.lt_of_lt_of_le (zz_lt h) (by decide))
section
variable {H:Type}{enc:TypeId × Value→H}{P:Program}{W:World}{Z:Zt}{σ:Sg}
def RD (enc:TypeId × Value→H) (P:Program) (W:World) (Z:Zt) (σ:Sg) (t:TypeId) (τ:Ty):Prop:=∀(fuel:Nat) (cs:List Value) (D:DataW H) (ps:List MemPlace),DataW.trod enc P W 0 (fun _=>true) true fuel t cs=some (D,ps) →
 ∃(d:τ.D) (l:List AV),RC τ d l∧VRs Z σ l cs∧(∀v∈cs,v.oneCell'=true)∧τ.wf d∧(τ.enc d).length≤40*uptoBulk D
theorem trod_zero {t:TypeId}{cs:List Value}{x:DataW H × List MemPlace}(h:DataW.trod enc P W 0 (fun _=>true) true 0 t cs=some x):False:=by
 simp[DataW.trod]at h
theorem RD.int {t:TypeId}(ht:P.underlying t=some (.int .i64)):RD enc P W Z σ t .int:=fun fuel cs D ps h=>by
 cases fuel with
 | zero=>exact(trod_zero h).elim
 | succ fuel=>
  cases cs with
  | nil=>simp[DataW.trod,ht]at h
  | cons v rest=>
   cases rest with
   | cons _ _=>simp[DataW.trod,ht]at h
   | nil=>
    cases v<;>simp[DataW.trod,ht]at h
    rename_i k n
    obtain⟨⟨rfl,hw⟩,rfl,rfl⟩:=h
    have hw':I64 n:=by
     have:(decide ((-9223372036854775808:Int)≤n)&&decide (n≤9223372036854775807))=true:=hw
     simp at this;exact this
    refine⟨n,[.int .i64 n],rfl,.cons (.int _ _) .nil,fun v hv=>by simp at hv;subst hv;rfl,hw',?_⟩
    have:=encN_len hw'
    show(encN n).length≤40*1
    omega
theorem RD.byte {t:TypeId}(ht:P.underlying t=some (.int .u8)):RD enc P W Z σ t .byte:=fun fuel cs D ps h=>by
 cases fuel with
 | zero=>exact(trod_zero h).elim
 | succ fuel=>
  cases cs with
  | nil=>simp[DataW.trod,ht]at h
  | cons v rest=>
   cases rest with
   | cons _ _=>simp[DataW.trod,ht]at h
   | nil=>
    cases v<;>simp[DataW.trod,ht]at h
    rename_i k n
    obtain⟨⟨rfl,hw⟩,rfl,rfl⟩:=h
    have hw':0≤n∧n≤255:=by
     have:(decide ((0:Int)≤n)&&decide (n≤255))=true:=hw
     simp at this;exact this
    have e:bv (UInt8.ofNat n.toNat)=.int .u8 n:=by
     have:(UInt8.ofNat n.toNat).toNat=n.toNat:=by simp;omega
     unfold bv;rw[this,Int.toNat_of_nonneg hw'.1]
    refine⟨UInt8.ofNat n.toNat,[.int .u8 n],by show _=[bv _];rw[e],.cons (.int _ _) .nil,fun v hv=>by simp at hv;subst hv;rfl,trivial,?_⟩
    show 1≤40*1
    omega
theorem RD.bool {t:TypeId}(ht:P.underlying t=some .bool):RD enc P W Z σ t .bool:=fun fuel cs D ps h=>by
 cases fuel with
 | zero=>exact(trod_zero h).elim
 | succ fuel=>
  cases cs with
  | nil=>simp[DataW.trod,ht]at h
  | cons v rest=>
   cases rest with
   | cons _ _=>simp[DataW.trod,ht]at h
   | nil=>
    cases v<;>simp[DataW.trod,ht]at h
    rename_i b
    obtain⟨rfl,rfl⟩:=h
    refine⟨b,[.bool b],rfl,.cons (.bool _) .nil,fun v hv=>by simp at hv;subst hv;rfl,trivial,?_⟩
    show 1≤40*1
    omega
theorem cells_inv:∀{k:Nat}{a:Addr}{cs:List Value},0<k→W.cells? 0 a k=some cs→∃c e fr,W.heap[a.block]?=some (.cells c e fr)∧a.spot=none∧cs=(c.toList.drop a.off).take k∧a.off+k≤c.size:=fun{k a cs} hk h=>by
 unfold World.cells? at h
 rw[if_pos (Nat.zero_le _)]at h
 have hl:cs.length=k:=by have:=Lib.mapM_length h;simpa using this
 have hat:∀i,i<k→∃v,cs[i]?=some v∧W.cell? (a.add i)=some v:=fun i hi=>Lib.mapM_at h i i (by simp[hi])
 obtain⟨v0,_,h0⟩:=hat 0 hk
 have ha0:a.add 0=a:=rfl
 rw[ha0]at h0
 unfold World.cell? at h0
 split at h0
 ·rename_i c e fr hb
  split at h0
  ·cases h0
  ·rename_i hs
   have hs:a.spot=none:=by cases hsp:a.spot<;>simp_all
   have hcell:∀i,i<k→cs[i]?=c[a.off+i]?:=fun i hi=>by
    obtain⟨v,q1,q2⟩:=hat i hi
    rw[q1]
    have e1:(a.add i).block=a.block∧(a.add i).spot=none∧(a.add i).off=a.off+i:=by
     unfold Addr.add
     split
     ·rename_i hz;subst hz;exact⟨rfl,hs,rfl⟩
     ·exact⟨rfl,rfl,rfl⟩
    unfold World.cell? at q2
    rw[e1.1,hb,e1.2.1,e1.2.2]at q2
    simpa using q2.symm
   have hsz:a.off+k≤c.size:=by
    obtain⟨v,q1,_⟩:=hat (k-1) (by omega)
    have:=hcell (k-1) (by omega)
    rw[q1]at this
    have:=(Array.getElem?_eq_some_iff.1 this.symm).1
    omega
   refine⟨c,e,fr,hb,hs,List.ext_getElem? fun i=>?_,hsz⟩
   rcases Nat.lt_or_ge i k with hi | hi
   ·rw[hcell i hi,List.getElem?_take,if_pos hi,List.getElem?_drop];simp
   ·rw[List.getElem?_eq_none (by omega),List.getElem?_eq_none (by simp;omega)]
 ·cases h0
theorem bulk_app:∀(a b:List (DataW H)),uptoBulkAll (a++b)=uptoBulkAll a+uptoBulkAll b
 | [],b=>by simp[uptoBulkAll]
 | x::a,b=>by
  show uptoBulk x+uptoBulkAll (a++b)=uptoBulk x+uptoBulkAll a+uptoBulkAll b
  rw[bulk_app a b];omega
theorem bulk_one (x:DataW H):uptoBulkAll [x]=uptoBulk x:=by simp[uptoBulkAll]
set_option maxHeartbeats 1000000 in
theorem RD.list {t e:TypeId}{τ:Ty}(hZ:∀b o,W.heap[b]?=some o→Z b=some o) (ht:P.underlying t=some (.slice e)) (hc:P.cellsOf e=tsz τ) (hp:0<tsz τ) (hE:RD enc P W Z σ e τ):RD enc P W Z σ t (.list τ):=fun fuel cs D ps h=>by
 cases fuel with
 | zero=>exact(trod_zero h).elim
 | succ fuel=>
  cases cs with
  | nil=>simp[DataW.trod,ht]at h
  | cons v rest=>
   cases rest with
   | cons _ _=>simp[DataW.trod,ht]at h
   | nil=>
    cases v<;>try (simp[DataW.trod,ht]at h;done)
    rename_i base len cap
    cases base with
    | none=>
     have hz:len=0∧cap=0∧D=.nil:=by
      cases len with
      | zero=>cases cap with
       | zero=>simp[DataW.trod,ht]at h;exact⟨rfl,rfl,h.1.symm⟩
       | succ _=>simp[DataW.trod,ht]at h
      | succ _=>simp[DataW.trod,ht]at h
     obtain⟨rfl,rfl,rfl⟩:=hz
     refine⟨([]:List τ.D),[.nils],⟨.nils,[],rfl,.nil,[],rfl,rfl,fun i x y hx=>by simp[asL]at hx⟩,.cons .nils .nil,fun v hv=>by simp at hv;subst hv;rfl,⟨by show I64 0;unfold I64;omega,fun x hx=>by simp[asL]at hx⟩,?_⟩
     have:=encN_len (n:=0) (by unfold I64;omega)
     show(encN 0++[]).length≤40*1
     rw[List.append_nil];omega
    | some a=>
     simp only[DataW.trod,ht]at h
     split at h
     ·rename_i hcond
      simp only[Option.bind_eq_some_iff,Option.map_eq_some_iff,Prod.mk.injEq]at h
      obtain⟨elems,hm,rest,hr,rfl,_⟩:=h
      have hlen:elems.length=len:=by have:=Lib.mapM_length hm;simpa using this
      have hat:∀i,i<len→∃x,elems[i]?=some x∧((W.cells? 0 (a.add (i*P.cellsOf e)) (P.cellsOf e)).bind (DataW.trod enc P W 0 (fun _=>true) true fuel e))=some x:=fun i hi=>Lib.mapM_at hm i i (by simp[hi])
      have key:∀n,n≤len→∃(ds:List τ.D) (css:List (List AV)),ds.length=n∧css.length=n∧(∀(i:Nat) (x:τ.D) (y:List AV),ds[i]?=some x→css[i]?=some y→RC τ x y) ∧
        (0<n→∃c el fr,W.heap[a.block]?=some (.cells c el fr)∧a.spot=none∧VRs Z σ css.flatten ((c.toList.drop a.off).take (n*tsz τ))∧(∀v∈(c.toList.drop a.off).take (n*tsz τ),v.oneCell'=true)) ∧
        (∀x∈ds,τ.wf x)∧(ds.flatMap τ.enc).length≤40*uptoBulkAll ((elems.take n).map (·.1)):=by
       intro n
       induction n with
       | zero=>intro _;exact⟨[],[],rfl,rfl,fun i x y hx=>by simp at hx,fun h=>absurd h (by omega),fun x hx=>by simp at hx,by simp⟩
       | succ n ih=>
        intro hn
        obtain⟨ds,css,q1,q2,q3,q4,q5,q6⟩:=ih (by omega)
        obtain⟨⟨D1,ps1⟩,x1,x2⟩:=hat n (by omega)
        rw[Option.bind_eq_some_iff]at x2
        obtain⟨cs1,x2,x3⟩:=x2
        rw[hc]at x2
        obtain⟨c,el,fr,y1,y2,y3,y4⟩:=cells_inv hp x2
        obtain⟨d1,l1,z1,z2,z3,z4,z5⟩:=hE fuel cs1 D1 ps1 x3
        have e1:(a.add (n*tsz τ)).block=a.block∧(a.add (n*tsz τ)).off=a.off+n*tsz τ:=by
         unfold Addr.add
         split
         ·rename_i hz;rw[hz];exact⟨rfl,rfl⟩
         ·exact⟨rfl,rfl⟩
        rw[e1.1]at y1
        rw[e1.2]at y3 y4
        have hspot:a.spot=none:=by
         rcases Nat.eq_zero_or_pos n with h0 | h0
         ·subst h0;rw[Nat.zero_mul]at y2;exact y2
         ·obtain⟨_,_,_,_,hs,_⟩:=q4 h0;exact hs
        have htk:(c.toList.drop a.off).take ((n+1)*tsz τ)=(c.toList.drop a.off).take (n*tsz τ)++cs1:=by
         rw[Nat.add_mul,Nat.one_mul,List.take_add,List.drop_drop,y3]
        have hpre:VRs Z σ css.flatten ((c.toList.drop a.off).take (n*tsz τ))∧∀v∈(c.toList.drop a.off).take (n*tsz τ),v.oneCell'=true:=by
         rcases Nat.eq_zero_or_pos n with h0 | h0
         ·subst h0
          have:css=[]:=List.length_eq_zero_iff.1 q2
          subst this
          simp only[Nat.zero_mul,List.take_zero,List.flatten_nil]
          exact⟨.nil,fun v hv=>by simp at hv⟩
         ·obtain⟨c',_,_,w1,_,w2,w3⟩:=q4 h0
          rw[y1]at w1
          cases w1
          exact⟨w2,w3⟩
        refine⟨ds++[d1],css++[l1],by simp[q1],by simp[q2],fun i x y hx hy=>?_,fun _=>⟨c,el,fr,y1,hspot,?_,?_⟩,fun x hx=>?_,?_⟩
        ·rcases Nat.lt_or_ge i n with hi | hi
         ·rw[List.getElem?_append_left (by omega)]at hx hy
          exact q3 i x y hx hy
         ·rw[List.getElem?_append_right (by omega)]at hx hy
          rw[q1]at hx;rw[q2]at hy
          have hj:i-n=0:=by
           rcases Nat.eq_zero_or_pos (i-n)with h | h
           ·exact h
           ·rw[List.getElem?_eq_none (by simp;omega)]at hx;cases hx
          rw[hj]at hx hy
          cases hx;cases hy;exact z1
        ·rw[htk]
         have:(css++[l1]).flatten=css.flatten++l1:=by simp
         rw[this]
         exact hpre.1.append z2
        ·rw[htk]
         intro v hv
         rcases List.mem_append.1 hv with h | h
         ·exact hpre.2 v h
         ·exact z3 v h
        ·rcases List.mem_append.1 hx with h | h
         ·exact q5 x h
         ·simp at h;subst h;exact z4
        ·have e2:(elems.take (n+1)).map (·.1)=(elems.take n).map (·.1)++[D1]:=by
          rw[List.take_add_one,x1];simp
         have e3:(ds++[d1]).flatMap τ.enc=ds.flatMap τ.enc++τ.enc d1:=by simp
         rw[e2,bulk_app,bulk_one,e3,List.length_append]
         omega
      obtain⟨ds,css,q1,q2,q3,q4,q5,q6⟩:=key len (Nat.le_refl _)
      have hfl:css.flatten.length=len*tsz τ:=by
       rw[flat_len css fun x hx=>?_,q2]
       obtain⟨i,hi⟩:=List.getElem?_of_mem hx
       have hlt:=(List.getElem?_eq_some_iff.1 hi).1
       exact RC_len τ _ _ (q3 i _ x (List.getElem?_eq_getElem (by omega)) hi)
      have hI:I64 ((ds.length:Nat):Int):=by
       have:=hcond.2.1
       have h2:=hcond.2.2
       have h3:maxLen=9223372036854775807:=rfl
       rw[q1];unfold I64;omega
      refine⟨ds,[.sim css.flatten len false],⟨_,css.flatten,rfl,by show Frz (tsz τ) _ _ ds.length;rw[q1];exact .sim hfl,css,rfl,by show css.length=ds.length;omega,q3⟩,.cons ?_ .nil,fun v hv=>by simp at hv;subst hv;rfl,⟨hI,q5⟩,?_⟩
      ·rcases Nat.eq_zero_or_pos len with h0 | h0
       ·subst h0
        have:css=[]:=List.length_eq_zero_iff.1 q2
        subst this
        exact .simz a (fun h=>by cases h)
       ·obtain⟨c,el,fr,y1,y2,y3,y4⟩:=q4 h0
        refine .sim (c:=c) (e:=el) (fr:=fr) hcond.2.1 (fun h=>by cases h) y2 (hZ _ _ y1) ?_ ?_
        ·rw[hfl];exact y4
        ·rw[hfl];exact y3
      ·have h1:=encN_len hI
       have h2:elems.take len=elems:=List.take_of_length_le (by omega)
       rw[h2]at q6
       show(encN (ds.length:Int)++ds.flatMap τ.enc).length≤40*(uptoBulkAll (elems.map (·.1))+uptoBulkAll (rest.map (·.1))+1)
       rw[List.length_append];omega
     ·cases h
inductive Flds (enc:TypeId × Value→H) (P:Program) (W:World) (Z:Zt) (σ:Sg):Nat→List Field→Ty→Prop
 | one {o:Nat} {f:Field} {τ:Ty} (ho:f.offset=o) (hc:P.cellsOf f.type=tsz τ) (hE:RD enc P W Z σ f.type τ):Flds enc P W Z σ o [f] τ
 | cons {o:Nat} {f:Field} {fs:List Field} {τ τ':Ty} (ho:f.offset=o) (hc:P.cellsOf f.type=tsz τ) (hE:RD enc P W Z σ f.type τ) (h:Flds enc P W Z σ (o+tsz τ) fs τ'):Flds enc P W Z σ o (f::fs) (.pair τ τ')
theorem Flds.rd {o:Nat}{fs:List Field}{τ:Ty}(hF:Flds enc P W Z σ o fs τ):∀(fuel:Nat) (cs:List Value) (xs:List (DataW H × List MemPlace)),
  (fs.mapM fun f=>DataW.trod enc P W 0 (fun _=>true) true fuel f.type ((cs.drop f.offset).take (P.cellsOf f.type)))=some xs →
  ∃(d:τ.D) (l:List AV),RC τ d l∧VRs Z σ l ((cs.drop o).take (tsz τ))∧(∀v∈(cs.drop o).take (tsz τ),v.oneCell'=true)∧τ.wf d∧(τ.enc d).length≤40*uptoBulkAll (xs.map (·.1)):=by
 induction hF with
 | one ho hc hE=>
  intro fuel cs xs h
  rename_i f τ
  subst ho
  simp only[List.mapM_cons,List.mapM_nil,Option.bind_eq_bind,Option.bind_eq_some_iff,Option.pure_def,Option.some.injEq]at h
  obtain⟨⟨D,p⟩,h1,_,rfl,rfl⟩:=h
  rw[hc]at h1
  obtain⟨d,l,z1,z2,z3,z4,z5⟩:=hE fuel _ D p h1
  exact⟨d,l,z1,z2,z3,z4,by show _≤40*(uptoBulk D+0);omega⟩
 | cons ho hc hE hF ih=>
  intro fuel cs xs h
  rename_i f fs τ τ'
  subst ho
  simp only[List.mapM_cons,Option.bind_eq_bind,Option.bind_eq_some_iff,Option.pure_def,Option.some.injEq]at h
  obtain⟨⟨D,p⟩,h1,ys,h2,rfl⟩:=h
  rw[hc]at h1
  obtain⟨d,l,z1,z2,z3,z4,z5⟩:=hE fuel _ D p h1
  obtain⟨d',l',y1,y2,y3,y4,y5⟩:=ih fuel cs ys h2
  have e:(cs.drop f.offset).take (tsz (.pair τ τ'))=(cs.drop f.offset).take (tsz τ)++(cs.drop (f.offset+tsz τ)).take (tsz τ'):=by
   show(cs.drop f.offset).take (tsz τ+tsz τ')=_
   rw[List.take_add,List.drop_drop]
  refine⟨(d,d'),l++l',⟨l,l',rfl,z1,y1⟩,by rw[e];exact z2.append y2,by
   rw[e];intro v hv
   rcases List.mem_append.1 hv with h | h
   ·exact z3 v h
   ·exact y3 v h,⟨z4,y4⟩,?_⟩
  show(τ.enc d++τ'.enc d').length≤40*(uptoBulk D+uptoBulkAll (ys.map (·.1)))
  rw[List.length_append];omega
theorem RD.struct {t:TypeId}{fs:Array Field}{τ:Ty}(ht:P.underlying t=some (.struct fs)) (hc:P.cellsOf t=tsz τ) (hF:Flds enc P W Z σ 0 fs.toList τ):RD enc P W Z σ t τ:=fun fuel cs D ps h=>by
 cases fuel with
 | zero=>exact(trod_zero h).elim
 | succ fuel=>
  have h:(if cs.length=P.cellsOf t then(fs.toList.mapM fun f=>DataW.trod enc P W 0 (fun _=>true) true fuel f.type ((cs.drop f.offset).take (P.cellsOf f.type))).map fun xs=>((.agg (xs.map (·.1)):DataW H),xs.flatMap (·.2))else none)=some (D,ps):=by
   simpa[DataW.trod,ht]using h
  split at h
  ·rename_i hl
   simp only[Option.map_eq_some_iff,Prod.mk.injEq]at h
   obtain⟨xs,h1,rfl,_⟩:=h
   obtain⟨d,l,z1,z2,z3,z4,z5⟩:=hF.rd fuel cs xs h1
   have e:(cs.drop 0).take (tsz τ)=cs:=by rw[List.drop_zero];exact List.take_of_length_le (by omega)
   rw[e]at z2 z3
   exact⟨d,l,z1,z2,z3,z4,by show _≤40*(uptoBulkAll (xs.map (·.1))+1);omega⟩
  ·cases h
def le8:Nat→Nat→List UInt8
 | 0,_=>[]
 | k+1,n=>UInt8.ofNat (n % 256)::le8 k (n / 256)
theorem le8_len:∀k n,(le8 k n).length=k
 | 0,_=>rfl
 | k+1,n=>by show(le8 k (n / 256)).length+1=k+1;rw[le8_len k]
theorem w8_le8:∀k n,n<256 ^ k→w8 (le8 k n)=n
 | 0,n,h=>by
   have:n=0:=by simpa using h
   subst this;rfl
 | k+1,n,h=>by
  have h1:n / 256<256 ^ k:=Nat.div_lt_of_lt_mul (by rw[Nat.mul_comm,←Nat.pow_succ];exact h)
  show(UInt8.ofNat (n % 256)).toNat+256*w8 (le8 k (n / 256))=n
  rw[w8_le8 k _ h1]
  have:(UInt8.ofNat (n % 256)).toNat=n % 256:=by simp
  rw[this];omega
theorem trod_u64 {t:TypeId}(ht:P.underlying t=some (.int .u64)){fuel:Nat}{cs:List Value}{D:DataW H}{ps:List MemPlace}(h:DataW.trod enc P W 0 (fun _=>true) true fuel t cs=some (D,ps)):∃n:Nat,cs=[.int .u64 (n:Int)]∧n<18446744073709551616:=by
 cases fuel with
 | zero=>exact(trod_zero h).elim
 | succ fuel=>
  cases cs with
  | nil=>simp[DataW.trod,ht]at h
  | cons v rest=>
   cases rest with
   | cons _ _=>simp[DataW.trod,ht]at h
   | nil=>
    cases v<;>simp[DataW.trod,ht]at h
    rename_i k n
    obtain⟨⟨rfl,hw⟩,_,_⟩:=h
    have hw':0≤n∧n≤18446744073709551615:=by
     have:(decide ((0:Int)≤n)&&decide (n≤18446744073709551615))=true:=hw
     simp at this;exact this
    exact⟨n.toNat,by rw[Int.toNat_of_nonneg hw'.1],by omega⟩
theorem RD.word4 {t e:TypeId}(ht:P.underlying t=some (.array 4 e)) (he:P.underlying e=some (.int .u64)) (hce:P.cellsOf e=1) (hct:P.cellsOf t=4):RD enc P W Z σ t (.vec 32):=fun fuel cs D ps h=>by
 cases fuel with
 | zero=>exact(trod_zero h).elim
 | succ fuel=>
  have h:(if cs.length=P.cellsOf t then((List.range 4).mapM fun i=>DataW.trod enc P W 0 (fun _=>true) true fuel e ((cs.drop (i*P.cellsOf e)).take (P.cellsOf e))).map fun xs=>((.agg (xs.map (·.1)):DataW H),xs.flatMap (·.2))else none)=some (D,ps):=by
   simpa[DataW.trod,ht]using h
  split at h
  ·rename_i hl
   rw[hct]at hl
   simp only[Option.map_eq_some_iff,Prod.mk.injEq]at h
   obtain⟨xs,h1,rfl,_⟩:=h
   match cs,hl with
   | [c0,c1,c2,c3],_=>
    have hat:∀i,i<4→∃n:Nat,(([c0,c1,c2,c3].drop (i*1)).take 1)=[.int .u64 (n:Int)]∧n<18446744073709551616:=fun i hi=>by
     obtain⟨x,_,x2⟩:=Lib.mapM_at h1 i i (by simp[hi])
     rw[hce]at x2
     exact trod_u64 he x2
    obtain⟨n0,a0,b0⟩:=hat 0 (by omega)
    obtain⟨n1,a1,b1⟩:=hat 1 (by omega)
    obtain⟨n2,a2,b2⟩:=hat 2 (by omega)
    obtain⟨n3,a3,b3⟩:=hat 3 (by omega)
    simp at a0 a1 a2 a3
    subst a0;subst a1;subst a2;subst a3
    have w:∀n,n<18446744073709551616→w8 (le8 8 n)=n:=fun n hn=>w8_le8 8 n hn
    have e8:∀n,(le8 8 n).length=8:=le8_len 8
    refine⟨(le8 8 n0++(le8 8 n1++(le8 8 n2++le8 8 n3)):List UInt8),[.int .u64 n0,.int .u64 n1,.int .u64 n2,.int .u64 n3],⟨?_,rfl,fun i hi=>?_⟩,.cons (.int _ _) (.cons (.int _ _) (.cons (.int _ _) (.cons (.int _ _) .nil))),fun v hv=>?_,?_,?_⟩
    ·show(le8 8 n0++(le8 8 n1++(le8 8 n2++le8 8 n3))).length=32
     simp[e8]
    ·have hi:i<4:=hi
     have hcase:i=0∨i=1∨i=2∨i=3:=by omega
     show _=some (AV.int .u64 ((w8 (((le8 8 n0++(le8 8 n1++(le8 8 n2++le8 8 n3))).drop (8*i)).take 8):Nat):Int))
     rcases hcase with rfl | rfl | rfl | rfl
     ·have:((le8 8 n0++(le8 8 n1++(le8 8 n2++le8 8 n3))).drop (8*0)).take 8=le8 8 n0:=by
       rw[Nat.mul_zero,List.drop_zero,List.take_append_of_le_length (by rw[e8];omega),List.take_of_length_le (by rw[e8];omega)]
      rw[this,w _ b0];rfl
     ·have:((le8 8 n0++(le8 8 n1++(le8 8 n2++le8 8 n3))).drop (8*1)).take 8=le8 8 n1:=by
       rw[List.drop_append,List.drop_of_length_le (by rw[e8];omega),List.nil_append,e8,show 8*1-8=0 by omega,List.drop_zero,List.take_append_of_le_length (by rw[e8];omega),List.take_of_length_le (by rw[e8];omega)]
      rw[this,w _ b1];rfl
     ·have:((le8 8 n0++(le8 8 n1++(le8 8 n2++le8 8 n3))).drop (8*2)).take 8=le8 8 n2:=by
       rw[List.drop_append,List.drop_of_length_le (by rw[e8];omega),List.nil_append,e8,List.drop_append,List.drop_of_length_le (by rw[e8];omega),List.nil_append,e8,show 8*2-8-8=0 by omega,List.drop_zero,List.take_append_of_le_length (by rw[e8];omega),List.take_of_length_le (by rw[e8];omega)]
      rw[this,w _ b2];rfl
     ·have:((le8 8 n0++(le8 8 n1++(le8 8 n2++le8 8 n3))).drop (8*3)).take 8=le8 8 n3:=by
       rw[List.drop_append,List.drop_of_length_le (by rw[e8];omega),List.nil_append,e8,List.drop_append,List.drop_of_length_le (by rw[e8];omega),List.nil_append,e8,List.drop_append,List.drop_of_length_le (by rw[e8];omega),List.nil_append,e8,show 8*3-8-8-8=0 by omega,List.drop_zero,List.take_of_length_le (by rw[e8];omega)]
      rw[this,w _ b3];rfl
    ·simp only[List.mem_cons,List.not_mem_nil,or_false]at hv
     rcases hv with rfl | rfl | rfl | rfl<;>rfl
    ·show(le8 8 n0++(le8 8 n1++(le8 8 n2++le8 8 n3))).length=32
     simp[e8]
    ·show(le8 8 n0++(le8 8 n1++(le8 8 n2++le8 8 n3))).length≤40*(uptoBulkAll (xs.map (·.1))+1)
     simp[e8];omega
  ·cases h
theorem RD.map {t:TypeId}{τ τ':Ty}(h:RD enc P W Z σ t τ) (f:τ.D→τ'.D) (h1:∀d l,RC τ d l→RC τ' (f d) l) (h2:∀d,τ.wf d→τ'.wf (f d)) (h3:∀d,τ'.enc (f d)=τ.enc d):RD enc P W Z σ t τ':=fun fuel cs D ps hh=>by
 obtain⟨d,l,z1,z2,z3,z4,z5⟩:=h fuel cs D ps hh
 exact⟨f d,l,h1 d l z1,z2,z3,h2 d z4,by rw[h3];exact z5⟩
end
end Go.AL
namespace Go.Proofs.YtdandeekdbndgaaGreatDoor
open Go Go.AL Go.AL.Co
variable {H:Type}{enc:TypeId × Value→H}{W:World}{Z:Zt}{σ:Sg}
def sRow:Ty:=.pair tInts .int
def sAtom:Ty:=.pair .int (.pair tItems (.pair tItems (.pair tDFA (.pair sRow (.pair tMach (.pair tQ .int))))))
def sLit:Ty:=.pair sAtom .bool
theorem rd3:RD enc Tryz.prog W Z σ 3 .int:=RD.int Tryz.underlying3
theorem rd4:RD enc Tryz.prog W Z σ 4 .bool:=RD.bool Tryz.underlying4
theorem rd5:RD enc Tryz.prog W Z σ 5 .byte:=RD.byte Tryz.underlying5
theorem rd127:RD enc Tryz.prog W Z σ 166 tClass:=RD.word4 Tryz.underlying166 Tryz.underlying162 (by kernel_rfl) (by kernel_rfl)
theorem rd99:RD enc Tryz.prog W Z σ 90 tItem:=RD.struct Tryz.underlying90 (by kernel_rfl) (.cons rfl (by kernel_rfl) rd3 (.one rfl (by kernel_rfl) rd5))
theorem rd139:RD enc Tryz.prog W Z σ 178 tPiece:=RD.struct Tryz.underlying178 (by kernel_rfl) (.cons rfl (by kernel_rfl) rd4 (.one rfl (by kernel_rfl) rd5))
section
variable (hZ:∀b o,W.heap[b]?=some o→Z b=some o)
 include hZ
theorem rd24:RD enc Tryz.prog W Z σ 22 tBytes:=RD.list hZ Tryz.underlying22 (by kernel_rfl) (by decide) rd5
theorem rd33:RD enc Tryz.prog W Z σ 31 tInts:=RD.list hZ Tryz.underlying31 (by kernel_rfl) (by decide) rd3
theorem rd45:RD enc Tryz.prog W Z σ 25 tItems:=RD.list hZ Tryz.underlying25 (by kernel_rfl) (by decide) rd99
theorem rd46:RD enc Tryz.prog W Z σ 26 (.list tClass):=RD.list hZ Tryz.underlying26 (by kernel_rfl) (by decide) rd127
theorem rd47:RD enc Tryz.prog W Z σ 27 (.list tInts):=RD.list hZ Tryz.underlying27 (by kernel_rfl) (by decide) (rd33 hZ)
theorem rd48:RD enc Tryz.prog W Z σ 28 (.list .bool):=RD.list hZ Tryz.underlying28 (by kernel_rfl) (by decide) rd4
theorem rd134:RD enc Tryz.prog W Z σ 173 (.list tPiece):=RD.list hZ Tryz.underlying173 (by kernel_rfl) (by decide) rd139
theorem rd136:RD enc Tryz.prog W Z σ 175 tMove:=RD.struct Tryz.underlying175 (by kernel_rfl) (.cons rfl (by kernel_rfl) rd3 (.one rfl (by kernel_rfl) (rd134 hZ)))
theorem rd132:RD enc Tryz.prog W Z σ 171 (.list tMove):=RD.list hZ Tryz.underlying171 (by kernel_rfl) (by decide) (rd136 hZ)
theorem rd53:RD enc Tryz.prog W Z σ 34 (.list (.list tMove)):=RD.list hZ Tryz.underlying34 (by kernel_rfl) (by decide) (rd132 hZ)
theorem rd54:RD enc Tryz.prog W Z σ 35 (.list tBytes):=RD.list hZ Tryz.underlying35 (by kernel_rfl) (by decide) (rd24 hZ)
theorem rd50:RD enc Tryz.prog W Z σ 30 tDFA:=RD.struct Tryz.underlying30 (by kernel_rfl) (.cons rfl (by kernel_rfl) (rd46 hZ) (.cons rfl (by kernel_rfl) (rd47 hZ) (.one rfl (by kernel_rfl) (rd48 hZ))))
theorem rd52:RD enc Tryz.prog W Z σ 33 sRow:=RD.struct Tryz.underlying33 (by kernel_rfl) (.cons rfl (by kernel_rfl) (rd33 hZ) (.one rfl (by kernel_rfl) rd3))
theorem rd56:RD enc Tryz.prog W Z σ 37 tMach:=RD.struct Tryz.underlying37 (by kernel_rfl) (.cons rfl (by kernel_rfl) (rd46 hZ) (.cons rfl (by kernel_rfl) (rd53 hZ) (.cons rfl (by kernel_rfl) (rd48 hZ) (.one rfl (by kernel_rfl) (rd54 hZ)))))
 omit hZ in
theorem rd58:RD enc Tryz.prog W Z σ 39 tQ:=RD.struct Tryz.underlying39 (by kernel_rfl) (.cons rfl (by kernel_rfl) rd3 (.cons rfl (by kernel_rfl) rd3 (.cons rfl (by kernel_rfl) rd3 (.cons rfl (by kernel_rfl) rd3 (.one rfl (by kernel_rfl) rd4)))))
theorem rd60:RD enc Tryz.prog W Z σ 41 sAtom:=RD.struct Tryz.underlying41 (by kernel_rfl) (.cons rfl (by kernel_rfl) rd3 (.cons rfl (by kernel_rfl) (rd45 hZ) (.cons rfl (by kernel_rfl) (rd45 hZ) (.cons rfl (by kernel_rfl) (rd50 hZ) (.cons rfl (by kernel_rfl) (rd52 hZ) (.cons rfl (by kernel_rfl) (rd56 hZ) (.cons rfl (by kernel_rfl) rd58 (.one rfl (by kernel_rfl) rd3))))))))
theorem rd62s:RD enc Tryz.prog W Z σ 43 sLit:=RD.struct Tryz.underlying43 (by kernel_rfl) (.cons rfl (by kernel_rfl) (rd60 hZ) (.one rfl (by kernel_rfl) rd4))
def unLit (d:sLit.D):tLit.D:=(d.1.1,d.1.2.1,d.1.2.2.1,d.1.2.2.2.1.1,d.1.2.2.2.1.2.1,d.1.2.2.2.1.2.2,d.1.2.2.2.2.1.1,d.1.2.2.2.2.1.2,d.1.2.2.2.2.2.1.1,d.1.2.2.2.2.2.1.2.1,d.1.2.2.2.2.2.1.2.2.1,d.1.2.2.2.2.2.1.2.2.2,d.1.2.2.2.2.2.2.1,d.1.2.2.2.2.2.2.2,d.2)
theorem rd62:RD enc Tryz.prog W Z σ 43 tLit:=(rd62s hZ).map unLit
 (by
  rintro d l ⟨_,_,rfl,⟨_,_,rfl,h0,_,_,rfl,h1,_,_,rfl,h2,_,_,rfl,⟨_,_,rfl,h3,_,_,rfl,h4,h5⟩,_,_,rfl,⟨_,_,rfl,h6,h7⟩,_,_,rfl,⟨_,_,rfl,h8,_,_,rfl,h9,_,_,rfl,h10,h11⟩,_,_,rfl,h12,h13⟩,h14⟩
  simp only[List.append_assoc]
  exact⟨_,_,rfl,h0,_,_,rfl,h1,_,_,rfl,h2,_,_,rfl,h3,_,_,rfl,h4,_,_,rfl,h5,_,_,rfl,h6,_,_,rfl,h7,_,_,rfl,h8,_,_,rfl,h9,_,_,rfl,h10,_,_,rfl,h11,_,_,rfl,h12,_,_,rfl,h13,h14⟩)
 (by
  rintro d ⟨⟨w0,w1,w2,⟨w3,w4,w5⟩,⟨w6,w7⟩,⟨w8,w9,w10,w11⟩,w12,w13⟩,w14⟩
  exact⟨w0,w1,w2,w3,w4,w5,w6,w7,w8,w9,w10,w11,w12,w13,w14⟩)
 (by
  intro d
  simp only[tLit,sLit,sAtom,sRow,tDFA,tMach,unLit,Ty.enc,List.append_assoc])
theorem rd80:RD enc Tryz.prog W Z σ 92 tStep:=RD.struct Tryz.underlying92 (by kernel_rfl) (.cons rfl (by kernel_rfl) rd3 (.cons rfl (by kernel_rfl) (rd33 hZ) (.cons rfl (by kernel_rfl) rd3 (.cons rfl (by kernel_rfl) rd3 (.cons rfl (by kernel_rfl) rd3 (.cons rfl (by kernel_rfl) rd3 (.cons rfl (by kernel_rfl) rd3 (.one rfl (by kernel_rfl) rd3))))))))
theorem rd66:RD enc Tryz.prog W Z σ 67 (.list tStep):=RD.list hZ Tryz.underlying67 (by kernel_rfl) (by decide) (rd80 hZ)
theorem rd84:RD enc Tryz.prog W Z σ 121 tEqn:=RD.struct Tryz.underlying121 (by kernel_rfl) (.cons rfl (by kernel_rfl) (rd45 hZ) (.one rfl (by kernel_rfl) (rd45 hZ)))
theorem rd67:RD enc Tryz.prog W Z σ 68 (.list tEqn):=RD.list hZ Tryz.underlying68 (by kernel_rfl) (by decide) (rd84 hZ)
theorem rd69:RD enc Tryz.prog W Z σ 70 tNode:=RD.struct Tryz.underlying70 (by kernel_rfl) (.cons rfl (by kernel_rfl) rd3 (.cons rfl (by kernel_rfl) rd3 (.cons rfl (by kernel_rfl) rd3 (.cons rfl (by kernel_rfl) rd3 (.cons rfl (by kernel_rfl) (rd62 hZ) (.cons rfl (by kernel_rfl) (rd33 hZ) (.cons rfl (by kernel_rfl) (rd47 hZ) (.cons rfl (by kernel_rfl) (rd66 hZ) (.one rfl (by kernel_rfl) (rd67 hZ))))))))))
theorem rd23:RD enc Tryz.prog W Z σ 24 tProof:=RD.list hZ Tryz.underlying24 (by kernel_rfl) (by decide) (rd69 hZ)
end
end Go.Proofs.YtdandeekdbndgaaGreatDoor
