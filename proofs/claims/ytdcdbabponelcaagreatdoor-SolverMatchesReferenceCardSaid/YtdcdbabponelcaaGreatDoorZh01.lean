import Derived.Test.YtdcdbabponelcaaGreatDoorZg01
import Derived.Lib.LaidTab
import GoSem.Claim
import Derived.Test.YtdcdbabponelcaaGreatDoorZg08
import Derived.Test.YtdcdbabponelcaaGreatDoorCards
import Derived.Test.YtdcdbabponelcaaGreatDoorTie
import Derived.WalkKit
import Derived.ProofKit
import Derived.OpenShut
import Derived.Deep.DeepHandedRow
import Derived.ReadAgain
/-
  what is read of arguments; the law at the root.
-/
set_option linter.unusedSectionVars false
set_option linter.unusedVariables false
set_option linter.unusedSimpArgs false
namespace Go.AL
variable [BY]
section
variable {H:Type}{enc:TypeId × Value→H}{P:Program}{W:World}{Z:Zt}{σ:Sg}
def RP (enc:TypeId × Value→H) (P:Program) (W:World) (Z:Zt) (σ:Sg) (t:TypeId) (Q:List AV→Prop):Prop:=∀(fuel:Nat) (cs:List Value) (D:DataW H) (ps:List MemPlace),DataW.trod enc P W 0 (fun _=>true) true fuel t cs=some (D,ps) →
 ∃l:List AV,Q l∧CI Z σ l cs∧∀v∈cs,v.oneCell'=true
theorem RP.mono {t:TypeId}{Q Q':List AV→Prop}(h:RP enc P W Z σ t Q) (hq:∀l,Q l→Q' l):RP enc P W Z σ t Q':=fun fuel cs D ps hh=>by
 obtain⟨l,h1,h2⟩:=h fuel cs D ps hh
 exact⟨l,hq l h1,h2⟩
theorem JD {t:TypeId}{cs:List Value}{x:DataW H × List MemPlace}(h:DataW.trod enc P W 0 (fun _=>true) true 0 t cs=some x):False:=by
 simp[DataW.trod]at h
theorem RP.byte {t:TypeId}(ht:P.underlying t=some (.int .u8)):RP enc P W Z σ t fun l=>∃x,l=[bv x]:=fun fuel cs D ps h=>by
 cases fuel with
 | zero=>exact(JD h).elim
 | succ fuel=>
  cases cs with
  | nil=>simp[DataW.trod,ht]at h
  | cons v rest=>
   cases rest with
   | cons _ _=>simp[DataW.trod,ht]at h
   | nil=>
    cases v<;>simp[DataW.trod,ht]at h
    rename_i k n
    obtain⟨⟨rfl,hw⟩,rfl,rfl⟩:=h
    have hw':0≤n∧n≤255:=by
     have:(decide ((0:Int)≤n)&&decide (n≤255))=true:=hw
     simp at this;exact this
    have e:bv (UInt8.ofNat n.toNat)=.int .u8 n:=by
     have:(UInt8.ofNat n.toNat).toNat=n.toNat:=by simp;omega
     unfold bv;rw[this,Int.toNat_of_nonneg hw'.1]
    exact⟨[.int .u8 n],⟨_,by rw[e]⟩,.cons (.int _ _) .nil,fun v hv=>by simp at hv;subst hv;rfl⟩
theorem Rq:∀{k:Nat}{a:Addr}{cs:List Value},0<k→W.cells? 0 a k=some cs→∃c e fr,W.heap[a.block]?=some (.cells c e fr)∧a.spot=none∧cs=(c.toList.drop a.off).take k∧a.off+k≤c.size:=fun{k a cs} hk h=>by
 unfold World.cells? at h
 rw[if_pos (Nat.zero_le _)]at h
 have hl:cs.length=k:=by have:=Lib.mapM_length h;simpa using this
 have hat:∀i,i<k→∃v,cs[i]?=some v∧W.cell? (a.add i)=some v:=fun i hi=>Lib.mapM_at h i i (by simp[hi])
 obtain⟨v0,_,h0⟩:=hat 0 hk
 have ha0:a.add 0=a:=rfl
 rw[ha0]at h0
 unfold World.cell? at h0
 split at h0
 ·rename_i c e fr hb
  split at h0
  ·cases h0
  ·rename_i hs
   have hs:a.spot=none:=by cases hsp:a.spot<;>simp_all
   have hcell:∀i,i<k→cs[i]?=c[a.off+i]?:=fun i hi=>by
    obtain⟨v,q1,q2⟩:=hat i hi
    rw[q1]
    have e1:(a.add i).block=a.block∧(a.add i).spot=none∧(a.add i).off=a.off+i:=by
     unfold Addr.add
     split
     ·rename_i hz;subst hz;exact⟨rfl,hs,rfl⟩
     ·exact⟨rfl,rfl,rfl⟩
    unfold World.cell? at q2
    rw[e1.1,hb,e1.2.1,e1.2.2]at q2
    simpa using q2.symm
   have hsz:a.off+k≤c.size:=by
    obtain⟨v,q1,_⟩:=hat (k-1) (by omega)
    have:=hcell (k-1) (by omega)
    rw[q1]at this
    have:=(Array.getElem?_eq_some_iff.1 this.symm).1
    omega
   refine⟨c,e,fr,hb,hs,List.ext_getElem? fun i=>?_,hsz⟩
   rcases Nat.lt_or_ge i k with hi | hi
   ·rw[hcell i hi,List.getElem?_take,if_pos hi,List.getElem?_drop];simp
   ·rw[List.getElem?_eq_none (by omega),List.getElem?_eq_none (by simp;omega)]
 ·cases h0
set_option maxHeartbeats 1000000 in
theorem RP.list {t e:TypeId}{z:Nat}{Q:List AV→Prop}(hZ:∀b o,W.heap[b]?=some o→Z b=some o) (ht:P.underlying t=some (.slice e)) (hc:P.cellsOf e=z) (hp:0<z) (hE:RP enc P W Z σ e Q) (hl:∀l,Q l→l.length=z∧∀k,DZ k l):RP enc P W Z σ t fun l=>∃n v,l=[v]∧LL z (fun _=>Q) n v:=fun fuel cs D ps h=>by
 cases fuel with
 | zero=>exact(JD h).elim
 | succ fuel=>
  cases cs with
  | nil=>simp[DataW.trod,ht]at h
  | cons v rest=>
   cases rest with
   | cons _ _=>simp[DataW.trod,ht]at h
   | nil=>
    cases v<;>try (simp[DataW.trod,ht]at h;done)
    rename_i base len cap
    cases base with
    | none=>
     have hz:len=0∧cap=0:=by
      cases len with
      | zero=>cases cap with
       | zero=>exact⟨rfl,rfl⟩
       | succ _=>simp[DataW.trod,ht]at h
      | succ _=>simp[DataW.trod,ht]at h
     obtain⟨rfl,rfl⟩:=hz
     exact⟨[.nils],⟨0,.nils,rfl,⟨.inl ⟨rfl,rfl⟩⟩⟩,.cons .nils .nil,fun v hv=>by simp at hv;subst hv;rfl⟩
    | some a=>
     simp only[DataW.trod,ht]at h
     split at h
     ·rename_i hcond
      simp only[Option.bind_eq_some_iff,Option.map_eq_some_iff,Prod.mk.injEq]at h
      obtain⟨elems,hm,rest,hr,rfl,_⟩:=h
      have hlen:elems.length=len:=by have:=Lib.mapM_length hm;simpa using this
      have hat:∀i,i<len→∃x,elems[i]?=some x∧((W.cells? 0 (a.add (i*P.cellsOf e)) (P.cellsOf e)).bind (DataW.trod enc P W 0 (fun _=>true) true fuel e))=some x:=fun i hi=>Lib.mapM_at hm i i (by simp[hi])
      have key:∀n,n≤len→∃css:List (List AV),css.length=n∧(∀(i:Nat) (y:List AV),css[i]?=some y→Q y) ∧
        (0<n→∃c el fr,W.heap[a.block]?=some (.cells c el fr)∧a.spot=none∧CI Z σ css.flatten ((c.toList.drop a.off).take (n*z))∧(∀v∈(c.toList.drop a.off).take (n*z),v.oneCell'=true)):=by
       intro n
       induction n with
       | zero=>intro _;exact⟨[],rfl,fun i y hx=>by simp at hx,fun h=>absurd h (by omega)⟩
       | succ n ih=>
        intro hn
        obtain⟨css,q2,q3,q4⟩:=ih (by omega)
        obtain⟨⟨D1,ps1⟩,x1,x2⟩:=hat n (by omega)
        rw[Option.bind_eq_some_iff]at x2
        obtain⟨cs1,x2,x3⟩:=x2
        rw[hc]at x2
        obtain⟨c,el,fr,y1,y2,y3,y4⟩:=Rq hp x2
        obtain⟨l1,z1,z2,z3⟩:=hE fuel cs1 D1 ps1 x3
        have e1:(a.add (n*z)).block=a.block∧(a.add (n*z)).off=a.off+n*z:=by
         unfold Addr.add
         split
         ·rename_i hz;rw[hz];exact⟨rfl,rfl⟩
         ·exact⟨rfl,rfl⟩
        rw[e1.1]at y1
        rw[e1.2]at y3 y4
        have hspot:a.spot=none:=by
         rcases Nat.eq_zero_or_pos n with h0 | h0
         ·subst h0;rw[Nat.zero_mul]at y2;exact y2
         ·obtain⟨_,_,_,_,hs,_⟩:=q4 h0;exact hs
        have htk:(c.toList.drop a.off).take ((n+1)*z)=(c.toList.drop a.off).take (n*z)++cs1:=by
         rw[Nat.add_mul,Nat.one_mul,List.take_add,List.drop_drop,y3]
        have hpre:CI Z σ css.flatten ((c.toList.drop a.off).take (n*z))∧∀v∈(c.toList.drop a.off).take (n*z),v.oneCell'=true:=by
         rcases Nat.eq_zero_or_pos n with h0 | h0
         ·subst h0
          have:css=[]:=List.length_eq_zero_iff.1 q2
          subst this
          simp only[Nat.zero_mul,List.take_zero,List.flatten_nil]
          exact⟨.nil,fun v hv=>by simp at hv⟩
         ·obtain⟨c',_,_,w1,_,w2,w3⟩:=q4 h0
          rw[y1]at w1
          cases w1
          exact⟨w2,w3⟩
        refine⟨css++[l1],by simp[q2],fun i y hy=>?_,fun _=>⟨c,el,fr,y1,hspot,?_,?_⟩⟩
        ·rcases Nat.lt_or_ge i n with hi | hi
         ·rw[List.getElem?_append_left (by omega)]at hy
          exact q3 i y hy
         ·rw[List.getElem?_append_right (by omega)]at hy
          rw[q2]at hy
          have hj:i-n=0:=by
           rcases Nat.eq_zero_or_pos (i-n)with h | h
           ·exact h
           ·rw[List.getElem?_eq_none (by simp;omega)]at hy;cases hy
          rw[hj]at hy
          cases hy;exact z1
        ·rw[htk]
         have:(css++[l1]).flatten=css.flatten++l1:=by simp
         rw[this]
         exact hpre.1.append z2
        ·rw[htk]
         intro v hv
         rcases List.mem_append.1 hv with h | h
         ·exact hpre.2 v h
         ·exact z3 v h
      obtain⟨css,q2,q3,q4⟩:=key len (Nat.le_refl _)
      have hfl:css.flatten.length=len*z:=by
       rw[Et css fun x hx=>?_,q2]
       obtain⟨i,hi⟩:=List.getElem?_of_mem hx
       exact(hl _ (q3 i x hi)).1
      refine⟨[.sim css.flatten len false],⟨len,_,rfl,⟨.inr ⟨css,false,rfl,q2,fun i c hc=>⟨(hl c (q3 i c hc)).1,(hl c (q3 i c hc)).2,q3 i c hc⟩⟩⟩⟩,.cons ?_ .nil,fun v hv=>by simp at hv;subst hv;rfl⟩
      rcases Nat.eq_zero_or_pos len with h0 | h0
      ·subst h0
       have:css=[]:=List.length_eq_zero_iff.1 q2
       subst this
       exact .simz a (fun h=>by cases h)
      ·obtain⟨c,el,fr,y1,y2,y3,y4⟩:=q4 h0
       refine .sim (c:=c) (e:=el) (fr:=fr) hcond.2.1 (fun h=>by cases h) y2 (hZ _ _ y1) ?_ ?_
       ·rw[hfl];exact y4
       ·rw[hfl];exact y3
     ·cases h
inductive dk (enc:TypeId × Value→H) (P:Program) (W:World) (Z:Zt) (σ:Sg):Nat→List Field→Nat→(List AV→Prop)→Prop
 | one {o z:Nat} {f:Field} {Q:List AV→Prop} (ho:f.offset=o) (hc:P.cellsOf f.type=z) (hE:RP enc P W Z σ f.type Q):dk enc P W Z σ o [f] z Q
 | cons {o z z':Nat} {f:Field} {fs:List Field} {Q Q':List AV→Prop} (ho:f.offset=o) (hc:P.cellsOf f.type=z) (hE:RP enc P W Z σ f.type Q) (h:dk enc P W Z σ (o+z) fs z' Q'):dk enc P W Z σ o (f::fs) (z+z') fun l=>∃a b,l=a++b∧Q a∧Q' b
theorem dk.rd {o z:Nat}{fs:List Field}{Q:List AV→Prop}(hF:dk enc P W Z σ o fs z Q):∀(fuel:Nat) (cs:List Value) (xs:List (DataW H × List MemPlace)),
  (fs.mapM fun f=>DataW.trod enc P W 0 (fun _=>true) true fuel f.type ((cs.drop f.offset).take (P.cellsOf f.type)))=some xs →
  ∃l:List AV,Q l∧CI Z σ l ((cs.drop o).take z)∧∀v∈(cs.drop o).take z,v.oneCell'=true:=by
 induction hF with
 | one ho hc hE=>
  intro fuel cs xs h
  subst ho
  simp only[List.mapM_cons,List.mapM_nil,Option.bind_eq_bind,Option.bind_eq_some_iff,Option.pure_def,Option.some.injEq]at h
  obtain⟨⟨D,p⟩,h1,_,rfl,rfl⟩:=h
  rw[hc]at h1
  exact hE fuel _ D p h1
 | cons ho hc hE hF ih=>
  intro fuel cs xs h
  rename_i o z z' f fs Q Q'
  subst ho
  simp only[List.mapM_cons,Option.bind_eq_bind,Option.bind_eq_some_iff,Option.pure_def,Option.some.injEq]at h
  obtain⟨⟨D,p⟩,h1,ys,h2,rfl⟩:=h
  rw[hc]at h1
  obtain⟨l,z1,z2,z3⟩:=hE fuel _ D p h1
  obtain⟨l',y1,y2,y3⟩:=ih fuel cs ys h2
  have e:(cs.drop f.offset).take (z+z')=(cs.drop f.offset).take z++(cs.drop (f.offset+z)).take z':=by
   rw[List.take_add,List.drop_drop]
  refine⟨l++l',⟨l,l',rfl,z1,y1⟩,by rw[e];exact z2.append y2,by
   rw[e];intro v hv
   rcases List.mem_append.1 hv with h | h
   ·exact z3 v h
   ·exact y3 v h⟩
theorem RP.struct {t:TypeId}{fs:Array Field}{z:Nat}{Q:List AV→Prop}(ht:P.underlying t=some (.struct fs)) (hc:P.cellsOf t=z) (hF:dk enc P W Z σ 0 fs.toList z Q):RP enc P W Z σ t Q:=fun fuel cs D ps h=>by
 cases fuel with
 | zero=>exact(JD h).elim
 | succ fuel=>
  have h:(if cs.length=P.cellsOf t then(fs.toList.mapM fun f=>DataW.trod enc P W 0 (fun _=>true) true fuel f.type ((cs.drop f.offset).take (P.cellsOf f.type))).map fun xs=>((.agg (xs.map (·.1)):DataW H),xs.flatMap (·.2))else none)=some (D,ps):=by
   simpa[DataW.trod,ht]using h
  split at h
  ·rename_i hl
   simp only[Option.map_eq_some_iff,Prod.mk.injEq]at h
   obtain⟨xs,h1,rfl,_⟩:=h
   obtain⟨l,z1,z2,z3⟩:=hF.rd fuel cs xs h1
   have e:(cs.drop 0).take z=cs:=by rw[List.drop_zero];exact List.take_of_length_le (by omega)
   rw[e]at z2 z3
   exact⟨l,z1,z2,z3⟩
  ·cases h
theorem FB.km {n:Nat}{v:AV}(h:LL 1 (fun _ l=>∃x,l=[bv x]) n v):FB n v:=by
 rcases h.ex with h | ⟨css,b,rfl,h1,h2⟩
 ·exact .inl h
 ·have key:∀css:List (List AV),(∀c∈css,∃x,c=[bv x])→∃bs:List UInt8,css.flatten=bs.map bv∧bs.length=css.length:=by
   intro css
   induction css with
   | nil=>intro _;exact⟨[],rfl,rfl⟩
   | cons c css ih=>
    intro h
    obtain⟨x,rfl⟩:=h c (.head _)
    obtain⟨bs,e1,e2⟩:=ih fun c hc=>h c (.tail _ hc)
    exact⟨x::bs,by rw[List.flatten_cons,e1];rfl,by simp[e2]⟩
  obtain⟨bs,e1,e2⟩:=key css fun c hc=>by
   obtain⟨i,hi⟩:=List.getElem?_of_mem hc
   exact(h2 i c hi).2.2
  exact .inr ⟨bs,b,by rw[e1],by omega⟩
theorem fc {l:List AV}(h:∃x,l=[bv x]):l.length=1∧∀k,DZ k l:=by
 obtain⟨x,rfl⟩:=h
 exact⟨rfl,fun k=>.cons (.int _ _) .nil⟩
theorem dM {l:List AV}(h:∃v n,l=[v]∧FB n v):l.length=1∧∀k,DZ k l:=by
 obtain⟨v,n,rfl,h⟩:=h
 exact⟨rfl,fun k=>.cons (h.sc k) .nil⟩
end
end Go.AL
namespace Go.Proofs.YtdcdbabponelcaaGreatDoor
open Go Go.AL
variable [BY] {H:Type}{enc:TypeId × Value→H}{W:World}{Z:Zt}{σ:Sg}
theorem kb:RP enc Tryz.prog W Z σ 5 fun l=>∃x,l=[bv x]:=RP.byte Tryz.underlying5
theorem ZY (hZ:∀b o,W.heap[b]?=some o→Z b=some o):RP enc Tryz.prog W Z σ 23 fun l=>∃x m,l=[x]∧FB m x:=(RP.list hZ Tryz.underlying23 (by kernel_rfl) (by decide) kb fun _=>fc).mono fun l h=>by
 obtain⟨n,v,rfl,h⟩:=h
 exact⟨v,n,rfl,.km h⟩
theorem ZZ (hZ:∀b o,W.heap[b]?=some o→Z b=some o):RP enc Tryz.prog W Z σ 22 fun l=>∃n v,l=[v]∧LL 1 (fun _ c=>∃x m,c=[x]∧FB m x) n v:=RP.list hZ Tryz.underlying22 (by kernel_rfl) (by decide) (ZY hZ) fun _=>dM
theorem ki (hZ:∀b o,W.heap[b]?=some o→Z b=some o):RP enc Tryz.prog W Z σ 25 fun l=>∃sh,aB sh (.agg l):=(RP.struct Tryz.underlying25 (by kernel_rfl) (.cons (z:=1) rfl (by kernel_rfl) kb (.cons (z:=1) rfl (by kernel_rfl) (ZZ hZ) (.cons (z:=1) rfl (by kernel_rfl) (ZZ hZ) (.one (z:=1) rfl (by kernel_rfl) (ZY hZ)))))).mono fun l h=>by
 obtain⟨_,_,rfl,⟨x,rfl⟩,_,_,rfl,⟨n,a,rfl,ha⟩,_,_,rfl,⟨m,b,rfl,hb⟩,c,k,rfl,hc⟩:=h
 exact⟨x,a,b,c,n,m,k,rfl,ha,hb,hc⟩
end Go.Proofs.YtdcdbabponelcaaGreatDoor
namespace Go.Proofs.YtdcdbabponelcaaGreatDoor
open Go Go.AL
variable [BY] {H:Type}{enc:TypeId × Value→H}{W:World}{Z:Zt}{σ:Sg}
def ib (_:Nat) (c:List AV):Prop:=∃dd F L nf nl,c=[bv dd,F,L]∧FB nf F∧LL 1 (fun _ c=>∃x m,c=[x]∧FB m x) nl L
theorem dJ {n:Nat}{v:AV}(h:LL 1 (fun _ c=>∃x m,c=[x]∧FB m x) n v) (k:Nat):Sc k v:=by
 rcases h.ex with⟨_,rfl⟩ | ⟨css,b,rfl,_,h4⟩
 ·exact .nils
 ·refine .sim (DZ.Hs fun x hx=>?_)
  obtain⟨c,hc,hxc⟩:=List.mem_flatten.1 hx
  obtain⟨i,hi⟩:=List.getElem?_of_mem hc
  exact((h4 i c hi).2.1 k).mem hxc
theorem kg (hZ:∀b o,W.heap[b]?=some o→Z b=some o):RP enc Tryz.prog W Z σ 45 (ib 0):=(RP.struct Tryz.underlying45 (by kernel_rfl) (.cons (z:=1) rfl (by kernel_rfl) kb (.cons (z:=1) rfl (by kernel_rfl) (ZY hZ) (.one (z:=1) rfl (by kernel_rfl) (ZZ hZ))))).mono fun l h=>by
 obtain⟨_,_,rfl,⟨x,rfl⟩,_,_,rfl,⟨F,m,rfl,hF⟩,n,L,rfl,hL⟩:=h
 exact⟨x,F,L,m,n,rfl,hF,hL⟩
theorem kh (hZ:∀b o,W.heap[b]?=some o→Z b=some o):RP enc Tryz.prog W Z σ 26 fun l=>∃n v,l=[v]∧LL 3 (fun _=>ib 0) n v:=RP.list hZ Tryz.underlying26 (by kernel_rfl) (by decide) (kg hZ) fun l h=>by
 obtain⟨x,F,L,m,n,rfl,hF,hL⟩:=h
 exact⟨rfl,fun k=>.cons (.int _ _) (.cons (hF.sc k) (.cons (dJ hL k) .nil))⟩
end Go.Proofs.YtdcdbabponelcaaGreatDoor
namespace Go.Proofs.YtdcdbabponelcaaGreatDoor
open Go Go.AL Go.ChangeShapes Go.WideShapes Go.ChangeAt Go.RowKit
theorem own:ownKnob Tryz.prog.godebug=none:=by kernel_rfl
theorem fO:Tryz.prog.globalNamed "math/bits.deBruijn64tab"=some 1:=by kernel_rfl
theorem UG:(Tryz.prog.globals[1]?).map (·.type)=some 599:=by kernel_rfl
theorem UT:Tryz.prog.cellsOf 599=64:=by kernel_rfl
theorem Z6:Tryz.prog.cellsOf 5=1:=by kernel_rfl
def QH:List Int:=lF.map Int.ofNat
theorem table {W:World}(h:laidMetH Tryz.prog Rows.solverMatchesReferenceRow.laid W):Lib.TabIs Tryz.prog W "math/bits.deBruijn64tab" .u8 QH:=
 Lib.tabIs_of_head (rest:=[]) fO UG Tryz.underlying599 Tryz.underlying5 Z6 UT h
theorem kY {W:World}(h:laidMetH Tryz.prog Rows.solverMatchesReferenceRow.laid W):KV W:=fun t ht n hn=>by
 have h1:=(table h).cell fO t (by show t<64;exact ht)
 have h2:QH.getD t 0=(n:Int):=by
  unfold QH
  rw[List.getD_eq_getElem?_getD,List.getElem?_map,hn];rfl
 rw[h2]at h1
 exact h1
def PC (W:World):Zt:=⟨fun b=>W.heap[b]?,W.os,W.output,fun _=>false,fun _=>False⟩
def JX (W:World) (b:Nat):Option Obj:=match W.heap[b]? with
 | some (.cells c e fr)=>some (.cells c e fr)
 | _=>none
theorem Rr {W:World}{b:Nat}{o:Obj}(h:JX W b=some o):W.heap[b]?=some o∧Y9 o:=by
 unfold JX at h
 split at h
 ·rename_i c e fr hb
  cases h
  exact⟨hb,c,e,fr,rfl⟩
 ·cases h
theorem Vu (W:World) [hG:BY] (hg:BY.G=JX W):WR (PC W) (fun _=>none) (BF KH.emp) W:=by
 have hnx:KH.emp.nx=0:=by kernel_rfl
 have hnone:∀r,(BF KH.emp).get r=none:=fun r=>by
  rw[C2,hnx,if_neg (by omega)]
 refine⟨fun b o h=>h,fun r o p hr=>?_,fun r r' o o' p p' hr=>?_,fun r _=>rfl,fun r _=>hnone r,rfl,rfl,fun b o hb=>?_⟩
 ·rw[hnone]at hr;cases hr
 ·rw[hnone]at hr;cases hr
 ·have hb:BY.G b=some o:=hb
  rw[hg]at hb;exact Rr hb
theorem Ov {H:Type}{enc:TypeId × Value→H}{P:Program}{w w':World}{base:Nat}{spare:Nat→Bool}{held:Bool}:∀{ts:List TypeId}{vs:List Value}{ds:List (DataW H)}{ps:List MemPlace},
  DataW.TrodAll enc P w base spare held ts vs ds ps→(∀p∈ps,w.sameAt w' p)→DataW.TrodAll enc P w' base spare held ts vs ds ps
 | [],[],[],_,h,_=>h
 | _::_,_::_,_::_,_,⟨p,q,⟨n,h1⟩,h2,e⟩,hs=>⟨p,q,⟨n,DataW.trod_carry n _ _ _ h1 fun x hx=>hs x (by rw[e];exact List.mem_append_left _ hx)⟩,Ov h2 fun x hx=>hs x (by rw[e];exact List.mem_append_right _ hx),e⟩
theorem kids:Kids Tryz.prog (·<Tryz.prog.types.size):=kids_rows (by kernel_rfl) (by kernel_rfl)
theorem full:∀t e,t<Tryz.prog.types.size→Tryz.prog.underlying t=some (.slice e)→0<Tryz.prog.cellsOf e:=slices_full_of Tryz.prog (by kernel_rfl)
theorem OF [BY] {H:Type}{enc:TypeId × Value→H}{W:World}{σ:Sg}{t:TypeId}{Q:List AV→Prop}{v:Value}{D:DataW H}{p:List MemPlace}(hR:RP enc Tryz.prog W (PC W) σ t Q) (hv:∃cs,v=.agg cs) (h:DataW.Trod enc Tryz.prog W 0 (fun _=>true) true t v D p) :
  ∃l:List AV,Q l∧VR (PC W) σ (.agg l) v:=by
 obtain⟨cs,rfl⟩:=hv
 obtain⟨fuel,h⟩:=h
 obtain⟨l,z1,z2,z3⟩:=hR fuel _ D p h
 exact⟨l,z1,.agg z3 z2⟩
theorem RU [BY] {H:Type}{enc:TypeId × Value→H}{W:World}{σ:Sg}{t:TypeId}{z:Nat}{Pr:Nat→List AV→Prop}{v:Value}{D:DataW H}{p:List MemPlace}(hR:RP enc Tryz.prog W (PC W) σ t fun l=>∃n v,l=[v]∧LL z Pr n v) (hv:∃a len cap,v=.slice a len cap) (h:DataW.Trod enc Tryz.prog W 0 (fun _=>true) true t v D p) :
  ∃n x,LL z Pr n x∧VR (PC W) σ x v:=by
 obtain⟨a,len,cap,rfl⟩:=hv
 obtain⟨fuel,h⟩:=h
 obtain⟨l,⟨n,x,rfl,hl⟩,z2,z3⟩:=hR fuel _ D p h
 cases z2 with
 | cons q1 _=>exact⟨n,x,hl,q1⟩
set_option maxRecDepth 100000 in
set_option maxHeartbeats 2000000 in
theorem UP (H:Type) (enc:TypeId × Value→H) (W:World) (base:Nat) (args:Array Value) (ds gs:List (DataW H)) (before:List MemPlace)
  (hval:∀(j:Nat) t v,Tryz.f3.params[j]?=some t→args[j]?=some v→Value.okWide Tryz.prog W .any base t v)
  (hW:DataW.Whole enc Tryz.prog Tryz.f3.params.toList Rows.solverMatchesReferenceSpec.vars false W args.toList ds gs before) (hL:laidMetH Tryz.prog Rows.solverMatchesReferenceRow.laid W) :
  Calls Tryz.prog 3 args W fun e W'=>∃v,e=.returned v∧Rows.solverMatchesReferenceSpec.post enc Tryz.prog Tryz.f3 false true false false W args v W':=by
 have hW':=hW
 have hlt:=hW.lt
 obtain⟨p,q,hA0,hV,rfl,hfz,hnd⟩:=hW
 have hA:DataW.TrodAll enc Tryz.prog W 0 (fun _=>true) true Tryz.f3.params.toList args.toList ds p:=hA0
 rw[Tryz.params3]at hA hval
 obtain⟨v0,vs0,d0,ds0,p0,q0,hargs,rfl,rfl,h0,r0⟩:=trodAll_cons hA
 obtain⟨v1,vs1,d1,ds1,p1,q1,rfl,rfl,rfl,h1,r1⟩:=trodAll_cons r0
 obtain⟨rfl,rfl,rfl⟩:=trodAll_nil r1
 obtain rfl:args=#[v0,v1]:=by cases args;simp_all
 obtain⟨rfl,rfl⟩:=trodVars_none hV
 letI hG:BY:=⟨JX W⟩
 have hT:=kY hL
 have hheap0:∃o,JX W 1=some o∧W.heap[1]?=some o:=by
  have h3:=hT 0 (by omega) 0 rfl
  unfold World.cell? at h3
  split at h3
  ·rename_i c e fr heq
   exact⟨_,by unfold JX;rw[heq],heq⟩
  ·cases h3
 obtain⟨o0,hc0,ho0⟩:=hheap0
 letI hC:SB:=⟨⟨o0,hc0,fun w hw t ht n hn=>by
  have:=hT t ht n hn
  unfold World.cell? at this ⊢
  rw[hw];rw[ho0]at this;exact this⟩⟩
 have hZ:∀b o,W.heap[b]?=some o→(PC W) b=some o:=fun b o h=>h
 obtain⟨c0,⟨sh,a1⟩,a2⟩:=OF (ki (enc:=enc) (σ:=fun _=>none) hZ) (by obtain⟨cs,h,_⟩:=okWide_struct Tryz.underlying25 (hval 0 25 v0 rfl rfl);exact⟨cs,h⟩) h0
 obtain⟨ns,scr,b1,b2⟩:=RU (kh (enc:=enc) (σ:=fun _=>none) hZ) (okWide_slice Tryz.underlying26 (hval 1 26 v1 rfl rfl)) h1
 have walk:=(C3 (H:=BF KH.emp) rfl a1 b1).2 (PC W) (fun _=>none) W [v0,v1] (Vu W rfl) (.cons a2 (.cons b2 .nil))
 refine Calls.mono walk fun e W' hx=>?_
 obtain⟨Z',σ',H',out,y1,_,_,y4,y5,rfl,x,rfl,rfl⟩:=hx
 obtain⟨cv,rfl,y6⟩:=y5
 cases y6
 have hheap:∀i,i<W.heap.size→W'.heap[i]?=W.heap[i]?:=fun i hi=>by
  have h1:W.heap[i]?=some (W.heap[i]'hi):=Array.getElem?_eq_getElem hi
  rw[h1]
  exact y4.z _ _ (y1.le _ _ h1)
 have hos:W'.os=W.os:=y4.rest.1.trans y1.os
 have hout:W'.output=W.output:=y4.rest.2.1.trans y1.out
 refine⟨_,rfl,[d0,d1],[],_,[],p0++(p1++[]),[],hW',?_,?_,rfl,⟨hos,hout,fun i hi=>?_⟩,fun h=>by cases h⟩
 ·exact trodAll_cons_mk (shut_bool Tryz.underlying4 true) trodAll_mk0
 ·have hres:=DataW.TrodAll.respare kids full (spare':=fun b=>decide (b<W.heap.size)) (fun t ht=>?_) hA0 (fun x hx=>decide_eq_true (hlt x (by simpa using hx)))
  ·refine Ov hres fun x hx=>?_
   have hb:=hlt x (by simpa using hx)
   cases x with
   | cell bb off=>
    show _=_
    have hb:bb<W.heap.size:=hb
    simp only[World.cell?,hheap bb hb]
   | map bb=>
    show _=_
    have hb:bb<W.heap.size:=hb
    simp only[hheap bb hb]
  ·rw[Tryz.params3]at ht
   have hz:26<Tryz.prog.types.size:=Nat.lt_of_lt_of_le (by omega:26<27) (Nat.le_of_ble_eq_true (by kernel_rfl))
   simp only[List.mem_cons,List.not_mem_nil,or_false]at ht
   rcases ht with rfl | rfl
   ·exact Nat.lt_trans (by omega:25<26) hz
   ·exact hz
 ·rw[hheap i hi]
  cases W.heap[i]? with
  | none=>rfl
  | some o=>
   cases o<;>first | rfl | exact⟨rfl,rfl,rfl,fun _ _=>rfl⟩ | exact .inr ⟨rfl,rfl⟩
end Go.Proofs.YtdcdbabponelcaaGreatDoor
