import Derived.Test.YtdandeekdbndgaaGreatDoorZa04
/-
  the coding of proofs, in plain Lean; the writer of a number; Join in plain Lean.
-/
namespace Go.AL.Co
inductive Er where
 | short
 | form
 deriving DecidableEq
inductive Rs (α:Type) where
 | ok (x:α) (r:List UInt8)
 | err (e:Er)
def Rs.bind {α β:Type}(x:Rs α) (f:α→List UInt8→Rs β):Rs β:=match x with
 | .ok a r=>f a r
 | .err e=>.err e
def encU (u:Nat):List UInt8:=if u≤127 then[UInt8.ofNat u]else UInt8.ofNat (u % 128+128)::encU (u / 128)
 termination_by u
 decreasing_by omega
def decU:Nat→List UInt8→Rs Nat
 | _,[]=>.err .short
 | i,x::r=>if (i=9∧1<x.toNat)∨(0<i∧x.toNat=0)then .err .form else
   if x.toNat<128 then .ok x.toNat r else(decU (i+1) r).bind fun v r'=>.ok (x.toNat-128+128*v) r'
theorem ofNat_toNat {n:Nat}(h:n<256):(UInt8.ofNat n).toNat=n:=by simp;omega
theorem encU_pos (u:Nat):encU u≠[]:=by
 unfold encU;split<;>simp
theorem decU_encU:∀(k i u:Nat) (r:List UInt8),i+k=9→u<2 ^ (64-7*i)→(0<i→0<u)→decU i (encU u++r)=.ok u r:=by
 intro k
 induction k with
 | zero=>
  intro i u r hi hu hp
  have hi9:i=9:=by omega
  subst hi9
  have hu1:u<2:=by simpa using hu
  have hup:=hp (by omega)
  have:u=1:=by omega
  subst this
  unfold encU
  simp[decU]
 | succ k ih=>
  intro i u r hi hu hp
  unfold encU
  by_cases h:u≤127
  ·rw[if_pos h]
   have h1:(UInt8.ofNat u).toNat=u:=ofNat_toNat (by omega)
   simp only[List.cons_append,List.nil_append,decU,h1]
   have hc:¬((i=9∧1<u)∨(0<i∧u=0)):=by
    rintro(⟨h9,_⟩ | ⟨hp',h0⟩)
    ·omega
    ·have:=hp hp';omega
   rw[if_neg hc,if_pos (by omega)]
  ·rw[if_neg h]
   have h1:(UInt8.ofNat (u % 128+128)).toNat=u % 128+128:=ofNat_toNat (by omega)
   simp only[List.cons_append,decU,h1]
   have hc:¬((i=9∧1<u % 128+128)∨(0<i∧u % 128+128=0)):=by omega
   rw[if_neg hc,if_neg (by omega)]
   have hpow:2 ^ (64-7*i)=2 ^ (64-7*(i+1))*128:=by
    have:64-7*i=(64-7*(i+1))+7:=by omega
    rw[this,Nat.pow_add]
   have hdiv:u / 128<2 ^ (64-7*(i+1)):=by
    rw[hpow]at hu
    exact Nat.div_lt_of_lt_mul (by rw[Nat.mul_comm];exact hu)
   have hih:=ih (i+1) (u / 128) r (by omega) hdiv (fun _=>by omega)
   have e:u % 128+128-128+128*(u / 128)=u:=by omega
   simp only[hih,Rs.bind,e]
theorem decU_canon:∀(b:List UInt8) (i v:Nat) (r:List UInt8),i≤9→decU i b=.ok v r→b=encU v++r∧v<2 ^ (64-7*i)∧(0<i→0<v):=by
 intro b
 induction b with
 | nil=>intro i v r _ h;cases h
 | cons x b ih=>
  intro i v r hi h
  simp only[decU]at h
  have hx:=x.toNat_lt
  split at h
  ·cases h
  ·rename_i hc
   split at h
   ·rename_i hlt
    cases h
    refine⟨?_,?_,fun hp=>?_⟩
    ·unfold encU
     rw[if_pos (by omega)];simp
    ·rcases Nat.lt_or_ge i 9 with h9 | h9
     ·exact Nat.lt_of_lt_of_le hlt (by
       have:2 ^ 7≤2 ^ (64-7*i):=Nat.pow_le_pow_right (by omega) (by omega)
       simpa using this)
     ·have:i=9:=by omega
      subst this;simp;omega
    ·omega
   ·rename_i hge
    cases hd:decU (i+1) b with
    | err e=>rw[hd]at h;cases h
    | ok v' r'=>
     rw[hd]at h
     simp only[Rs.bind,Rs.ok.injEq]at h
     obtain⟨rfl,rfl⟩:=h
     have hi9:i+1≤9:=by
      rcases Nat.lt_or_ge i 9 with h9 | h9
      ·omega
      ·exfalso;exact hc (.inl ⟨by omega,by omega⟩)
     obtain⟨h1,h2,h3⟩:=ih (i+1) v' r' hi9 hd
     have hv':=h3 (by omega)
     refine⟨?_,?_,fun _=>by omega⟩
     ·rw[encU,if_neg (by omega)]
      have e1:(x.toNat-128+128*v') % 128+128=x.toNat:=by omega
      have e2:(x.toNat-128+128*v') / 128=v':=by omega
      rw[e1,e2,h1];simp
     ·have hpow:2 ^ (64-7*i)=2 ^ (64-7*(i+1))*128:=by
       have:64-7*i=(64-7*(i+1))+7:=by omega
       rw[this,Nat.pow_add]
      omega
def zz (n:Int):Nat:=if 0≤n then 2*n.toNat else 2*(-n-1).toNat+1
def unzz (u:Nat):Int:=if u % 2=1 then -((u / 2:Nat):Int)-1 else((u / 2:Nat):Int)
theorem unzz_zz (n:Int):unzz (zz n)=n:=by unfold unzz zz;split<;>split<;>omega
theorem zz_unzz (u:Nat):zz (unzz u)=u:=by unfold unzz zz;split<;>split<;>omega
def encN (n:Int):List UInt8:=encU (zz n)
def decN (b:List UInt8):Rs Int:=(decU 0 b).bind fun u r=>.ok (unzz u) r
def I64 (n:Int):Prop:=-9223372036854775808≤n∧n≤9223372036854775807
theorem zz_lt {n:Int}(h:I64 n):zz n<2 ^ 64:=by unfold zz;obtain⟨h1,h2⟩:=h;split<;>omega
theorem unzz_I64 {u:Nat}(h:u<2 ^ 64):I64 (unzz u):=by unfold unzz I64;split<;>omega
theorem decN_encN {n:Int}(h:I64 n) (r:List UInt8):decN (encN n++r)=.ok n r:=by
 unfold decN encN
 rw[decU_encU 9 0 (zz n) r (by omega) (by simpa using zz_lt h) (by omega)]
 simp[Rs.bind,unzz_zz]
theorem decN_canon {b:List UInt8}{n:Int}{r:List UInt8}(h:decN b=.ok n r):b=encN n++r∧I64 n:=by
 unfold decN at h
 cases hd:decU 0 b with
 | err e=>rw[hd]at h;cases h
 | ok u r'=>
  rw[hd]at h
  simp only[Rs.bind,Rs.ok.injEq]at h
  obtain⟨rfl,rfl⟩:=h
  obtain⟨h1,h2,_⟩:=decU_canon b 0 u r' (by omega) hd
  exact⟨by rw[encN,zz_unzz];exact h1,unzz_I64 (by simpa using h2)⟩
theorem encN_pos (n:Int):encN n≠[]:=encU_pos _
inductive Ty where
 | int
 | byte
 | bool
 | list (t:Ty)
 | pair (a b:Ty)
 | vec (n:Nat)
def Ty.D:Ty→Type
 | .int=>Int
 | .byte=>UInt8
 | .bool=>Bool
 | .list t=>List t.D
 | .pair a b=>a.D × b.D
 | .vec _=>List UInt8
def asL {t:Ty}(l:(Ty.list t).D):List t.D:=l
def asV {n:Nat}(l:(Ty.vec n).D):List UInt8:=l
def Ty.pos:Ty→Prop
 | .vec n=>0<n
 | .list t=>t.pos
 | .pair a b=>a.pos∧b.pos
 | _=>True
def Ty.wf:(t:Ty)→t.D→Prop
 | .int,n=>I64 n
 | .byte,_=>True
 | .bool,_=>True
 | .list t,l=>I64 ((asL l).length:Int)∧∀x∈asL l,t.wf x
 | .pair a b,p=>a.wf p.1∧b.wf p.2
 | .vec n,l=>(asV l).length=n
def Ty.enc:(t:Ty)→t.D→List UInt8
 | .int,n=>encN n
 | .byte,x=>[x]
 | .bool,b=>[bif (show Bool from b)then 1 else 0]
 | .list t,l=>encN ((asL l).length:Int)++(asL l).flatMap t.enc
 | .pair a b,p=>a.enc p.1++b.enc p.2
 | .vec _,l=>l
def many {α:Type}(f:List UInt8→Rs α):Nat→List UInt8→Rs (List α)
 | 0,b=>.ok [] b
 | n+1,b=>(f b).bind fun x r=>(many f n r).bind fun l r'=>.ok (x::l) r'
def decByte:List UInt8→Rs UInt8
 | []=>.err .short
 | x::r=>.ok x r
def Ty.dec:(t:Ty)→List UInt8→Rs t.D
 | .int,b=>decN b
 | .byte,b=>decByte b
 | .bool,b=>(decByte b).bind fun x r=>if 1<x.toNat then .err .form else .ok (decide (x.toNat=1)) r
 | .list t,b=>(decN b).bind fun n r=>if n<0 then .err .form else if (r.length:Int)<n then .err .short else many t.dec n.toNat r
 | .pair a b,l=>(a.dec l).bind fun x r=>(b.dec r).bind fun y r'=>.ok (x,y) r'
 | .vec n,b=>(many decByte n b)
theorem flatMap_len {α:Type}(f:α→List UInt8) (hf:∀x,f x≠[]):∀l:List α,l.length≤(l.flatMap f).length
 | []=>by simp
 | x::l=>by
  have h1:=flatMap_len f hf l
  have h2:0<(f x).length:=List.length_pos_iff.2 (hf x)
  simp only[List.flatMap_cons,List.length_append,List.length_cons];omega
theorem many_enc {α:Type}{f:List UInt8→Rs α}{g:α→List UInt8}:∀(l:List α) (r:List UInt8),(∀x∈l,∀r,f (g x++r)=.ok x r)→many f l.length (l.flatMap g++r)=.ok l r
 | [],r,_=>rfl
 | x::l,r,h=>by
  simp only[List.length_cons,many,List.flatMap_cons,List.append_assoc]
  rw[h x (by simp)]
  simp only[Rs.bind]
  rw[many_enc l r fun y hy=>h y (by simp[hy])]
theorem many_canon {α:Type}{f:List UInt8→Rs α}{g:α→List UInt8}{p:α→Prop}(h:∀b x r,f b=.ok x r→b=g x++r∧p x):∀(n:Nat) (b:List UInt8) (l:List α) (r:List UInt8),many f n b=.ok l r→b=l.flatMap g++r∧l.length=n∧∀x∈l,p x
 | 0,b,l,r,hm=>by cases hm;simp
 | n+1,b,l,r,hm=>by
  simp only[many]at hm
  cases hf:f b with
  | err e=>rw[hf]at hm;cases hm
  | ok x r1=>
   rw[hf]at hm
   simp only[Rs.bind]at hm
   cases hg:many f n r1 with
   | err e=>rw[hg]at hm;cases hm
   | ok l1 r2=>
    rw[hg]at hm
    cases hm
    obtain⟨h1,h2⟩:=h b x r1 hf
    obtain⟨h3,h4,h5⟩:=many_canon h n r1 l1 r hg
    refine⟨by rw[h1,h3];simp,by simp[h4],fun y hy=>?_⟩
    rcases List.mem_cons.1 hy with rfl | hy
    ·exact h2
    ·exact h5 y hy
def Sh {α:Type}(f:List UInt8→Rs α):Prop:=∀b x r,f b=.ok x r→r.length≤b.length
def Ext {α:Type}(f:List UInt8→Rs α):Prop:=∀s u x r,f (s++u)=.ok x r→u.length≤r.length→∃r',r=r'++u∧f s=.ok x r'
def Cut {α:Type}(f:List UInt8→Rs α):Prop:=∀s u x r,f (s++u)=.ok x r→r.length<u.length→f s=.err .short
theorem decByte_canon {b:List UInt8}{x:UInt8}{r:List UInt8}(h:decByte b=.ok x r):b=[x]++r∧True:=by
 cases b with
 | nil=>cases h
 | cons y b=>cases h;exact⟨rfl,trivial⟩
theorem enc_pos:∀(t:Ty),t.pos→∀x:t.D,t.wf x→t.enc x≠[]
 | .int,_,n,_=>encN_pos n
 | .byte,_,x,_=>by simp[Ty.enc]
 | .bool,_,x,_=>by simp[Ty.enc]
 | .list t,_,l,_=>by
  simp only[Ty.enc]
  intro h
  exact encN_pos _ (List.append_eq_nil_iff.1 h).1
 | .pair a b,hp,p,hw=>by
  simp only[Ty.enc]
  intro h
  exact enc_pos a hp.1 p.1 hw.1 (List.append_eq_nil_iff.1 h).1
 | .vec n,hp,l,hw=>by
  simp only[Ty.enc]
  intro h
  have hw:(asV l).length=n:=hw
  have:(asV l)=[]:=h
  rw[this]at hw
  simp only[Ty.pos,List.length_nil]at hp hw
  omega
theorem flat1:∀l:List UInt8,l.flatMap (fun x=>[x])=l
 | []=>rfl
 | x::l=>by rw[List.flatMap_cons,flat1 l];rfl
def Ty.good:Ty→Prop
 | .list t=>t.pos∧t.good
 | .pair a b=>a.good∧b.good
 | _=>True
theorem dec_enc:∀(t:Ty),t.good→∀(d:t.D),t.wf d→∀r,t.dec (t.enc d++r)=.ok d r
 | .int,_,d,hw,r=>decN_encN hw r
 | .byte,_,d,_,r=>rfl
 | .bool,_,d,_,r=>by
  show(decByte ([bif (show Bool from d)then 1 else 0]++r)).bind _=_
  cases d<;>simp[decByte,Rs.bind]
 | .list t,hg,l,hw,r=>by
  obtain⟨h1,h2⟩:=hw
  have key0:((decN (encN ((asL l).length:Int)++(asL l).flatMap t.enc++r)).bind (fun n r=>if n<0 then .err .form else if (r.length:Int)<n then .err .short else many t.dec n.toNat r):Rs (List t.D))=.ok (asL l) r:=by
   rw[List.append_assoc,decN_encN h1]
   simp only[Rs.bind]
   have hlen:(asL l).length≤((asL l).flatMap t.enc).length:=by
    have key:∀l:List t.D,(∀x∈l,t.wf x)→l.length≤(l.flatMap t.enc).length:=by
     intro l
     induction l with
     | nil=>simp
     | cons x l ih=>
      intro hx
      have h3:0<(t.enc x).length:=List.length_pos_iff.2 (enc_pos t hg.1 x (hx x (by simp)))
      have h4:=ih fun y hy=>hx y (by simp[hy])
      simp only[List.flatMap_cons,List.length_append,List.length_cons];omega
    exact key l h2
   rw[if_neg (by omega),if_neg (by rw[List.length_append];omega)]
   rw[Int.toNat_natCast]
   exact many_enc l r fun x hx r=>dec_enc t hg.2 x (h2 x hx) r
  exact key0
 | .pair a b,hg,p,hw,r=>by
  show(a.dec (a.enc p.1++b.enc p.2++r)).bind _=_
  rw[List.append_assoc,dec_enc a hg.1 p.1 hw.1]
  simp only[Rs.bind]
  rw[dec_enc b hg.2 p.2 hw.2];rfl
 | .vec n,_,l,hw,r=>by
  have hw:(asV l).length=n:=hw
  show many decByte n ((asV l)++r)=_
  have:=many_enc (f:=decByte) (g:=fun x=>[x]) (asV l) r (fun x _ r=>rfl)
  rw[flat1,hw]at this
  exact this
theorem dec_canon:∀(t:Ty) (b:List UInt8) (d:t.D) (r:List UInt8),t.dec b=.ok d r→b=t.enc d++r∧t.wf d
 | .int,b,d,r,h=>decN_canon h
 | .byte,b,d,r,h=>decByte_canon h
 | .bool,b,d,r,h=>by
  have h:(decByte b).bind (fun x r=>if 1<x.toNat then .err .form else .ok (decide (x.toNat=1)) r)=.ok d r:=h
  cases hd:decByte b with
  | err e=>rw[hd]at h;cases h
  | ok x r1=>
   rw[hd]at h
   simp only[Rs.bind]at h
   split at h
   ·cases h
   ·rename_i hx
    cases h
    obtain⟨h1,_⟩:=decByte_canon hd
    refine⟨?_,trivial⟩
    rw[h1]
    show _=[bif decide (x.toNat=1)then 1 else 0]++r
    congr 1
    have hx2:x.toNat=0∨x.toNat=1:=by omega
    rcases hx2 with h0 | h0
    ·have:x=0:=UInt8.toNat_inj.1 (by simpa using h0)
     subst this;rfl
    ·have:x=1:=UInt8.toNat_inj.1 (by simpa using h0)
     subst this;rfl
 | .list t,b,l,r,h=>by
  have h:(decN b).bind (fun n r=>if n<0 then .err .form else if (r.length:Int)<n then .err .short else many t.dec n.toNat r)=.ok l r:=h
  cases hd:decN b with
  | err e=>rw[hd]at h;cases h
  | ok n r1=>
   rw[hd]at h
   simp only[Rs.bind]at h
   split at h
   ·cases h
   ·split at h
    ·cases h
    ·rename_i h0 _
     obtain⟨h1,h2⟩:=decN_canon hd
     obtain⟨h3,h4,h5⟩:=many_canon (g:=t.enc) (p:=t.wf) (fun b x r hx=>dec_canon t b x r hx) n.toNat r1 l r h
     have hn:((asL l).length:Int)=n:=by
      have h4:(asL l).length=n.toNat:=h4
      omega
     refine⟨?_,?_,h5⟩
     ·show b=encN ((asL l).length:Int)++(asL l).flatMap t.enc++r
      rw[hn,h1,h3,List.append_assoc];rfl
     ·show I64 ((asL l).length:Int)
      rw[hn];exact h2
 | .pair a b,l,p,r,h=>by
  have h:(a.dec l).bind (fun x r=>(b.dec r).bind fun y r'=>.ok (x,y) r')=.ok p r:=h
  cases ha:a.dec l with
  | err e=>rw[ha]at h;cases h
  | ok x r1=>
   rw[ha]at h
   simp only[Rs.bind]at h
   cases hb:b.dec r1 with
   | err e=>rw[hb]at h;cases h
   | ok y r2=>
    rw[hb]at h
    cases h
    obtain⟨h1,h2⟩:=dec_canon a l x r1 ha
    obtain⟨h3,h4⟩:=dec_canon b r1 y r hb
    refine⟨?_,h2,h4⟩
    show l=a.enc x++b.enc y++r
    rw[h1,h3,List.append_assoc]
 | .vec n,b,l,r,h=>by
  obtain⟨h1,h2,_⟩:=many_canon (g:=fun x=>[x]) (p:=fun _=>True) (fun b x r hx=>decByte_canon hx) n b l r h
  refine⟨?_,h2⟩
  have h1:b=(asV l).flatMap (fun x=>[x])++r:=h1
  rw[flat1]at h1
  exact h1
def whole (t:Ty) (b:List UInt8):Except Er t.D:=match t.dec b with
 | .ok x []=>.ok x
 | .ok _ (_::_)=>.error .form
 | .err e=>.error e
def tItem:Ty:=.pair .int .byte
def tItems:Ty:=.list tItem
def tInts:Ty:=.list .int
def tPiece:Ty:=.pair .bool .byte
def tMove:Ty:=.pair .int (.list tPiece)
def tClass:Ty:=.vec 32
def tBytes:Ty:=.list .byte
def tQ:Ty:=.pair .int (.pair .int (.pair .int (.pair .int .bool)))
def tLit:Ty:=.pair .int (.pair tItems (.pair tItems (.pair (.list tClass) (.pair (.list tInts) (.pair (.list .bool) (.pair tInts (.pair .int (.pair (.list tClass) (.pair (.list (.list tMove)) (.pair (.list .bool) (.pair (.list tBytes) (.pair tQ (.pair .int .bool)))))))))))))
def tStep:Ty:=.pair .int (.pair tInts (.pair .int (.pair .int (.pair .int (.pair .int (.pair .int .int))))))
def tEqn:Ty:=.pair tItems tItems
def tNode:Ty:=.pair .int (.pair .int (.pair .int (.pair .int (.pair tLit (.pair tInts (.pair (.list tInts) (.pair (.list tStep) (.list tEqn))))))))
def tProof:Ty:=.list tNode
theorem tProof_good:tProof.good:=by
 simp[tProof,tNode,tEqn,tStep,tLit,tQ,tBytes,tClass,tMove,tPiece,tInts,tItems,tItem,Ty.good,Ty.pos]
end Go.AL.Co
namespace Go.AL.Co
structure Sx where
 r:List UInt8
 e:Option Er
def Sx.fail (s:Sx) (e:Er):Sx:=match s.e with
 | none=>⟨s.r,some e⟩
 | some _=>s
def xByte (s:Sx):UInt8 × Sx:=match s.e with
 | some _=>(0,s)
 | none=>match s.r with
  | []=>(0,⟨[],some .short⟩)
  | x::r=>(x,⟨r,none⟩)
def xChk (i:Nat) (x:UInt8) (s:Sx):Sx:=if (i=9∧1<x.toNat)∨(0<i∧x.toNat=0∧s.e=none)then s.fail .form else s
def xNumL:Nat→Nat→Nat→Sx→Nat × Sx
 | 0,_,u,s=>(u,s)
 | k+1,i,u,s=>match s.e with
  | some _=>(u,s)
  | none=>if (xByte s).1.toNat<128 then(u+(xByte s).1.toNat % 128*2 ^ (7*i),xChk i (xByte s).1 (xByte s).2)else xNumL k (i+1) (u+(xByte s).1.toNat % 128*2 ^ (7*i)) (xChk i (xByte s).1 (xByte s).2)
def xNum (s:Sx):Int × Sx:=match (xNumL 11 0 0 s).2.e with
 | some _=>(0,(xNumL 11 0 0 s).2)
 | none=>(unzz (xNumL 11 0 0 s).1,(xNumL 11 0 0 s).2)
def xCount (s:Sx):Nat × Sx:=
 let s1:=(xNum s).2
 let n:=(xNum s).1
 let s2:=if n<0 then s1.fail .form else s1
 let s3:=if (s1.r.length:Int)<n then s2.fail .short else s2
 match s3.e with
 | some _=>(0,s3)
 | none=>(n.toNat,s3)
def xMany {α:Type}(f:Sx→α × Sx):Nat→Sx→List α × Sx
 | 0,s=>([],s)
 | n+1,s=>match s.e with
  | some _=>([],s)
  | none=>((f s).1::(xMany f n (f s).2).1,(xMany f n (f s).2).2)
def xVec:Nat→Sx→List UInt8 × Sx
 | 0,s=>([],s)
 | n+1,s=>((xByte s).1::(xVec n (xByte s).2).1,(xVec n (xByte s).2).2)
def xd:(t:Ty)→Sx→t.D × Sx
 | .int,s=>xNum s
 | .byte,s=>xByte s
 | .bool,s=>(decide ((xByte s).1.toNat=1),if 1<(xByte s).1.toNat then(xByte s).2.fail .form else(xByte s).2)
 | .list t,s=>xMany (xd t) (xCount s).1 (xCount s).2
 | .pair a b,s=>(((xd a s).1,(xd b (xd a s).2).1),(xd b (xd a s).2).2)
 | .vec n,s=>xVec n s
theorem xByte_err {s:Sx}{e:Er}(h:s.e=some e):xByte s=(0,s):=by unfold xByte;rw[h]
theorem xNum_err {s:Sx}{e:Er}(h:s.e=some e):xNum s=(0,s):=by
 have h1:xNumL 11 0 0 s=(0,s):=by unfold xNumL;rw[h]
 unfold xNum;rw[h1]
 show(match s.e with | some _=>_ | none=>_)=_
 rw[h]
theorem fail_err {s:Sx}{e e':Er}(h:s.e=some e):s.fail e'=s:=by unfold Sx.fail;rw[h]
theorem xCount_err {s:Sx}{e:Er}(h:s.e=some e):xCount s=(0,s):=by
 unfold xCount
 rw[xNum_err h]
 have h1:(if (0:Int)<0 then s.fail .form else s)=s:=if_neg (by omega)
 have h2:¬(s.r.length:Int)<0:=by omega
 simp only[h1,h2,if_false,h]
theorem xMany_err {α:Type}{f:Sx→α × Sx}{s:Sx}{e:Er}(h:s.e=some e):∀n,xMany f n s=([],s)
 | 0=>rfl
 | n+1=>by unfold xMany;rw[h]
theorem xVec_err {s:Sx}{e:Er}(h:s.e=some e):∀n,(xVec n s).2=s
 | 0=>rfl
 | n+1=>by
  show(xVec n (xByte s).2).2=s
  rw[xByte_err h];exact xVec_err h n
theorem xd_err:∀(t:Ty){s:Sx}{e:Er},s.e=some e→(xd t s).2=s
 | .int,s,e,h=>by show(xNum s).2=s;rw[xNum_err h]
 | .byte,s,e,h=>by show(xByte s).2=s;rw[xByte_err h]
 | .bool,s,e,h=>by
  show(if 1<(xByte s).1.toNat then(xByte s).2.fail .form else(xByte s).2)=s
  rw[xByte_err h];rfl
 | .list t,s,e,h=>by
  show(xMany (xd t) (xCount s).1 (xCount s).2).2=s
  rw[xCount_err h];rfl
 | .pair a b,s,e,h=>by
  show(xd b (xd a s).2).2=s
  rw[xd_err a h,xd_err b h]
 | .vec n,s,e,h=>xVec_err h n
def Agr {α:Type}(x:α × Sx) (res:Rs α):Prop:=match res with
 | .ok d r=>x=(d,⟨r,none⟩)
 | .err e=>x.2.e=some e
theorem xNumL_dec:∀(k i u:Nat) (b:List UInt8),i+k=11→i≤9→Agr (xNumL k i u ⟨b,none⟩) ((decU i b).bind fun v r=>.ok (u+v*2 ^ (7*i)) r)
 | 0,i,u,b,h,hi=>by omega
 | k+1,i,u,[],h,hi=>by
  show(xNumL (k+1) i u ⟨[],none⟩).2.e=some .short
  have e1:xByte ⟨[],none⟩=(0,⟨[],some .short⟩):=rfl
  have e2:xChk i 0 ⟨[],some .short⟩=⟨[],some .short⟩:=by
   unfold xChk
   split
   ·rfl
   ·rfl
  unfold xNumL
  simp only[e1,e2]
  rfl
 | k+1,i,u,x::r,h,hi=>by
  have e1:xByte ⟨x::r,none⟩=(x,⟨r,none⟩):=rfl
  have hx:=x.toNat_lt
  by_cases hc:(i=9∧1<x.toNat)∨(0<i∧x.toNat=0)
  ·have hd:decU i (x::r)=.err .form:=by unfold decU;rw[if_pos hc]
   have e2:xChk i x ⟨r,none⟩=⟨r,some .form⟩:=by
    unfold xChk
    rw[if_pos (hc.elim .inl fun h=>.inr ⟨h.1,h.2,rfl⟩)];rfl
   rw[hd]
   show(xNumL (k+1) i u ⟨x::r,none⟩).2.e=some .form
   unfold xNumL
   simp only[e1,e2]
   split
   ·rfl
   ·cases k with
    | zero=>rfl
    | succ k=>rfl
  ·have e2:xChk i x ⟨r,none⟩=⟨r,none⟩:=by
    unfold xChk
    rw[if_neg (fun h=>hc (h.elim .inl fun h=>.inr ⟨h.1,h.2.1⟩))]
   by_cases hl:x.toNat<128
   ·have hd:decU i (x::r)=.ok x.toNat r:=by unfold decU;rw[if_neg hc,if_pos hl]
    rw[hd]
    show xNumL (k+1) i u ⟨x::r,none⟩=(u+x.toNat*2 ^ (7*i),⟨r,none⟩)
    unfold xNumL
    simp only[e1,e2,hl,if_true,Nat.mod_eq_of_lt hl]
   ·have hd:decU i (x::r)=(decU (i+1) r).bind fun v r'=>.ok (x.toNat-128+128*v) r':=by
     conv=>lhs;unfold decU
     rw[if_neg hc,if_neg hl]
    have hi8:i≠9:=fun h9=>hc (.inl ⟨h9,by omega⟩)
    have ih:=xNumL_dec k (i+1) (u+x.toNat % 128*2 ^ (7*i)) r (by omega) (by omega)
    have hm:x.toNat % 128=x.toNat-128:=by omega
    have hL:xNumL (k+1) i u ⟨x::r,none⟩=xNumL k (i+1) (u+x.toNat % 128*2 ^ (7*i)) ⟨r,none⟩:=by
     conv=>lhs;unfold xNumL
     simp only[e1,e2,hl,if_false]
    rw[hL,hd]
    cases hdu:decU (i+1) r with
    | err e=>rw[hdu]at ih;exact ih
    | ok v r'=>
     rw[hdu]at ih
     have ih:xNumL k (i+1) (u+x.toNat % 128*2 ^ (7*i)) ⟨r,none⟩=(u+x.toNat % 128*2 ^ (7*i)+v*2 ^ (7*(i+1)),⟨r',none⟩):=ih
     rw[ih]
     show(_,_)=(u+(x.toNat-128+128*v)*2 ^ (7*i),(⟨r',none⟩:Sx))
     have hp:2 ^ (7*(i+1))=128*2 ^ (7*i):=by
      rw[show 7*(i+1)=7*i+7 by omega,Nat.pow_add,Nat.mul_comm]
     rw[hp,hm]
     generalize 2 ^ (7*i)=q
     have e9:u+(x.toNat-128)*q+v*(128*q)=u+(x.toNat-128+128*v)*q:=by
      rw[Nat.add_mul,←Nat.mul_assoc,Nat.mul_comm v 128,Nat.add_assoc]
     rw[e9]
theorem xNum_dec (b:List UInt8):Agr (xNum ⟨b,none⟩) (decN b):=by
 have h:=xNumL_dec 11 0 0 b rfl (by omega)
 unfold decN
 cases hd:decU 0 b with
 | err e=>
  rw[hd]at h
  have h:(xNumL 11 0 0 ⟨b,none⟩).2.e=some e:=h
  show(xNum ⟨b,none⟩).2.e=some e
  unfold xNum
  rw[h];exact h
 | ok v r=>
  rw[hd]at h
  have h:xNumL 11 0 0 ⟨b,none⟩=(0+v*2 ^ (7*0),⟨r,none⟩):=h
  show xNum ⟨b,none⟩=(unzz v,⟨r,none⟩)
  unfold xNum
  rw[h]
  simp
theorem xCount_dec (b:List UInt8):Agr (xCount ⟨b,none⟩) ((decN b).bind fun n r=>if n<0 then .err .form else if (r.length:Int)<n then .err .short else .ok n.toNat r):=by
 have h:=xNum_dec b
 cases hd:decN b with
 | err e=>
  rw[hd]at h
  have h:(xNum ⟨b,none⟩).2.e=some e:=h
  show(xCount ⟨b,none⟩).2.e=some e
  unfold xCount
  have e1:(if (xNum ⟨b,none⟩).1<0 then(xNum ⟨b,none⟩).2.fail .form else(xNum ⟨b,none⟩).2)=(xNum ⟨b,none⟩).2:=by
   split
   ·exact fail_err h
   ·rfl
  simp only[e1]
  have e2:(if ((xNum ⟨b,none⟩).2.r.length:Int)<(xNum ⟨b,none⟩).1 then(xNum ⟨b,none⟩).2.fail .short else(xNum ⟨b,none⟩).2)=(xNum ⟨b,none⟩).2:=by
   split
   ·exact fail_err h
   ·rfl
  rw[e2,h];exact h
 | ok n r=>
  rw[hd]at h
  have h:xNum ⟨b,none⟩=(n,⟨r,none⟩):=h
  show Agr (xCount ⟨b,none⟩) (if n<0 then .err .form else if (r.length:Int)<n then .err .short else .ok n.toNat r)
  unfold xCount
  rw[h]
  by_cases h0:n<0
  ·have h1:¬(r.length:Int)<n:=by omega
   rw[if_pos h0]
   simp only[h0,h1,if_true,if_false]
   rfl
  ·rw[if_neg h0]
   by_cases h1:(r.length:Int)<n
   ·rw[if_pos h1]
    simp only[h0,h1,if_true,if_false]
    rfl
   ·rw[if_neg h1]
    simp only[h0,h1,if_false]
    rfl
theorem xMany_dec {α:Type}{f:Sx→α × Sx}{g:List UInt8→Rs α}(h:∀b,Agr (f ⟨b,none⟩) (g b)):∀(n:Nat) (b:List UInt8),Agr (xMany f n ⟨b,none⟩) (many g n b)
 | 0,b=>rfl
 | n+1,b=>by
  have h1:=h b
  show Agr ((f ⟨b,none⟩).1::(xMany f n (f ⟨b,none⟩).2).1,(xMany f n (f ⟨b,none⟩).2).2) ((g b).bind fun x r=>(many g n r).bind fun l r'=>.ok (x::l) r')
  cases hg:g b with
  | err e=>
   rw[hg]at h1
   have h1:(f ⟨b,none⟩).2.e=some e:=h1
   show(xMany f n (f ⟨b,none⟩).2).2.e=some e
   rw[xMany_err h1];exact h1
  | ok d r=>
   rw[hg]at h1
   have h1:f ⟨b,none⟩=(d,⟨r,none⟩):=h1
   rw[h1]
   have h2:=xMany_dec h n r
   show Agr (d::(xMany f n ⟨r,none⟩).1,(xMany f n ⟨r,none⟩).2) ((many g n r).bind fun l r'=>.ok (d::l) r')
   cases hm:many g n r with
   | err e=>rw[hm]at h2;exact h2
   | ok l r'=>
    rw[hm]at h2
    have h2:xMany f n ⟨r,none⟩=(l,⟨r',none⟩):=h2
    rw[h2];rfl
theorem xByte_dec (b:List UInt8):Agr (xByte ⟨b,none⟩) (decByte b):=by
 cases b<;>rfl
theorem xVec_dec:∀(n:Nat) (b:List UInt8),Agr (xVec n ⟨b,none⟩) (many decByte n b)
 | 0,b=>rfl
 | n+1,[]=>by
  show(xVec n ⟨[],some .short⟩).2.e=some .short
  rw[xVec_err (e:=.short) rfl]
 | n+1,x::r=>by
  have h2:=xVec_dec n r
  show Agr (x::(xVec n ⟨r,none⟩).1,(xVec n ⟨r,none⟩).2) ((many decByte n r).bind fun l r'=>.ok (x::l) r')
  cases hm:many decByte n r with
  | err e=>rw[hm]at h2;exact h2
  | ok l r'=>
   rw[hm]at h2
   have h2:xVec n ⟨r,none⟩=(l,⟨r',none⟩):=h2
   rw[h2];rfl
theorem xd_dec:∀(t:Ty) (b:List UInt8),Agr (xd t ⟨b,none⟩) (t.dec b)
 | .int,b=>xNum_dec b
 | .byte,b=>xByte_dec b
 | .bool,b=>by
  show Agr (decide ((xByte ⟨b,none⟩).1.toNat=1),if 1<(xByte ⟨b,none⟩).1.toNat then(xByte ⟨b,none⟩).2.fail .form else(xByte ⟨b,none⟩).2) ((decByte b).bind fun x r=>if 1<x.toNat then .err .form else .ok (decide (x.toNat=1)) r)
  cases b with
  | nil=>rfl
  | cons x r=>
   show Agr (decide (x.toNat=1),if 1<x.toNat then(⟨r,none⟩:Sx).fail .form else⟨r,none⟩) (if 1<x.toNat then .err .form else .ok (decide (x.toNat=1)) r)
   by_cases h:1<x.toNat
   ·rw[if_pos h,if_pos h];rfl
   ·rw[if_neg h,if_neg h];rfl
 | .list t,b=>by
  show Agr (xMany (xd t) (xCount ⟨b,none⟩).1 (xCount ⟨b,none⟩).2) ((decN b).bind fun n r=>if n<0 then .err .form else if (r.length:Int)<n then .err .short else many t.dec n.toNat r)
  have h:=xCount_dec b
  have herr:∀e,(xCount ⟨b,none⟩).2.e=some e→(xMany (xd t) (xCount ⟨b,none⟩).1 (xCount ⟨b,none⟩).2).2.e=some e:=fun e he=>by rw[xMany_err he];exact he
  cases hd:decN b with
  | err e=>rw[hd]at h;exact herr e h
  | ok n r=>
   rw[hd]at h
   have h:Agr (xCount ⟨b,none⟩) (if n<0 then .err .form else if (r.length:Int)<n then .err .short else .ok n.toNat r):=h
   show Agr _ (if n<0 then .err .form else if (r.length:Int)<n then .err .short else many t.dec n.toNat r)
   by_cases h0:n<0
   ·rw[if_pos h0]at h ⊢;exact herr _ h
   ·rw[if_neg h0]at h ⊢
    by_cases h1:(r.length:Int)<n
    ·rw[if_pos h1]at h ⊢;exact herr _ h
    ·rw[if_neg h1]at h ⊢
     have h:xCount ⟨b,none⟩=(n.toNat,⟨r,none⟩):=h
     rw[h]
     exact xMany_dec (xd_dec t) n.toNat r
 | .pair a b,l=>by
  have h1:=xd_dec a l
  show Agr (((xd a ⟨l,none⟩).1,(xd b (xd a ⟨l,none⟩).2).1),(xd b (xd a ⟨l,none⟩).2).2) ((a.dec l).bind fun x r=>(b.dec r).bind fun y r'=>.ok (x,y) r')
  cases ha:a.dec l with
  | err e=>
   rw[ha]at h1
   have h1:(xd a ⟨l,none⟩).2.e=some e:=h1
   show(xd b (xd a ⟨l,none⟩).2).2.e=some e
   rw[xd_err b h1];exact h1
  | ok x r=>
   rw[ha]at h1
   have h1:xd a ⟨l,none⟩=(x,⟨r,none⟩):=h1
   rw[h1]
   have h2:=xd_dec b r
   show Agr ((x,(xd b ⟨r,none⟩).1),(xd b ⟨r,none⟩).2) ((b.dec r).bind fun y r'=>.ok (x,y) r')
   cases hb:b.dec r with
   | err e=>rw[hb]at h2;exact h2
   | ok y r'=>
    rw[hb]at h2
    have h2:xd b ⟨r,none⟩=(y,⟨r',none⟩):=h2
    rw[h2];rfl
 | .vec n,b=>xVec_dec n b
end Go.AL.Co
namespace Go.AL
def a18h:Hints:=[]
def a18r0:List AOper:=[
 ⟨(some 5),.move (.tmp 1),none⟩,
 ⟨(some 6),.convI .u64 (.tmp 5),none⟩,
 ⟨(some 7),.bin .shl (.tmp 6) (.cst (.int .u64 1)),none⟩,
 ⟨(some 4),.move (.tmp 7),none⟩]
def a18r1:List AOper:=[
 ⟨(some 8),.move (.tmp 1),none⟩,
 ⟨(some 9),.bin .lss (.tmp 8) (.cst (.int .i64 0)),none⟩]
def a18r2:List AOper:=[
 ⟨(some 10),.move (.tmp 1),none⟩,
 ⟨(some 11),.un .xor (.tmp 10),none⟩,
 ⟨(some 12),.convI .u64 (.tmp 11),none⟩,
 ⟨(some 13),.bin .shl (.tmp 12) (.cst (.int .u64 1)),none⟩,
 ⟨(some 14),.bin .or (.tmp 13) (.cst (.int .u64 1)),none⟩,
 ⟨(some 4),.move (.tmp 14),none⟩]
def a18r3:List AOper:=[
 ⟨(some 15),.move (.tmp 4),none⟩,
 ⟨(some 16),.bin .gtr (.tmp 15) (.cst (.int .u64 127)),none⟩]
def a18r4:List AOper:=[
 ⟨(some 19),.move (.tmp 0),none⟩,
 ⟨(some 20),.move (.tmp 0),none⟩,
 ⟨(some 21),.nilCheck (.tmp 20),none⟩,
 ⟨(some 22),.fieldAddr 0 (.tmp 21),none⟩,
 ⟨(some 23),.load none (.tmp 22),none⟩,
 ⟨(some 24),.move (.tmp 4),none⟩,
 ⟨(some 25),.convI .u8 (.tmp 24),none⟩,
 ⟨(some 26),.bin .or (.tmp 25) (.cst (.int .u8 128)),none⟩,
 ⟨(some 27),.buildSlice 1 1 [(.int .u8 0)] [(0,1,(.tmp 26))],none⟩,
 ⟨(some 28),.append 1 1 (.tmp 23) (.tmp 27),none⟩,
 ⟨(some 29),.nilCheck (.tmp 19),none⟩,
 ⟨(some 30),.fieldAddr 0 (.tmp 29),none⟩,
 ⟨none,.store 1 (.tmp 30) (.tmp 28),none⟩]
def a18r5:List AOper:=[
 ⟨(some 17),.move (.tmp 4),none⟩,
 ⟨(some 18),.bin .shr (.tmp 17) (.cst (.int .u64 7)),none⟩,
 ⟨(some 4),.move (.tmp 18),none⟩]
def a18l6:ACode:=(.seq (.seq (.reg a18r3) (.cond (.tmp 16) .skip (.exit 0))) (.seq (.block 1 (.reg a18r4)) (.reg a18r5)))
def a18r7:List AOper:=[
 ⟨(some 31),.move (.tmp 0),none⟩,
 ⟨(some 32),.move (.tmp 0),none⟩,
 ⟨(some 33),.nilCheck (.tmp 32),none⟩,
 ⟨(some 34),.fieldAddr 0 (.tmp 33),none⟩,
 ⟨(some 35),.load none (.tmp 34),none⟩,
 ⟨(some 36),.move (.tmp 4),none⟩,
 ⟨(some 37),.convI .u8 (.tmp 36),none⟩,
 ⟨(some 38),.buildSlice 1 1 [(.int .u8 0)] [(0,1,(.tmp 37))],none⟩,
 ⟨(some 39),.append 1 1 (.tmp 35) (.tmp 38),none⟩,
 ⟨(some 40),.nilCheck (.tmp 31),none⟩,
 ⟨(some 41),.fieldAddr 0 (.tmp 40),none⟩,
 ⟨none,.store 1 (.tmp 41) (.tmp 39),none⟩]
def a18:ACode:=(.seq (.reg a18r0) (.seq (.seq (.reg a18r1) (.cond (.tmp 9) (.reg a18r2) .skip)) (.seq (.block 0 (.loop a18l6)) (.reg a18r7))))
def a18q:List ARes:=[]
def a56h:Hints:=[]
def a56r0:List AOper:=[
 ⟨(some 4),.move (.tmp 0),none⟩,
 ⟨(some 5),.move (.tmp 0),none⟩,
 ⟨(some 6),.nilCheck (.tmp 5),none⟩,
 ⟨(some 7),.fieldAddr 0 (.tmp 6),none⟩,
 ⟨(some 8),.load none (.tmp 7),none⟩,
 ⟨(some 9),.move (.tmp 1),none⟩,
 ⟨(some 10),.buildSlice 1 1 [(.int .u8 0)] [(0,1,(.tmp 9))],none⟩,
 ⟨(some 11),.append 1 1 (.tmp 8) (.tmp 10),none⟩,
 ⟨(some 12),.nilCheck (.tmp 4),none⟩,
 ⟨(some 13),.fieldAddr 0 (.tmp 12),none⟩,
 ⟨none,.store 1 (.tmp 13) (.tmp 11),none⟩]
def a56:ACode:=(.reg a56r0)
def a56q:List ARes:=[]
def a60h:Hints:=[]
def a60r0:List AOper:=[
 ⟨(some 8),.move (.tmp 0),none⟩,
 ⟨(some 9),.move (.tmp 1),none⟩,
 ⟨(some 10),.len (.tmp 9),none⟩,
 ⟨(some 11),.call (.fnc 18) [(.tmp 8),(.tmp 10)],none⟩]
def a60r1:List AOper:=[
 ⟨(some 12),.move (.tmp 1),none⟩,
 ⟨(some 13),.len (.tmp 12),none⟩,
 ⟨(some 14),.move (.cst (.int .i64 0)),none⟩]
def a60r2:List AOper:=[
 ⟨(some 15),.bin .lss (.tmp 14) (.tmp 13),none⟩]
def a60r3:List AOper:=[
 ⟨(some 16),.indexAddrS 1 (.tmp 12) (.tmp 14),none⟩,
 ⟨(some 17),.load none (.tmp 16),none⟩,
 ⟨(some 7),.move (.tmp 17),none⟩]
def a60r4:List AOper:=[
 ⟨(some 18),.move (.tmp 2),none⟩,
 ⟨(some 19),.move (.tmp 7),none⟩,
 ⟨(some 20),.call (.tmp 18) [(.tmp 19)],none⟩]
def a60r5:List AOper:=[
 ⟨(some 21),.bin .add (.tmp 14) (.cst (.int .i64 1)),none⟩,
 ⟨(some 14),.move (.tmp 21),none⟩]
def a60l6:ACode:=(.seq (.reg a60r2) (.seq (.cond (.tmp 15) .skip (.exit 0)) (.seq (.block 1 (.seq (.reg a60r3) (.reg a60r4))) (.reg a60r5))))
def a60:ACode:=(.seq (.reg a60r0) (.seq (.reg a60r1) (.block 0 (.loop a60l6))))
def a60q:List ARes:=[]
end Go.AL
namespace Go.AL
def bv (x:UInt8):AV:=.int .u8 (x.toNat:Int)
inductive Wr (H:AH) (p:Nat):Option Nat→List UInt8→Prop
 | nil (hp:H.get p=some (.cells [.nils])) (hlt:p<H.next):Wr H p none []
 | row {r:Nat} {bs:List UInt8} (hp:H.get p=some (.cells [.sl r 0 bs.length (.op 1)])) (hr:H.get r=some (.cells (bs.map bv))) (hne:r≠p) (hlt:p<H.next) (hrt:r<H.next):Wr H p (some r) bs
def WPost (H:AH) (p:Nat) (ro:Option Nat) (bs':List UInt8):AOut→AH→Prop:=fun o H'=>
 o=.ret (.tup [])∧∃r',H.next≤r'∧Wr H' p (some r') bs'∧H.next≤H'.next∧(∀q,q<H.next→q≠p→some q≠ro→H'.get q=H.get q)∧H'.gl=H.gl
theorem w_op2 {P:Program}{e:Env}{H H1:AH}{K:Env→AH→Prop}{Kp:AV→Env→AH→Prop}{l:List AOper}{d:Option Nat}{k:AK}{v:AV}
  (h:aone k e H=some (v,H1)) (hp:k.plain=true) (hK:aops P l (e.put d v) H1 K Kp):aops P (⟨d,k,none⟩::l) e H K Kp:=w_op (v:=(v,H1)) h hp hK
variable {P:Program}
end Go.AL
namespace Go.AL
open Co
variable {P:Program}
structure WMid (H:AH) (p:Nat) (ro:Option Nat) (H':AH) (bs':List UInt8):Prop where
 w:∃ro',Wr H' p ro' bs'∧(ro'=ro∨∃r',ro'=some r'∧H.next≤r')
 nx:H.next≤H'.next
 fr:∀q,q<H.next→q≠p→some q≠ro→H'.get q=H.get q
 gl:H'.gl=H.gl
theorem WMid.refl {H:AH}{p:Nat}{ro:Option Nat}{bs:List UInt8}(h:Wr H p ro bs):WMid H p ro H bs:=⟨⟨ro,h,.inl rfl⟩,Nat.le_refl _,fun _ _ _ _=>rfl,rfl⟩
theorem WMid.post {H H1 H2:AH}{p:Nat}{ro ro1:Option Nat}{bs2:List UInt8}(h:H.next≤H1.next) (hro:ro1=ro∨∃r',ro1=some r'∧H.next≤r') (hf:∀q,q<H.next→q≠p→some q≠ro→H1.get q=H.get q) (hg:H1.gl=H.gl)
  {r2:Nat} (h1:H1.next≤r2) (h2:Wr H2 p (some r2) bs2) (h3:H1.next≤H2.next) (h4:∀q,q<H1.next→q≠p→some q≠ro1→H2.get q=H1.get q) (h5:H2.gl=H1.gl):WMid H p ro H2 bs2:=
 ⟨⟨some r2,h2,.inr ⟨r2,rfl,by omega⟩⟩,by omega,fun q hq hp hr=>by
  rw[h4 q (by omega) hp ?_,hf q hq hp hr]
  rcases hro with rfl | ⟨r',rfl,hr'⟩
  ·exact hr
  ·intro e;cases e;omega,h5.trans hg⟩
theorem wrap_u8 (n:Int):IntKind.u8.wrap n=n % 256:=by simp[IntKind.wrap,IntKind.bits,IntKind.signed]
theorem wrap_u64 (n:Int):IntKind.u64.wrap n=n % 18446744073709551616:=by simp[IntKind.wrap,IntKind.bits,IntKind.signed]
theorem wrap_i64 (n:Int):IntKind.i64.wrap n=if n % 18446744073709551616≥9223372036854775808 then n % 18446744073709551616-18446744073709551616 else n % 18446744073709551616:=by simp[IntKind.wrap,IntKind.bits,IntKind.signed]
theorem or128:∀k<256,(BitVec.ofInt 8 ((k:Nat):Int) ||| BitVec.ofInt 8 128).toNat=k % 128+128:=by decide +kernel
theorem u8_or {u:Nat}:IntKind.u8.wrap (((BitVec.ofInt 8 (IntKind.u8.wrap (u:Int)) ||| BitVec.ofInt 8 128).toNat:Nat):Int)=((UInt8.ofNat (u % 128+128)).toNat:Int):=by
 have h1:(u:Int) % 256=((u % 256:Nat):Int):=by omega
 rw[wrap_u8 (u:Int),h1,or128 (u % 256) (Nat.mod_lt _ (by omega)),ofNat_toNat (by omega),wrap_u8];omega
theorem u8_conv {u:Nat}(h:u≤127):IntKind.u8.wrap (u:Int)=((UInt8.ofNat u).toNat:Int):=by
 rw[ofNat_toNat (by omega),wrap_u8];omega
theorem u64_shr {u:Nat}:((u:Int).fdiv (2 ^ 7))=((u / 128:Nat):Int):=by
 rw[Int.fdiv_eq_ediv_of_nonneg _ (by decide)];simp
theorem Wr.step {H:AH}{p:Nat}{ro:Option Nat}{bs:List UInt8}(hW:Wr H p ro bs) (hb:bs.length<1099511627776) (x:UInt8) :
  ∃v v' H1 H2,aload none (.ptr p 0) (H.push (.cells [bv x]))=some v∧aload none (.ptr p 0) H=some v∧aappend 1 1 v (.sl H.next 0 1 (.ex 1)) (H.push (.cells [bv x]))=some (v',H1) ∧
   H1.cells? p=some [v]∧v'.cellsOf=some [v']∧H2=H1.set p (.cells [v'])∧H2.gl=H.gl∧Wr H2 p (some (H.next+1)) (bs++[x])∧H2.next=H.next+2∧∀q,q<H.next→q≠p→some q≠ro→H2.get q=H.get q:=by
 cases hW with
 | nil hp hlt=>
  have h1:p≠H.next:=by omega
  have h2:p≠H.next+1:=by omega
  refine⟨.nils,.sl (H.next+1) 0 1 (.op 1),(H.push (.cells [bv x])).push (.cells [bv x]),_,?_,?_,?_,?_,rfl,rfl,rfl,?_,by simp,?_⟩
  ·simp[aload,AH.cells?,AH.get_push,h1,hp,apart]
  ·simp[aload,AH.cells?,hp,apart]
  ·simp[aappend,aslcells,AH.cells?,AH.get_push]
  ·simp[AH.cells?,AH.get_push,h1,h2,hp]
  ·refine .row (bs:=[x]) ?_ ?_ (by omega) (by simp;omega) (by simp)
   ·simp[AH.get_set]
   ·simp[AH.get_set,AH.get_push,bv];omega
  ·intro q hq hqp hqr
   have h3:q≠H.next:=by omega
   have h4:q≠H.next+1:=by omega
   simp[AH.get_set,AH.get_push,hqp,h3,h4]
 | row hp hr hne hlt hrt=>
  rename_i r
  have h1:p≠H.next:=by omega
  have h2:p≠H.next+1:=by omega
  have h3:r≠H.next:=by omega
  have h4:¬p=r:=fun e=>hne e.symm
  have h5:bs.length+1≤140737488355328:=by omega
  have h6:bs.length+1≤9223372036854775807:=by omega
  refine⟨.sl r 0 bs.length (.op 1),.sl (H.next+1) 0 (bs.length+1) (.op 1),((H.push (.cells [bv x])).erase r).push (.cells (bs.map bv++[bv x])),_,?_,?_,?_,?_,rfl,rfl,rfl,?_,by simp,?_⟩
  ·simp[aload,AH.cells?,AH.get_push,h1,hp,apart]
  ·simp[aload,AH.cells?,hp,apart]
  ·simp[aappend,aslcells,AH.cells?,AH.get_push,h3,hr,h5,h6,List.take_of_length_le]
  ·simp[AH.cells?,AH.get_push,AH.get_erase,h1,h2,h4,hp]
  ·refine .row ?_ ?_ (by omega) (by simp;omega) (by simp)
   ·simp[AH.get_set]
   ·have h7:H.next+1≠p:=by omega
    simp[AH.get_set,AH.get_push,AH.get_erase,h7]
  ·intro q hq hqp hqr
   have h7:q≠H.next:=by omega
   have h8:q≠H.next+1:=by omega
   have h9:q≠r:=fun e=>hqr (by rw[e])
   simp[AH.get_set,AH.get_push,AH.get_erase,hqp,h7,h8,h9]
theorem zz_pos {n:Int}(h0:0≤n) (h:I64 n):IntKind.u64.wrap (IntKind.u64.wrap n*2 ^ (min (1:Int).toNat IntKind.u64.bits))=((zz n:Nat):Int):=by
 obtain⟨h1,h2⟩:=h
 have e:(2:Int) ^ (min (1:Int).toNat IntKind.u64.bits)=2:=by rfl
 rw[e,wrap_u64,wrap_u64]
 unfold zz;rw[if_pos h0];omega
theorem xor_not (n:Int):((BitVec.ofInt 64 (-1) ^^^ BitVec.ofInt 64 n).toNat:Int)=(-n-1) % 18446744073709551616:=by
 have e1:BitVec.ofInt 64 (-1)=BitVec.allOnes 64:=by decide
 rw[e1,BitVec.allOnes_xor,BitVec.toNat_not,BitVec.toNat_ofInt]
 have h1:(0:Int)≤n % ((2 ^ 64:Nat):Int):=Int.emod_nonneg _ (by decide)
 have h2:n % ((2 ^ 64:Nat):Int)<18446744073709551616:=Int.emod_lt_of_pos _ (by decide)
 have e2:((2 ^ 64:Nat):Int)=18446744073709551616:=by decide
 rw[e2]at *
 have e3:2 ^ 64=18446744073709551616:=by decide
 rw[e3]
 omega
theorem or_one (m:Nat) (h:m<9223372036854775808):((BitVec.ofInt 64 ((2*m:Nat):Int) ||| BitVec.ofInt 64 1).toNat)=2*m+1:=by
 rw[BitVec.toNat_or]
 have e1:(BitVec.ofInt 64 ((2*m:Nat):Int)).toNat=2*m:=by simp;omega
 have e2:(BitVec.ofInt 64 1).toNat=1:=by decide
 rw[e1,e2]
 have:=Nat.two_pow_add_eq_or_of_lt (i:=1) (b:=1) (by decide) m
 simpa using this.symm
theorem zz_neg {n:Int}(h0:¬0≤n) (h:I64 n) :
  IntKind.u64.wrap (((BitVec.ofInt 64 (IntKind.u64.wrap (IntKind.u64.wrap (IntKind.i64.wrap (((BitVec.ofInt 64 (-1) ^^^ BitVec.ofInt 64 n).toNat:Nat):Int))*2 ^ (min (1:Int).toNat IntKind.u64.bits))) ||| BitVec.ofInt 64 1).toNat:Nat):Int)=((zz n:Nat):Int):=by
 obtain⟨h1,h2⟩:=h
 have e:(2:Int) ^ (min (1:Int).toNat IntKind.u64.bits)=2:=by rfl
 have e1:IntKind.i64.wrap (((BitVec.ofInt 64 (-1) ^^^ BitVec.ofInt 64 n).toNat:Nat):Int)=-n-1:=by
  rw[xor_not,wrap_i64]
  split<;>omega
 rw[e1,e,wrap_u64 (-n-1),wrap_u64]
 have e2:(-n-1) % 18446744073709551616*2 % 18446744073709551616=((2*(-n-1).toNat:Nat):Int):=by omega
 rw[wrap_u64,e2,or_one _ (by omega)]
 unfold zz;rw[if_neg h0];omega
end Go.AL
namespace Go.AL
open Co
variable {P:Program}
theorem e_seq {e:Env}{H:AH}{y:ACode}{Q:Ex→Env→AH→Prop}{Kp:AV→Env→AH→Prop}(h:D P y Q e H):aops P [] e H (fun e' H'=>vsQ (seqQ P y Q) .normal e' H') Kp:=w_nil (vs_seq h)
theorem e_last {e:Env}{H:AH}{Q:Ex→Env→AH→Prop}{Kp:AV→Env→AH→Prop}(h:Q .normal e H):aops P [] e H (fun e' H'=>vsQ Q .normal e' H') Kp:=w_nil (vs_same h)
abbrev WQ (H:AH) (p:Nat) (ro:Option Nat) (bs':List UInt8):Ex→Env→AH→Prop:=fun x e H'=>e dslot=.tup []∧fpost [] (WPost H p ro bs') x e H'
theorem WMid.WQ {H H1 H2:AH}{p:Nat}{ro ro1:Option Nat}{e:Env}{bs1 bs2:List UInt8}(hm:WMid H p ro H1 bs1) (hw:Wr H1 p ro1 bs1) (hro:ro1=ro∨∃r',ro1=some r'∧H.next≤r') (hd:e dslot=.tup []) (hg:H2.gl=H1.gl)
  (h2:Wr H2 p (some (H1.next+1)) bs2) (hn:H2.next=H1.next+2) (h4:∀q,q<H1.next→q≠p→some q≠ro1→H2.get q=H1.get q):WQ H p ro bs2 .normal e H2:=by
 have hnx:=hm.nx
 obtain⟨⟨_,_,_⟩,_,fr,gl⟩:=WMid.post hm.nx hro hm.fr hm.gl (r2:=H1.next+1) (by omega) h2 (by omega) h4 hg
 exact⟨hd,rfl,H1.next+1,by omega,h2,by omega,fr,gl⟩
theorem c18_loop {H:AH}{p:Nat}{ro:Option Nat}{all:List UInt8}(hb:all.length<1099511627776) (u0:Nat) (e0:Env) (h0:e0 0=.ptr p 0) (h4:e0 4=.int .u64 (u0:Nat)) (hd:e0 dslot=.tup [])
  {bs:List UInt8} (hW:Wr H p ro bs) (hall:bs++encU u0=all):D P (.seq (.block 0 (.loop a18l6)) (.reg a18r7)) (WQ H p ro all) e0 H:=by
 refine d_seq (d_block (d_loop (fun e H'=>∃(u:Nat) (bs':List UInt8),e 0=.ptr p 0∧e 4=.int .u64 (u:Nat)∧e dslot=.tup []∧WMid H p ro H' bs'∧bs'++encU u=all)
  (fun e _=>match e 4 with | .int _ u=>u.toNat | _=>0) ⟨u0,bs,h0,h4,hd,WMid.refl hW,hall⟩ ?_))
 rintro e H' ⟨u,bs',h0,h4,hd,hm,hall'⟩
 have hd':e 1000000=.tup []:=hd
 obtain⟨ro1,hw,hro⟩:=hm.w
 have hlen:bs'.length<1099511627776:=by
  have:=congrArg List.length hall'
  simp only[List.length_append]at this;omega
 unfold a18l6 a18r3
 refine d_seq (d_sregV ?_)
 refine w_op2 (v:=.int .u64 (u:Nat)) (H1:=H') (by simp[aone,apure,AOpd.ev,h4]) rfl ?_
 refine w_op2 (v:=.bool (decide (127<u))) (H1:=H') (by simp[aone,apure,AOpd.ev,Env.put,Env.set_get,abin];omega) rfl ?_
 refine e_seq (d_cond (t:=decide (127<u)) (by simp[AOpd.ev,Env.put,Env.set_get]) (fun ht=>?_) (fun ht=>?_))
 ·
  have hu:127<u:=by simpa using ht
  refine d_skip ?_
  have hor:=@u8_or u
  have henc:encU u=UInt8.ofNat (u % 128+128)::encU (u / 128):=by rw[encU,if_neg (by omega)]
  generalize UInt8.ofNat (u % 128+128)=x at hor henc
  obtain⟨v,v',H1,H2,s1,s2,s3,s4,s5,s6,s7,s8,s9,s10⟩:=hw.step hlen x
  refine d_seq (d_block ?_)
  unfold a18r4
  refine d_regV ?_
  refine w_op2 (v:=.ptr p 0) (H1:=H') (by simp[aone,apure,AOpd.ev,Env.put,Env.set_get,h0]) rfl ?_
  refine w_op2 (v:=.ptr p 0) (H1:=H') (by simp[aone,apure,AOpd.ev,Env.put,Env.set_get,h0]) rfl ?_
  refine w_op2 (v:=.ptr p 0) (H1:=H') (by simp[aone,apure,AOpd.ev,Env.put,Env.set_get,anilc]) rfl ?_
  refine w_op2 (v:=.ptr p 0) (H1:=H') (by simp[aone,apure,AOpd.ev,Env.put,Env.set_get,afaddr]) rfl ?_
  refine w_op2 (v:=v) (H1:=H') (by simp[aone,apure,aread,AOpd.ev,Env.put,Env.set_get,s2]) rfl ?_
  refine w_op2 (v:=.int .u64 (u:Nat)) (H1:=H') (by simp[aone,apure,AOpd.ev,Env.put,Env.set_get,h4]) rfl ?_
  refine w_op2 (v:=.int .u8 (IntKind.u8.wrap (u:Nat))) (H1:=H') (by simp[aone,apure,AOpd.ev,Env.put,Env.set_get]) rfl ?_
  refine w_op2 (v:=bv x) (H1:=H') (by
   simp only[aone,apure,AOpd.ev,Env.put,Env.set_get,reduceIte,abin]
   exact congrArg (fun z=>some (AV.int IntKind.u8 z,H')) hor) rfl ?_
  refine w_op2 (v:=.sl H'.next 0 1 (.ex 1)) (H1:=H'.push (.cells [bv x])) (by simp[aone,apure,aread,aeff,afill,AV.cellsOf,AOpd.ev,Env.put,Env.set_get,bv]) rfl ?_
  refine w_op2 (v:=v') (H1:=H1) (by simp[aone,apure,aread,aeff,AOpd.ev,Env.put,Env.set_get,s3]) rfl ?_
  refine w_op2 (v:=.ptr p 0) (H1:=H1) (by simp[aone,apure,AOpd.ev,Env.put,Env.set_get,anilc]) rfl ?_
  refine w_op2 (v:=.ptr p 0) (H1:=H1) (by simp[aone,apure,AOpd.ev,Env.put,Env.set_get,afaddr]) rfl ?_
  refine w_op2 (v:=.unk) (H1:=H2) (by simp[aone,apure,aread,aeff,AOpd.ev,Env.put,Env.set_get,s4,s5,s6,splice]) rfl ?_
  refine e_last (q_blk (q_seq ?_))
  unfold a18r5
  refine d_regV ?_
  refine w_op2 (v:=.int .u64 (u:Nat)) (H1:=H2) (by simp[aone,apure,AOpd.ev,Env.put,Env.set_get,h4]) rfl ?_
  refine w_op2 (v:=.int .u64 ((u / 128:Nat):Int)) (H1:=H2) (by
   simp only[aone,apure,AOpd.ev,Env.put,Env.set_get,reduceIte,abin,IntKind.bits]
   have:=@u64_shr u
   simp only[show(0:Int)≤7 by omega,if_true,show min (7:Int).toNat 64=7 by decide,this]) rfl ?_
  refine w_op2 (v:=.int .u64 ((u / 128:Nat):Int)) (H1:=H2) (by simp[aone,apure,AOpd.ev,Env.put,Env.set_get]) rfl ?_
  refine e_last (q_loop ⟨u / 128,bs'++[x],by simp[Env.put,Env.set_get,h0],by simp[Env.put,Env.set_get],by simp[Env.put,Env.set_get,dslot,hd'],?_,?_⟩ ?_)
  ·have hnx:=hm.nx
   exact WMid.post hm.nx hro hm.fr hm.gl (r2:=H'.next+1) (by omega) s8 (by omega) s10 s7
  ·rw[←hall',List.append_assoc,henc];rfl
  ·simp[Env.put,Env.set_get,h4];omega
 ·
  have hu:u≤127:=by simpa using ht
  refine d_exit (q_seq_exit (q_loop_exit (q_blk_exit (q_seq ?_))))
  have hcv:=u8_conv hu
  have hfin:all=bs'++[UInt8.ofNat u]:=by rw[←hall',encU,if_pos hu]
  generalize UInt8.ofNat u=x at hcv hfin
  obtain⟨v,v',H1,H2,s1,s2,s3,s4,s5,s6,s7,s8,s9,s10⟩:=hw.step hlen x
  unfold a18r7
  refine d_regV ?_
  refine w_op2 (v:=.ptr p 0) (H1:=H') (by simp[aone,apure,AOpd.ev,Env.put,Env.set_get,h0]) rfl ?_
  refine w_op2 (v:=.ptr p 0) (H1:=H') (by simp[aone,apure,AOpd.ev,Env.put,Env.set_get,h0]) rfl ?_
  refine w_op2 (v:=.ptr p 0) (H1:=H') (by simp[aone,apure,AOpd.ev,Env.put,Env.set_get,anilc]) rfl ?_
  refine w_op2 (v:=.ptr p 0) (H1:=H') (by simp[aone,apure,AOpd.ev,Env.put,Env.set_get,afaddr]) rfl ?_
  refine w_op2 (v:=v) (H1:=H') (by simp[aone,apure,aread,AOpd.ev,Env.put,Env.set_get,s2]) rfl ?_
  refine w_op2 (v:=.int .u64 (u:Nat)) (H1:=H') (by simp[aone,apure,AOpd.ev,Env.put,Env.set_get,h4]) rfl ?_
  refine w_op2 (v:=bv x) (H1:=H') (by simp only[aone,apure,AOpd.ev,Env.put,Env.set_get,reduceIte,bv,hcv]) rfl ?_
  refine w_op2 (v:=.sl H'.next 0 1 (.ex 1)) (H1:=H'.push (.cells [bv x])) (by simp[aone,apure,aread,aeff,afill,AV.cellsOf,AOpd.ev,Env.put,Env.set_get,bv]) rfl ?_
  refine w_op2 (v:=v') (H1:=H1) (by simp[aone,apure,aread,aeff,AOpd.ev,Env.put,Env.set_get,s3]) rfl ?_
  refine w_op2 (v:=.ptr p 0) (H1:=H1) (by simp[aone,apure,AOpd.ev,Env.put,Env.set_get,anilc]) rfl ?_
  refine w_op2 (v:=.ptr p 0) (H1:=H1) (by simp[aone,apure,AOpd.ev,Env.put,Env.set_get,afaddr]) rfl ?_
  refine w_op2 (v:=.unk) (H1:=H2) (by simp[aone,apure,aread,aeff,AOpd.ev,Env.put,Env.set_get,s4,s5,s6,splice]) rfl ?_
  rw[hfin]
  exact e_last (hm.WQ hw hro (by simp[Env.put,Env.set_get,dslot,hd']) s7 s8 s9 s10)
end Go.AL
namespace Go.AL.Co
def wr (n:Int):Int:=IntKind.i64.wrap n
theorem wr_I64 (n:Int):I64 (wr n):=by
 unfold wr I64
 rw[wrap_i64]
 split<;>omega
def tN3:Ty:=.pair .int (.pair tLit (.pair tInts (.pair (.list tInts) (.pair (.list tStep) (.list tEqn)))))
def nMk (a b c:Int) (r:tN3.D):tNode.D:=(a,b,c,r)
def n0 (d:tNode.D):Int:=d.1
def n1 (d:tNode.D):Int:=d.2.1
def n2 (d:tNode.D):Int:=d.2.2.1
def n3 (d:tNode.D):tN3.D:=d.2.2.2
def shN (k:Int) (d:tNode.D):tNode.D:=
 nMk (n0 d) (if n0 d=1∨n0 d=8∨n0 d=9∨n0 d=10 then wr (n1 d+k)else n1 d) (if n0 d=1 then wr (n2 d+k)else n2 d) (n3 d)
def eL (t:Ty):(Ty.list t).D:=([]:List t.D)
def rootN (l:tLit.D) (n:Int):tNode.D:=nMk 1 1 n ((0:Int),l,eL .int,eL tInts,eL tStep,eL tEqn)
def joinD (l:tLit.D) (a b:tProof.D):tProof.D:=
 (rootN l (wr (1+((asL a).length:Int)))::((asL a).map (shN 1)++(asL b).map (shN (wr (1+((asL a).length:Int))))):List tNode.D)
theorem encU_len10:∀(k u:Nat),u<128 ^ (k+1)→(encU u).length≤k+1:=by
 intro k
 induction k with
 | zero=>
  intro u hu
  unfold encU
  rw[if_pos (by omega)];simp
 | succ k ih=>
  intro u hu
  unfold encU
  split
  ·simp
  ·have h1:u / 128<128 ^ (k+1):=Nat.div_lt_of_lt_mul (by rw[Nat.mul_comm,←Nat.pow_succ];exact hu)
   have:=ih (u / 128) h1
   simp only[List.length_cons];omega
theorem encN_len10 {n:Int}(h:I64 n):(encN n).length≤10:=encU_len10 9 _ (Nat.lt_of_lt_of_le (zz_lt h) (by decide))
theorem nMk_wf {a b c:Int}{r:tN3.D}(ha:I64 a) (hb:I64 b) (hc:I64 c) (hr:tN3.wf r):tNode.wf (nMk a b c r):=⟨ha,hb,hc,hr⟩
theorem wf_n {d:tNode.D}(h:tNode.wf d):I64 (n0 d)∧I64 (n1 d)∧I64 (n2 d)∧tN3.wf (n3 d):=⟨h.1,h.2.1,h.2.2.1,h.2.2.2⟩
theorem shN_wf (k:Int){d:tNode.D}(h:tNode.wf d):tNode.wf (shN k d):=by
 obtain⟨h0,h1,h2,h3⟩:=wf_n h
 refine nMk_wf h0 ?_ ?_ h3
 ·split
  ·exact wr_I64 _
  ·exact h1
 ·split
  ·exact wr_I64 _
  ·exact h2
theorem shN_len (k:Int){d:tNode.D}(h:tNode.wf d):(tNode.enc (shN k d)).length≤(tNode.enc d).length+20:=by
 obtain⟨h0,h1,h2,h3⟩:=wf_n (shN_wf k h)
 have e1:=encN_len10 h1
 have e2:=encN_len10 h2
 have e3:tNode.enc (shN k d)=encN (n0 d)++(encN (n1 (shN k d))++(encN (n2 (shN k d))++tN3.enc (n3 d))):=rfl
 have e4:tNode.enc d=encN (n0 d)++(encN (n1 d)++(encN (n2 d)++tN3.enc (n3 d))):=rfl
 rw[e3,e4]
 simp only[List.length_append]
 omega
theorem map_len (k:Int):∀(l:List tNode.D),(∀x∈l,tNode.wf x)→((l.map (shN k)).flatMap tNode.enc).length≤(l.flatMap tNode.enc).length+20*l.length
 | [],_=>by simp
 | x::l,h=>by
  have h1:=shN_len k (h x (.head _))
  have h2:=map_len k l fun y hy=>h y (.tail _ hy)
  simp only[List.map_cons,List.flatMap_cons,List.length_append,List.length_cons]
  omega
theorem eL_wf (t:Ty):(Ty.list t).wf (eL t):=⟨by show I64 ((0:Nat):Int);unfold I64;omega,fun x hx=>by cases hx⟩
theorem eL_len (t:Ty):((Ty.list t).enc (eL t)).length≤10:=by
 show(encN 0++[]).length≤10
 have:=encN_len10 (n:=0) (by unfold I64;omega)
 simpa using this
theorem rootN_wf {l:tLit.D}{n:Int}(hl:tLit.wf l) (hn:I64 n):tNode.wf (rootN l n):=
 nMk_wf (by unfold I64;omega) (by unfold I64;omega) hn ⟨by show I64 0;unfold I64;omega,hl,eL_wf _,eL_wf _,eL_wf _,eL_wf _⟩
theorem rootN_len {l:tLit.D}{n:Int}(hn:I64 n):(tNode.enc (rootN l n)).length≤(tLit.enc l).length+80:=by
 have e:tNode.enc (rootN l n)=encN 1++(encN 1++(encN n++(encN 0++(tLit.enc l++((Ty.list .int).enc (eL .int)++((Ty.list tInts).enc (eL tInts)++((Ty.list tStep).enc (eL tStep)++(Ty.list tEqn).enc (eL tEqn)))))))):=rfl
 have h0:=encN_len10 (n:=0) (by unfold I64;omega)
 have h1:=encN_len10 (n:=1) (by unfold I64;omega)
 have h2:=encN_len10 hn
 have e1:=eL_len .int
 have e2:=eL_len tInts
 have e3:=eL_len tStep
 have e4:=eL_len tEqn
 rw[e]
 simp only[List.length_append]
 omega
theorem proof_len {a:tProof.D}(h:tProof.wf a):(asL a).length≤(tProof.enc a).length:=by
 have e:tProof.enc a=encN ((asL a).length:Int)++(asL a).flatMap tNode.enc:=rfl
 have h2:∀l:List tNode.D,l.length≤(l.flatMap tNode.enc).length:=flatMap_len _ fun x hx=>by
  have e:tNode.enc x=encN (n0 x)++(encN (n1 x)++(encN (n2 x)++tN3.enc (n3 x))):=rfl
  rw[e]at hx
  exact encN_pos _ (List.append_eq_nil_iff.1 hx).1
 rw[e,List.length_append]
 have:=h2 (asL a)
 omega
theorem joinD_len (l:tLit.D) (a b:tProof.D):(asL (joinD l a b)).length=1+(asL a).length+(asL b).length:=by
 show(_::(_++_)).length=_
 simp;omega
theorem joinD_wf {l:tLit.D}{a b:tProof.D}(hl:tLit.wf l) (ha:tProof.wf a) (hb:tProof.wf b) (hn:(asL a).length+(asL b).length<4611686018427387904):tProof.wf (joinD l a b):=by
 refine⟨by rw[joinD_len];unfold I64;omega,fun x hx=>?_⟩
 rcases List.mem_cons.1 (show x∈_::(_++_)from hx)with rfl | hx
 ·exact rootN_wf hl (wr_I64 _)
 ·rcases List.mem_append.1 hx with hx | hx
  ·obtain⟨y,hy,rfl⟩:=List.mem_map.1 hx
   exact shN_wf _ (ha.2 y hy)
  ·obtain⟨y,hy,rfl⟩:=List.mem_map.1 hx
   exact shN_wf _ (hb.2 y hy)
theorem joinD_enc {l:tLit.D}{a b:tProof.D}(ha:tProof.wf a) (hb:tProof.wf b) (hn:(asL a).length+(asL b).length<4611686018427387904) :
  (tProof.enc (joinD l a b)).length≤21*((tProof.enc a).length+(tProof.enc b).length)+(tLit.enc l).length+90:=by
 have e:tProof.enc (joinD l a b)=encN ((asL (joinD l a b)).length:Int)++(tNode.enc (rootN l (wr (1+((asL a).length:Int))))++((asL a).map (shN 1)++(asL b).map (shN (wr (1+((asL a).length:Int))))).flatMap tNode.enc):=rfl
 have ea:tProof.enc a=encN ((asL a).length:Int)++(asL a).flatMap tNode.enc:=rfl
 have eb:tProof.enc b=encN ((asL b).length:Int)++(asL b).flatMap tNode.enc:=rfl
 have h1:=encN_len10 (n:=((asL (joinD l a b)).length:Int)) (by rw[joinD_len];unfold I64;omega)
 have h2:=rootN_len (l:=l) (wr_I64 (1+((asL a).length:Int)))
 have h3:=map_len 1 (asL a) ha.2
 have h4:=map_len (wr (1+((asL a).length:Int))) (asL b) hb.2
 have h5:=proof_len ha
 have h6:=proof_len hb
 rw[e]
 rw[ea]at h5 ⊢
 rw[eb]at h6 ⊢
 rw[List.flatMap_append]
 simp only[List.length_append]at *
 omega
end Go.AL.Co
