import Derived.Test.YtdandeekdbndgaaGreatDoorZd02
import Derived.Test.YtdandeekdbndgaaGreatDoorZd03
/-
  Decode reads the coding.
-/
namespace Go.AL
open Co
variable {P:Program}
inductive Inp (H:AH) (p:Nat):List UInt8→AV→Prop
 | nils:Inp H p [] .nils
 | sim (b:List UInt8) (ex:Bool):Inp H p b (.sim (b.map bv) b.length ex)
 | own {b:List UInt8} {r o:Nat} {l:Lim} {c:List AV} (hlt:r<p) (hc:H.get r=some (.cells c)) (ho:(c.drop o).take b.length=b.map bv) (hl:∀m,l=.ex m→b.length≤m) (hes:∀es,l=.op es→es=1):Inp H p b (.sl r o b.length l)
structure Rd (H:AH) (p:Nat) (b:List UInt8):Prop where
 lt:p<H.next
 len:b.length<274877906944
 inp:∃v,H.get p=some (.cells [v])∧Inp H p b v
structure KeepD (H:AH) (p:Nat) (H':AH):Prop where
 nx:H.next≤H'.next
 get:∀q,q<H.next→q≠p→H'.get q=H.get q
 gl:H'.gl=H.gl
theorem KeepD.refl (H:AH) (p:Nat):KeepD H p H:=⟨Nat.le_refl _,fun _ _ _=>rfl,rfl⟩
theorem KeepD.trans {H H1 H2:AH}{p:Nat}(h1:KeepD H p H1) (h2:KeepD H1 p H2):KeepD H p H2:=
 ⟨Nat.le_trans h1.nx h2.nx,fun q hq hp=>by rw[h2.get q (Nat.lt_of_lt_of_le hq h1.nx) hp,h1.get q hq hp],h2.gl.trans h1.gl⟩
def erno:Er→Int
 | .form=>4
 | .short=>5
def fail (e:Er):AV:=.ifc 72 (.agg [.int .i64 (erno e)])
def RPost {α:Type}(H:AH) (p:Nat) (res:Rs α) (ok:α→AV→AH→Prop):AOut→AH→Prop:=fun o H'=>KeepD H p H'∧match res with
 | .ok d r=>∃x,o=.ret x∧ok d x H'∧Rd H' p r
 | .err e=>o=.pan (fail e)∧∃r,Rd H' p r
theorem Inp.len {H:AH}{p:Nat}{b:List UInt8}{v:AV}(h:Inp H p b v):apure (.len (.cst v)) emp=some (.int .i64 (b.length:Int)):=by
 cases h<;>rfl
theorem Inp.first {H:AH}{p:Nat}{x:UInt8}{b:List UInt8}{v:AV}(h:Inp H p (x::b) v):∃a,apure (.indexAddrS 1 (.cst v) (.cst (I 0))) emp=some a∧aread (.load none (.cst a)) emp H=some (bv x):=by
 cases h with
 | sim _ ex=>
  refine⟨.pim ((x::b).map bv) 0,?_,?_⟩
  ·simp[apure,AOpd.ev,aidxS,I]
  ·simp[aread,aload,AOpd.ev,apart]
 | own hlt hc ho hl hes=>
  rename_i r o l c
  refine⟨.ptr r o,?_,?_⟩
  ·simp[apure,AOpd.ev,aidxS,I]
  ·have h0:c[o]?=some (bv x):=by
    have h1:=congrArg (·[0]?) ho
    simp only[List.length_cons,List.map_cons,List.getElem?_cons_zero]at h1
    rw[List.getElem?_take,if_pos (by omega),List.getElem?_drop]at h1
    simpa using h1
   simp[aread,aload,AOpd.ev,AH.cells?,hc,apart,h0]
theorem Inp.rest {H:AH}{p:Nat}{x:UInt8}{b:List UInt8}{v:AV}(h:Inp H p (x::b) v):∃v',apure (.sliceS 1 (.cst v) (some (.cst (I 1))) none none) emp=some v'∧Inp H p b v':=by
 cases h with
 | sim _ ex=>
  refine⟨.sim (b.map bv) b.length ex,?_,.sim b ex⟩
  have h1:((b.length:Int)+1-1).toNat=b.length:=by omega
  have h2:(1:Int)≤(b.length:Int)+1:=by omega
  simp only[apure,AOpd.ints,AOpd.ev,I,aslice,List.map_cons,List.length_cons]
  simp[h1]
  exact⟨by omega,List.take_of_length_le (by simp)⟩
 | own hlt hc ho hl hes=>
  rename_i r o l c
  have ho':(c.drop (o+1)).take b.length=b.map bv:=by
   have h1:=congrArg (List.drop 1) ho
   simp only[List.length_cons,List.map_cons,List.drop_succ_cons,List.drop_zero]at h1
   rw[List.drop_take,List.drop_drop]at h1
   simpa using h1
  cases l with
  | ex m=>
   have hm:b.length+1≤m:=hl m rfl
   refine⟨.sl r (o+1) b.length (.ex (m-1)),?_,.own hlt hc ho' (fun m' hm'=>by cases hm';omega) (fun es h=>by cases h)⟩
   simp only[apure,AOpd.ints,AOpd.ev,I,aslice,List.length_cons]
   simp
   omega
  | op es=>
   have he:es=1:=hes es rfl
   subst he
   refine⟨.sl r (o+1) b.length (.op 1),?_,.own hlt hc ho' (fun m' hm'=>by cases hm') (fun es h=>by cases h;rfl)⟩
   simp only[apure,AOpd.ints,AOpd.ev,I,aslice,List.length_cons]
   simp
   omega
theorem Inp.keep {H H':AH}{p:Nat}{b:List UInt8}{v:AV}(h:Inp H p b v) (hp:p<H.next) (hk:∀q,q<p→H'.get q=H.get q):Inp H' p b v:=by
 cases h with
 | nils=>exact .nils
 | sim _ ex=>exact .sim b ex
 | own hlt hc ho hl hes=>exact .own hlt (by rw[hk _ hlt];exact hc) ho hl hes
theorem Inp.sc {H:AH}{p k:Nat}{b:List UInt8}{v:AV}(h:Inp H p b v) (hp:p<k):Sc k v:=by
 cases h with
 | nils=>exact .nils
 | sim _ ex=>exact .sim (Scs.of_mem fun x hx=>by obtain⟨y,_,rfl⟩:=List.mem_map.1 hx;exact .int _ _)
 | own hlt _ _ _ _=>exact .sl (by omega)
theorem Rd.keep {H H':AH}{p:Nat}{b:List UInt8}(h:Rd H p b) (hn:p<H'.next) (hk:∀q,q≤p→H'.get q=H.get q):Rd H' p b:=by
 obtain⟨h1,h2,v,h3,h4⟩:=h
 exact⟨hn,h2,v,by rw[hk _ (Nat.le_refl _)];exact h3,h4.keep h1 fun q hq=>hk q (Nat.le_of_lt hq)⟩
end Go.AL
namespace Go.Proofs.YtdandeekdbndgaaGreatDoor
open Go Go.AL Go.AL.Co
theorem R104 {H:AH}{p:Nat}{b:List UInt8}(hR:Rd H p b):ACall Tryz.prog 119 [.ptr p 0] H (RPost H p (decByte b) fun x v _=>v=bv x):=by
 have hR0:=hR
 obtain⟨hlt,hlen,v,hp,hi⟩:=hR
 refine T104 ?_
 unfold G104
 have hld:aread (.load none (.cst (.ptr p 0))) emp H=some v:=by simp[aread,aload,AOpd.ev,AH.cells?,hp,apart]
 refine y_pu_of (v:=.ptr p 0) rfl (y_pu_of (v:=.ptr p 0) rfl (y_rd_of hld (y_pu_of hi.len ?_)))
 cases b with
 | nil=>
  refine y_pu_of (v:=.bool true) rfl (y_if0_of (fun _=>?_) (fun h=>by cases h))
  refine y_pu_of (v:=.agg [.int .i64 5]) (by rfl) ?_
  exact⟨KeepD.refl _ _,rfl,_,hR0⟩
 | cons x b=>
  refine y_pu_of (v:=.bool false) (by
   show some (AV.bool ((((x::b).length:Nat):Int)==0))=_
   have:¬(((x::b).length:Nat):Int)=0:=by simp only[List.length_cons];omega
   simp;omega) (y_if0_of (fun h=>by cases h) (fun _=>?_))
  obtain⟨a,h1,h2⟩:=hi.first
  obtain⟨v',h3,h4⟩:=hi.rest
  refine y_pu_of (v:=.ptr p 0) rfl (y_pu_of (v:=.ptr p 0) rfl (y_rd_of hld (y_pu_of h1 (y_rd_of h2 ?_))))
  refine y_pu_of (v:=.ptr p 0) rfl (y_pu_of (v:=.ptr p 0) rfl (y_rd_of hld (y_pu_of h3 ?_)))
  refine y_pu_of (v:=.ptr p 0) rfl (y_pu_of (v:=.ptr p 0) rfl ?_)
  have hv1:v'.cellsOf=some [v']:=by cases h4<;>rfl
  refine y_ef_of (v:=.unk) (H':=H.set p (.cells [v'])) (by simp[aeff,AOpd.ev,AH.cells?,hp,hv1,splice]) ?_
  have hk:KeepD H p (H.set p (.cells [v'])):=⟨by simp,fun q _ hq=>by simp[AH.get_set,hq],rfl⟩
  have hk':∀q,q<p→(H.set p (.cells [v'])).get q=H.get q:=fun q hq=>by
   have:q≠p:=by omega
   simp[AH.get_set,this]
  exact⟨hk,bv x,rfl,rfl,by simpa using hlt,by simp only[List.length_cons]at hlen;omega,v',by simp[AH.get_set],h4.keep hlt hk'⟩
end Go.Proofs.YtdandeekdbndgaaGreatDoor
namespace Go.AL
open Co
variable {P:Program}
theorem y_grp_of {T:Type}{t w:Bool}{J:T}{A B:T→Prop}(ha:t=w→A J) (hb:t≠w→B J):y_grp w (.bool t) J A B:=by
 unfold y_grp y_gd
 simp only[agd]
 exact⟨fun h=>ha (by simpa using h),fun h=>hb (by simpa using h)⟩
theorem wrap_u64n {n:Nat}(h:n<18446744073709551616):IntKind.u64.wrap (n:Int)=(n:Int):=by
 simp[IntKind.wrap,IntKind.bits,IntKind.signed];omega
theorem ab_and (k:IntKind) (a b:Nat):abin .and (.int k (.ofNat a)) (.int k (.ofNat b))=some (.int k (k.wrap (((a &&& b) % kmd k:Nat):Int))):=by
 rw[←kbinN_eq]
 show(bif kq k k then some (AV.int k (kwrapN k (Nat.mod (Nat.land a b) (kmd k))))else none)=_
 rw[kwrapN_eq];cases k<;>rfl
theorem ab_or (k:IntKind) (a b:Nat):abin .or (.int k (.ofNat a)) (.int k (.ofNat b))=some (.int k (k.wrap (((a ||| b) % kmd k:Nat):Int))):=by
 rw[←kbinN_eq]
 show(bif kq k k then some (AV.int k (kwrapN k (Nat.mod (Nat.lor a b) (kmd k))))else none)=_
 rw[kwrapN_eq];cases k<;>rfl
theorem or_add {u x i:Nat}(hu:u<2 ^ i):u ||| (x*2 ^ i)=u+x*2 ^ i:=by
 rw[Nat.or_comm,Nat.mul_comm,←Nat.two_pow_add_eq_or_of_lt hu];omega
end Go.AL
namespace Go.Proofs.YtdandeekdbndgaaGreatDoor
open Go Go.AL Go.AL.Co
theorem num_step {u x i:Nat}(hi:i≤9) (hu:u<2 ^ (7*i)) (hx:x<256) (hb:¬(i=9∧1<x)):u+(x % 128)*2 ^ (7*i)<18446744073709551616:=by
 have hm:x % 128<128:=Nat.mod_lt _ (by omega)
 rcases Nat.lt_or_ge i 9 with h | h
 ·have h1:(2:Nat) ^ (7*i)≤2 ^ 56:=Nat.pow_le_pow_right (by omega) (by omega)
  have h2:(x % 128)*2 ^ (7*i)≤127*2 ^ 56:=Nat.mul_le_mul (by omega) h1
  have h3:(2:Nat) ^ 56=72057594037927936:=by decide
  omega
 ·have h9:i=9:=by omega
  subst h9
  have hx1:x≤1:=by
   rcases Nat.lt_or_ge 1 x with h | h
   ·exact absurd ⟨rfl,h⟩ hb
   ·exact h
  have h3:(2:Nat) ^ (7*9)=9223372036854775808:=by decide
  rw[h3]at hu ⊢
  have:x % 128=x:=Nat.mod_eq_of_lt (by omega)
  rw[this]
  have:x*9223372036854775808≤1*9223372036854775808:=Nat.mul_le_mul_right _ hx1
  omega
theorem cond63 {i:Nat}{x:UInt8}{H:AH}{BAD GOOD:AH→Prop}(hb:(i=9∧1<x.toNat)∨(0<i∧x.toNat=0)→BAD H) (hg:¬((i=9∧1<x.toNat)∨(0<i∧x.toNat=0))→GOOD H) :
  y_pu (.bin .eql (.cst (.int .i64 (.ofNat i))) (.cst (I 9))) fun v7=>
  y_grp true v7 (fun(_ v9:AV) (h10:AH)=>
  y_pu (.pick (.cst v7) (.cst v9) (.cst (.bool false))) fun v11=>
  y_grp false v11 (fun(_ _ v14:AV) (h15:AH)=>
  y_grp true v14 (fun(_ v17:AV) (h18:AH)=>
  y_grp false v11 (fun(v19:AV) (h20:AH)=>
  y_pu (.pick (.cst v11) (.cst (.bool true)) (.cst v19)) fun v21=>
  y_if0 v21 (BAD h20) (GOOD h20)) (fun J19=>
  y_pu (.pick (.cst v14) (.cst v17) (.cst (.bool false))) fun v20=>
  J19 v20 h18) (fun J19=>J19 aud h18)) (fun J16=>
  y_pu (.bin .eql (.cst (bv x)) (.cst (N .u8 0))) fun v17=>
  J16 (bv x) v17 h15) (fun J16=>J16 aud aud h15)) (fun J12=>
  y_pu (.bin .gtr (.cst (.int .i64 (.ofNat i))) (.cst (I 0))) fun v13=>
  J12 (.int .i64 (.ofNat i)) v13 v13 h10) (fun J12=>J12 aud aud aud h10)) (fun J8=>
  y_pu (.bin .gtr (.cst (bv x)) (.cst (N .u8 1))) fun v9=>
  J8 (bv x) v9 H) (fun J8=>J8 aud aud H):=by
 have q1:apure (.bin .eql (.cst (.int .i64 (.ofNat i))) (.cst (I 9))) emp=some (.bool (decide (i=9))):=by
  show some (AV.bool ((Int.ofNat i)==9))=_
  have:((Int.ofNat i)==(9:Int))=decide (i=9):=by
   by_cases h:i=9
   ·subst h;rfl
   ·have h':¬(Int.ofNat i=9):=fun hh=>h (Int.ofNat.inj hh)
    simp only[h,decide_false,beq_eq_false_iff_ne,ne_eq];exact h'
  rw[this]
 have q2:apure (.bin .gtr (.cst (bv x)) (.cst (N .u8 1))) emp=some (.bool (decide (1<x.toNat))):=by
  show some (AV.bool (decide ((x.toNat:Int)>1)))=_
  congr 2;simp only[decide_eq_decide];omega
 have q3:apure (.bin .gtr (.cst (.int .i64 (.ofNat i))) (.cst (I 0))) emp=some (.bool (decide (0<i))):=by
  show some (AV.bool (decide ((i:Int)>0)))=_
  congr 2;simp only[decide_eq_decide];omega
 have q4:apure (.bin .eql (.cst (bv x)) (.cst (N .u8 0))) emp=some (.bool (decide (x.toNat=0))):=by
  show some (AV.bool ((x.toNat:Int)==0))=_
  have:((x.toNat:Int)==(0:Int))=decide (x.toNat=0):=by
   by_cases h:x.toNat=0
   ·simp[h]
   ·have h':¬((x.toNat:Int)=0):=by omega
    simp only[h,decide_false,beq_eq_false_iff_ne,ne_eq];exact h'
  rw[this]
 have hif:∀t:Bool,(t=true↔(i=9∧1<x.toNat)∨(0<i∧x.toNat=0))→y_if0 (.bool t) (BAD H) (GOOD H):=fun t ht=>y_if0_of (fun h=>hb (ht.1 h)) (fun h=>hg fun hh=>by rw[ht.2 hh]at h;cases h)
 have pk:∀(p a b:Bool),apure (.pick (.cst (.bool p)) (.cst (.bool a)) (.cst (.bool b))) emp=some (.bool (bif p then a else b)):=fun p a b=>by cases p<;>rfl
 have pk1:∀(a:AV) (b:Bool),apure (.pick (.cst (.bool false)) (.cst aud) (.cst (.bool b))) emp=some (.bool b):=fun a b=>rfl
 have cont:∀t1:Bool,(t1=true↔i=9∧1<x.toNat)→y_grp false (.bool t1) (fun(_ _ v14:AV) (h15:AH)=>
  y_grp true v14 (fun(_ v17:AV) (h18:AH)=>
  y_grp false (.bool t1) (fun(v19:AV) (h20:AH)=>
  y_pu (.pick (.cst (.bool t1)) (.cst (.bool true)) (.cst v19)) fun v21=>
  y_if0 v21 (BAD h20) (GOOD h20)) (fun J19=>
  y_pu (.pick (.cst v14) (.cst v17) (.cst (.bool false))) fun v20=>
  J19 v20 h18) (fun J19=>J19 aud h18)) (fun J16=>
  y_pu (.bin .eql (.cst (bv x)) (.cst (N .u8 0))) fun v17=>
  J16 (bv x) v17 h15) (fun J16=>J16 aud aud h15)) (fun J12=>
  y_pu (.bin .gtr (.cst (.int .i64 (.ofNat i))) (.cst (I 0))) fun v13=>
  J12 (.int .i64 (.ofNat i)) v13 v13 H) (fun J12=>J12 aud aud aud H):=by
  intro t1 h1
  refine y_grp_of (fun ht=>?_) (fun ht=>?_)
  ·subst ht
   refine y_pu_of q3 (y_grp_of (fun h0=>?_) (fun h0=>?_))
   ·refine y_pu_of q4 (y_grp_of (fun _=>?_) (fun h=>absurd rfl h))
    refine y_pu_of (pk _ _ _) (y_pu_of (pk _ _ _) (hif _ ?_))
    rw[h0]
    simp only[cond_true,cond_false,decide_eq_true_eq]
    have h0':0<i:=of_decide_eq_true h0
    constructor
    ·intro h;exact .inr ⟨h0',h⟩
    ·rintro(h | h)
     ·exact absurd (h1.2 h) (by simp)
     ·exact h.2
   ·refine y_grp_of (fun _=>?_) (fun h=>absurd rfl h)
    have h0f:decide (0<i)=false:=by cases hh:decide (0<i)with
     | true=>exact absurd hh h0
     | false=>rfl
    rw[h0f]
    refine y_pu_of (v:=.bool false) rfl (y_pu_of (pk _ _ _) (hif _ ?_))
    have h0':¬0<i:=of_decide_eq_false h0f
    simp only[cond_false]
    constructor
    ·intro h;cases h
    ·rintro(h | h)
     ·exact absurd (h1.2 h) (by simp)
     ·exact absurd h.1 h0'
  ·have ht1:t1=true:=by cases t1<;>simp at ht ⊢
   subst ht1
   have hh:=h1.1 rfl
   have g1:agd aud=some none:=rfl
   show y_gd true aud _ _
   unfold y_gd
   simp only[g1]
   refine⟨fun h=>(by cases h),fun _=>?_⟩
   refine y_grp_of (fun h=>by cases h) (fun _=>?_)
   refine y_pu_of (v:=.bool true) rfl (hif _ ?_)
   simp only[true_iff];exact .inl hh
 refine y_pu_of q1 (y_grp_of (fun h9=>?_) (fun h9=>?_))
 ·refine y_pu_of q2 (y_pu_of (pk _ _ _) (cont _ ?_))
  rw[h9]
  have h9':i=9:=of_decide_eq_true h9
  simp only[cond_true,decide_eq_true_eq]
  exact⟨fun h=>⟨h9',h⟩,fun h=>h.2⟩
 ·have h9f:decide (i=9)=false:=by cases hh:decide (i=9)with
   | true=>exact absurd hh h9
   | false=>rfl
  rw[h9f]
  refine y_pu_of (v:=.bool false) rfl (cont _ ?_)
  have h9':¬i=9:=of_decide_eq_false h9f
  exact⟨fun h=>(by cases h),fun h=>absurd h.1 h9'⟩
set_option maxRecDepth 4000 in
set_option maxHeartbeats 1000000 in
theorem R63 {H:AH}{p:Nat}{b:List UInt8}(hR:Rd H p b):ACall Tryz.prog 55 [.ptr p 0] H (RPost H p (decN b) fun n v _=>v=.int .i64 n):=by
 refine T63 ?_
 unfold G63
 let Iv:AV→AV→AV→AH→Prop:=fun a u' i' H'=>a=.ptr p 0∧∃(i u:Nat) (b':List UInt8),u'=.int .u64 (.ofNat u)∧i'=.int .i64 (.ofNat i)∧i≤9∧u<2 ^ (7*i)∧Rd H' p b'∧KeepD H p H' ∧
  decN b=(decU i b').bind fun v r=>.ok (unzz (u+v*2 ^ (7*i))) r
 let μ:AV→AV→AV→AH→Nat:=fun _ _ d _=>match d with
  | .int _ j=>(10-j).toNat
  | _=>0
 refine⟨Iv,μ,⟨rfl,0,0,b,rfl,rfl,by omega,by decide,hR,KeepD.refl _ _,?_⟩,?_⟩
 ·simp[decN]
 intro e H5 hI
 obtain⟨e1,i,u,b',e2,e3,hi,hu,hr,hk,hd⟩:=(hI:Iv (e 0) (e 3) (e 4) H5)
 show y_call Tryz.prog 119 [e 0] H5 _ _
 rw[e1,e2,e3]
 refine y_call_of (R104 hr) (fun v H6 h6=>?_) (fun v H6 h6=>?_)
 case refine_2=>
  obtain⟨k6,h6⟩:=h6
  cases b' with
  | nil=>
   refine⟨hk.trans k6,?_⟩
   rw[hd];exact h6
  | cons x r=>obtain⟨_,h,_⟩:=h6;cases h
 obtain⟨k6,h6⟩:=h6
 cases b' with
 | nil=>cases h6.1
 | cons x r=>
 obtain⟨v',hv,rfl,hr6⟩:=h6
 cases hv
 have hx:=x.toNat_lt
 refine cond63 (fun hbad=>?_) (fun hgood=>?_)
 ·refine y_pu_of (v:=.agg [.int .i64 4]) (by rfl) ?_
  refine⟨hk.trans k6,?_⟩
  rw[hd]
  have:decU i (x::r)=.err .form:=by unfold decU;rw[if_pos hbad]
  rw[this];exact⟨rfl,_,hr6⟩
 have hns:=num_step hi hu hx (fun h=>hgood (.inl h))
 have hm:x.toNat % 128<128:=Nat.mod_lt _ (by omega)
 have s1:apure (.bin .and (.cst (bv x)) (.cst (N .u8 127))) emp=some (.int .u8 (.ofNat (x.toNat % 128))):=by
  show abin .and (.int .u8 (.ofNat x.toNat)) (.int .u8 (.ofNat 127))=_
  rw[ab_and,show x.toNat &&& 127=x.toNat % 128 from Nat.and_two_pow_sub_one_eq_mod x.toNat 7,u8_wrap]
  show some (AV.int .u8 (((x.toNat % 128 % 256 % 256:Nat)):Int))=_
  rw[Nat.mod_eq_of_lt (show x.toNat % 128 % 256<256 by omega),Nat.mod_eq_of_lt (show x.toNat % 128<256 by omega)];rfl
 refine y_pu_of s1 (y_pu_of (v:=.int .u64 (.ofNat (x.toNat % 128))) (by
  show some (AV.int .u64 (IntKind.u64.wrap ((x.toNat % 128:Nat):Int)))=_
  rw[wrap_u64n (by omega)];rfl) ?_)
 refine y_pu_of (v:=.int .i64 (.ofNat (7*i))) (by
  show some (AV.int .i64 (IntKind.i64.wrap ((7:Int)*(i:Int))))=_
  rw[wrap_lt (by omega)]
  have:(7:Int)*(i:Int)=((7*i:Nat):Int):=by omega
  rw[this];rfl) ?_
 refine y_pu_of (v:=.int .u64 (.ofNat (x.toNat % 128*2 ^ (7*i)))) (by
  have h1:(0:Int)≤Int.ofNat (7*i):=Int.natCast_nonneg _
  show(if (0:Int)≤Int.ofNat (7*i)then some (AV.int .u64 (IntKind.u64.wrap (Int.ofNat (x.toNat % 128)*2 ^ (min (Int.ofNat (7*i)).toNat IntKind.u64.bits))))else none)=_
  rw[if_pos h1]
  have h2:min (Int.ofNat (7*i)).toNat IntKind.u64.bits=7*i:=by
   show min (7*i) 64=7*i;omega
  have h3:Int.ofNat (x.toNat % 128)*2 ^ (7*i)=((x.toNat % 128*2 ^ (7*i):Nat):Int):=by simp
  rw[h2,h3,wrap_u64n (by omega)];rfl) ?_
 generalize hU:u+x.toNat % 128*2 ^ (7*i)=U at hns
 refine y_pu_of (v:=.int .u64 (.ofNat U)) (by
  show abin .or (.int .u64 (.ofNat u)) (.int .u64 (.ofNat (x.toNat % 128*2 ^ (7*i))))=_
  rw[ab_or,or_add hu,hU]
  show some (AV.int .u64 (IntKind.u64.wrap ((U % 18446744073709551616:Nat):Int)))=_
  rw[Nat.mod_eq_of_lt hns,wrap_u64n hns];rfl) ?_
 refine y_pu_of (v:=.bool (decide (x.toNat<128))) (by
  show some (AV.bool (decide ((x.toNat:Int)<128)))=_
  congr 2;simp only[decide_eq_decide];omega) ?_
 refine y_if0_of (fun hl=>?_) (fun hl=>?_)
 ·have hl:x.toNat<128:=of_decide_eq_true hl
  have hdu:decU i (x::r)=.ok x.toNat r:=by unfold decU;rw[if_neg hgood,if_pos hl]
  rw[Nat.mod_eq_of_lt hl]at hU
  have hres:decN b=.ok (unzz U) r:=by rw[hd,hdu,←hU];rfl
  have p1:apure (.bin .and (.cst (.int .u64 (.ofNat U))) (.cst (N .u64 1))) emp=some (.int .u64 (.ofNat (U % 2))):=by
   show abin .and (.int .u64 (.ofNat U)) (.int .u64 (.ofNat 1))=_
   rw[ab_and,show U &&& 1=U % 2 from Nat.and_two_pow_sub_one_eq_mod U 1]
   show some (AV.int .u64 (IntKind.u64.wrap ((U % 2 % 18446744073709551616:Nat):Int)))=_
   rw[Nat.mod_eq_of_lt (show U % 2<18446744073709551616 by omega),wrap_u64n (by omega)];rfl
  have p2:apure (.bin .shr (.cst (.int .u64 (.ofNat U))) (.cst (N .u64 1))) emp=some (.int .u64 (.ofNat (U / 2))):=by
   show some (AV.int .u64 ((U:Int).fdiv (2 ^ 1)))=_
   rw[Int.fdiv_eq_ediv_of_nonneg _ (by decide)]
   have:(U:Int) / 2 ^ 1=((U / 2:Nat):Int):=by simp
   rw[this];rfl
  have p3:apure (.convI .i64 (.cst (.int .u64 (.ofNat (U / 2))))) emp=some (.int .i64 (.ofNat (U / 2))):=by
   show some (AV.int .i64 (IntKind.i64.wrap ((U / 2:Nat):Int)))=_
   rw[wrap_lt (by omega)];rfl
  refine y_pu_of p1 (y_pu_of (v:=.bool (decide (U % 2=1))) (by
   show some (AV.bool (((U % 2:Nat):Int)==1))=_
   have:(((U % 2:Nat):Int)==(1:Int))=decide (U % 2=1):=by
    by_cases h:U % 2=1
    ·simp[h]
    ·have h':¬(((U % 2:Nat):Int)=1):=by omega
     simp only[h,decide_false,beq_eq_false_iff_ne,ne_eq];exact h'
   rw[this]) (y_if0_of (fun ho=>?_) (fun ho=>?_)))
  ·have ho:U % 2=1:=of_decide_eq_true ho
   refine y_pu_of p2 (y_pu_of p3 (y_pu_of (v:=.int .i64 (unzz U)) ?_ ?_))
   ·have hz:unzz U=-((U / 2:Nat):Int)-1:=by unfold unzz;rw[if_pos ho]
    rw[hz]
    show some (AV.int .i64 (IntKind.i64.wrap (((BitVec.ofInt 64 (-1) ^^^ BitVec.ofInt 64 ((U / 2:Nat):Int)).toNat:Nat):Int)))=_
    rw[xor_not,wrap_i64]
    congr 2
    split<;>omega
   ·refine⟨hk.trans k6,?_⟩
    rw[hres]
    exact⟨_,rfl,rfl,hr6⟩
  ·have ho:¬U % 2=1:=of_decide_eq_false ho
   refine y_pu_of p2 (y_pu_of p3 ⟨hk.trans k6,?_⟩)
   rw[hres]
   refine⟨_,rfl,?_,hr6⟩
   have hz:unzz U=((U / 2:Nat):Int):=by unfold unzz;rw[if_neg ho]
   rw[hz];rfl
 ·have hl:¬x.toNat<128:=of_decide_eq_false hl
  have hi9:i<9:=by
   rcases Nat.lt_or_ge i 9 with h | h
   ·exact h
   ·exact absurd (Or.inl ⟨by omega,by omega⟩) hgood
  have hdu:decU i (x::r)=(decU (i+1) r).bind fun v r'=>.ok (x.toNat-128+128*v) r':=by
   conv=>lhs;unfold decU
   rw[if_neg hgood,if_neg hl]
  have hxm:x.toNat % 128=x.toNat-128:=by omega
  refine y_pu_of (v:=.int .i64 (.ofNat (i+1))) (by
   show some (AV.int .i64 (IntKind.i64.wrap ((i:Int)+1)))=_
   rw[wrap_lt (by omega)];rfl) ?_
  have hp:(2:Nat) ^ (7*(i+1))=128*2 ^ (7*i):=by rw[Nat.mul_add,Nat.pow_add];omega
  refine⟨⟨rfl,i+1,U,r,rfl,rfl,by omega,?_,hr6,hk.trans k6,?_⟩,?_⟩
  ·rw[hp,←hU]
   have:x.toNat % 128*2 ^ (7*i)≤127*2 ^ (7*i):=Nat.mul_le_mul_right _ (by omega)
   omega
  ·rw[hd,hdu]
   cases decU (i+1) r with
   | err er=>rfl
   | ok v r'=>
    show Rs.ok (unzz (u+(x.toNat-128+128*v)*2 ^ (7*i))) r'=Rs.ok (unzz (U+v*2 ^ (7*(i+1)))) r'
    have:u+(x.toNat-128+128*v)*2 ^ (7*i)=U+v*2 ^ (7*(i+1)):=by
     rw[hp,←hU,hxm,Nat.add_mul,Nat.mul_comm 128 v,Nat.mul_assoc];omega
    rw[this]
  ·show((10:Int)-Int.ofNat (i+1)).toNat<μ (e 0) (e 3) (e 4) H5
   rw[e3]
   show((10:Int)-((i+1:Nat):Int)).toNat<((10:Int)-(i:Int)).toNat
   omega
end Go.Proofs.YtdandeekdbndgaaGreatDoor
namespace Go.AL
open Co
variable {P:Program}
theorem RPost.mono {α:Type}{H:AH}{p:Nat}{res:Rs α}{ok ok':α→AV→AH→Prop}(h:∀d x H',ok d x H'→ok' d x H'){o:AOut}{H':AH}(hp:RPost H p res ok o H'):RPost H p res ok' o H':=by
 obtain⟨h1,h2⟩:=hp
 refine⟨h1,?_⟩
 cases res with
 | err e=>exact h2
 | ok d r=>obtain⟨x,q1,q2,q3⟩:=h2;exact⟨x,q1,h _ _ _ q2,q3⟩
theorem RPost.scope {α:Type}{g:FuncId}{ar:List AV}{H:AH}{p:Nat}{b:List UInt8}{res:Rs α}{ok ok':α→AV→AH→Prop}(hR:Rd H p b) (h:ACall P g ar H (RPost H p res ok))
  (hok:∀d x H',KeepD H p H'→ok d x H'→∃y,FrzR H' H.next x y∧∀H'',ok' d y H''):ACall P g ar H (RPost H p res ok'):=by
 refine ACall.scope (fun _ _=>h) h.1 fun _ htop o H' hp=>?_
 obtain⟨hk,hp⟩:=hp
 have hlt:=hR.lt
 have hcut:∀q,q<H.next→(H'.cut H.next H.gl).get q=H'.get q:=fun q hq=>by simp[AH.cut,hq]
 have hkc:KeepD H p (H'.cut H.next H.gl):=⟨Nat.le_refl _,fun q hq hqp=>by rw[hcut q hq];exact hk.get q hq hqp,rfl⟩
 have hrd:∀r,Rd H' p r→Rd (H'.cut H.next H.gl) p r:=fun r hr=>hr.keep hlt fun q hq=>hcut q (by omega)
 have hsc:∀r,Rd H' p r→∀q o,q<H.next→H'.get q=some o→H.get q=some o∨ScO H.next o:=fun r hr q o hq ho=>by
  by_cases hqp:q=p
  ·subst hqp
   obtain⟨_,_,v,h3,h4⟩:=hr
   rw[h3]at ho
   cases ho
   exact .inr (.cons (h4.sc hlt) .nil)
  ·exact .inl (by rw[←hk.get q hq hqp];exact ho)
 cases res with
 | err e=>
  obtain⟨rfl,r,hr⟩:=hp
  exact⟨.pan (fail e),.low (.ifc (.agg (.cons (.int _ _) .nil))),hsc r hr,hkc,rfl,r,hrd r hr⟩
 | ok d r=>
  obtain⟨x,rfl,h1,hr⟩:=hp
  obtain⟨y,h2,h3⟩:=hok d x H' hk h1
  exact⟨.ret y,h2,hsc r hr,hkc,y,rfl,h3 _,hrd r hr⟩
theorem RX_sc (k:Nat):∀(t:Ty) (d:t.D) (c:List AV),RX t d c→Scs k c
 | .int,d,c,h=>by have h:c=_:=h;subst h;exact .cons (.int _ _) .nil
 | .byte,d,c,h=>by have h:c=_:=h;subst h;exact .cons (.int _ _) .nil
 | .bool,d,c,h=>by have h:c=_:=h;subst h;exact .cons (.bool _) .nil
 | .list t,l,c,h=>by
  obtain⟨v,cs,rfl,hf,css,hcc,hl,hc⟩:=h
  refine .cons ?_ .nil
  generalize hln:(asL l).length=ln at hf
  cases hf with
  | nil=>exact .nils
  | sim _ _=>
   subst hcc
   refine .sim (Scs.of_mem fun x hx=>?_)
   obtain⟨y,hy,hxy⟩:=List.mem_flatten.1 hx
   obtain⟨i,hi⟩:=List.getElem?_of_mem hy
   have hlt:i<css.length:=by
    rcases Nat.lt_or_ge i css.length with h | h
    ·exact h
    ·rw[List.getElem?_eq_none h]at hi;cases hi
   have hx:(asL l)[i]?=some ((asL l)[i]'(by omega)):=List.getElem?_eq_getElem (by omega)
   exact(RX_sc k t _ _ (hc i _ y hx hi)).mem hxy
 | .pair a b,d,c,h=>by
  obtain⟨c1,c2,rfl,h1,h2⟩:=h
  exact Scs.of_mem fun x hx=>by
   rcases List.mem_append.1 hx with h | h
   ·exact(RX_sc k a _ _ h1).mem h
   ·exact(RX_sc k b _ _ h2).mem h
 | .vec n,d,c,h=>by
  obtain⟨_,h2,h3⟩:=h
  refine Scs.of_mem fun x hx=>?_
  obtain⟨i,hi⟩:=List.getElem?_of_mem hx
  have hlt:i<n / 8:=by
   rcases Nat.lt_or_ge i c.length with h | h
   ·omega
   ·rw[List.getElem?_eq_none h]at hi;cases hi
  rw[h3 i hlt]at hi
  cases hi;exact .int _ _
def RV (t:Ty) (d:t.D) (x:AV):Prop:=∃c,x.cellsOf=some c∧RX t d c
def One (P:Program) (L:List (Nat × List AV)) (p:Nat) (fv:AV) (t:Ty):Prop:=∀H b,Rd H p b→(∀x∈L,x.1<H.next∧x.1≠p∧H.get x.1=some (.cells x.2))→ACallV P fv [] H (RPost H p (t.dec b) fun d x _=>RV t d x)
def getG (P:Program) (k bytes:Nat) (z:List AV) (v0 v1:AV) (h:AH) (Post:AOut→AH→Prop):Prop:=(
 y_call P 55 [v0] h (yp Post) fun v2 h2=>
 y_pu (.bin .lss (.cst v2) (.cst (I 0))) fun v3=>
 y_if0 v3
 (y_pu (.build [(I 0)] [(0,1,(.cst (I 4)))]) fun v4=>
 y_pan (.ifc 72 v4) h2 (yp Post))
 (y_pu (.nilCheck (.cst v0)) fun v4=>
 y_pu (.fieldAddr 0 (.cst v4)) fun v5=>
 y_rd (.load none (.cst v5)) h2 fun v6=>
 y_pu (.len (.cst v6)) fun v7=>
 y_pu (.bin .gtr (.cst v2) (.cst v7)) fun v8=>
 y_if0 v8
 (y_pu (.build [(I 0)] [(0,1,(.cst (I 5)))]) fun v9=>
 y_pan (.ifc 72 v9) h2 (yp Post))
 (y_loop [1,6,22,23] (fun J9=>(fun(v10 v11 v12 v13:AV) (h14:AH)=>
 y_pu (.bin .lss (.cst v13) (.cst v12)) fun v15=>
 y_if0 v15
 (y_cl P v10 [] h14 (yp Post) fun v16 h16=>
 y_ef (.buildSlice k 1 z [(0,k,(.cst v16))]) h16 fun v17 h17=>
 y_ef (.append k bytes (.cst v11) (.cst v17)) h17 fun v18 h18=>
 y_pu (.bin .add (.cst v13) (.cst (I 1))) fun v19=>
 J9 v10 v18 v12 v19 h18)
 (Post (.ret v11) h14))) ((((jenv.set 1 v1).set 6 .nils).set 22 v2).set 23 (I 0)) h2)))
def Own (H0 H:AH) (k:Nat) (n:Nat) (v:AV) (cs:List AV):Prop:=(n=0∧v=.nils∧cs=[])∨(∃r,H0.next≤r∧r<H.next∧v=.sl r 0 n (.op k)∧H.get r=some (.cells cs)∧0<n)
theorem Own.keep {H0 H H':AH}{k n p:Nat}{v:AV}{cs:List AV}(h:Own H0 H k n v cs) (hk:KeepD H p H') (hp:p<H0.next):Own H0 H' k n v cs:=by
 rcases h with h | ⟨r,h1,h2,h3,h4,h5⟩
 ·exact .inl h
 ·exact .inr ⟨r,h1,Nat.lt_of_lt_of_le h2 hk.nx,h3,by rw[hk.get r h2 (by omega)];exact h4,h5⟩
theorem own_put {H0 H:AH}{p k bytes n:Nat}{z c cs:List AV}{v x:AV}{b:List UInt8}{K:AV→AH→Prop}(ho:Own H0 H k n v cs) (hcs:cs.length=n*k) (hR:Rd H p b) (hp:p<H0.next) (hk0:KeepD H0 p H)
  (hz:z.length=k) (hx:x.cellsOf=some c) (hc:c.length=k) (hn:n<274877906944) (hby:bytes≤500)
  (hK:∀v' H',Own H0 H' k (n+1) v' (cs++c)→Rd H' p b→KeepD H0 p H'→K v' H') :
  y_ef (.buildSlice k 1 z [(0,k,(.cst x))]) H fun v17 h17=>y_ef (.append k bytes (.cst v) (.cst v17)) h17 K:=by
 have hnx:=hk0.nx
 have hlt:=hR.lt
 have hd:z.drop k=[]:=List.drop_of_length_le (by omega)
 refine y_ef_of (v:=.sl H.next 0 1 (.ex 1)) (H':=H.push (.cells c)) (by
  simp[aeff,afill,AOpd.ev,hx,hc,hz,hd]) ?_
 have hb:(n+1)*bytes≤140737488355328:=by
  have:(n+1)*bytes≤274877906944*500:=Nat.mul_le_mul (by omega) hby
  omega
 have htk:c.take k=c:=List.take_of_length_le (by omega)
 rcases ho with⟨rfl,rfl,rfl⟩ | ⟨r,h1,h2,rfl,h4,_⟩
 ·have hb':bytes≤140737488355328:=by omega
  refine y_ef_of (v:=.sl (H.next+1) 0 1 (.op k)) (H':=(H.push (.cells c)).push (.cells c)) (by
   simp[aeff,AOpd.ev,aappend,aslcells,AH.cells?,AH.get_push,hc,htk,hb']) ?_
  have hold:∀q,q<H.next→((H.push (.cells c)).push (.cells c)).get q=H.get q:=fun q hq=>by
   have e1:q≠H.next:=by omega
   have e2:q≠H.next+1:=by omega
   simp[AH.get_push,e1,e2]
  refine hK _ _ (.inr ⟨H.next+1,by omega,by simp,rfl,by simp[AH.get_push],Nat.succ_pos _⟩) (hR.keep (by simp;omega) fun q hq=>hold q (by omega)) ⟨by simp;omega,fun q hq hqp=>?_,hk0.gl⟩
  rw[hold q (by omega)];exact hk0.get q hq hqp
 ·have e3:r≠H.next:=by omega
  have htk2:cs.take (n*k)=cs:=List.take_of_length_le (by omega)
  refine y_ef_of (v:=.sl (H.next+1) 0 (n+1) (.op k)) (H':=((H.push (.cells c)).erase r).push (.cells (cs++c))) (by
   have hn1:n+1≤9223372036854775807:=by omega
   simp[aeff,AOpd.ev,aappend,aslcells,AH.cells?,AH.get_push,hc,htk,h4,e3,hcs,hb,htk2,hn1]) ?_
  have hold:∀q,q<H.next→q≠r→(((H.push (.cells c)).erase r).push (.cells (cs++c))).get q=H.get q:=fun q hq hqr=>by
   have e1:q≠H.next:=by omega
   have e2:q≠H.next+1:=by omega
   simp[AH.get_push,AH.get_erase,e1,e2,hqr]
  refine hK _ _ (.inr ⟨H.next+1,by omega,by simp,rfl,by simp[AH.get_push],Nat.succ_pos _⟩) (hR.keep (by simp;omega) fun q hq=>hold q (by omega) (by omega)) ⟨by simp;omega,fun q hq hqp=>?_,hk0.gl⟩
  rw[hold q (by omega) (by omega)];exact hk0.get q hq hqp
def N63 (P:Program):Prop:=∀{H:AH}{p:Nat}{b:List UInt8},Rd H p b→ACall P 55 [.ptr p 0] H (RPost H p (decN b) fun n v _=>v=.int .i64 n)
def OwnL (H0:AH) (t:Ty) (l:(Ty.list t).D) (v:AV) (H:AH):Prop:=∃css:List (List AV),Own H0 H (tsz t) (asL l).length v css.flatten∧css.length=(asL l).length∧∀(i:Nat) (x:t.D) (y:List AV),(asL l)[i]?=some x→css[i]?=some y→RX t x y
theorem Rd.ld {H:AH}{p:Nat}{b:List UInt8}(h:Rd H p b):∃v,aread (.load none (.cst (.ptr p 0))) emp H=some v∧apure (.len (.cst v)) emp=some (.int .i64 (b.length:Int)):=by
 obtain⟨_,_,v,h3,h4⟩:=h
 exact⟨v,by simp[aread,aload,AOpd.ev,AH.cells?,h3,apart],h4.len⟩
set_option maxHeartbeats 1000000 in
theorem getG_ok (h63:N63 P){t:Ty}{bytes:Nat}{z:List AV}(hz:z.length=tsz t) (hby:bytes≤500){L:List (Nat × List AV)}{H:AH}{p:Nat}{b:List UInt8}{fv:AV}(hR:Rd H p b)
  (hL:∀x∈L,x.1<H.next∧x.1≠p∧H.get x.1=some (.cells x.2)) (hf:One P L p fv t):getG P (tsz t) bytes z (.ptr p 0) fv H (RPost H p ((Ty.list t).dec b) (OwnL H t)):=by
 obtain⟨res,hres⟩:∃res,res=(Ty.list t).dec b:=⟨_,rfl⟩
 rw[←hres]
 have hres:res=(decN b).bind (fun n r=>if n<0 then .err .form else if (r.length:Int)<n then .err .short else many t.dec n.toNat r):=hres
 unfold getG
 refine y_call_of (h63 hR) (fun v H1 h1=>?_) (fun v H1 h1=>?_)
 case refine_2=>
  obtain⟨k1,h1⟩:=h1
  cases hd:decN b with
  | ok n r=>rw[hd]at h1;obtain⟨_,h,_⟩:=h1;cases h
  | err e=>
   rw[hd]at h1 hres
   refine⟨k1,?_⟩
   rw[hres];exact h1
 obtain⟨k1,h1⟩:=h1
 cases hd:decN b with
 | err e=>rw[hd]at h1;cases h1.1
 | ok n r=>
 rw[hd]at h1 hres
 obtain⟨v',hv,rfl,hr⟩:=h1
 cases hv
 have hres:res=if n<0 then .err .form else if (r.length:Int)<n then .err .short else many t.dec n.toNat r:=hres
 refine y_pu_of (v:=.bool (decide (n<0))) rfl (y_if0_of (fun h0=>?_) (fun h0=>?_))
 ·refine y_pu_of (v:=.agg [.int .i64 4]) (by rfl) ⟨k1,?_⟩
  rw[hres,if_pos (of_decide_eq_true h0)]
  exact⟨rfl,r,hr⟩
 rw[if_neg (of_decide_eq_false h0)]at hres
 have h0:=of_decide_eq_false h0
 obtain⟨vr,q1,q2⟩:=hr.ld
 refine y_pu_of (v:=.ptr p 0) rfl (y_pu_of (v:=.ptr p 0) rfl (y_rd_of q1 (y_pu_of q2 ?_)))
 refine y_pu_of (v:=.bool (decide (n>(r.length:Int)))) rfl (y_if0_of (fun hg=>?_) (fun hg=>?_))
 ·refine y_pu_of (v:=.agg [.int .i64 5]) (by rfl) ⟨k1,?_⟩
  rw[hres,if_pos (of_decide_eq_true hg)]
  exact⟨rfl,r,hr⟩
 rw[if_neg (of_decide_eq_false hg)]at hres
 have hg:=of_decide_eq_false hg
 have hlen:=hr.len
 obtain⟨N,rfl⟩:∃N:Nat,n=(N:Int):=⟨n.toNat,by omega⟩
 rw[Int.toNat_natCast]at hres
 have hN:N<274877906944:=by omega
 have hp:=hR.lt
 let Iv:AV→AV→AV→AV→AH→Prop:=fun a v c d H'=>a=fv∧c=.int .i64 (N:Int)∧∃(i:Nat) (l1:List t.D) (css:List (List AV)) (b':List UInt8),d=.int .i64 (i:Int)∧i≤N∧l1.length=i∧css.length=i ∧
  (∀(j:Nat) (x:t.D) (y:List AV),l1[j]?=some x→css[j]?=some y→RX t x y)∧Own H H' (tsz t) i v css.flatten∧Rd H' p b'∧KeepD H p H'∧res=(many t.dec (N-i) b').bind fun l2 r'=>.ok (l1++l2) r'
 let μ:AV→AV→AV→AV→AH→Nat:=fun _ _ _ d _=>match d with
  | .int _ j=>(N-j).toNat
  | _=>0
 refine⟨Iv,μ,⟨rfl,rfl,0,[],[],r,rfl,by omega,rfl,rfl,fun j x y h=>by simp at h,.inl ⟨rfl,rfl,rfl⟩,hr,k1,?_⟩,?_⟩
 ·rw[hres,Nat.sub_zero]
  cases many t.dec N r<;>rfl
 intro e H2 hI
 obtain⟨e1,e3,i,l1,css,b',e4,hi,hl1,hcs,hrc,ho,hr2,k2,hres2⟩:=(hI:Iv (e 1) (e 6) (e 22) (e 23) H2)
 have e2:∃v,e 6=v:=⟨_,rfl⟩
 obtain⟨v,e2⟩:=e2
 show y_pu (.bin .lss (.cst (e 23)) (.cst (e 22))) _
 rw[e4,e3]
 rw[e2]at ho
 have hcl:∀x∈css,x.length=tsz t:=fun x hx=>by
  obtain⟨j,hj⟩:=List.getElem?_of_mem hx
  have hlt:j<css.length:=by
   rcases Nat.lt_or_ge j css.length with h | h
   ·exact h
   ·rw[List.getElem?_eq_none h]at hj;cases hj
  exact RX_len t _ _ (hrc j _ x (List.getElem?_eq_getElem (by omega)) hj)
 refine y_pu_of (v:=.bool (decide ((i:Int)<N))) rfl (y_if0_of (fun ht=>?_) (fun ht=>?_))
 ·have hlt:i<N:=by have:=of_decide_eq_true ht;omega
  rw[e1,e2]
  have hL2:∀x∈L,x.1<H2.next∧x.1≠p∧H2.get x.1=some (.cells x.2):=fun x hx=>by
   obtain⟨q1,q2,q3⟩:=hL x hx
   exact⟨Nat.lt_of_lt_of_le q1 k2.nx,q2,by rw[k2.get _ q1 q2];exact q3⟩
  have hni:N-i=(N-(i+1))+1:=by omega
  rw[hni]at hres2
  have hres2:res=((t.dec b').bind fun x r=>(many t.dec (N-(i+1)) r).bind fun l r'=>.ok (x::l) r').bind fun l2 r'=>.ok (l1++l2) r':=hres2
  refine y_cl_of (hf H2 b' hr2 hL2) (fun x H3 h3=>?_) (fun x H3 h3=>?_)
  case refine_2=>
   obtain⟨k3,h3⟩:=h3
   cases hd2:t.dec b' with
   | ok d r2=>rw[hd2]at h3;obtain⟨_,h,_⟩:=h3;cases h
   | err er=>
    rw[hd2]at h3 hres2
    refine⟨k2.trans k3,?_⟩
    rw[hres2];exact h3
  obtain⟨k3,h3⟩:=h3
  cases hd2:t.dec b' with
  | err er=>rw[hd2]at h3;cases h3.1
  | ok d r2=>
  rw[hd2]at h3 hres2
  obtain⟨x',hx',⟨c,hc1,hc2⟩,hr3⟩:=h3
  cases hx'
  have hfl:css.flatten.length=i*tsz t:=by rw[flat_len css hcl,hcs]
  refine own_put (ho.keep k3 hp) hfl hr3 hp (k2.trans k3) hz hc1 (RX_len t d c hc2) (by omega) hby fun v' H4 ho4 hr4 k4=>?_
  have hwr:IntKind.i64.wrap ((i:Int)+1)=((i+1:Nat):Int):=by
   rw[wrap_lt (by omega)];omega
  refine y_pu_of (v:=.int .i64 ((i+1:Nat):Int)) (by show some (AV.int .i64 (IntKind.i64.wrap ((i:Int)+1)))=_;rw[hwr]) ?_
  refine⟨⟨rfl,rfl,i+1,l1++[d],css++[c],r2,rfl,hlt,by simp[hl1],by simp[hcs],fun j x y hj1 hj2=>?_,(by
   have hfe:(css++[c]).flatten=css.flatten++c:=by simp
   show Own H H4 (tsz t) (i+1) v' (css++[c]).flatten
   rw[hfe];exact ho4),hr4,k4,?_⟩,?_⟩
  ·rcases Nat.lt_or_ge j i with h | h
   ·rw[List.getElem?_append_left (by omega)]at hj1 hj2
    exact hrc j x y hj1 hj2
   ·rw[List.getElem?_append_right (by omega)]at hj1 hj2
    rw[hl1]at hj1
    rw[hcs]at hj2
    have hj0:j-i=0:=by
     rcases Nat.eq_zero_or_pos (j-i)with h | h
     ·exact h
     ·rw[List.getElem?_eq_none (by simp;omega)]at hj1;cases hj1
    rw[hj0]at hj1 hj2
    cases hj1;cases hj2;exact hc2
  ·rw[hres2]
   show Rs.bind (Rs.bind (many t.dec (N-(i+1)) r2) _) _=Rs.bind (many t.dec (N-(i+1)) r2) _
   cases many t.dec (N-(i+1)) r2 with
   | err er=>rfl
   | ok l2 r3=>
    show Rs.ok (l1++d::l2) r3=Rs.ok ((l1++[d])++l2) r3
    rw[List.append_assoc];rfl
  ·show((N:Int)-((i+1:Nat):Int)).toNat<μ (e 1) (e 6) (e 22) (e 23) H2
   rw[e4]
   show((N:Int)-((i+1:Nat):Int)).toNat<((N:Int)-(i:Int)).toNat
   omega
 ·have hge:i=N:=by have:=of_decide_eq_false ht;omega
  subst hge
  rw[e2]
  refine⟨k2,?_⟩
  have:res=.ok l1 b':=by rw[hres2,Nat.sub_self];show Rs.ok (l1++[]) b'=_;rw[List.append_nil];rfl
  rw[this]
  refine⟨v,rfl,⟨css,?_,?_,hrc⟩,hr2⟩
  ·show Own H H2 (tsz t) l1.length v css.flatten
   rw[hl1];exact ho
  ·show css.length=l1.length
   omega
theorem OwnL.frz {H0 H:AH}{t:Ty}{l:(Ty.list t).D}{v:AV}(h:OwnL H0 t l v H):∃y,FrzR H H0.next v y∧RX (.list t) l [y]:=by
 obtain⟨css,ho,h2,h3⟩:=h
 have hcl:∀x∈css,x.length=tsz t:=fun x hx=>by
  obtain⟨j,hj⟩:=List.getElem?_of_mem hx
  have hlt:j<css.length:=by
   rcases Nat.lt_or_ge j css.length with h | h
   ·exact h
   ·rw[List.getElem?_eq_none h]at hj;cases hj
  exact RX_len t _ _ (h3 j _ x (List.getElem?_eq_getElem (by omega)) hj)
 have hfl:css.flatten.length=(asL l).length*tsz t:=by rw[flat_len css hcl,h2]
 rcases ho with⟨q1,q2,q3⟩ | ⟨r,q1,q2,q3,q4,q5⟩
 ·subst q2
  refine⟨.nils,.low .nils,.nils,css.flatten,rfl,?_,css,rfl,h2,h3⟩
  rw[q1,q3];exact .nil
 ·subst q3
  refine⟨.sim css.flatten (asL l).length false,.sl (l:=css.flatten) (m:=css.flatten.length) q1 (by simp[AH.cells?,q4]) (by simp) ?_ (fun h=>by rw[hfl,h];simp) (fun h=>by cases h),.sim css.flatten (asL l).length false,css.flatten,rfl,.sim hfl q5,css,rfl,h2,h3⟩
  rw[List.drop_zero,List.take_length]
  refine FrzRs.low (Scs.of_mem fun x hx=>?_)
  obtain⟨y,hy,hxy⟩:=List.mem_flatten.1 hx
  obtain⟨i,hi⟩:=List.getElem?_of_mem hy
  have hlt:i<css.length:=by
   rcases Nat.lt_or_ge i css.length with h | h
   ·exact h
   ·rw[List.getElem?_eq_none h]at hi;cases hi
  have hx:(asL l)[i]?=some ((asL l)[i]'(by omega)):=List.getElem?_eq_getElem (by omega)
  exact(RX_sc H0.next t _ _ (h3 i _ y hx hi)).mem hxy
theorem get_ok {g:FuncId}{ar:List AV}{H:AH}{p:Nat}{b:List UInt8}{t:Ty}(hR:Rd H p b) (h:ACall P g ar H (RPost H p ((Ty.list t).dec b) (OwnL H t))):ACall P g ar H (RPost H p ((Ty.list t).dec b) fun l v _=>RX (.list t) l [v]):=
 RPost.scope hR h fun d x H' _ ho=>by
  obtain⟨y,h1,h2⟩:=ho.frz
  exact⟨y,h1,fun _=>h2⟩
end Go.AL
namespace Go.AL
open Co
variable {P:Program}
structure DSt (H0:AH) (p:Nat) (L:List (Nat × List AV)) (H:AH) (b:List UInt8):Prop where
 rd:Rd H p b
 k:KeepD H0 p H
 l:∀x∈L,H0.next≤x.1∧x.1<H.next∧H.get x.1=some (.cells x.2)
 p0:p<H0.next
section
variable {H0 H:AH}{p:Nat}{L:List (Nat × List AV)}{b:List UInt8}
theorem DSt.start (h:Rd H p b):DSt H p [] H b:=⟨h,KeepD.refl _ _,fun x hx=>(by cases hx),h.lt⟩
theorem DSt.push {o:List AV}(s:DSt H0 p L H b):DSt H0 p ((H.next,o)::L) (H.push (.cells o)) b:=by
 have hn:=s.k.nx
 have hp:=s.p0
 have hold:∀q,q<H.next→(H.push (.cells o)).get q=H.get q:=fun q hq=>AH.get_push_ne _ _ (by omega)
 refine⟨s.rd.keep (by simp;omega) fun q hq=>hold q (by omega),⟨by simp;omega,fun q hq hqp=>by rw[hold q (by omega)];exact s.k.get q hq hqp,s.k.gl⟩,fun x hx=>?_,hp⟩
 cases hx with
 | head=>exact⟨hn,by simp,by simp⟩
 | tail _ hx=>
  obtain⟨h1,h2,h3⟩:=s.l x hx
  exact⟨h1,by simp;omega,by rw[hold _ h2];exact h3⟩
theorem DSt.lt {x:Nat × List AV}(s:DSt H0 p L H b) (hx:x∈L):x.1<H.next:=(s.l x hx).2.1
theorem DSt.alloc {z:List AV}{K:AV→AH→Prop}(s:DSt H0 p L H b) (hK:∀q H',DSt H0 p ((q,z)::L) H' b→(∀x∈L,x.1≠q)→K (.ptr q 0) H'):y_ef (.alloc z) H K:=
 y_ef_of (v:=.ptr H.next 0) (H':=H.push (.cells z)) rfl (hK _ _ s.push fun x hx=>by have:=s.lt hx;omega)
theorem DSt.box {x:AV}{c:List AV}{K:AV→AH→Prop}(s:DSt H0 p L H b) (hx:x.cellsOf=some c) (hK:∀q H',DSt H0 p ((q,c)::L) H' b→(∀x∈L,x.1≠q)→K (.ptr q 0) H'):y_ef (.box (.cst x)) H K:=
 y_ef_of (v:=.ptr H.next 0) (H':=H.push (.cells c)) (by simp[aeff,AOpd.ev,hx]) (hK _ _ s.push fun x hx=>by have:=s.lt hx;omega)
theorem DSt.swap {x y:Nat × List AV}(s:DSt H0 p (x::y::L) H b):DSt H0 p (y::x::L) H b:=⟨s.rd,s.k,fun w hw=>s.l w (by
 simp only[List.mem_cons]at hw ⊢
 rcases hw with h | h | h
 ·exact .inr (.inl h)
 ·exact .inl h
 ·exact .inr (.inr h)),s.p0⟩
theorem DSt.put {q o n:Nat}{pre z vs:List AV}{x:AV}{K:AV→AH→Prop}(s:DSt H0 p ((q,pre++z.drop o)::L) H b) (hne:∀x∈L,x.1≠q) (hpre:pre.length=o) (hx:x.cellsOf=some vs) (hv:vs.length=n) (hz:o+n≤z.length)
  (hK:∀H',DSt H0 p ((q,(pre++vs)++z.drop (o+n))::L) H' b→(pre++vs).length=o+n→K .unk H'):y_ef (.store n (.cst (.ptr q o)) (.cst x)) H K:=by
 obtain⟨h1,h2,h3⟩:=s.l _ (.head _)
 have hp:=s.p0
 have hs:splice (pre++z.drop o) o vs=(pre++vs)++z.drop (o+n):=by
  rw[splice_eq (by simp;omega),List.take_append_of_le_length (by omega),List.take_of_length_le (by omega),List.drop_append,List.drop_of_length_le (by omega),List.nil_append,List.drop_drop]
  congr 2;omega
 have hle:o+n≤(pre++z.drop o).length:=by simp;omega
 refine y_ef_of (v:=.unk) (H':=H.set q (.cells ((pre++vs)++z.drop (o+n)))) (by
  simp only[aeff,AOpd.ev,AH.cells?,h3,hx]
  rw[if_pos ⟨hv,hle⟩,hs]) ?_
 have hold:∀r,r≠q→(H.set q (.cells ((pre++vs)++z.drop (o+n)))).get r=H.get r:=fun r hr=>by simp[AH.get_set,hr]
 refine hK _ ⟨s.rd.keep (by have:=s.rd.lt;simpa using this) fun r hr=>hold r (by simp only at h1;omega),⟨by simpa using s.k.nx,fun r hr hrp=>by rw[hold r (by simp only at h1;omega)];exact s.k.get r hr hrp,s.k.gl⟩,fun w hw=>?_,hp⟩ (by simp[hpre,hv])
 cases hw with
 | head=>exact⟨h1,by simpa using h2,by simp[AH.get_set]⟩
 | tail _ hw=>
  obtain⟨g1,g2,g3⟩:=s.l w (.tail _ hw)
  exact⟨g1,by simpa using g2,by rw[hold _ (hne w hw)];exact g3⟩
theorem DSt.putA {q n:Nat}{z c:List AV}{K:AV→AH→Prop}(s:DSt H0 p ((q,z)::L) H b) (hne:∀x∈L,x.1≠q) (hv:c.length=n) (hz:z.length=n) (hK:∀H',DSt H0 p ((q,c)::L) H' b→K .unk H') :
  y_ef (.store n (.cst (.ptr q 0)) (.cst (.agg c))) H K:=by
 refine DSt.put (pre:=[]) (z:=z) (vs:=c) (by simpa using s) hne rfl rfl hv (by omega) fun H' s' _=>hK H' ?_
 have:z.drop n=[]:=List.drop_of_length_le (by omega)
 simpa[this]using s'
theorem DSt.ldA {q k:Nat}{c:List AV}{K:AV→Prop}(s:DSt H0 p L H b) (hm:(q,c)∈L) (hc:c.length=k) (hK:K (.agg c)):y_rd (.load (some k) (.cst (.ptr q 0))) H K:=by
 obtain⟨_,_,h3⟩:=s.l _ hm
 exact y_rd_of (v:=.agg c) (by simp[aread,aload,AOpd.ev,AH.cells?,h3,apart,hc];exact List.take_of_length_le (by omega)) hK
theorem DSt.ld {q o:Nat}{c:List AV}{x:AV}{K:AV→Prop}(s:DSt H0 p L H b) (hm:(q,c)∈L) (hx:c[o]?=some x) (hK:K x):y_rd (.load none (.cst (.ptr q o))) H K:=by
 obtain⟨_,_,h3⟩:=s.l _ hm
 exact y_rd_of (v:=x) (by simpa[aread,aload,AOpd.ev,AH.cells?,h3,apart]using hx) hK
theorem DSt.fin {α:Type}{res:Rs α}{ok:α→AV→AH→Prop}{d:α}{x:AV}(s:DSt H0 p L H b) (hres:res=.ok d b) (hok:ok d x H):RPost H0 p res ok (.ret x) H:=by
 subst hres;exact⟨s.k,x,rfl,hok,s.rd⟩
theorem DSt.rd1 {α β:Type}{res:Rs β}{r1:Rs α}{k:α→List UInt8→Rs β}{ok:β→AV→AH→Prop}{ok1:α→AV→AH→Prop}{g:FuncId}{ar:List AV}{K:AV→AH→Prop}(s:DSt H0 p L H b) (hres:res=r1.bind k) (hC:ACall P g ar H (RPost H p r1 ok1))
  (hK:∀d x r H',DSt H0 p L H' r→res=k d r→ok1 d x H'→K x H'):y_call P g ar H (yp (RPost H0 p res ok)) K:=by
 have hp:=s.p0
 have hn:=s.k.nx
 refine y_call_of hC (fun x H' h=>?_) (fun x H' h=>?_)
 ·obtain⟨k1,h⟩:=h
  cases r1 with
  | err e=>cases h.1
  | ok d r=>
   obtain⟨x',hx,h1,h2⟩:=h
   cases hx
   exact hK d _ r H' ⟨h2,s.k.trans k1,fun w hw=>by
    obtain⟨g1,g2,g3⟩:=s.l w hw
    exact⟨g1,Nat.lt_of_lt_of_le g2 k1.nx,by rw[k1.get _ g2 (by omega)];exact g3⟩,hp⟩ hres h1
 ·obtain⟨k1,h⟩:=h
  cases r1 with
  | ok d r=>obtain⟨_,h,_⟩:=h;cases h
  | err e=>
   refine⟨s.k.trans k1,?_⟩
   rw[hres];exact h
end
theorem bind_id {α:Type}(x:Rs α):x=x.bind fun y r=>.ok (id y) r:=by cases x<;>rfl
theorem dec_pair {a b:Ty}{β:Type}(f:(Ty.pair a b).D→β) (l:List UInt8):(((Ty.pair a b).dec l).bind fun y r=>.ok (f y) r)=(a.dec l).bind fun x r=>(b.dec r).bind fun y r'=>.ok (f (x,y)) r':=by
 show Rs.bind (Rs.bind (a.dec l) fun x r=>(b.dec r).bind fun y r'=>.ok (x,y) r') _=_
 cases a.dec l with
 | err e=>rfl
 | ok x r=>
  show Rs.bind (Rs.bind (b.dec r) fun y r'=>.ok (x,y) r') _=Rs.bind (b.dec r) _
  cases b.dec r<;>rfl
theorem dec_assoc {a b c:Ty}{β:Type}(f:(Ty.pair (.pair a b) c).D→β) (l:List UInt8):(((Ty.pair (.pair a b) c).dec l).bind fun y r=>.ok (f y) r)=((Ty.pair a (.pair b c)).dec l).bind fun y r=>.ok (f ((y.1,y.2.1),y.2.2)) r:=by
 show Rs.bind (Rs.bind (Rs.bind (a.dec l) fun x r=>(b.dec r).bind fun y r'=>.ok (x,y) r') fun x r=>(c.dec r).bind fun y r'=>.ok (x,y) r') _=Rs.bind (Rs.bind (a.dec l) fun x r=>Rs.bind (Rs.bind (b.dec r) fun x r=>(c.dec r).bind fun y r'=>.ok (x,y) r') fun y r'=>.ok (x,y) r') _
 cases a.dec l with
 | err e=>rfl
 | ok x r=>
  show Rs.bind (Rs.bind (Rs.bind (b.dec r) fun y r'=>.ok (x,y) r') _) _=Rs.bind (Rs.bind (Rs.bind (b.dec r) fun x r=>(c.dec r).bind fun y r'=>.ok (x,y) r') fun y r'=>.ok (x,y) r') _
  cases b.dec r with
  | err e=>rfl
  | ok y r1=>
   show Rs.bind (Rs.bind (c.dec r1) fun z r'=>.ok ((x,y),z) r') _=Rs.bind (Rs.bind (Rs.bind (c.dec r1) fun z r'=>.ok (y,z) r') fun y r'=>.ok (x,y) r') _
   cases c.dec r1<;>rfl
def READ (P:Program) (g:FuncId) (t:Ty):Prop:=∀{H:AH}{p:Nat}{b:List UInt8},Rd H p b→ACall P g [.ptr p 0] H (RPost H p (t.dec b) fun d x _=>RV t d x)
theorem READ.one {g:FuncId}{t:Ty}(h:READ P g t) (L:List (Nat × List AV)) (p:Nat):One P L p (.fn (.func g) [.ptr p 0] []) t:=fun _ _ hR _=>h hR
section
variable {H0 H:AH}{p:Nat}{L:List (Nat × List AV)}{l:List UInt8}
theorem DSt.step {a b:Ty}{β:Type}{res:Rs β}{f:(Ty.pair a b).D→β}{ok:β→AV→AH→Prop}{g:FuncId}{ar:List AV}{K:AV→AH→Prop}(s:DSt H0 p L H l) (hres:res=((Ty.pair a b).dec l).bind fun y r=>.ok (f y) r)
  (hC:ACall P g ar H (RPost H p (a.dec l) fun d x _=>RV a d x)) (hK:∀d c x r H',DSt H0 p L H' r→(res=(b.dec r).bind fun y r'=>.ok (f (d,y)) r')→x.cellsOf=some c→RX a d c→c.length=tsz a→K x H'):y_call P g ar H (yp (RPost H0 p res ok)) K:=by
 rw[dec_pair]at hres
 exact s.rd1 hres hC fun d x r H' s' h1 h2=>by
  obtain⟨c,h2,h3⟩:=h2
  exact hK d c x r H' s' h1 h2 h3 (RX_len _ _ _ h3)
theorem DSt.last {a:Ty}{β:Type}{res:Rs β}{f:a.D→β}{ok:β→AV→AH→Prop}{g:FuncId}{ar:List AV}{K:AV→AH→Prop}(s:DSt H0 p L H l) (hres:res=(a.dec l).bind fun y r=>.ok (f y) r)
  (hC:ACall P g ar H (RPost H p (a.dec l) fun d x _=>RV a d x)) (hK:∀d c x r H',DSt H0 p L H' r→res=.ok (f d) r→x.cellsOf=some c→RX a d c→c.length=tsz a→K x H'):y_call P g ar H (yp (RPost H0 p res ok)) K:=
 s.rd1 hres hC fun d x r H' s' h1 h2=>by
  obtain⟨c,h2,h3⟩:=h2
  exact hK d c x r H' s' h1 h2 h3 (RX_len _ _ _ h3)
end
theorem build1 {x:AV}{c z:List AV}{n:Nat}(hx:x.cellsOf=some c) (hc:c.length=n) (hz:n≤z.length):apure (.build z [(0,n,.cst x)]) emp=some (.agg (c++z.drop n)):=by
 simp[apure,afill,AOpd.ev,hx,hc,hz]
theorem build2 {x y:AV}{c c' z:List AV}(hx:x.cellsOf=some c) (hy:y.cellsOf=some c') (hc:c.length=1) (hc':c'.length=1) (hz:z.length=2):apure (.build z [(0,1,.cst x),(1,1,.cst y)]) emp=some (.agg (c++c')):=by
 match c,c',z,hc,hc',hz with
 | [u],[v],[z0,z1],_,_,_=>simp[apure,afill,AOpd.ev,hx,hy]
theorem RX1 {t:Ty}{l:(Ty.list t).D}{v:AV}(h:RX (.list t) l [v]):v.cellsOf=some [v]:=by
 obtain⟨v',cs,e,hf,_⟩:=h
 have:v=v':=by simpa using e
 subst this
 generalize (asL l).length=ln at hf
 cases hf<;>rfl
theorem RPost.list {t:Ty}{H:AH}{p:Nat}{b:List UInt8}{o:AOut}{H':AH}(h:RPost H p ((Ty.list t).dec b) (fun l v _=>RX (.list t) l [v]) o H'):RPost H p ((Ty.list t).dec b) (fun l v _=>RV (.list t) l v) o H':=
 h.mono fun d x _ hd=>⟨[x],RX1 hd,hd⟩
def pairG (P:Program) (z:List AV) (f1 f2:FuncId) (a1 a2:List AV) (h:AH) (Post:AOut→AH→Prop):Prop:=(
 y_ef (.alloc z) h fun v1 h1=>
 y_call P f1 a1 h1 (yp Post) fun v2 h2=>
 y_call P f2 a2 h2 (yp Post) fun v3 h3=>
 y_pu (.build z [(0,1,(.cst v2)),(1,1,(.cst v3))]) fun v4=>
 y_ef (.store 2 (.cst v1) (.cst v4)) h3 fun v5 h5=>
 y_rd (.load (some 2) (.cst v1)) h5 fun v6=>
 Post (.ret v6) h5)
theorem pairG_ok {a b:Ty}{z:List AV}{f1 f2:FuncId}{a1 a2:List AV}{H:AH}{p:Nat}{l:List UInt8}(hz:z.length=2) (ha:tsz a=1) (hb:tsz b=1) (hR:Rd H p l)
  (h1:∀H r,Rd H p r→ACall P f1 a1 H (RPost H p (a.dec r) fun d x _=>RV a d x)) (h2:∀H r,Rd H p r→ACall P f2 a2 H (RPost H p (b.dec r) fun d x _=>RV b d x)) :
  pairG P z f1 f2 a1 a2 H (RPost H p ((Ty.pair a b).dec l) fun d x _=>RV (.pair a b) d x):=by
 obtain⟨res,hres⟩:∃res,res=(Ty.pair a b).dec l:=⟨_,rfl⟩
 rw[←hres]
 rw[bind_id ((Ty.pair a b).dec l)]at hres
 unfold pairG
 refine(DSt.start hR).alloc fun q H1 s1 hn1=>?_
 refine s1.step hres (h1 _ _ s1.rd) fun d c x r H2 s2 hres2 hx hc hcl=>?_
 refine s2.last hres2 (h2 _ _ s2.rd) fun d' c' x' r' H3 s3 hres3 hx' hc' hcl'=>?_
 refine y_pu_of (build2 hx hx' (by omega) (by omega) hz) ?_
 refine s3.putA hn1 (by simp;omega) hz fun H4 s4=>?_
 refine s4.ldA (.head _) (by simp;omega) ?_
 exact s4.fin hres3 ⟨_,rfl,c,c',rfl,hc,hc'⟩
end Go.AL
namespace Go.Proofs.YtdandeekdbndgaaGreatDoor
open Go Go.AL Go.AL.Co
theorem r63:N63 Tryz.prog:=fun h=>R63 h
theorem D63:READ Tryz.prog 55 .int:=fun hR=>(R63 hR).mono fun _ _ h=>h.mono fun d x _ hd=>⟨[x],by subst hd;rfl,by subst hd;rfl⟩
theorem D104:READ Tryz.prog 119 .byte:=fun hR=>(R104 hR).mono fun _ _ h=>h.mono fun d x _ hd=>⟨[x],by subst hd;rfl,by subst hd;rfl⟩
theorem D109:READ Tryz.prog 124 .bool:=fun{H p b} hR=>by
 refine T109 ?_
 unfold G109
 obtain⟨res,hres⟩:∃res,res=Ty.bool.dec b:=⟨_,rfl⟩
 rw[←hres]
 refine(DSt.start hR).rd1 hres (R104 hR) fun d x r H' s' h1 h2=>?_
 subst h2
 have hb:=d.toNat_lt
 refine y_pu_of (v:=.bool (decide (1<d.toNat))) (by
  show some (AV.bool (decide ((d.toNat:Int)>1)))=_
  congr 2;simp only[decide_eq_decide];omega) (y_if0_of (fun h=>?_) (fun h=>?_))
 ·refine y_pu_of (v:=.agg [.int .i64 4]) (by rfl) ⟨s'.k,?_⟩
  rw[h1,if_pos (of_decide_eq_true h)]
  exact⟨rfl,r,s'.rd⟩
 ·rw[if_neg (of_decide_eq_false h)]at h1
  refine y_pu_of (v:=.bool (decide (d.toNat=1))) (by
   show some (AV.bool ((d.toNat:Int)==1))=_
   have:((d.toNat:Int)==(1:Int))=decide (d.toNat=1):=by
    by_cases h:d.toNat=1
    ·simp[h]
    ·have h':¬((d.toNat:Int)=1):=by omega
     simp only[h,decide_false,beq_eq_false_iff_ne,ne_eq];exact h'
   rw[this]) ?_
  exact s'.fin h1 ⟨_,rfl,rfl⟩
section
variable {H:AH}{p:Nat}{b:List UInt8}{L:List (Nat × List AV)}{fv:AV}
def GET (g:FuncId) (t:Ty):Prop:=∀{H:AH}{p:Nat}{b:List UInt8}{L:List (Nat × List AV)}{fv:AV},Rd H p b→(∀x∈L,x.1<H.next∧x.1≠p∧H.get x.1=some (.cells x.2))→One Tryz.prog L p fv t →
 ACall Tryz.prog g [.ptr p 0,fv] H (RPost H p ((Ty.list t).dec b) fun l v _=>RV (.list t) l v)
theorem get_of {g:FuncId}{t:Ty}{k bytes:Nat}{z:List AV}(hk:tsz t=k) (hz:z.length=k) (hby:bytes≤500) (hT:∀(H:AH) (p:Nat) (fv:AV) (Post:AOut→AH→Prop),getG Tryz.prog k bytes z (.ptr p 0) fv H Post→ACall Tryz.prog g [.ptr p 0,fv] H Post):GET g t:=fun{H p b L fv} hR hL hf=>by
 subst hk
 exact(get_ok hR (hT _ _ _ _ (getG_ok r63 hz hby hR hL hf))).mono fun _ _ h=>h.list
theorem get_ofX {g:FuncId}{t:Ty}{k bytes:Nat}{z:List AV}(hk:tsz t=k) (hz:z.length=k) (hby:bytes≤500) (hT:∀(H:AH) (p:Nat) (fv:AV) (Post:AOut→AH→Prop),getG Tryz.prog k bytes z (.ptr p 0) fv H Post→ACall Tryz.prog g [.ptr p 0,fv] H Post)
  {H:AH} {p:Nat} {b:List UInt8} {L:List (Nat × List AV)} {fv:AV} (hR:Rd H p b) (hL:∀x∈L,x.1<H.next∧x.1≠p∧H.get x.1=some (.cells x.2)) (hf:One Tryz.prog L p fv t) :
  ACall Tryz.prog g [.ptr p 0,fv] H (RPost H p ((Ty.list t).dec b) fun l v _=>RX (.list t) l [v]):=by
 subst hk
 exact get_ok hR (hT _ _ _ _ (getG_ok r63 hz hby hR hL hf))
theorem E117:GET 132 .int:=get_of (k:=1) (bytes:=8) (z:=[(I 0)]) rfl rfl (by omega) fun _ _ _ _ h=>T117 h
theorem E166:GET 185 tItem:=get_of (k:=2) (bytes:=16) (z:=[(I 0),(N .u8 0)]) rfl rfl (by omega) fun _ _ _ _ h=>T166 h
theorem E168:GET 187 tPiece:=get_of (k:=2) (bytes:=2) (z:=[(.bool false),(N .u8 0)]) rfl rfl (by omega) fun _ _ _ _ h=>T168 h
theorem E108:GET 123 .bool:=get_of (k:=1) (bytes:=1) (z:=[(.bool false)]) rfl rfl (by omega) fun _ _ _ _ h=>T108 h
theorem E116:GET 131 .byte:=get_of (k:=1) (bytes:=1) (z:=[(N .u8 0)]) rfl rfl (by omega) fun _ _ _ _ h=>T116 h
theorem E66:GET 58 tInts:=get_of (k:=1) (bytes:=24) (z:=[.nils]) rfl rfl (by omega) fun _ _ _ _ h=>T66 h
theorem E114:GET 129 tBytes:=get_of (k:=1) (bytes:=24) (z:=[.nils]) rfl rfl (by omega) fun _ _ _ _ h=>T114 h
theorem E112:GET 127 tMove:=get_of (k:=2) (bytes:=32) (z:=[(I 0),.nils]) rfl rfl (by omega) fun _ _ _ _ h=>T112 h
theorem E110:GET 125 (.list tMove):=get_of (k:=1) (bytes:=24) (z:=[.nils]) rfl rfl (by omega) fun _ _ _ _ h=>T110 h
theorem E106:GET 121 tClass:=get_of (k:=4) (bytes:=32) (z:=(rpl 4 (N .u64 0) [])) rfl rfl (by omega) fun _ _ _ _ h=>T106 h
theorem E67:GET 59 tStep:=get_of (k:=8) (bytes:=80) (z:=((I 0)::(.nils::(rpl 6 (I 0) [])))) rfl rfl (by omega) fun _ _ _ _ h=>T67 h
theorem E69:GET 61 tEqn:=get_of (k:=2) (bytes:=48) (z:=[.nils,.nils]) rfl rfl (by omega) fun _ _ _ _ h=>T69 h
theorem E28X {H:AH}{p:Nat}{b:List UInt8}{L:List (Nat × List AV)}{fv:AV}(hR:Rd H p b) (hL:∀x∈L,x.1<H.next∧x.1≠p∧H.get x.1=some (.cells x.2)) (hf:One Tryz.prog L p fv tNode) :
  ACall Tryz.prog 20 [.ptr p 0,fv] H (RPost H p ((Ty.list tNode).dec b) fun l v _=>RX (.list tNode) l [v]):=get_ofX (t:=tNode) (k:=27) (bytes:=440) (z:=(rpl 5 (I 0) (rpl 6 .nils ((I 0)::(rpl 4 .nils (rpl 4 (I 0) ((.bool false)::((I 0)::((.bool false)::(rpl 4 .nils [])))))))))) rfl rfl (by omega) (fun _ _ _ _ h=>T28 h) hR hL hf
end
end Go.Proofs.YtdandeekdbndgaaGreatDoor
namespace Go.Proofs.YtdandeekdbndgaaGreatDoor
open Go Go.AL Go.AL.Co
theorem D167:READ Tryz.prog 186 tItem:=fun{H p b} hR=>T167 (pairG_ok (a:=.int) (b:=.byte) rfl rfl rfl hR (fun _ _ h=>D63 h) (fun _ _ h=>D104 h))
theorem D169:READ Tryz.prog 188 tPiece:=fun{H p b} hR=>T169 (pairG_ok (a:=.bool) (b:=.byte) rfl rfl rfl hR (fun _ _ h=>D109 h) (fun _ _ h=>D104 h))
theorem D105:READ Tryz.prog 120 tItems:=fun{H p b} hR=>by
 refine T105 ?_
 unfold G105
 refine y_call_of (E166 (L:=[]) hR (by simp) (D167.one _ _)) (fun v H' h=>h) (fun v H' h=>h)
theorem D65:READ Tryz.prog 57 tInts:=fun{H p b} hR=>by
 refine T65 ?_
 unfold G65
 refine y_call_of (E117 (L:=[]) hR (by simp) (D63.one _ _)) (fun v H' h=>h) (fun v H' h=>h)
theorem D70:READ Tryz.prog 62 tEqn:=fun{H p b} hR=>T70 (pairG_ok (a:=tItems) (b:=tItems) rfl rfl rfl hR (fun _ _ h=>D105 h) (fun _ _ h=>D105 h))
theorem D113:READ Tryz.prog 128 tMove:=fun{H p b} hR=>T113 (pairG_ok (a:=.int) (b:=.list tPiece) rfl rfl rfl hR (fun _ _ h=>D63 h) (fun _ _ h=>E168 (L:=[]) h (by simp) (D169.one _ _)))
theorem D111 {L:List (Nat × List AV)}{p q:Nat}(hq:(q,[AV.ptr p 0])∈L):One Tryz.prog L p (.fn (.func 126) [] [.ptr q 0]) (.list tMove):=fun H b hR hL=>by
 obtain⟨_,_,h3⟩:=hL _ hq
 have hld:aread (.load none (.cst (.ptr q 0))) emp H=some (.ptr p 0):=by simp[aread,aload,AOpd.ev,AH.cells?,h3,apart]
 show ACall Tryz.prog 126 _ _ _
 refine T111 ?_
 unfold G111
 refine y_rd_of hld (y_rd_of hld (y_call_of (E112 (L:=[]) hR (by simp) (D113.one _ _)) (fun v H' h=>h) (fun v H' h=>h)))
theorem D115 {L:List (Nat × List AV)}{p q:Nat}(hq:(q,[AV.ptr p 0])∈L):One Tryz.prog L p (.fn (.func 130) [] [.ptr q 0]) tBytes:=fun H b hR hL=>by
 obtain⟨_,_,h3⟩:=hL _ hq
 have hld:aread (.load none (.cst (.ptr q 0))) emp H=some (.ptr p 0):=by simp[aread,aload,AOpd.ev,AH.cells?,h3,apart]
 show ACall Tryz.prog 130 _ _ _
 refine T115 ?_
 unfold G115
 refine y_rd_of hld (y_rd_of hld (y_call_of (E116 (L:=[]) hR (by simp) (D104.one _ _)) (fun v H' h=>h) (fun v H' h=>h)))
end Go.Proofs.YtdandeekdbndgaaGreatDoor
namespace Go.AL
open Co
variable {P:Program}
theorem DSt.done {H0 H:AH}{p q o:Nat}{L:List (Nat × List AV)}{b:List UInt8}{pre z:List AV}(s:DSt H0 p ((q,pre++z.drop o)::L) H b) (hz:z.length≤o):DSt H0 p ((q,pre)::L) H b:=by
 rw[List.drop_of_length_le hz,List.append_nil]at s;exact s
theorem DSt.out {H0 H:AH}{p q q1 n:Nat}{b:List UInt8}{c z:List AV}{K:AV→AH→Prop}(s:DSt H0 p [(q,c),(q1,z)] H b) (hne:q1≠q) (hc:c.length=n) (hz:z.length=n) (hK:∀H',DSt H0 p [(q1,c),(q,c)] H' b→K (.agg c) H') :
  y_rd (.load (some n) (.cst (.ptr q 0))) H fun v27=>y_ef (.store n (.cst (.ptr q1 0)) (.cst v27)) H fun _ h28=>y_rd (.load (some n) (.cst (.ptr q1 0))) h28 fun v29=>K v29 h28:=by
 refine s.ldA (.head _) hc ?_
 refine s.swap.putA (fun x hx=>?_) hc hz fun H' s'=>?_
 ·cases hx with
  | head=>exact fun h=>hne h.symm
  | tail _ hx=>cases hx
 ·exact s'.ldA (.head _) hc (hK _ s')
end Go.AL
namespace Go.Proofs.YtdandeekdbndgaaGreatDoor
open Go Go.AL Go.AL.Co
set_option maxHeartbeats 1000000 in
theorem D68:READ Tryz.prog 60 tStep:=fun{H p b} hR=>by
 obtain⟨res,hres⟩:∃res,res=tStep.dec b:=⟨_,rfl⟩
 rw[←hres]
 rw[bind_id (tStep.dec b)]at hres
 refine T68 ?_
 unfold G68
 generalize hz:(I 0::.nils::rpl 6 (I 0) [])=z
 have hzl:z.length=8:=by rw[←hz];rfl
 refine(DSt.start hR).alloc fun q1 H1 s1 hn1=>?_
 refine s1.step (a:=.int) (b:=.pair tInts (.pair .int (.pair .int (.pair .int (.pair .int (.pair .int .int)))))) hres (D63 s1.rd) fun d0 c0 x r H2 s2 hres hx hc0 l0=>?_
 refine y_pu_of (build1 hx (n:=1) l0 (by omega)) ?_
 refine s2.alloc fun q H3 s3 hn=>?_
 have hne:q1≠q:=hn _ (.head _)
 refine s3.putA hn (by rw[List.length_append,List.length_drop,l0,hzl];rfl) hzl fun H4 s4=>?_
 refine s4.step (a:=tInts) (b:=.pair .int (.pair .int (.pair .int (.pair .int (.pair .int .int))))) hres (D65 s4.rd) fun d1 c1 x r H5 s5 hres hx hc1 l1=>?_
 refine y_pu_of (v:=.ptr q 1) rfl (s5.put hn l0 hx l1 (by rw[hzl];decide) fun H6 s6 p6=>?_)
 refine s6.step (a:=.int) (b:=.pair .int (.pair .int (.pair .int (.pair .int .int)))) hres (D63 s6.rd) fun d2 c2 x r H7 s7 hres hx hc2 l2=>?_
 refine y_pu_of (v:=.ptr q 2) rfl (s7.put hn p6 hx l2 (by rw[hzl];decide) fun H8 s8 p8=>?_)
 refine s8.step (a:=.int) (b:=.pair .int (.pair .int (.pair .int .int))) hres (D63 s8.rd) fun d3 c3 x r H9 s9 hres hx hc3 l3=>?_
 refine y_pu_of (v:=.ptr q 3) rfl (s9.put hn p8 hx l3 (by rw[hzl];decide) fun H10 s10 p10=>?_)
 refine s10.step (a:=.int) (b:=.pair .int (.pair .int .int)) hres (D63 s10.rd) fun d4 c4 x r H11 s11 hres hx hc4 l4=>?_
 refine y_pu_of (v:=.ptr q 4) rfl (s11.put hn p10 hx l4 (by rw[hzl];decide) fun H12 s12 p12=>?_)
 refine s12.step (a:=.int) (b:=.pair .int .int) hres (D63 s12.rd) fun d5 c5 x r H13 s13 hres hx hc5 l5=>?_
 refine y_pu_of (v:=.ptr q 5) rfl (s13.put hn p12 hx l5 (by rw[hzl];decide) fun H14 s14 p14=>?_)
 refine s14.step (a:=.int) (b:=.int) hres (D63 s14.rd) fun d6 c6 x r H15 s15 hres hx hc6 l6=>?_
 refine y_pu_of (v:=.ptr q 6) rfl (s15.put hn p14 hx l6 (by rw[hzl];decide) fun H16 s16 p16=>?_)
 refine s16.last (a:=.int) hres (D63 s16.rd) fun d7 c7 x r H17 s17 hres hx hc7 l7=>?_
 refine y_pu_of (v:=.ptr q 7) rfl (s17.put hn p16 hx l7 (by rw[hzl];decide) fun H18 s18 p18=>?_)
 refine(s18.done (by rw[hzl];decide)).out hne p18 hzl fun H19 s19=>s19.fin hres ⟨_,rfl,?_⟩
 simp only[List.append_assoc]
 exact⟨_,_,rfl,hc0,_,_,rfl,hc1,_,_,rfl,hc2,_,_,rfl,hc3,_,_,rfl,hc4,_,_,rfl,hc5,_,_,rfl,hc6,hc7⟩
end Go.Proofs.YtdandeekdbndgaaGreatDoor
namespace Go.AL
open Co
variable {P:Program}
theorem w8_app:∀(l:List UInt8) (x:UInt8),w8 (l++[x])=w8 l+x.toNat*2 ^ (8*l.length)
 | [],x=>by simp[w8]
 | y::l,x=>by
  show y.toNat+256*w8 (l++[x])=y.toNat+256*w8 l+x.toNat*2 ^ (8*(l.length+1))
  rw[w8_app l x,Nat.mul_add,Nat.mul_add 8,Nat.pow_add]
  have:256*(x.toNat*2 ^ (8*l.length))=x.toNat*(2 ^ (8*l.length)*2 ^ (8*1)):=by
   rw[Nat.mul_comm 256,Nat.mul_assoc]
  omega
theorem w8_lt:∀(l:List UInt8),w8 l<2 ^ (8*l.length)
 | []=>by simp[w8]
 | y::l=>by
  have h:=w8_lt l
  have hy:=y.toNat_lt
  show y.toNat+256*w8 l<2 ^ (8*(l.length+1))
  rw[Nat.mul_add 8,Nat.pow_add]
  have:(2:Nat) ^ (8*1)=256:=by decide
  rw[this]
  omega
def wd (bs:List UInt8) (j:Nat):AV:=.int .u64 ((w8 ((bs.drop (8*j)).take 8):Nat):Int)
def cw (bs:List UInt8):List AV:=[wd bs 0,wd bs 1,wd bs 2,wd bs 3]
theorem wd_same {bs:List UInt8}{x:UInt8}{j:Nat}(h:j≠bs.length / 8):wd (bs++[x]) j=wd bs j:=by
 unfold wd
 rcases Nat.lt_or_ge bs.length (8*j)with h1 | h1
 ·rw[List.drop_of_length_le (by simp;omega),List.drop_of_length_le (by omega)]
 ·have h2:8*j+8≤bs.length:=by omega
  rw[List.drop_append_of_le_length (by omega),List.take_append_of_le_length (by simp;omega)]
theorem wd_at {bs:List UInt8}{x:UInt8}{j:Nat}(h:j=bs.length / 8):(bs.drop (8*j)).length=bs.length % 8∧wd (bs++[x]) j=.int .u64 ((w8 ((bs.drop (8*j)).take 8)+x.toNat*2 ^ (8*(bs.length % 8)):Nat):Int):=by
 have h1:(bs.drop (8*j)).length=bs.length % 8:=by simp;omega
 refine⟨h1,?_⟩
 unfold wd
 have h2:((bs++[x]).drop (8*j)).take 8=(bs.drop (8*j)).take 8++[x]:=by
  rw[List.drop_append_of_le_length (by omega),List.take_of_length_le (by rw[List.length_append,h1];simp;omega),List.take_of_length_le (by omega)]
 have h3:((bs.drop (8*j)).take 8).length=bs.length % 8:=by rw[List.length_take];omega
 rw[h2,w8_app,h3]
theorem cw_step {bs:List UInt8}{x:UInt8}(hl:bs.length<32):splice (cw bs) (bs.length / 8) [wd (bs++[x]) (bs.length / 8)]=cw (bs++[x]):=by
 rw[splice_eq (by simp[cw];omega)]
 have hj:bs.length / 8=0∨bs.length / 8=1∨bs.length / 8=2∨bs.length / 8=3:=by omega
 have e:∀j,j≠bs.length / 8→wd (bs++[x]) j=wd bs j:=fun j h=>wd_same h
 rcases hj with h | h | h | h<;>rw[h]at e ⊢<;>unfold cw
 ·rw[e 1 (by omega),e 2 (by omega),e 3 (by omega)];rfl
 ·rw[e 0 (by omega),e 2 (by omega),e 3 (by omega)];rfl
 ·rw[e 0 (by omega),e 1 (by omega),e 3 (by omega)];rfl
 ·rw[e 0 (by omega),e 1 (by omega),e 2 (by omega)];rfl
theorem cw_get {bs:List UInt8}{j:Nat}(hj:j<4):(cw bs)[j]?=some (wd bs j):=by
 have:j=0∨j=1∨j=2∨j=3:=by omega
 rcases this with rfl | rfl | rfl | rfl<;>rfl
theorem DSt.put1 {H0 H:AH}{p q o:Nat}{L:List (Nat × List AV)}{b:List UInt8}{c:List AV}{x:AV}{K:AV→AH→Prop}(s:DSt H0 p ((q,c)::L) H b) (hne:∀x∈L,x.1≠q) (hx:x.cellsOf=some [x]) (ho:o<c.length)
  (hK:∀H',DSt H0 p ((q,splice c o [x])::L) H' b→K .unk H'):y_ef (.store 1 (.cst (.ptr q o)) (.cst x)) H K:=by
 have hs:splice c o [x]=(c.take o++[x])++c.drop (o+1):=by rw[splice_eq (by simp;omega)];simp
 refine DSt.put (pre:=c.take o) (z:=c) (o:=o) (vs:=[x]) (n:=1) ?_ hne (by simp;omega) hx rfl (by omega) fun H' s' _=>hK H' (by rw[hs];exact s')
 rw[List.take_append_drop];exact s
end Go.AL
namespace Go.Proofs.YtdandeekdbndgaaGreatDoor
open Go Go.AL Go.AL.Co
set_option maxHeartbeats 1000000 in
theorem D107:READ Tryz.prog 122 tClass:=fun{H p b} hR=>by
 obtain⟨res,hres⟩:∃res,res=tClass.dec b:=⟨_,rfl⟩
 rw[←hres]
 have hres:res=many decByte 32 b:=hres
 refine T107 ?_
 unfold G107
 refine(DSt.start hR).alloc fun q1 H1 s1 _=>s1.alloc fun q H2 s2 hn=>?_
 have hne:q1≠q:=hn _ (.head _)
 let Iv:AV→AV→AV→AV→AH→Prop:=fun a b' c d H'=>a=.ptr p 0∧b'=.ptr q1 0∧c=.ptr q 0∧∃(i:Nat) (bs:List UInt8) (r:List UInt8),d=.int .i64 (i:Int)∧i≤32∧bs.length=i ∧
  DSt H p [(q,cw bs),(q1,rpl 4 (N .u64 0) [])] H' r∧res=(many decByte (32-i) r).bind fun l2 r'=>.ok (bs++l2) r'
 let μ:AV→AV→AV→AV→AH→Nat:=fun _ _ _ d _=>match d with
  | .int _ j=>(32-j).toNat
  | _=>0
 refine⟨Iv,μ,⟨rfl,rfl,rfl,0,[],b,rfl,by omega,rfl,s2,?_⟩,?_⟩
 ·rw[hres]
  show many decByte 32 b=Rs.bind (many decByte 32 b) _
  cases many decByte 32 b<;>rfl
 intro e H3 hI
 obtain⟨e1,e2,e3,i,bs,r,e4,hi,hbs,s3,hres3⟩:=(hI:Iv (e 0) (e 2) (e 3) (e 5) H3)
 show y_pu (.bin .lss (.cst (e 5)) (.cst (I 32))) _
 rw[e4,e3,e2,e1]
 refine y_pu_of (v:=.bool (decide ((i:Int)<32))) rfl (y_if0_of (fun ht=>?_) (fun ht=>?_))
 ·have hlt:i<32:=by have:=of_decide_eq_true ht;omega
  have hj:i / 8<4:=by omega
  refine y_pu_of (v:=.int .i64 ((i / 8:Nat):Int)) (by
   show some (AV.int .i64 (IntKind.i64.wrap ((i:Int).tdiv 8)))=_
   rw[Int.tdiv_eq_ediv_of_nonneg (by omega),wrap_lt (by omega)];rfl) ?_
  have hja:(0:Int)≤((i / 8:Nat):Int)∧((i / 8:Nat):Int)<((4:Nat):Int):=by omega
  have hix:apure (.indexAddrA 4 1 (.cst (.ptr q 0)) (.cst (.int .i64 ((i / 8:Nat):Int)))) emp=some (.ptr q (i / 8)):=by
   show(if (0:Int)≤((i / 8:Nat):Int)∧((i / 8:Nat):Int)<((4:Nat):Int)then some (AV.ptr q (0+(((i / 8:Nat):Int)).toNat*1))else none)=_
   rw[if_pos hja,Int.toNat_natCast,Nat.mul_one,Nat.zero_add]
  refine y_pu_of hix (s3.ld (.head _) (cw_get hj) ?_)
  refine y_pu_of (v:=.int .i64 ((i % 8:Nat):Int)) (by
   show some (AV.int .i64 ((i:Int).tmod 8))=_
   rw[Int.tmod_eq_emod_of_nonneg (by omega)];rfl) ?_
  refine y_pu_of (v:=.int .i64 ((8*(i % 8):Nat):Int)) (by
   show some (AV.int .i64 (IntKind.i64.wrap (8*((i % 8:Nat):Int))))=_
   rw[wrap_lt (by omega)];rfl) ?_
  have hni:32-i=(32-(i+1))+1:=by omega
  rw[hni]at hres3
  have hres3:res=((decByte r).bind fun x r=>(many decByte (32-(i+1)) r).bind fun l r'=>.ok (x::l) r').bind fun l2 r'=>.ok (bs++l2) r':=hres3
  have hres3:res=(decByte r).bind fun x r=>(many decByte (32-(i+1)) r).bind fun l r'=>.ok (bs++x::l) r':=by
   rw[hres3]
   cases decByte r with
   | err e=>rfl
   | ok x r1=>
    show Rs.bind (Rs.bind (many decByte (32-(i+1)) r1) _) _=Rs.bind (many decByte (32-(i+1)) r1) _
    cases many decByte (32-(i+1)) r1<;>rfl
  refine s3.rd1 hres3 (R104 s3.rd) fun x v r1 H4 s4 hres4 hv=>?_
  subst hv
  refine⟨⟨?_,trivial⟩,?_⟩
  ·obtain⟨_,_,h3⟩:=s4.l _ (.head _)
   show aread (.load none (.cst (.ptr q (i / 8)))) emp H4=some (wd bs (i / 8))
   have h3:H4.get q=some (.cells (cw bs)):=h3
   have:=cw_get (bs:=bs) hj
   simp only[aread,aload,AOpd.ev,AH.cells?,h3,apart,this]
  have hx:=x.toNat_lt
  obtain⟨w1,w2⟩:=wd_at (bs:=bs) (x:=x) (j:=i / 8) (by rw[hbs])
  rw[hbs]at w1 w2
  have w3:((bs.drop (8*(i / 8))).take 8).length=i % 8:=by rw[List.length_take];omega
  have w4:=w8_lt ((bs.drop (8*(i / 8))).take 8)
  rw[w3]at w4
  generalize hW:w8 ((bs.drop (8*(i / 8))).take 8)=W at w2 w4
  have w5:x.toNat*2 ^ (8*(i % 8))≤255*2 ^ (8*(i % 8)):=Nat.mul_le_mul_right _ (by omega)
  have w6:(2:Nat) ^ (8*(i % 8))≤2 ^ 56:=Nat.pow_le_pow_right (by omega) (by omega)
  have w7:(2:Nat) ^ 56=72057594037927936:=by decide
  have hwd:wd bs (i / 8)=.int .u64 (.ofNat W):=by unfold wd;rw[hW];rfl
  rw[hwd]
  refine y_pu_of (v:=.int .u64 (.ofNat x.toNat)) (by
   show some (AV.int .u64 (IntKind.u64.wrap (x.toNat:Int)))=_
   rw[wrap_u64n (by omega)];rfl) ?_
  refine y_pu_of (v:=.int .u64 (.ofNat (x.toNat*2 ^ (8*(i % 8))))) (by
   have h1:(0:Int)≤((8*(i % 8):Nat):Int):=Int.natCast_nonneg _
   show(if (0:Int)≤((8*(i % 8):Nat):Int)then some (AV.int .u64 (IntKind.u64.wrap (Int.ofNat x.toNat*2 ^ (min ((8*(i % 8):Nat):Int).toNat IntKind.u64.bits))))else none)=_
   rw[if_pos h1]
   have h2:min ((8*(i % 8):Nat):Int).toNat IntKind.u64.bits=8*(i % 8):=by
    show min (8*(i % 8)) 64=8*(i % 8);omega
   have h3:Int.ofNat x.toNat*2 ^ (8*(i % 8))=((x.toNat*2 ^ (8*(i % 8)):Nat):Int):=by simp
   rw[h2,h3,wrap_u64n (by omega)];rfl) ?_
  refine y_pu_of (v:=wd (bs++[x]) (i / 8)) (by
   show abin .or (.int .u64 (.ofNat W)) (.int .u64 (.ofNat (x.toNat*2 ^ (8*(i % 8)))))=_
   rw[ab_or,or_add w4,w2]
   show some (AV.int .u64 (IntKind.u64.wrap (((W+x.toNat*2 ^ (8*(i % 8))) % 18446744073709551616:Nat):Int)))=_
   rw[Nat.mod_eq_of_lt (by omega),wrap_u64n (by omega)]) ?_
  refine y_pu_of hix (s4.put1 (fun y hy=>?_) rfl (by simp[cw];omega) fun H5 s5=>⟨trivial,?_⟩)
  ·cases hy with
   | head=>exact hne
   | tail _ hy=>cases hy
  have hcs:=cw_step (bs:=bs) (x:=x) (by omega)
  rw[hbs]at hcs
  rw[hcs]at s5
  refine y_pu_of (v:=.int .i64 ((i+1:Nat):Int)) (by
   show some (AV.int .i64 (IntKind.i64.wrap ((i:Int)+1)))=_
   rw[wrap_lt (by omega)];rfl) ?_
  refine⟨⟨rfl,rfl,rfl,i+1,bs++[x],r1,rfl,hlt,by simp[hbs],s5,?_⟩,?_⟩
  ·rw[hres4]
   cases many decByte (32-(i+1)) r1 with
   | err er=>rfl
   | ok l2 r3=>
    show Rs.ok (bs++x::l2) r3=Rs.ok ((bs++[x])++l2) r3
    rw[List.append_assoc];rfl
  ·show((32:Int)-((i+1:Nat):Int)).toNat<μ (e 0) (e 2) (e 3) (e 5) H3
   rw[e4]
   show((32:Int)-((i+1:Nat):Int)).toNat<((32:Int)-(i:Int)).toNat
   omega
 ·have hge:i=32:=by have:=of_decide_eq_false ht;omega
  subst hge
  have hres4:res=.ok bs r:=by rw[hres3];show Rs.ok (bs++[]) r=_;rw[List.append_nil];rfl
  refine s3.out hne rfl rfl fun H4 s4=>s4.fin hres4 ⟨_,rfl,hbs,rfl,fun j hj=>cw_get hj⟩
end Go.Proofs.YtdandeekdbndgaaGreatDoor
namespace Go.AL
open Co
variable {P:Program}
section
variable {H0 H:AH}{p:Nat}{L:List (Nat × List AV)}{l:List UInt8}
theorem DSt.stepQ {a b c:Ty}{β:Type}{res:Rs β}{f:(Ty.pair (.pair a b) c).D→β}{ok:β→AV→AH→Prop}{g:FuncId}{ar:List AV}{K:AV→AH→Prop}(s:DSt H0 p L H l) (hres:res=((Ty.pair (.pair a b) c).dec l).bind fun y r=>.ok (f y) r)
  (hC:ACall P g ar H (RPost H p (a.dec l) fun d x _=>RV a d x)) (hK:∀d cl x r H',DSt H0 p L H' r→(res=((Ty.pair b c).dec r).bind fun y r'=>.ok (f ((d,y.1),y.2)) r')→x.cellsOf=some cl→RX a d cl→cl.length=tsz a→K x H'):y_call P g ar H (yp (RPost H0 p res ok)) K:=by
 rw[dec_assoc]at hres
 exact s.step (a:=a) (b:=.pair b c) hres hC hK
theorem DSt.own (s:DSt H0 p L H l):∀x∈L,x.1<H.next∧x.1≠p∧H.get x.1=some (.cells x.2):=fun x hx=>by
 obtain⟨h1,h2,h3⟩:=s.l x hx
 have hp:=s.p0
 exact⟨h2,by omega,h3⟩
theorem DSt.out3 {q q1 n:Nat}{c z:List AV}{K:AV→AH→Prop}(s:DSt H0 p ((q,c)::(q1,z)::L) H l) (hne:∀x∈(q,c)::L,x.1≠q1) (hc:c.length=n) (hz:z.length=n) (hK:∀H',DSt H0 p ((q1,c)::(q,c)::L) H' l→K (.agg c) H') :
  y_rd (.load (some n) (.cst (.ptr q 0))) H fun v27=>y_ef (.store n (.cst (.ptr q1 0)) (.cst v27)) H fun _ h28=>y_rd (.load (some n) (.cst (.ptr q1 0))) h28 fun v29=>K v29 h28:=by
 refine s.ldA (.head _) hc ?_
 refine s.swap.putA hne hc hz fun H' s'=>?_
 exact s'.ldA (.head _) hc (hK _ s')
end
end Go.AL
namespace Go.Proofs.YtdandeekdbndgaaGreatDoor
open Go Go.AL Go.AL.Co
set_option maxHeartbeats 4000000 in
theorem D64:READ Tryz.prog 56 tLit:=fun{H p b} hR=>by
 obtain⟨res,hres⟩:∃res,res=tLit.dec b:=⟨_,rfl⟩
 rw[←hres]
 rw[bind_id (tLit.dec b)]at hres
 refine T64 ?_
 unfold G64
 generalize hz:((I 0)::(rpl 6 .nils ((I 0)::(rpl 4 .nils (rpl 4 (I 0) ((.bool false)::((I 0)::((.bool false)::[]))))))))=z
 have hzl:z.length=19:=by rw[←hz];rfl
 refine(DSt.start hR).box rfl fun q0 H1 s1 _=>s1.alloc fun q2 H2 s2 hn2=>s2.alloc fun q H4 s4 hn=>?_
 have hne2:q0≠q2:=hn2 _ (.head _)
 have hneq:q2≠q:=hn _ (.head _)
 have hne:∀(c:List AV),∀x∈[(q,c),(q0,[AV.ptr p 0])],x.1≠q2:=fun c x hx=>by
  simp only[List.mem_cons,List.not_mem_nil,or_false]at hx
  rcases hx with rfl | rfl
  ·exact fun h=>hneq h.symm
  ·exact hne2
 refine y_pu_of (v:=.ptr q 0) rfl ?_
 refine s4.ld (.tail _ (.tail _ (.head _))) rfl ?_
 refine s4.step (a:=.int) (b:=(.pair tItems (.pair tItems (.pair (.list tClass) (.pair (.list tInts) (.pair (.list .bool) (.pair tInts (.pair .int (.pair (.list tClass) (.pair (.list (.list tMove)) (.pair (.list .bool) (.pair (.list tBytes) (.pair tQ (.pair .int .bool)))))))))))))) hres (D63 s4.rd) fun d0 c0 x r H5 s5 hres hx hc0 l0=>?_
 refine y_pu_of (v:=.ptr q 0) rfl ?_
 refine y_pu_of (v:=.ptr q 0) rfl ?_
 refine s5.put (pre:=[]) (z:=z) (o:=0) hn rfl hx l0 (by rw[hzl];decide) fun H6 s6 p6=>?_
 refine s6.ld (.tail _ (.tail _ (.head _))) rfl ?_
 refine s6.step (a:=tItems) (b:=(.pair tItems (.pair (.list tClass) (.pair (.list tInts) (.pair (.list .bool) (.pair tInts (.pair .int (.pair (.list tClass) (.pair (.list (.list tMove)) (.pair (.list .bool) (.pair (.list tBytes) (.pair tQ (.pair .int .bool))))))))))))) hres (D105 s6.rd) fun d1 c1 x r H7 s7 hres hx hc1 l1=>?_
 refine y_pu_of (v:=.ptr q 0) rfl ?_
 refine y_pu_of (v:=.ptr q 1) rfl ?_
 refine s7.put hn p6 hx l1 (by rw[hzl];decide) fun H8 s8 p8=>?_
 refine s8.ld (.tail _ (.tail _ (.head _))) rfl ?_
 refine s8.step (a:=tItems) (b:=(.pair (.list tClass) (.pair (.list tInts) (.pair (.list .bool) (.pair tInts (.pair .int (.pair (.list tClass) (.pair (.list (.list tMove)) (.pair (.list .bool) (.pair (.list tBytes) (.pair tQ (.pair .int .bool)))))))))))) hres (D105 s8.rd) fun d2 c2 x r H9 s9 hres hx hc2 l2=>?_
 refine y_pu_of (v:=.ptr q 0) rfl ?_
 refine y_pu_of (v:=.ptr q 2) rfl ?_
 refine s9.put hn p8 hx l2 (by rw[hzl];decide) fun H10 s10 p10=>?_
 refine s10.ld (.tail _ (.tail _ (.head _))) rfl ?_
 refine s10.ld (.tail _ (.tail _ (.head _))) rfl ?_
 refine s10.step (a:=(.list tClass)) (b:=(.pair (.list tInts) (.pair (.list .bool) (.pair tInts (.pair .int (.pair (.list tClass) (.pair (.list (.list tMove)) (.pair (.list .bool) (.pair (.list tBytes) (.pair tQ (.pair .int .bool))))))))))) hres (E106 (L:=[]) s10.rd (by simp) (D107.one _ _)) fun d3 c3 x r H11 s11 hres hx hc3 l3=>?_
 refine y_pu_of (v:=.ptr q 0) rfl ?_
 refine y_pu_of (v:=.ptr q 3) rfl ?_
 refine y_pu_of (v:=.ptr q 3) rfl ?_
 refine s11.put hn p10 hx l3 (by rw[hzl];decide) fun H12 s12 p12=>?_
 refine s12.ld (.tail _ (.tail _ (.head _))) rfl ?_
 refine s12.ld (.tail _ (.tail _ (.head _))) rfl ?_
 refine s12.step (a:=(.list tInts)) (b:=(.pair (.list .bool) (.pair tInts (.pair .int (.pair (.list tClass) (.pair (.list (.list tMove)) (.pair (.list .bool) (.pair (.list tBytes) (.pair tQ (.pair .int .bool)))))))))) hres (E66 (L:=[]) s12.rd (by simp) (D65.one _ _)) fun d4 c4 x r H13 s13 hres hx hc4 l4=>?_
 refine y_pu_of (v:=.ptr q 0) rfl ?_
 refine y_pu_of (v:=.ptr q 3) rfl ?_
 refine y_pu_of (v:=.ptr q 4) rfl ?_
 refine s13.put hn p12 hx l4 (by rw[hzl];decide) fun H14 s14 p14=>?_
 refine s14.ld (.tail _ (.tail _ (.head _))) rfl ?_
 refine s14.ld (.tail _ (.tail _ (.head _))) rfl ?_
 refine s14.step (a:=(.list .bool)) (b:=(.pair tInts (.pair .int (.pair (.list tClass) (.pair (.list (.list tMove)) (.pair (.list .bool) (.pair (.list tBytes) (.pair tQ (.pair .int .bool))))))))) hres (E108 (L:=[]) s14.rd (by simp) (D109.one _ _)) fun d5 c5 x r H15 s15 hres hx hc5 l5=>?_
 refine y_pu_of (v:=.ptr q 0) rfl ?_
 refine y_pu_of (v:=.ptr q 3) rfl ?_
 refine y_pu_of (v:=.ptr q 5) rfl ?_
 refine s15.put hn p14 hx l5 (by rw[hzl];decide) fun H16 s16 p16=>?_
 refine s16.ld (.tail _ (.tail _ (.head _))) rfl ?_
 refine s16.step (a:=tInts) (b:=(.pair .int (.pair (.list tClass) (.pair (.list (.list tMove)) (.pair (.list .bool) (.pair (.list tBytes) (.pair tQ (.pair .int .bool)))))))) hres (D65 s16.rd) fun d6 c6 x r H17 s17 hres hx hc6 l6=>?_
 refine y_pu_of (v:=.ptr q 0) rfl ?_
 refine y_pu_of (v:=.ptr q 6) rfl ?_
 refine y_pu_of (v:=.ptr q 6) rfl ?_
 refine s17.put hn p16 hx l6 (by rw[hzl];decide) fun H18 s18 p18=>?_
 refine s18.ld (.tail _ (.tail _ (.head _))) rfl ?_
 refine s18.step (a:=.int) (b:=(.pair (.list tClass) (.pair (.list (.list tMove)) (.pair (.list .bool) (.pair (.list tBytes) (.pair tQ (.pair .int .bool))))))) hres (D63 s18.rd) fun d7 c7 x r H19 s19 hres hx hc7 l7=>?_
 refine y_pu_of (v:=.ptr q 0) rfl ?_
 refine y_pu_of (v:=.ptr q 6) rfl ?_
 refine y_pu_of (v:=.ptr q 7) rfl ?_
 refine s19.put hn p18 hx l7 (by rw[hzl];decide) fun H20 s20 p20=>?_
 refine s20.ld (.tail _ (.tail _ (.head _))) rfl ?_
 refine s20.ld (.tail _ (.tail _ (.head _))) rfl ?_
 refine s20.step (a:=(.list tClass)) (b:=(.pair (.list (.list tMove)) (.pair (.list .bool) (.pair (.list tBytes) (.pair tQ (.pair .int .bool)))))) hres (E106 (L:=[]) s20.rd (by simp) (D107.one _ _)) fun d8 c8 x r H21 s21 hres hx hc8 l8=>?_
 refine y_pu_of (v:=.ptr q 0) rfl ?_
 refine y_pu_of (v:=.ptr q 8) rfl ?_
 refine y_pu_of (v:=.ptr q 8) rfl ?_
 refine s21.put hn p20 hx l8 (by rw[hzl];decide) fun H22 s22 p22=>?_
 refine s22.ld (.tail _ (.tail _ (.head _))) rfl ?_
 refine s22.step (a:=(.list (.list tMove))) (b:=(.pair (.list .bool) (.pair (.list tBytes) (.pair tQ (.pair .int .bool))))) hres (E110 s22.rd s22.own (D111 (.tail _ (.tail _ (.head _))))) fun d9 c9 x r H23 s23 hres hx hc9 l9=>?_
 refine y_pu_of (v:=.ptr q 0) rfl ?_
 refine y_pu_of (v:=.ptr q 8) rfl ?_
 refine y_pu_of (v:=.ptr q 9) rfl ?_
 refine s23.put hn p22 hx l9 (by rw[hzl];decide) fun H24 s24 p24=>?_
 refine s24.ld (.tail _ (.tail _ (.head _))) rfl ?_
 refine s24.ld (.tail _ (.tail _ (.head _))) rfl ?_
 refine s24.step (a:=(.list .bool)) (b:=(.pair (.list tBytes) (.pair tQ (.pair .int .bool)))) hres (E108 (L:=[]) s24.rd (by simp) (D109.one _ _)) fun d10 c10 x r H25 s25 hres hx hc10 l10=>?_
 refine y_pu_of (v:=.ptr q 0) rfl ?_
 refine y_pu_of (v:=.ptr q 8) rfl ?_
 refine y_pu_of (v:=.ptr q 10) rfl ?_
 refine s25.put hn p24 hx l10 (by rw[hzl];decide) fun H26 s26 p26=>?_
 refine s26.ld (.tail _ (.tail _ (.head _))) rfl ?_
 refine s26.step (a:=(.list tBytes)) (b:=(.pair tQ (.pair .int .bool))) hres (E114 s26.rd s26.own (D115 (.tail _ (.tail _ (.head _))))) fun d11 c11 x r H27 s27 hres hx hc11 l11=>?_
 refine y_pu_of (v:=.ptr q 0) rfl ?_
 refine y_pu_of (v:=.ptr q 8) rfl ?_
 refine y_pu_of (v:=.ptr q 11) rfl ?_
 refine s27.put hn p26 hx l11 (by rw[hzl];decide) fun H28 s28 p28=>?_
 refine s28.ld (.tail _ (.tail _ (.head _))) rfl ?_
 refine s28.stepQ (a:=.int) (b:=(.pair .int (.pair .int (.pair .int .bool)))) (c:=(.pair .int .bool)) hres (D63 s28.rd) fun d12 c12 x r H29 s29 hres hx hc12 l12=>?_
 refine y_pu_of (v:=.ptr q 0) rfl ?_
 refine y_pu_of (v:=.ptr q 12) rfl ?_
 refine y_pu_of (v:=.ptr q 12) rfl ?_
 refine s29.put hn p28 hx l12 (by rw[hzl];decide) fun H30 s30 p30=>?_
 refine s30.ld (.tail _ (.tail _ (.head _))) rfl ?_
 refine s30.stepQ (a:=.int) (b:=(.pair .int (.pair .int .bool))) (c:=(.pair .int .bool)) hres (D63 s30.rd) fun d13 c13 x r H31 s31 hres hx hc13 l13=>?_
 refine y_pu_of (v:=.ptr q 0) rfl ?_
 refine y_pu_of (v:=.ptr q 12) rfl ?_
 refine y_pu_of (v:=.ptr q 13) rfl ?_
 refine s31.put hn p30 hx l13 (by rw[hzl];decide) fun H32 s32 p32=>?_
 refine s32.ld (.tail _ (.tail _ (.head _))) rfl ?_
 refine s32.stepQ (a:=.int) (b:=(.pair .int .bool)) (c:=(.pair .int .bool)) hres (D63 s32.rd) fun d14 c14 x r H33 s33 hres hx hc14 l14=>?_
 refine y_pu_of (v:=.ptr q 0) rfl ?_
 refine y_pu_of (v:=.ptr q 12) rfl ?_
 refine y_pu_of (v:=.ptr q 14) rfl ?_
 refine s33.put hn p32 hx l14 (by rw[hzl];decide) fun H34 s34 p34=>?_
 refine s34.ld (.tail _ (.tail _ (.head _))) rfl ?_
 refine s34.stepQ (a:=.int) (b:=.bool) (c:=(.pair .int .bool)) hres (D63 s34.rd) fun d15 c15 x r H35 s35 hres hx hc15 l15=>?_
 refine y_pu_of (v:=.ptr q 0) rfl ?_
 refine y_pu_of (v:=.ptr q 12) rfl ?_
 refine y_pu_of (v:=.ptr q 15) rfl ?_
 refine s35.put hn p34 hx l15 (by rw[hzl];decide) fun H36 s36 p36=>?_
 refine s36.ld (.tail _ (.tail _ (.head _))) rfl ?_
 refine s36.step (a:=.bool) (b:=(.pair .int .bool)) hres (D109 s36.rd) fun d16 c16 x r H37 s37 hres hx hc16 l16=>?_
 refine y_pu_of (v:=.ptr q 0) rfl ?_
 refine y_pu_of (v:=.ptr q 12) rfl ?_
 refine y_pu_of (v:=.ptr q 16) rfl ?_
 refine s37.put hn p36 hx l16 (by rw[hzl];decide) fun H38 s38 p38=>?_
 refine s38.ld (.tail _ (.tail _ (.head _))) rfl ?_
 refine s38.step (a:=.int) (b:=.bool) hres (D63 s38.rd) fun d17 c17 x r H39 s39 hres hx hc17 l17=>?_
 refine y_pu_of (v:=.ptr q 0) rfl ?_
 refine y_pu_of (v:=.ptr q 17) rfl ?_
 refine s39.put hn p38 hx l17 (by rw[hzl];decide) fun H40 s40 p40=>?_
 refine s40.ld (.tail _ (.tail _ (.head _))) rfl ?_
 refine s40.last (a:=.bool) hres (D109 s40.rd) fun d18 c18 x r H41 s41 hres hx hc18 l18=>?_
 refine y_pu_of (v:=.ptr q 18) rfl ?_
 refine s41.put hn p40 hx l18 (by rw[hzl];decide) fun H42 s42 p42=>?_
 refine(s42.done (by rw[hzl];decide)).out3 (hne _) p42 hzl fun H43 s43=>s43.fin hres ⟨_,rfl,?_⟩
 simp only[List.nil_append,List.append_assoc]
 exact⟨_,_,rfl,hc0,_,_,rfl,hc1,_,_,rfl,hc2,_,_,rfl,hc3,_,_,rfl,hc4,_,_,rfl,hc5,_,_,rfl,hc6,_,_,rfl,hc7,_,_,rfl,hc8,_,_,rfl,hc9,_,_,rfl,hc10,_,_,rfl,hc11,c12++(c13++(c14++(c15++c16))),_,by simp only[List.append_assoc],⟨_,_,rfl,hc12,_,_,rfl,hc13,_,_,rfl,hc14,_,_,rfl,hc15,hc16⟩,_,_,rfl,hc17,hc18⟩
end Go.Proofs.YtdandeekdbndgaaGreatDoor
namespace Go.Proofs.YtdandeekdbndgaaGreatDoor
open Go Go.AL Go.AL.Co
set_option maxHeartbeats 2000000 in
theorem D29:READ Tryz.prog 21 tNode:=fun{H p b} hR=>by
 obtain⟨res,hres⟩:∃res,res=tNode.dec b:=⟨_,rfl⟩
 rw[←hres]
 rw[bind_id (tNode.dec b)]at hres
 refine T29 ?_
 unfold G29
 generalize hz:(rpl 5 (I 0) (rpl 6 .nils ((I 0)::(rpl 4 .nils (rpl 4 (I 0) ((.bool false)::((I 0)::((.bool false)::(rpl 4 .nils [])))))))))=z
 have hzl:z.length=27:=by rw[←hz];rfl
 refine(DSt.start hR).alloc fun q1 H1 s1 hn1=>?_
 refine s1.step (a:=.int) (b:=.pair .int (.pair .int (.pair .int (.pair tLit (.pair tInts (.pair (.list tInts) (.pair (.list tStep) (.list tEqn)))))))) hres (D63 s1.rd) fun d0 c0 x r H2 s2 hres hx hc0 l0=>?_
 refine y_pu_of (build1 hx (n:=1) l0 (by omega)) ?_
 refine s2.alloc fun q H3 s3 hn=>?_
 have hne:q1≠q:=hn _ (.head _)
 refine s3.putA hn (by rw[List.length_append,List.length_drop,l0,hzl];rfl) hzl fun H4 s4=>?_
 refine s4.step (a:=.int) (b:=.pair .int (.pair .int (.pair tLit (.pair tInts (.pair (.list tInts) (.pair (.list tStep) (.list tEqn))))))) hres (D63 s4.rd) fun d1 c1 x r H5 s5 hres hx hc1 l1=>?_
 refine y_pu_of (v:=.ptr q 1) rfl (s5.put hn l0 hx l1 (by rw[hzl];decide) fun H6 s6 p6=>?_)
 refine s6.step (a:=.int) (b:=.pair .int (.pair tLit (.pair tInts (.pair (.list tInts) (.pair (.list tStep) (.list tEqn)))))) hres (D63 s6.rd) fun d2 c2 x r H7 s7 hres hx hc2 l2=>?_
 refine y_pu_of (v:=.ptr q 2) rfl (s7.put hn p6 hx l2 (by rw[hzl];decide) fun H8 s8 p8=>?_)
 refine s8.step (a:=.int) (b:=.pair tLit (.pair tInts (.pair (.list tInts) (.pair (.list tStep) (.list tEqn))))) hres (D63 s8.rd) fun d3 c3 x r H9 s9 hres hx hc3 l3=>?_
 refine y_pu_of (v:=.ptr q 3) rfl (s9.put hn p8 hx l3 (by rw[hzl];decide) fun H10 s10 p10=>?_)
 refine s10.step (a:=tLit) (b:=.pair tInts (.pair (.list tInts) (.pair (.list tStep) (.list tEqn)))) hres (D64 s10.rd) fun d4 c4 x r H11 s11 hres hx hc4 l4=>?_
 have l4:c4.length=19:=l4
 refine y_pu_of (v:=.ptr q 4) rfl (s11.put hn p10 hx l4 (by rw[hzl];decide) fun H12 s12 p12=>?_)
 refine s12.step (a:=tInts) (b:=.pair (.list tInts) (.pair (.list tStep) (.list tEqn))) hres (D65 s12.rd) fun d5 c5 x r H13 s13 hres hx hc5 l5=>?_
 refine y_pu_of (v:=.ptr q 23) rfl (s13.put hn p12 hx l5 (by rw[hzl];decide) fun H14 s14 p14=>?_)
 refine s14.step (a:=.list tInts) (b:=.pair (.list tStep) (.list tEqn)) hres (E66 (L:=[]) s14.rd (by simp) (D65.one _ _)) fun d6 c6 x r H15 s15 hres hx hc6 l6=>?_
 refine y_pu_of (v:=.ptr q 24) rfl (s15.put hn p14 hx l6 (by rw[hzl];decide) fun H16 s16 p16=>?_)
 refine s16.step (a:=.list tStep) (b:=.list tEqn) hres (E67 (L:=[]) s16.rd (by simp) (D68.one _ _)) fun d7 c7 x r H17 s17 hres hx hc7 l7=>?_
 refine y_pu_of (v:=.ptr q 25) rfl (s17.put hn p16 hx l7 (by rw[hzl];decide) fun H18 s18 p18=>?_)
 refine s18.last (a:=.list tEqn) hres (E69 (L:=[]) s18.rd (by simp) (D70.one _ _)) fun d8 c8 x r H19 s19 hres hx hc8 l8=>?_
 refine y_pu_of (v:=.ptr q 26) rfl (s19.put hn p18 hx l8 (by rw[hzl];decide) fun H20 s20 p20=>?_)
 refine(s20.done (by rw[hzl];decide)).out hne p20 hzl fun H21 s21=>s21.fin hres ⟨_,rfl,?_⟩
 simp only[List.append_assoc]
 exact⟨_,_,rfl,hc0,_,_,rfl,hc1,_,_,rfl,hc2,_,_,rfl,hc3,_,_,rfl,hc4,_,_,rfl,hc5,_,_,rfl,hc6,_,_,rfl,hc7,hc8⟩
end Go.Proofs.YtdandeekdbndgaaGreatDoor
namespace Go.AL
open Co
variable {P:Program}
theorem ne_beq {a b:String}(h:(a==b)=false):a≠b:=by simpa using h
theorem w_defer {e:Env}{H:AH}{K:Env→AH→Prop}{Kp:AV→Env→AH→Prop}{l:List AOper}{d:Option Nat}{f:AOpd}{args:List AOpd}{g:FuncId}{first cap ds:List AV}(hf:f.ev e=.fn (.func g) first cap) (hd:e dslot=.tup ds)
  (hK:aops P l ((e.set dslot (.tup (.tup [.fn (.func g) [] [],.tup (first++args.map (·.ev e)++cap)]::ds))).put d .unk) H K Kp):aops P (⟨d,.defer f args,none⟩::l) e H K Kp:=by
 simp only[aops,hf,hd];exact hK
def a27r1:List AOper:=[
 ⟨(some 6),.move (.tmp 2),none⟩,
 ⟨(some 7),.eq true .iface (.tmp 6) (.cst .nili),none⟩]
def a27r2:List AOper:=[
 ⟨(some 9),.move (.tmp 2),none⟩,
 ⟨(some 10),.tass 72 (.agg [(.int .i64 0)]) (.tmp 9),none⟩,
 ⟨(some 8),.move (.tmp 10),none⟩,
 ⟨(some 11),.extract 0 (.tmp 8),none⟩,
 ⟨(some 12),.extract 1 (.tmp 8),none⟩,
 ⟨(some 3),.alloc [(.int .i64 0)],none⟩,
 ⟨none,.store 1 (.tmp 3) (.tmp 11),none⟩,
 ⟨(some 4),.move (.tmp 12),none⟩]
def a27r3:List AOper:=[
 ⟨(some 13),.move (.tmp 4),none⟩,
 ⟨(some 14),.un .not (.tmp 13),none⟩]
def a27r4:List AOper:=[
 ⟨(some 15),.move (.tmp 2),none⟩,
 ⟨none,.panic (.tmp 15),none⟩]
def a27r5:List DIt:=[
 ⟨0,⟨(some 16),.fieldAddr 0 (.tmp 3),none⟩,0,[],false⟩,
 ⟨1,⟨(some 17),.load none (.tmp 16),none⟩,1,[],false⟩,
 ⟨2,⟨none,.store 1 (.tmp 0) (.cst .nils),none⟩,0,[1],true⟩,
 ⟨3,⟨none,.store 1 (.tmp 1) (.tmp 17),none⟩,7,[],true⟩]
def a27h:Hints:=[(5,[(0,0,[],false),(1,1,[],false),(2,0,[1],true),(3,7,[],true)])]
def a27x:ACode:=.seq (.reg a27r1) (.cond (.tmp 7) (.seq (.reg a27r2) (.seq (.seq (.reg a27r3) (.cond (.tmp 14) (.reg a27r4) .skip)) (.dreg a27r5))) .skip)
def RcPost (H:AH) (a b:Nat):Option AV→AH→Prop
 | none,H'=>H'=H
 | some _,H'=>H.next≤H'.next∧H'.gl=H.gl∧H'.get a=some (.cells [.nils])∧(∃n,H'.get b=some (.cells [.int .i64 n]))∧∀q,q<H.next→q≠a→q≠b→H'.get q=H.get q
theorem d27 {H:AH}{a b:Nat}{x y:AV}(ha:H.get a=some (.cells [x])) (hb:H.get b=some (.cells [y])) (hal:a<H.next) (hbl:b<H.next) (hab:a≠b){m:Option AV}{n:Int}(hm:m=none∨m=some (.ifc 72 (.agg [.int .i64 n]))) :
  D P a27x (fun x e H'=>e dslot=.tup []∧(match x with | .normal | .ret=>(m=none→H'=H)∧(m≠none→H.next≤H'.next∧H'.gl=H.gl∧H'.get a=some (.cells [.nils])∧H'.get b=some (.cells [.int .i64 n])∧∀q,q<H.next→q≠a→q≠b→H'.get q=H.get q) | _=>False))
   (((env0 [.ptr a 0,.ptr b 0]).set 5 (arec m)).set 2 (arec m)) H:=by
 unfold a27x a27r1
 refine d_sregV ?_
 rcases hm with rfl | rfl
 ·refine w_op2 (v:=.nili) (H1:=H) (by simp[aone,apure,AOpd.ev,Env.set_get,arec]) rfl ?_
  refine w_op2 (v:=.bool false) (H1:=H) (by simp[aone,apure,AOpd.ev,Env.put,Env.set_get,aeq]) rfl ?_
  refine e_seq (d_cond (t:=false) (by simp[AOpd.ev,Env.put,Env.set_get]) (fun h=>by cases h) (fun _=>d_skip ?_))
  exact⟨by simp[Env.put,Env.set_get,env0,dslot],fun _=>rfl,fun h=>absurd rfl h⟩
 ·refine w_op2 (v:=.ifc 72 (.agg [.int .i64 n])) (H1:=H) (by simp[aone,apure,AOpd.ev,Env.set_get,arec]) rfl ?_
  refine w_op2 (v:=.bool true) (H1:=H) (by simp[aone,apure,AOpd.ev,Env.put,Env.set_get,aeq]) rfl ?_
  refine e_seq (d_cond (t:=true) (by simp[AOpd.ev,Env.put,Env.set_get]) (fun _=>?_) (fun h=>by cases h))
  unfold a27r2 a27r3 a27r5
  have na:a≠H.next:=by omega
  have nb:b≠H.next:=by omega
  refine d_sregV ?_
  refine w_op2 (v:=.ifc 72 (.agg [.int .i64 n])) (H1:=H) (by simp[aone,apure,AOpd.ev,Env.put,Env.set_get,arec]) rfl ?_
  refine w_op2 (v:=.tup [.agg [.int .i64 n],.bool true]) (H1:=H) (by simp[aone,apure,AOpd.ev,Env.put,Env.set_get]) rfl ?_
  refine w_op2 (v:=.tup [.agg [.int .i64 n],.bool true]) (H1:=H) (by simp[aone,apure,AOpd.ev,Env.put,Env.set_get]) rfl ?_
  refine w_op2 (v:=.agg [.int .i64 n]) (H1:=H) (by simp[aone,apure,AOpd.ev,Env.put,Env.set_get]) rfl ?_
  refine w_op2 (v:=.bool true) (H1:=H) (by simp[aone,apure,AOpd.ev,Env.put,Env.set_get]) rfl ?_
  refine w_op2 (v:=.ptr H.next 0) (H1:=H.push (.cells [.int .i64 0])) (by simp[aone,apure,aread,aeff,AOpd.ev,Env.put,Env.set_get]) rfl ?_
  refine w_op2 (v:=.unk) (H1:=(H.push (.cells [.int .i64 0])).set H.next (.cells [.int .i64 n])) (by simp[aone,apure,aread,aeff,AOpd.ev,Env.put,Env.set_get,AH.cells?,AH.get_push,AV.cellsOf,splice]) rfl ?_
  generalize hH1:(H.push (.cells [.int .i64 0])).set H.next (.cells [.int .i64 n])=H1
  have g0:H1.get H.next=some (.cells [.int .i64 n]):=by rw[←hH1];simp[AH.get_set]
  have g1:∀q,q<H.next→H1.get q=H.get q:=fun q hq=>by
   have:q≠H.next:=by omega
   rw[←hH1];simp[AH.get_set,AH.get_push,this]
  have g2:H1.next=H.next+1:=by rw[←hH1];simp
  have g3:H1.gl=H.gl:=by rw[←hH1];rfl
  refine w_op2 (v:=.bool true) (H1:=H1) (by simp[aone,apure,AOpd.ev,Env.put,Env.set_get]) rfl ?_
  refine e_seq (d_seq (d_seq (d_regV ?_)))
  refine w_op2 (v:=.bool true) (H1:=H1) (by simp[aone,apure,AOpd.ev,Env.put,Env.set_get]) rfl ?_
  refine w_op2 (v:=.bool false) (H1:=H1) (by simp[aone,apure,AOpd.ev,Env.put,Env.set_get,aun]) rfl ?_
  refine e_seq (d_cond (t:=false) (by simp[AOpd.ev,Env.put,Env.set_get]) (fun h=>by cases h) (fun _=>d_skip (q_seq (d_dregV ?_))))
  have ga:H1.get a=some (.cells [x]):=by rw[g1 a hal];exact ha
  have gb:H1.get b=some (.cells [y]):=by rw[g1 b hbl];exact hb
  refine p_pure (v:=.ptr H.next 0) (by simp[apure,AOpd.ev,Env.put,Env.set_get,afaddr]) ?_
  refine p_read (v:=.int .i64 n) rfl (by simp[aread,aload,AOpd.ev,Env.put,Env.set_get,AH.cells?,g0,apart]) ?_
  refine p_op (v:=(.unk,H1.set a (.cells [.nils]))) (by simp[aone,apure,aread,aeff,AOpd.ev,Env.put,Env.set_get,env0,dslot,AH.cells?,ga,AV.cellsOf,splice]) rfl ?_ ?_
  ·refine⟨?_,trivial⟩
   have:¬H.next=a:=fun h=>na h.symm
   show aread _ _ _=_
   simp[aread,aload,AOpd.ev,Env.put,Env.set_get,AH.cells?,AH.get_set,g0,this,apart]
  have nba:¬b=a:=fun h=>hab h.symm
  refine p_op (v:=(.unk,(H1.set a (.cells [.nils])).set b (.cells [.int .i64 n]))) (by simp[aone,apure,aread,aeff,AOpd.ev,Env.put,Env.set_get,env0,dslot,AH.cells?,AH.get_set,nba,gb,AV.cellsOf,splice]) rfl trivial ?_
  refine p_nil (vs_same ⟨by simp[Env.put,Env.set_get,env0,dslot],fun h=>(by cases h),fun _=>⟨by simp[g2],by simp[g3,AH.set],?_,?_,fun q hq hqa hqb=>?_⟩⟩)
  ·simp[AH.get_set,hab]
  ·simp[AH.get_set]
  ·rw[←g1 q hq];simp[AH.get_set,hqa,hqb]
end Go.AL
namespace Go.Proofs.YtdandeekdbndgaaGreatDoor
open Go Go.AL Go.AL.Co
theorem A27 {H:AH}{a b:Nat}{x y:AV}(ha:H.get a=some (.cells [x])) (hb:H.get b=some (.cells [y])) (hal:a<H.next) (hbl:b<H.next) (hab:a≠b){m:Option AV}{n:Int}(hm:m=none∨m=some (.ifc 72 (.agg [.int .i64 n]))) :
  ADef Tryz.prog 19 [.ptr a 0,.ptr b 0] m H (fun H'=>(m=none→H'=H)∧(m≠none→H.next≤H'.next∧H'.gl=H.gl∧H'.get a=some (.cells [.nils])∧H'.get b=some (.cells [.int .i64 n])∧∀q,q<H.next→q≠a→q≠b→H'.get q=H.get q)):=
 adef_of_D (fn:=Tryz.f19) (hs:=a27h) (ra:=5) (rb:=2) (rest:=a27x) mix (by kernel_rfl) (ne_beq (by kernel_rfl)) rfl (Nat.le_of_ble_eq_true (by kernel_rfl)) (by show 2≤18;omega) (by kernel_rfl) (by kernel_rfl) (d27 ha hb hal hbl hab hm)
def a7h:Hints:=[]
def a7r0:List AOper:=[
 ⟨(some 2),.alloc [.nils],none⟩,
 ⟨(some 3),.alloc [(.int .i64 0)],none⟩]
def a7r1:List AOper:=[
 ⟨(some 5),.mkFunc (.func 19) [] [(.tmp 2),(.tmp 3)],none⟩,
 ⟨none,.defer (.tmp 5) [],none⟩]
def a7r2:List AOper:=[
 ⟨(some 6),.move (.tmp 0),none⟩,
 ⟨(some 7),.build [.nils] [(0,1,(.tmp 6))],none⟩,
 ⟨(some 8),.box (.tmp 7),none⟩,
 ⟨(some 4),.move (.tmp 8),none⟩]
def a7r3:List AOper:=[
 ⟨(some 9),.move (.tmp 4),none⟩,
 ⟨(some 10),.move (.tmp 4),none⟩,
 ⟨(some 11),.mkFunc (.func 21) [(.tmp 10)] [],none⟩,
 ⟨(some 12),.call (.fnc 20) [(.tmp 9),(.tmp 11)],none⟩,
 ⟨none,.store 1 (.tmp 2) (.tmp 12),none⟩]
def a7r4:List AOper:=[
 ⟨(some 13),.move (.tmp 4),none⟩,
 ⟨(some 14),.nilCheck (.tmp 13),none⟩,
 ⟨(some 15),.fieldAddr 0 (.tmp 14),none⟩,
 ⟨(some 16),.load none (.tmp 15),none⟩,
 ⟨(some 17),.len (.tmp 16),none⟩,
 ⟨(some 18),.bin .gtr (.tmp 17) (.cst (.int .i64 0)),none⟩]
def a7r5:List AOper:=[
 ⟨none,.store 1 (.tmp 2) (.cst .nils),none⟩,
 ⟨none,.store 1 (.tmp 3) (.cst (.int .i64 4)),none⟩]
def a7r6:List AOper:=[
 ⟨(some 19),.load none (.tmp 2),none⟩,
 ⟨none,.store 1 (.tmp 2) (.tmp 19),none⟩,
 ⟨none,.store 1 (.tmp 3) (.cst (.int .i64 0)),none⟩]
def a7:ACode:=(.seq (.reg a7r0) (.seq (.reg a7r1) (.seq (.reg a7r2) (.seq (.reg a7r3) (.seq (.seq (.reg a7r4) (.cond (.tmp 18) (.seq (.reg a7r5) .ret) .skip)) (.seq (.reg a7r6) .ret))))))
def a7q:List ARes:=[.cell 2 none,.cell 3 none]
def DPost (H:AH) (res:Rs tProof.D):AOut→AH→Prop:=fun o H'=>KeepN H H'∧match res with
 | .ok d []=>∃x,o=.ret (.tup [x,.int .i64 0])∧RX tProof d [x]
 | .ok _ (_::_)=>o=.ret (.tup [.nils,.int .i64 4])
 | .err e=>o=.ret (.tup [.nils,.int .i64 (erno e)])
set_option maxHeartbeats 2000000 in
theorem P7 {H:AH}{v:AV}{b:List UInt8}(hv:Inp H H.next b v) (hl:b.length<274877906944):ACall Tryz.prog 6 [v] H (DPost H (tProof.dec b)):=by
 have hv1:v.cellsOf=some [v]:=by cases hv<;>rfl
 obtain⟨H3,hH3⟩:∃H3,H3=((H.push (.cells [.nils])).push (.cells [.int .i64 0])).push (.cells [v]):=⟨_,rfl⟩
 have n3:H3.next=H.next+3:=by rw[hH3];rfl
 have l3:H3.gl=H.gl:=by rw[hH3];rfl
 have ga:H3.get H.next=some (.cells [.nils]):=by
  have e1:H.next≠H.next+2:=by omega
  rw[hH3];simp[AH.get_push,e1]
 have gb:H3.get (H.next+1)=some (.cells [.int .i64 0]):=by rw[hH3];simp[AH.get_push]
 have gc:H3.get (H.next+2)=some (.cells [v]):=by rw[hH3];simp[AH.get_push]
 have go:∀q,q<H.next→H3.get q=H.get q:=fun q hq=>by
  have e1:q≠H.next:=by omega
  have e2:q≠H.next+1:=by omega
  have e3:q≠H.next+2:=by omega
  rw[hH3];simp[AH.get_push,e1,e2,e3]
 have hv3:Inp H3 (H.next+2) b v:=by
  cases hv with
  | nils=>exact .nils
  | sim _ ex=>exact .sim _ ex
  | own hlt hc ho hm hes=>exact .own (by omega) (by rw[go _ hlt];exact hc) ho hm hes
 have hR:Rd H3 (H.next+2) b:=⟨by omega,hl,v,gc,hv3⟩
 have hE:ACall Tryz.prog 20 [.ptr (H.next+2) 0,.fn (.func 21) [.ptr (H.next+2) 0] []] H3 (RPost H3 (H.next+2) (tProof.dec b) fun d x _=>RX tProof d [x]):=E28X (L:=[]) hR (by simp) (D29.one _ _)
 clear hR hv3
 generalize tProof.dec b=res at hE ⊢
 have fin:∀(H5:AH) (x y:AV) (m:Option AV) (n:Int),(m=none∨m=some (.ifc 72 (.agg [.int .i64 n])))→H.next+3≤H5.next→H5.gl=H.gl→H5.get H.next=some (.cells [x])→H5.get (H.next+1)=some (.cells [y])→(∀q,q<H.next→H5.get q=H.get q) →
   (∀H',KeepN H H'→(m=none→DPost H res (.ret (.tup [x,y])) H')∧(m≠none→DPost H res (.ret (.tup [.nils,.int .i64 n])) H'))→∀(e:Env),e 2=.ptr H.next 0→e 3=.ptr (H.next+1) 0 →
   ADef Tryz.prog 19 [.ptr H.next 0,.ptr (H.next+1) 0] m H5 fun H'=>match aress e H' a7q with
    | some vs=>DPost H res (.ret (retv vs)) H'
    | none=>False:=fun H5 x y m n hm hn hg h1 h2 h3 hD e e2 e3=>by
  refine(A27 (n:=n) h1 h2 (by omega) (by omega) (by omega) hm).mono fun H' hp=>?_
  rcases hm with rfl | rfl
  ·have e:=hp.1 rfl
   subst e
   simp only[a7q,aress,e2,e3,aload,AH.cells?,h1,h2,apart,Option.map,List.getElem?_cons_zero,retv]
   exact(hD _ ⟨by omega,h3,hg⟩).1 rfl
  ·obtain⟨p1,p2,p3,p4,p5⟩:=hp.2 (by simp)
   simp only[a7q,aress,e2,e3,aload,AH.cells?,p3,p4,apart,Option.map,List.getElem?_cons_zero,retv]
   refine(hD _ ⟨by omega,fun q hq=>?_,by rw[p2];exact hg⟩).2 (by simp)
   rw[p5 q (by omega) (by omega) (by omega)];exact h3 q hq
 refine acall_of_DD (fn:=Tryz.f6) (hs:=a7h) (ac:=a7) (ars:=a7q) mix (by kernel_rfl) (ne_beq (by kernel_rfl)) rfl (Nat.le_of_ble_eq_true (by kernel_rfl)) (by show 1≤20;omega) (by kernel_rfl) (by kernel_rfl) ?_
 unfold a7 a7r0 a7r1 a7r2
 refine d_sregV ?_
 refine w_op2 (v:=.ptr H.next 0) (H1:=H.push (.cells [.nils])) (by simp[aone,apure,aread,aeff]) rfl ?_
 refine w_op2 (v:=.ptr (H.next+1) 0) (H1:=(H.push (.cells [.nils])).push (.cells [.int .i64 0])) (by simp[aone,apure,aread,aeff]) rfl ?_
 refine e_seq (d_sregV ?_)
 refine w_op2 (v:=.fn (.func 19) [] [.ptr H.next 0,.ptr (H.next+1) 0]) (H1:=(H.push (.cells [.nils])).push (.cells [.int .i64 0])) (by simp[aone,apure,AOpd.ev,Env.put,Env.set_get]) rfl ?_
 refine w_defer (g:=19) (first:=[]) (cap:=[.ptr H.next 0,.ptr (H.next+1) 0]) (ds:=[]) (by simp[AOpd.ev,Env.put,Env.set_get]) (by simp[Env.put,Env.set_get,env0,dslot]) ?_
 refine e_seq (d_sregV ?_)
 refine w_op2 (v:=v) (H1:=(H.push (.cells [.nils])).push (.cells [.int .i64 0])) (by simp[aone,apure,AOpd.ev,Env.put,Env.set_get,env0,dslot]) rfl ?_
 refine w_op2 (v:=.agg [v]) (H1:=(H.push (.cells [.nils])).push (.cells [.int .i64 0])) (by simp[aone,apure,afill,AOpd.ev,Env.put,Env.set_get,hv1]) rfl ?_
 refine w_op2 (v:=.ptr (H.next+2) 0) (H1:=H3) (by simp[aone,apure,aread,aeff,AOpd.ev,Env.put,Env.set_get,AV.cellsOf,hH3]) rfl ?_
 refine w_op2 (v:=.ptr (H.next+2) 0) (H1:=H3) (by simp[aone,apure,AOpd.ev,Env.put,Env.set_get]) rfl ?_
 refine e_seq ?_
 have hgen:∀e:Env,e 2=.ptr H.next 0→e 3=.ptr (H.next+1) 0→e 4=.ptr (H.next+2) 0→e dslot=.tup [.tup [.fn (.func 19) [] [],.tup [.ptr H.next 0,.ptr (H.next+1) 0]]] →
   D Tryz.prog (.seq (.reg a7r3) (.seq (.seq (.reg a7r4) (.cond (.tmp 18) (.seq (.reg a7r5) .ret) .skip)) (.seq (.reg a7r6) .ret))) (dpost Tryz.prog a7q (DPost H res)) e H3:=by
  intro e e2 e3 e4 ed
  have ed:e 1000000=.tup [.tup [.fn (.func 19) [] [],.tup [.ptr H.next 0,.ptr (H.next+1) 0]]]:=ed
  unfold a7r3 a7r4 a7r5 a7r6
  refine d_sregV ?_
  refine w_op2 (v:=.ptr (H.next+2) 0) (H1:=H3) (by simp[aone,apure,AOpd.ev,e4]) rfl ?_
  refine w_op2 (v:=.ptr (H.next+2) 0) (H1:=H3) (by simp[aone,apure,AOpd.ev,Env.put,Env.set_get,e4]) rfl ?_
  refine w_op2 (v:=.fn (.func 21) [.ptr (H.next+2) 0] []) (H1:=H3) (by simp[aone,apure,AOpd.ev,Env.put,Env.set_get]) rfl ?_
  refine w_callG (first:=[]) (cap:=[]) rfl (by simp[AOpd.ev,Env.put,Env.set_get]) hE (fun x H4 h4=>?_) (fun x H4 h4=>?_)
  ·obtain⟨k4,h4⟩:=h4
   cases res with
   | err er=>cases h4.1
   | ok d r=>
   obtain⟨x',hx',hrv,hr4⟩:=h4
   cases hx'
   have hx1:x.cellsOf=some [x]:=RX1 (t:=tNode) hrv
   have ga4:H4.get H.next=some (.cells [.nils]):=by rw[k4.get _ (by omega) (by omega)];exact ga
   have gb4:H4.get (H.next+1)=some (.cells [.int .i64 0]):=by rw[k4.get _ (by omega) (by omega)];exact gb
   have go4:∀q,q<H.next→H4.get q=H.get q:=fun q hq=>by rw[k4.get _ (by omega) (by omega)];exact go q hq
   have n4:=k4.nx
   have l4:H4.gl=H.gl:=by rw[k4.gl];exact l3
   obtain⟨_,_,vr,hc4,hi4⟩:=hr4
   refine w_op2 (v:=.unk) (H1:=H4.set H.next (.cells [x])) (by simp[aone,apure,aread,aeff,AOpd.ev,Env.put,Env.set_get,e2,AH.cells?,ga4,hx1,splice]) rfl ?_
   generalize hH5:H4.set H.next (.cells [x])=H5
   have ga5:H5.get H.next=some (.cells [x]):=by rw[←hH5];simp[AH.get_set]
   have gb5:H5.get (H.next+1)=some (.cells [.int .i64 0]):=by rw[←hH5];simp[AH.get_set,gb4]
   have gc5:H5.get (H.next+2)=some (.cells [vr]):=by rw[←hH5];simp[AH.get_set,hc4]
   have go5:∀q,q<H.next→H5.get q=H.get q:=fun q hq=>by
    have:q≠H.next:=by omega
    rw[←hH5];simp[AH.get_set,this,go4 q hq]
   have n5:H5.next=H4.next:=by rw[←hH5];rfl
   have l5:H5.gl=H.gl:=by rw[←hH5];exact l4
   have hlen:=hi4.len
   refine e_seq (d_seq (d_sregV ?_))
   refine w_op2 (v:=.ptr (H.next+2) 0) (H1:=H5) (by simp[aone,apure,AOpd.ev,Env.put,Env.set_get,e4]) rfl ?_
   refine w_op2 (v:=.ptr (H.next+2) 0) (H1:=H5) (by simp[aone,apure,AOpd.ev,Env.put,Env.set_get,anilc]) rfl ?_
   refine w_op2 (v:=.ptr (H.next+2) 0) (H1:=H5) (by simp[aone,apure,AOpd.ev,Env.put,Env.set_get,afaddr]) rfl ?_
   refine w_op2 (v:=vr) (H1:=H5) (by simp[aone,apure,aread,aload,AOpd.ev,Env.put,Env.set_get,AH.cells?,gc5,apart]) rfl ?_
   refine w_op2 (v:=.int .i64 (r.length:Int)) (H1:=H5) (by
    cases hi4<;>simp[aone,apure,AOpd.ev,Env.put,Env.set_get,alen]) rfl ?_
   refine w_op2 (v:=.bool (decide ((r.length:Int)>0))) (H1:=H5) (by simp[aone,apure,AOpd.ev,Env.put,Env.set_get,abin]) rfl ?_
   refine e_seq (d_cond (t:=decide ((r.length:Int)>0)) (by simp[AOpd.ev,Env.put,Env.set_get]) (fun ht=>?_) (fun ht=>?_))
   ·have hpos:0<r.length:=by have:=of_decide_eq_true ht;omega
    refine d_sregV ?_
    refine w_op2 (v:=.unk) (H1:=H5.set H.next (.cells [.nils])) (by simp[aone,apure,aread,aeff,AOpd.ev,Env.put,Env.set_get,e2,AH.cells?,ga5,AV.cellsOf,splice]) rfl ?_
    refine w_op2 (v:=.unk) (H1:=(H5.set H.next (.cells [.nils])).set (H.next+1) (.cells [.int .i64 4])) (by simp[aone,apure,aread,aeff,AOpd.ev,Env.put,Env.set_get,e3,AH.cells?,AH.get_set,gb5,AV.cellsOf,splice]) rfl ?_
    refine e_seq (d_ret (q_seq_ret ⟨19,[.ptr H.next 0,.ptr (H.next+1) 0],none,by simp[Env.put,Env.set_get,dslot,ed],rfl,?_⟩))
    refine fin _ .nils (.int .i64 4) none 0 (.inl rfl) (by simp;omega) (by simp[AH.set,l5]) (by simp[AH.get_set]) (by simp[AH.get_set]) (fun q hq=>?_) (fun H' hk=>⟨fun _=>⟨hk,?_⟩,fun h=>absurd rfl h⟩) _ (by simp[Env.put,Env.set_get,e2]) (by simp[Env.put,Env.set_get,e3])
    ·have a1:q≠H.next:=by omega
     have a2:q≠H.next+1:=by omega
     simp[AH.get_set,a1,a2,go5 q hq]
    ·cases r with
     | nil=>simp at hpos
     | cons y r=>rfl
   ·have hz:r=[]:=by
     have:=of_decide_eq_false ht
     cases r with
     | nil=>rfl
     | cons y r=>exfalso;apply this;simp only[List.length_cons];omega
    subst hz
    refine d_skip (q_seq (d_sregV ?_))
    refine w_op2 (v:=x) (H1:=H5) (by simp[aone,apure,aread,aload,AOpd.ev,Env.put,Env.set_get,e2,AH.cells?,ga5,apart]) rfl ?_
    refine w_op2 (v:=.unk) (H1:=H5.set H.next (.cells [x])) (by simp[aone,apure,aread,aeff,AOpd.ev,Env.put,Env.set_get,e2,AH.cells?,ga5,hx1,splice]) rfl ?_
    refine w_op2 (v:=.unk) (H1:=(H5.set H.next (.cells [x])).set (H.next+1) (.cells [.int .i64 0])) (by simp[aone,apure,aread,aeff,AOpd.ev,Env.put,Env.set_get,e3,AH.cells?,AH.get_set,gb5,AV.cellsOf,splice]) rfl ?_
    refine e_seq (d_ret ⟨19,[.ptr H.next 0,.ptr (H.next+1) 0],none,by simp[Env.put,Env.set_get,dslot,ed],rfl,?_⟩)
    refine fin _ x (.int .i64 0) none 0 (.inl rfl) (by simp;omega) (by simp[AH.set,l5]) (by simp[AH.get_set]) (by simp[AH.get_set]) (fun q hq=>?_) (fun H' hk=>⟨fun _=>⟨hk,x,rfl,hrv⟩,fun h=>absurd rfl h⟩) _ (by simp[Env.put,Env.set_get,e2]) (by simp[Env.put,Env.set_get,e3])
    have a1:q≠H.next:=by omega
    have a2:q≠H.next+1:=by omega
    simp[AH.get_set,a1,a2,go5 q hq]
  ·obtain⟨k4,h4⟩:=h4
   cases res with
   | ok d r=>obtain⟨_,h,_⟩:=h4;cases h
   | err er=>
   obtain⟨hx,r,hr⟩:=h4
   cases hx
   have n4:=k4.nx
   refine⟨19,[.ptr H.next 0,.ptr (H.next+1) 0],some (fail er),by simp[Env.put,Env.set_get,dslot,ed],rfl,?_⟩
   refine fin _ .nils (.int .i64 0) _ (erno er) (.inr rfl) (by omega) (by rw[k4.gl];exact l3) (by rw[k4.get _ (by omega) (by omega)];exact ga) (by rw[k4.get _ (by omega) (by omega)];exact gb) (fun q hq=>by rw[k4.get _ (by omega) (by omega)];exact go q hq)
    (fun H' hk=>⟨fun h=>(by cases h),fun _=>⟨hk,rfl⟩⟩) _ (by simp[Env.put,Env.set_get,e2]) (by simp[Env.put,Env.set_get,e3])
 exact hgen _ (by simp[Env.put,Env.set_get,dslot]) (by simp[Env.put,Env.set_get,dslot]) (by simp[Env.put,Env.set_get,dslot]) (by simp[Env.put,Env.set_get,env0,dslot,AOpd.ev])
end Go.Proofs.YtdandeekdbndgaaGreatDoor
