import Derived.Test.YtdandeekdbndgaaGreatDoorZc01
import Derived.Test.YtdandeekdbndgaaGreatDoorZd01
/-
  Encode writes the coding.
-/
namespace Go.AL
open Co
variable {P:Program}
theorem c18 (F:Fun P 43 42 a18 a18q){H:AH}{p:Nat}{ro:Option Nat}{bs:List UInt8}{n:Int}(hn:I64 n) (hW:Wr H p ro bs) (hb:(bs++encN n).length<1099511627776) :
  ACall P 43 [.ptr p 0,.int .i64 n] H (WPost H p ro (bs++encN n)):=by
 refine F.call (by simp) ?_
 show D P a18 (WQ H p ro (bs++encN n)) _ H
 unfold a18 a18r0 a18r1 a18r2
 refine d_sregV ?_
 refine w_op2 (v:=.int .i64 n) (H1:=H) (by simp[aone,apure,AOpd.ev,env0,dslot]) rfl ?_
 refine w_op2 (v:=.int .u64 (IntKind.u64.wrap n)) (H1:=H) (by simp[aone,apure,AOpd.ev,Env.put,Env.set_get]) rfl ?_
 refine w_op2 (v:=.int .u64 (IntKind.u64.wrap (IntKind.u64.wrap n*2 ^ (min (1:Int).toNat IntKind.u64.bits)))) (H1:=H) (by simp[aone,apure,AOpd.ev,Env.put,Env.set_get,abin]) rfl ?_
 refine w_op2 (v:=.int .u64 (IntKind.u64.wrap (IntKind.u64.wrap n*2 ^ (min (1:Int).toNat IntKind.u64.bits)))) (H1:=H) (by simp[aone,apure,AOpd.ev,Env.put,Env.set_get]) rfl ?_
 refine e_seq (d_seq (d_sregV ?_))
 refine w_op2 (v:=.int .i64 n) (H1:=H) (by simp[aone,apure,AOpd.ev,Env.put,Env.set_get,env0,dslot]) rfl ?_
 refine w_op2 (v:=.bool (decide (n<0))) (H1:=H) (by simp[aone,apure,AOpd.ev,Env.put,Env.set_get,abin]) rfl ?_
 refine e_seq (d_cond (t:=decide (n<0)) (by simp[AOpd.ev,Env.put,Env.set_get]) (fun ht=>?_) (fun ht=>?_))
 ·have h0:¬0≤n:=by
    have:n<0:=by simpa using ht
    omega
  refine d_regV ?_
  refine w_op2 (v:=.int .i64 n) (H1:=H) (by simp[aone,apure,AOpd.ev,Env.put,Env.set_get,env0,dslot]) rfl ?_
  refine w_op2 (v:=.int .i64 (IntKind.i64.wrap (((BitVec.ofInt 64 (-1) ^^^ BitVec.ofInt 64 n).toNat:Nat):Int))) (H1:=H) (by simp only[aone,apure,AOpd.ev,Env.put,Env.set_get,reduceIte,aun];rfl) rfl ?_
  refine w_op2 (v:=.int .u64 (IntKind.u64.wrap (IntKind.i64.wrap (((BitVec.ofInt 64 (-1) ^^^ BitVec.ofInt 64 n).toNat:Nat):Int)))) (H1:=H) (by simp only[aone,apure,AOpd.ev,Env.put,Env.set_get,reduceIte]) rfl ?_
  refine w_op2 (v:=.int .u64 (IntKind.u64.wrap (IntKind.u64.wrap (IntKind.i64.wrap (((BitVec.ofInt 64 (-1) ^^^ BitVec.ofInt 64 n).toNat:Nat):Int))*2 ^ (min (1:Int).toNat IntKind.u64.bits)))) (H1:=H) (by simp only[aone,apure,AOpd.ev,Env.put,Env.set_get,reduceIte,abin,show(0:Int)≤1 by omega,if_true]) rfl ?_
  refine w_op2 (v:=.int .u64 ((zz n:Nat):Int)) (H1:=H) (by
   simp only[aone,apure,AOpd.ev,Env.put,Env.set_get,reduceIte,abin]
   exact congrArg (fun z=>some (AV.int IntKind.u64 z,H)) (zz_neg h0 hn)) rfl ?_
  refine w_op2 (v:=.int .u64 ((zz n:Nat):Int)) (H1:=H) (by simp[aone,apure,AOpd.ev,Env.put,Env.set_get]) rfl ?_
  exact e_last (q_seq (c18_loop hb (zz n) _ (by simp[Env.put,Env.set_get,env0,dslot]) (by simp[Env.put,Env.set_get]) (by simp[Env.put,Env.set_get,env0,dslot]) hW rfl))
 ·have h0:0≤n:=by
    have:¬n<0:=by simpa using ht
    omega
  refine d_skip (q_seq (c18_loop hb (zz n) _ (by simp[Env.put,Env.set_get,env0,dslot]) ?_ (by simp[Env.put,Env.set_get,env0,dslot]) hW rfl))
  have:=zz_pos h0 hn
  simp only[Env.put,Env.set_get,reduceIte]
  exact congrArg (AV.int IntKind.u64) this
end Go.AL
namespace Go.AL
theorem y_pu_of {k:AK}{K:AV→Prop}{v:AV}(h:apure k emp=some v) (hK:K v):y_pu k K:=by unfold y_pu;rw[h];exact hK
theorem y_rd_of {k:AK}{H:AH}{K:AV→Prop}{v:AV}(h:aread k emp H=some v) (hK:K v):y_rd k H K:=by unfold y_rd;rw[h];exact hK
theorem y_ef_of {k:AK}{H H':AH}{K:AV→AH→Prop}{v:AV}(h:aeff k emp H=some (v,H')) (hK:K v H'):y_ef k H K:=by unfold y_ef;rw[h];exact hK
theorem y_nw_of {k:AK}{H:AH}{K:AV→AH→Prop}{c:List AV}{f:Nat→AV}(h:anew k emp=some (c,f)) (hK:K (f H.next) (H.push (.cells c))):y_nw k H K:=by unfold y_nw;rw[h];exact hK
theorem y_if0_of {t:Bool}{A B:Prop}(ha:t=true→A) (hb:t=false→B):y_if0 (.bool t) A B:=⟨ha,hb⟩
theorem y_if_of {T:Type}{t:Bool}{J:T}{A B:T→Prop}(ha:t=true→A J) (hb:t=false→B J):y_if (.bool t) J A B:=⟨ha,hb⟩
structure KeepW (H:AH) (p:Nat) (ro:Option Nat) (H':AH):Prop where
 nx:H.next≤H'.next
 get:∀q,q<H.next→q≠p→some q≠ro→H'.get q=H.get q
 gl:H'.gl=H.gl
theorem KeepW.refl (H:AH) (p:Nat) (ro:Option Nat):KeepW H p ro H:=⟨Nat.le_refl _,fun _ _ _ _=>rfl,rfl⟩
theorem KeepW.trans {H H1 H2:AH}{p:Nat}{ro ro1:Option Nat}(h1:KeepW H p ro H1) (hr:∀r,ro1=some r→H.next≤r∨ro=some r) (h2:KeepW H1 p ro1 H2):KeepW H p ro H2:=
 ⟨Nat.le_trans h1.nx h2.nx,fun q hq hp hro=>by
  rw[h2.get q (Nat.lt_of_lt_of_le hq h1.nx) hp (fun e=>?_),h1.get q hq hp hro]
  rcases hr q e.symm with h | h
  ·omega
  ·exact hro h.symm,h2.gl.trans h1.gl⟩
def wv (ro:Option Nat) (bs:List UInt8):AV:=match ro with
 | none=>.nils
 | some r=>.sl r 0 bs.length (.op 1)
theorem Wr.cell {H:AH}{p:Nat}{ro:Option Nat}{bs:List UInt8}(h:Wr H p ro bs):H.get p=some (.cells [wv ro bs]):=by cases h<;>assumption
theorem Wr.plt {H:AH}{p:Nat}{ro:Option Nat}{bs:List UInt8}(h:Wr H p ro bs):p<H.next:=by cases h<;>assumption
theorem wr_ld {H:AH}{p:Nat}{ro:Option Nat}{bs:List UInt8}{K:AV→Prop}(hW:Wr H p ro bs) (hK:K (wv ro bs)):y_rd (.load none (.cst (.ptr p 0))) H K:=
 y_rd_of (v:=wv ro bs) (by simp[aread,aload,AOpd.ev,AH.cells?,hW.cell,apart]) hK
theorem wr_put {H:AH}{p:Nat}{ro:Option Nat}{bs:List UInt8}{x:UInt8}{K:AH→Prop}(hW:Wr H p ro bs) (hb:bs.length<1099511627776)
  (hK:∀H' r',H.next≤r'→Wr H' p (some r') (bs++[x])→KeepW H p ro H'→K H') :
  y_ef (.append 1 1 (.cst (wv ro bs)) (.cst (.sl H.next 0 1 (.ex 1)))) (H.push (.cells [bv x])) fun v9 h9=>y_pu (.nilCheck (.cst (.ptr p 0))) fun v10=>y_pu (.fieldAddr 0 (.cst v10)) fun v11=>y_ef (.store 1 (.cst v11) (.cst v9)) h9 fun _ h12=>K h12:=by
 have hlt:=hW.plt
 have h1:p≠H.next:=by omega
 have h2:p≠H.next+1:=by omega
 cases hW with
 | nil hp _=>
  refine y_ef_of (v:=.sl (H.next+1) 0 1 (.op 1)) (H':=(H.push (.cells [bv x])).push (.cells [bv x])) (by simp[aeff,AOpd.ev,wv,aappend,aslcells,AH.cells?,AH.get_push]) ?_
  refine y_pu_of (v:=.ptr p 0) rfl (y_pu_of (v:=.ptr p 0) rfl ?_)
  refine y_ef_of (v:=.unk) (H':=((H.push (.cells [bv x])).push (.cells [bv x])).set p (.cells [.sl (H.next+1) 0 1 (.op 1)])) (by simp[aeff,AOpd.ev,AH.cells?,AH.get_push,hp,h1,h2,AV.cellsOf,splice]) ?_
  refine hK _ (H.next+1) (by omega) (.row (bs:=[x]) ?_ ?_ (by omega) (by simp;omega) (by simp)) ⟨by simp;omega,fun q hq hqp _=>?_,rfl⟩
  ·simp[AH.get_set]
  ·have h3:H.next+1≠p:=by omega
   simp[AH.get_set,AH.get_push,h3]
  ·have h3:q≠H.next:=by omega
   have h4:q≠H.next+1:=by omega
   simp[AH.get_set,AH.get_push,hqp,h3,h4]
 | row hp hr hne hl0 hrt=>
  rename_i r
  have h0:List.take bs.length (bs.map bv)=bs.map bv:=List.take_of_length_le (by simp)
  have h3:r≠H.next:=by omega
  have h4:¬p=r:=fun e=>hne e.symm
  have h5:bs.length+1≤140737488355328:=by omega
  have h6:bs.length+1≤9223372036854775807:=by omega
  refine y_ef_of (v:=.sl (H.next+1) 0 (bs.length+1) (.op 1)) (H':=((H.push (.cells [bv x])).erase r).push (.cells (bs.map bv++[bv x]))) (by
   simp[aeff,AOpd.ev,wv,aappend,aslcells,AH.cells?,AH.get_push,hr,h3,h5,h6,h0]) ?_
  refine y_pu_of (v:=.ptr p 0) rfl (y_pu_of (v:=.ptr p 0) rfl ?_)
  refine y_ef_of (v:=.unk) (H':=(((H.push (.cells [bv x])).erase r).push (.cells (bs.map bv++[bv x]))).set p (.cells [.sl (H.next+1) 0 (bs.length+1) (.op 1)])) (by
   simp[aeff,AOpd.ev,AH.cells?,AH.get_push,AH.get_erase,hp,h1,h2,h4,AV.cellsOf,splice]) ?_
  refine hK _ (H.next+1) (by omega) (.row ?_ ?_ (by omega) (by simp;omega) (by simp)) ⟨by simp;omega,fun q hq hqp hqr=>?_,rfl⟩
  ·simp[AH.get_set]
  ·have h7:H.next+1≠p:=by omega
   simp[AH.get_set,AH.get_push,AH.get_erase,h7]
  ·have h7:q≠H.next:=by omega
   have h8:q≠H.next+1:=by omega
   have h9:q≠r:=fun e=>hqr (by rw[e])
   simp[AH.get_set,AH.get_push,AH.get_erase,hqp,h7,h8,h9]
theorem WPost.of {H H':AH}{p:Nat}{ro:Option Nat}{bs:List UInt8}(r':Nat) (h1:H.next≤r') (h2:Wr H' p (some r') bs) (h3:KeepW H p ro H'):WPost H p ro bs (.ret (.tup [])) H':=⟨rfl,r',h1,h2,h3.nx,h3.get,h3.gl⟩
end Go.AL
namespace Go.Proofs.YtdandeekdbndgaaGreatDoor
open Go Go.AL
theorem K49 {H:AH}{p:Nat}{ro:Option Nat}{bs:List UInt8}(b:Bool) (hW:Wr H p ro bs) (hb:bs.length<1099511627776) :
  ACall Tryz.prog 96 [.ptr p 0,.bool b] H (WPost H p ro (bs++[if b then 1 else 0])):=by
 refine T49 ?_
 unfold G49
 have main:∀x:UInt8,(if b then 1 else 0)=x→y_pu (.nilCheck (.cst (.ptr p 0))) fun v5=>y_pu (.fieldAddr 0 (.cst v5)) fun v6=>y_rd (.load none (.cst v6)) H fun v7=>y_ef (.buildSlice 1 1 [(N .u8 0)] [(0,1,(.cst (bv x)))]) H fun v8 h8=>
   y_ef (.append 1 1 (.cst v7) (.cst v8)) h8 fun v9 h9=>y_pu (.nilCheck (.cst (.ptr p 0))) fun v10=>y_pu (.fieldAddr 0 (.cst v10)) fun v11=>y_ef (.store 1 (.cst v11) (.cst v9)) h9 fun _ h12=>WPost H p ro (bs++[if b then 1 else 0]) (.ret (.tup [])) h12:=by
  intro x hx
  refine y_pu_of (v:=.ptr p 0) rfl (y_pu_of (v:=.ptr p 0) rfl (wr_ld hW ?_))
  refine y_ef_of (v:=.sl H.next 0 1 (.ex 1)) (H':=H.push (.cells [bv x])) (by simp[aeff,afill,AOpd.ev,AV.cellsOf,bv,N]) ?_
  refine wr_put hW hb fun H' r' q1 q2 q3=>?_
  rw[hx]
  exact .of r' q1 q2 q3
 refine y_if_of (fun hb=>?_) (fun hb=>?_)
 ·subst hb;exact main 1 rfl
 ·subst hb;exact main 0 rfl
end Go.Proofs.YtdandeekdbndgaaGreatDoor
namespace Go.AL
open Co
variable {P:Program}
theorem y_call_of {g:FuncId}{ar:List AV}{H:AH}{post:AOut→AH→Prop}{Kp K:AV→AH→Prop}(hC:ACall P g ar H post) (hK:∀v H',post (.ret v) H'→K v H') (hP:∀v H',post (.pan v) H'→Kp v H'):y_call P g ar H Kp K:=
 hC.mono fun o H' h=>by cases o with
  | ret v=>exact hK v H' h
  | pan v=>exact hP v H' h
theorem y_cl_of {fv:AV}{ar:List AV}{H:AH}{post:AOut→AH→Prop}{Kp K:AV→AH→Prop}(hC:ACallV P fv ar H post) (hK:∀v H',post (.ret v) H'→K v H') (hP:∀v H',post (.pan v) H'→Kp v H'):y_cl P fv ar H Kp K:=by
 unfold ACallV at hC
 split at hC
 ·rename_i g first cap
  show y_call P g (kapp first (kapp ar cap)) H Kp K
  rw[kapp_eq,kapp_eq,←List.append_assoc]
  exact y_call_of hC hK hP
 ·exact hC.elim
theorem WPost.pan {H H':AH}{p:Nat}{ro:Option Nat}{bs:List UInt8}{v:AV}{K:Prop}(h:WPost H p ro bs (.pan v) H'):K:=by cases h.1
theorem WPost.get {H H':AH}{p:Nat}{ro:Option Nat}{bs:List UInt8}{v:AV}(h:WPost H p ro bs (.ret v) H'):v=.tup []∧∃r',H.next≤r'∧Wr H' p (some r') bs∧KeepW H p ro H':=by
 obtain⟨h1,r',h2,h3,h4,h5,h6⟩:=h
 cases h1
 exact⟨rfl,r',h2,h3,h4,h5,h6⟩
def KpL (L:List (Nat × List AV)) (p:Nat) (H:AH) (ro:Option Nat):Prop:=∀x∈L,x.1<H.next∧x.1≠p∧some x.1≠ro∧H.get x.1=some (.cells x.2)
theorem KpL.keep {L:List (Nat × List AV)}{p:Nat}{H H':AH}{ro:Option Nat}{r':Nat}(h:KpL L p H ro) (hk:KeepW H p ro H') (hr:H.next≤r'):KpL L p H' (some r'):=fun x hx=>by
 obtain⟨h1,h2,h3,h4⟩:=h x hx
 have:=hk.nx
 exact⟨by omega,h2,by simp only[ne_eq,Option.some.injEq];omega,by rw[hk.get _ h1 h2 h3];exact h4⟩
def bnd:Nat:=1099511627776
def Step1 (P:Program) (L:List (Nat × List AV)) (p:Nat) (fv x:AV) (o:List UInt8):Prop:=∀H ro bs,Wr H p ro bs→KpL L p H ro→(bs++o).length<bnd→ACallV P fv [x] H (WPost H p ro (bs++o))
inductive Frz (z:Nat):AV→List AV→Nat→Prop
 | nil:Frz z .nils [] 0
 | sim {c:List AV} {n:Nat} {ex:Bool} (h:c.length=n*z):Frz z (.sim c n ex) c n
def putA (P:Program) (v0 v1 v2:AV) (h:AH) (Post:AOut→AH→Prop):Prop:=(
 y_pu (.len (.cst v1)) fun v3=>
 y_call P 43 [v0,v3] h (yp Post) fun v4 h4=>
 y_pu (.len (.cst v1)) fun v5=>
 y_loop [2,12,13,14] (fun J6=>(fun(v7 v8 v9 v10:AV) (h11:AH)=>
 y_pu (.bin .lss (.cst v10) (.cst v9)) fun v12=>
 y_if0 v12
 (y_pu (.indexAddrS 1 (.cst v8) (.cst v10)) fun v13=>
 y_rd (.load none (.cst v13)) h11 fun v14=>
 y_cl P v7 [v14] h11 (yp Post) fun v15 h15=>
 y_pu (.bin .add (.cst v10) (.cst (I 1))) fun v16=>
 J6 v7 v8 v9 v16 h15)
 (Post (.ret (.tup [])) h11))) ((((jenv.set 2 v2).set 12 v1).set 13 v5).set 14 (I 0)) h4)
def N18 (P:Program):Prop:=∀{H:AH}{p:Nat}{ro:Option Nat}{bs:List UInt8}{n:Int},I64 n→Wr H p ro bs→(bs++encN n).length<bnd→ACall P 43 [.ptr p 0,.int .i64 n] H (WPost H p ro (bs++encN n))
theorem putA_ok (h18:N18 P){L:List (Nat × List AV)}{H:AH}{p:Nat}{ro:Option Nat}{bs:List UInt8}{v1 fv:AV}{cs:List AV}{n:Nat}{os:List (List UInt8)}(hf:Frz 1 v1 cs n) (hn:I64 (n:Int)) (ho:os.length=n)
  (hW:Wr H p ro bs) (hL:KpL L p H ro) (hs:∀(i:Nat) (x:AV) (o:List UInt8),cs[i]?=some x→os[i]?=some o→Step1 P L p fv x o) (hb:(bs++(encN n++os.flatten)).length<bnd) :
  putA P (.ptr p 0) v1 fv H (WPost H p ro (bs++(encN n++os.flatten))):=by
 have hlen:apure (.len (.cst v1)) emp=some (.int .i64 (n:Int)):=by cases hf<;>rfl
 unfold putA
 refine y_pu_of hlen ?_
 have hb0:(bs++encN n).length<bnd:=by simp only[List.length_append]at hb ⊢;omega
 refine y_call_of (h18 hn hW hb0) (fun v H1 h1=>?_) (fun v H1 h1=>h1.pan)
 obtain⟨rfl,r1,q1,q2,q3⟩:=h1.get
 refine y_pu_of hlen ?_
 let I:AV→AV→AV→AV→AH→Prop:=fun a b c d H'=>a=fv∧b=v1∧c=.int .i64 (n:Int)∧∃(i r':Nat),d=.int .i64 (i:Int)∧i≤n∧H.next≤r'∧Wr H' p (some r') (bs++(encN n++(os.take i).flatten))∧KeepW H p ro H'
 let μ:AV→AV→AV→AV→AH→Nat:=fun _ _ _ d _=>match d with
  | .int _ j=>(n-j).toNat
  | _=>0
 refine⟨I,μ,⟨rfl,rfl,rfl,0,r1,rfl,Nat.zero_le _,q1,by simpa using q2,q3⟩,?_⟩
 intro e H2 hI
 obtain⟨e1,e2,e3,i,r',e4,hi,hr',hw,hk⟩:=(hI:I (e 2) (e 12) (e 13) (e 14) H2)
 show y_pu (.bin .lss (.cst (e 14)) (.cst (e 13))) _
 rw[e4,e3]
 refine y_pu_of (v:=.bool (decide ((i:Int)<n))) rfl (y_if0_of (fun ht=>?_) (fun ht=>?_))
 ·have hlt:i<n:=by have:=of_decide_eq_true ht;omega
  rw[e2,e1]
  have hc:∃x,cs[i]?=some x∧apure (.indexAddrS 1 (.cst v1) (.cst (.int .i64 (i:Int)))) emp=some (.pim cs i):=by
   cases hf with
   | nil=>omega
   | sim h=>
    refine⟨cs[i]'(by omega),List.getElem?_eq_getElem (by omega),?_⟩
    have h1:(0:Int)≤(i:Int)∧(i:Int)<(n:Int):=by omega
    simp[apure,AOpd.ev,aidxS,h1]
  obtain⟨x,hx,hc⟩:=hc
  obtain⟨o,ho'⟩:∃o,os[i]?=some o:=⟨os[i]'(by omega),List.getElem?_eq_getElem (by omega)⟩
  refine y_pu_of hc (y_rd_of (v:=x) (by simpa[aread,aload,AOpd.ev,apart]using hx) ?_)
  have ht1:(os.take (i+1)).flatten=(os.take i).flatten++o:=by
   rw[List.take_add_one,ho'];simp
  have hsub:(os.take (i+1)).flatten.length≤os.flatten.length:=by
   conv=>rhs;rw[←List.take_append_drop (i+1) os]
   rw[List.flatten_append,List.length_append];omega
  have hb1:((bs++(encN n++(os.take i).flatten))++o).length<bnd:=by
   rw[ht1]at hsub
   simp only[List.length_append]at hb hsub ⊢;omega
  refine y_cl_of (hs i x o hx ho' H2 (some r') _ hw (hL.keep hk hr') hb1) (fun v H3 h3=>?_) (fun v H3 h3=>h3.pan)
  obtain⟨rfl,r2,w1,w2,w3⟩:=h3.get
  have hwr:IntKind.i64.wrap ((i:Int)+1)=((i+1:Nat):Int):=by
   have:((i+1:Nat):Int)=(i:Int)+1:=by omega
   rw[this]
   rw[wrap_i64];have h9:=hn.2;split<;>omega
  refine y_pu_of (v:=.int .i64 ((i+1:Nat):Int)) (by show some (AV.int .i64 (IntKind.i64.wrap ((i:Int)+1)))=_;rw[hwr]) ?_
  have hnx:=hk.nx
  refine⟨⟨rfl,rfl,rfl,i+1,r2,rfl,hlt,by omega,?_,hk.trans (fun r hr=>?_) w3⟩,?_⟩
  ·rw[ht1];simpa[List.append_assoc]using w2
  ·cases hr;exact .inl hr'
  ·show((n:Int)-((i+1:Nat):Int)).toNat<μ (e 2) (e 12) (e 13) (e 14) H2
   rw[e4]
   show((n:Int)-((i+1:Nat):Int)).toNat<((n:Int)-(i:Int)).toNat
   omega
 ·have hge:i=n:=by have:=of_decide_eq_false ht;omega
  subst hge
  rw[←ho,List.take_length]at hw
  rw[←ho]
  exact .of r' hr' hw hk
end Go.AL
namespace Go.AL
open Co
variable {P:Program}
structure KeepN (H H':AH):Prop where
 nx:H.next≤H'.next
 get:∀q,q<H.next→H'.get q=H.get q
 gl:H'.gl=H.gl
theorem KeepN.w {H H':AH}(h:KeepN H H') (p:Nat) (ro:Option Nat):KeepW H p ro H':=⟨h.nx,fun q hq _ _=>h.get q hq,h.gl⟩
theorem KeepN.push (H:AH) (o:AObj):KeepN H (H.push o):=⟨by simp,fun q hq=>AH.get_push_ne _ _ (by omega),rfl⟩
theorem KeepN.trans {H H1 H2:AH}(h1:KeepN H H1) (h2:KeepN H1 H2):KeepN H H2:=⟨Nat.le_trans h1.nx h2.nx,fun q hq=>by have:=h1.nx;rw[h2.get q (by omega),h1.get q hq],h2.gl.trans h1.gl⟩
theorem Wr.keepN {H H':AH}{p:Nat}{ro:Option Nat}{bs:List UInt8}(hW:Wr H p ro bs) (h:KeepN H H'):Wr H' p ro bs:=by
 have hn:=h.nx
 cases hW with
 | nil hp hlt=>exact .nil (by rw[h.get _ hlt];exact hp) (by omega)
 | row hp hr hne hlt hrt=>exact .row (by rw[h.get _ hlt];exact hp) (by rw[h.get _ hrt];exact hr) hne (by omega) (by omega)
theorem KpL.keepN {L:List (Nat × List AV)}{p:Nat}{H H':AH}{ro:Option Nat}(h:KpL L p H ro) (hk:KeepN H H'):KpL L p H' ro:=fun x hx=>by
 obtain⟨h1,h2,h3,h4⟩:=h x hx
 have:=hk.nx
 exact⟨by omega,h2,h3,by rw[hk.get _ h1];exact h4⟩
theorem copy_new {k:Nat}{z c:List AV}{H:AH}{K:AV→AH→Prop}(hz:z.length=k) (hc:c.length=k) (hK:∀H',KeepN H H'→H'.get H.next=some (.cells c)→K (.agg c) H') :
  y_ef (.alloc z) H fun v15 h15=>y_ef (.store k (.cst v15) (.cst (.agg c))) h15 fun _ h16=>y_rd (.load (some k) (.cst v15)) h16 fun v17=>K v17 h16:=by
 refine y_ef_of (v:=.ptr H.next 0) (H':=H.push (.cells z)) rfl ?_
 have hs:splice z 0 c=c:=by rw[splice_eq (by omega)];simp[hc,hz]
 refine y_ef_of (v:=.unk) (H':=(H.push (.cells z)).set H.next (.cells c)) (by simp[aeff,AOpd.ev,AH.cells?,AH.get_push,AV.cellsOf,hs,hc,hz]) ?_
 refine y_rd_of (v:=.agg c) (by simp[aread,aload,AOpd.ev,AH.cells?,AH.get_set,apart,hc];exact List.take_of_length_le (by omega)) ?_
 refine hK _ ⟨by simp,fun q hq=>?_,rfl⟩ (by simp[AH.get_set])
 have:q≠H.next:=by omega
 simp[AH.get_set,AH.get_push,this]
theorem box_new {x:AV}{c:List AV}{H:AH}{K:AV→AH→Prop}(hx:x.cellsOf=some c) (hK:K (.ptr H.next 0) (H.push (.cells c))):y_ef (.box (.cst x)) H K:=
 y_ef_of (v:=.ptr H.next 0) (H':=H.push (.cells c)) (by simp[aeff,AOpd.ev,hx]) hK
def putB (P:Program) (k:Nat) (z:List AV) (v0 v1 v2:AV) (h:AH) (Post:AOut→AH→Prop):Prop:=(
 y_pu (.len (.cst v1)) fun v3=>
 y_call P 43 [v0,v3] h (yp Post) fun v4 h4=>
 y_pu (.len (.cst v1)) fun v5=>
 y_loop [2,12,13,14] (fun J6=>(fun(v7 v8 v9 v10:AV) (h11:AH)=>
 y_pu (.bin .lss (.cst v10) (.cst v9)) fun v12=>
 y_if0 v12
 (y_pu (.indexAddrS k (.cst v8) (.cst v10)) fun v13=>
 y_rd (.load (some k) (.cst v13)) h11 fun v14=>
 y_ef (.alloc z) h11 fun v15 h15=>
 y_ef (.store k (.cst v15) (.cst v14)) h15 fun v16 h16=>
 y_rd (.load (some k) (.cst v15)) h16 fun v17=>
 y_cl P v7 [v17] h16 (yp Post) fun v18 h18=>
 y_pu (.bin .add (.cst v10) (.cst (I 1))) fun v19=>
 J6 v7 v8 v9 v19 h18)
 (Post (.ret (.tup [])) h11))) ((((jenv.set 2 v2).set 12 v1).set 13 v5).set 14 (I 0)) h4)
theorem putB_ok (h18:N18 P){k:Nat}{z:List AV}(hz:z.length=k){L:List (Nat × List AV)}{H:AH}{p:Nat}{ro:Option Nat}{bs:List UInt8}{v1 fv:AV}{cs:List AV}{n:Nat}{os:List (List UInt8)}(hf:Frz k v1 cs n) (hn:I64 (n:Int)) (ho:os.length=n)
  (hW:Wr H p ro bs) (hL:KpL L p H ro) (hs:∀(i:Nat) (o:List UInt8),os[i]?=some o→Step1 P L p fv (.agg ((cs.drop (i*k)).take k)) o) (hb:(bs++(encN n++os.flatten)).length<bnd) :
  putB P k z (.ptr p 0) v1 fv H (WPost H p ro (bs++(encN n++os.flatten))):=by
 have hlen:apure (.len (.cst v1)) emp=some (.int .i64 (n:Int)):=by cases hf<;>rfl
 unfold putB
 refine y_pu_of hlen ?_
 have hb0:(bs++encN n).length<bnd:=by simp only[List.length_append]at hb ⊢;omega
 refine y_call_of (h18 hn hW hb0) (fun v H1 h1=>?_) (fun v H1 h1=>h1.pan)
 obtain⟨rfl,r1,q1,q2,q3⟩:=h1.get
 refine y_pu_of hlen ?_
 let I:AV→AV→AV→AV→AH→Prop:=fun a b c d H'=>a=fv∧b=v1∧c=.int .i64 (n:Int)∧∃(i r':Nat),d=.int .i64 (i:Int)∧i≤n∧H.next≤r'∧Wr H' p (some r') (bs++(encN n++(os.take i).flatten))∧KeepW H p ro H'
 let μ:AV→AV→AV→AV→AH→Nat:=fun _ _ _ d _=>match d with
  | .int _ j=>(n-j).toNat
  | _=>0
 refine⟨I,μ,⟨rfl,rfl,rfl,0,r1,rfl,Nat.zero_le _,q1,by simpa using q2,q3⟩,?_⟩
 intro e H2 hI
 obtain⟨e1,e2,e3,i,r',e4,hi,hr',hw,hk⟩:=(hI:I (e 2) (e 12) (e 13) (e 14) H2)
 show y_pu (.bin .lss (.cst (e 14)) (.cst (e 13))) _
 rw[e4,e3]
 refine y_pu_of (v:=.bool (decide ((i:Int)<n))) rfl (y_if0_of (fun ht=>?_) (fun ht=>?_))
 ·have hlt:i<n:=by have:=of_decide_eq_true ht;omega
  rw[e2,e1]
  have hc:((cs.drop (i*k)).take k).length=k∧i*k+k≤cs.length∧apure (.indexAddrS k (.cst v1) (.cst (.int .i64 (i:Int)))) emp=some (.pim cs (i*k)):=by
   cases hf with
   | nil=>omega
   | sim h=>
    have hm:i*k+k≤n*k:=by
     have:(i+1)*k≤n*k:=Nat.mul_le_mul_right k hlt
     rw[Nat.add_mul,Nat.one_mul]at this;exact this
    refine⟨?_,by omega,?_⟩
    ·rw[List.length_take,List.length_drop];omega
    ·have h1:(0:Int)≤(i:Int)∧(i:Int)<(n:Int):=by omega
     simp[apure,AOpd.ev,aidxS,h1]
  obtain⟨hcl,hcm,hc⟩:=hc
  obtain⟨o,ho'⟩:∃o,os[i]?=some o:=⟨os[i]'(by omega),List.getElem?_eq_getElem (by omega)⟩
  refine y_pu_of hc (y_rd_of (v:=.agg ((cs.drop (i*k)).take k)) (by simp[aread,aload,AOpd.ev,apart,hcm]) ?_)
  refine copy_new hz hcl fun H3 hk3 _=>?_
  have ht1:(os.take (i+1)).flatten=(os.take i).flatten++o:=by
   rw[List.take_add_one,ho'];simp
  have hsub:(os.take (i+1)).flatten.length≤os.flatten.length:=by
   conv=>rhs;rw[←List.take_append_drop (i+1) os]
   rw[List.flatten_append,List.length_append];omega
  have hb1:((bs++(encN n++(os.take i).flatten))++o).length<bnd:=by
   rw[ht1]at hsub
   simp only[List.length_append]at hb hsub ⊢;omega
  refine y_cl_of (hs i o ho' H3 (some r') _ (hw.keepN hk3) ((hL.keep hk hr').keepN hk3) hb1) (fun v H4 h4=>?_) (fun v H4 h4=>h4.pan)
  obtain⟨rfl,r2,w1,w2,w3⟩:=h4.get
  have hwr:IntKind.i64.wrap ((i:Int)+1)=((i+1:Nat):Int):=by
   have:((i+1:Nat):Int)=(i:Int)+1:=by omega
   rw[this,wrap_i64];have h9:=hn.2;split<;>omega
  refine y_pu_of (v:=.int .i64 ((i+1:Nat):Int)) (by show some (AV.int .i64 (IntKind.i64.wrap ((i:Int)+1)))=_;rw[hwr]) ?_
  have hnx:=hk.nx
  have hnx3:=hk3.nx
  refine⟨⟨rfl,rfl,rfl,i+1,r2,rfl,hlt,by omega,?_,(hk.trans (fun r hr=>?_) (hk3.w p (some r'))).trans (fun r hr=>?_) w3⟩,?_⟩
  ·rw[ht1];simpa[List.append_assoc]using w2
  ·cases hr;exact .inl hr'
  ·cases hr;exact .inl hr'
  ·show((n:Int)-((i+1:Nat):Int)).toNat<μ (e 2) (e 12) (e 13) (e 14) H2
   rw[e4]
   show((n:Int)-((i+1:Nat):Int)).toNat<((n:Int)-(i:Int)).toNat
   omega
 ·have hge:i=n:=by have:=of_decide_eq_false ht;omega
  subst hge
  rw[←ho,List.take_length]at hw
  rw[←ho]
  exact .of r' hr' hw hk
end Go.AL
namespace Go.AL
open Co
variable {P:Program}
def tsz:Ty→Nat
 | .pair a b=>tsz a+tsz b
 | .vec n=>n / 8
 | _=>1
def w8:List UInt8→Nat
 | []=>0
 | x::l=>x.toNat+256*w8 l
def RC:(t:Ty)→t.D→List AV→Prop
 | .int,n,c=>c=[.int .i64 n]
 | .byte,x,c=>c=[bv x]
 | .bool,b,c=>c=[.bool b]
 | .list t,l,c=>∃v cs,c=[v]∧Frz (tsz t) v cs (asL l).length∧∃css:List (List AV),cs=css.flatten∧css.length=(asL l).length∧∀(i:Nat) (x:t.D) (y:List AV),(asL l)[i]?=some x→css[i]?=some y→RC t x y
 | .pair a b,p,c=>∃c1 c2,c=c1++c2∧RC a p.1 c1∧RC b p.2 c2
 | .vec n,l,c=>(asV l).length=n∧c.length=n / 8∧∀i,i<n / 8→c[i]?=some (.int .u64 ((w8 (((asV l).drop (8*i)).take 8):Nat):Int))
theorem RC_len:∀(t:Ty) (d:t.D) (c:List AV),RC t d c→c.length=tsz t
 | .int,_,c,h=>by have h:c=_:=h;subst h;rfl
 | .byte,_,c,h=>by have h:c=_:=h;subst h;rfl
 | .bool,_,c,h=>by have h:c=_:=h;subst h;rfl
 | .list _,_,c,h=>by obtain⟨v,cs,rfl,_⟩:=h;rfl
 | .pair a b,d,c,h=>by
  obtain⟨c1,c2,rfl,h1,h2⟩:=h
  rw[List.length_append,RC_len a _ _ h1,RC_len b _ _ h2];rfl
 | .vec n,_,c,h=>h.2.1
theorem flat_idx {z:Nat}:∀(css:List (List AV)) (i:Nat) (y:List AV),(∀x∈css,x.length=z)→css[i]?=some y→(css.flatten.drop (i*z)).take z=y
 | [],i,y,_,h=>by simp at h
 | x::css,0,y,hz,h=>by
  have hx:x.length=z:=hz x (.head _)
  have e:x=y:=by simpa using h
  subst e
  simp only[List.flatten_cons,Nat.zero_mul,List.drop_zero]
  rw[List.take_append_of_le_length (by omega),List.take_of_length_le (by omega)]
 | x::css,i+1,y,hz,h=>by
  have hx:x.length=z:=hz x (.head _)
  have h':css[i]?=some y:=by simpa using h
  have:=flat_idx css i y (fun w hw=>hz w (.tail _ hw)) h'
  rw[←this]
  have e:(i+1)*z=x.length+i*z:=by rw[Nat.add_mul,Nat.one_mul,hx];omega
  simp only[List.flatten_cons]
  rw[e,←List.drop_drop,List.drop_left]
theorem flat_len {z:Nat}:∀(css:List (List AV)),(∀x∈css,x.length=z)→css.flatten.length=css.length*z
 | [],_=>by simp
 | x::css,hz=>by
  rw[List.flatten_cons,List.length_append,flat_len css fun w hw=>hz w (.tail _ hw),hz x (.head _),List.length_cons,Nat.add_mul];omega
def StepA (P:Program) (L:List (Nat × List AV)) (p:Nat) (fv:AV) (t:Ty):Prop:=∀(d:t.D) (x:AV),RC t d [x]→t.wf d→Step1 P L p fv x (t.enc d)
def StepB (P:Program) (L:List (Nat × List AV)) (p:Nat) (fv:AV) (t:Ty):Prop:=∀(d:t.D) (c:List AV),RC t d c→t.wf d→Step1 P L p fv (.agg c) (t.enc d)
theorem list_parts {t:Ty}{l:(Ty.list t).D}{v1:AV}(hr:RC (.list t) l [v1]):∃cs css,Frz (tsz t) v1 cs (asL l).length∧cs=List.flatten css∧css.length=(asL l).length∧(∀x∈css,x.length=tsz t) ∧
  ∀(i:Nat) (x:t.D) (y:List AV),(asL l)[i]?=some x→css[i]?=some y→RC t x y:=by
 obtain⟨v,cs,e,hf,css,h1,h2,h3⟩:=hr
 have e:v1=v:=by simpa using e
 subst e
 refine⟨cs,css,hf,h1,h2,fun x hx=>?_,h3⟩
 obtain⟨i,hi⟩:=List.getElem?_of_mem hx
 have hlt:i<css.length:=by
  rcases Nat.lt_or_ge i css.length with h | h
  ·exact h
  ·rw[List.getElem?_eq_none h]at hi;cases hi
 exact RC_len t _ _ (h3 i _ x (List.getElem?_eq_getElem (by omega)) hi)
theorem putA_list (h18:N18 P){t:Ty}(hz:tsz t=1){L:List (Nat × List AV)}{H:AH}{p:Nat}{ro:Option Nat}{bs:List UInt8}{v1 fv:AV}{l:(Ty.list t).D}(hr:RC (.list t) l [v1]) (hw:(Ty.list t).wf l)
  (hW:Wr H p ro bs) (hL:KpL L p H ro) (hs:StepA P L p fv t) (hb:(bs++(Ty.list t).enc l).length<bnd):putA P (.ptr p 0) v1 fv H (WPost H p ro (bs++(Ty.list t).enc l)):=by
 obtain⟨cs,css,hf,h1,h2,h3,h4⟩:=list_parts hr
 have he:(Ty.list t).enc l=encN ((asL l).length:Int)++((asL l).map t.enc).flatten:=by
  show _++(asL l).flatMap t.enc=_
  rw[List.flatMap_def]
 rw[he]at hb ⊢
 rw[hz]at hf
 refine putA_ok h18 hf hw.1 (by simp) hW hL (fun i x o hx ho=>?_) hb
 rw[List.getElem?_map,Option.map_eq_some_iff]at ho
 obtain⟨d,hd,rfl⟩:=ho
 have hlt:i<(asL l).length:=by
  rcases Nat.lt_or_ge i (asL l).length with h | h
  ·exact h
  ·rw[List.getElem?_eq_none h]at hd;cases hd
 have hc:css[i]?=some (css[i]'(by omega)):=List.getElem?_eq_getElem (by omega)
 have hR:=h4 i d _ hd hc
 have hy:=flat_idx css i _ h3 hc
 rw[hz,Nat.mul_one,←h1]at hy
 have hx':[x]=css[i]'(by omega):=by
  rw[←hy]
  have:cs.drop i=x::cs.drop (i+1):=by
   have hi:i<cs.length:=by
    rcases Nat.lt_or_ge i cs.length with h | h
    ·exact h
    ·rw[List.getElem?_eq_none h]at hx;cases hx
   rw[List.drop_eq_getElem_cons hi]
   rw[List.getElem?_eq_getElem hi]at hx
   simp only[Option.some.injEq]at hx
   rw[hx]
  rw[this];rfl
 rw[←hx']at hR
 exact hs d x hR (hw.2 d (List.mem_of_getElem? hd))
theorem putB_list (h18:N18 P){t:Ty}{z:List AV}(hz:z.length=tsz t){L:List (Nat × List AV)}{H:AH}{p:Nat}{ro:Option Nat}{bs:List UInt8}{v1 fv:AV}{l:(Ty.list t).D}(hr:RC (.list t) l [v1]) (hw:(Ty.list t).wf l)
  (hW:Wr H p ro bs) (hL:KpL L p H ro) (hs:StepB P L p fv t) (hb:(bs++(Ty.list t).enc l).length<bnd):putB P (tsz t) z (.ptr p 0) v1 fv H (WPost H p ro (bs++(Ty.list t).enc l)):=by
 obtain⟨cs,css,hf,h1,h2,h3,h4⟩:=list_parts hr
 have he:(Ty.list t).enc l=encN ((asL l).length:Int)++((asL l).map t.enc).flatten:=by
  show _++(asL l).flatMap t.enc=_
  rw[List.flatMap_def]
 rw[he]at hb ⊢
 refine putB_ok h18 hz hf hw.1 (by simp) hW hL (fun i o ho=>?_) hb
 rw[List.getElem?_map,Option.map_eq_some_iff]at ho
 obtain⟨d,hd,rfl⟩:=ho
 have hlt:i<(asL l).length:=by
  rcases Nat.lt_or_ge i (asL l).length with h | h
  ·exact h
  ·rw[List.getElem?_eq_none h]at hd;cases hd
 have hc:css[i]?=some (css[i]'(by omega)):=List.getElem?_eq_getElem (by omega)
 have hR:=h4 i d _ hd hc
 have hy:=flat_idx css i _ h3 hc
 rw[←h1]at hy
 rw[hy]
 exact hs d _ hR (hw.2 d (List.mem_of_getElem? hd))
end Go.AL
namespace Go.AL
open Co
variable {P:Program}
structure St (H0:AH) (p:Nat) (ro0:Option Nat) (L:List (Nat × List AV)) (H:AH) (ro:Option Nat) (bs:List UInt8):Prop where
 w:Wr H p ro bs
 k:KpL L p H ro
 kw:KeepW H0 p ro0 H
 fr:ro=ro0∨∃r,ro=some r∧H0.next≤r
section
variable {H0 H:AH}{p:Nat}{ro0 ro:Option Nat}{L:List (Nat × List AV)}{bs bs':List UInt8}{Post:AOut→AH→Prop}
theorem St.start (hW:Wr H p ro bs) (hL:KpL L p H ro):St H p ro L H ro bs:=⟨hW,hL,KeepW.refl _ _ _,.inl rfl⟩
theorem St.newN {H':AH}(h:St H0 p ro0 L H ro bs) (hk:KeepN H H'):St H0 p ro0 L H' ro bs:=by
 refine⟨h.w.keepN hk,h.k.keepN hk,h.kw.trans (ro1:=ro) (fun r hr=>?_) (hk.w p ro),h.fr⟩
 rcases h.fr with e | ⟨r1,e1,e2⟩
 ·exact .inr (by rw[←e,hr])
 ·rw[hr]at e1;cases e1;exact .inl e2
theorem St.push {c:List AV}(h:St H0 p ro0 L H ro bs):St H0 p ro0 ((H.next,c)::L) (H.push (.cells c)) ro bs:=by
 have h1:=h.newN (KeepN.push H (.cells c))
 refine⟨h1.w,fun x hx=>?_,h1.kw,h1.fr⟩
 cases hx with
 | head=>
  have hp:=h.w.plt
  refine⟨by simp,by show H.next≠p;omega,?_,by simp⟩
  have hw:=h.w
  cases hw with
  | nil _ _=>simp
  | row _ _ _ _ hrt=>simp only[ne_eq,Option.some.injEq];show H.next≠_;omega
 | tail _ hx=>exact h1.k x hx
theorem St.box {x:AV}{c:List AV}{K:AV→AH→Prop}(h:St H0 p ro0 L H ro bs) (hx:x.cellsOf=some c) (hK:∀H',St H0 p ro0 ((H.next,c)::L) H' ro bs→K (.ptr H.next 0) H'):y_ef (.box (.cst x)) H K:=
 box_new hx (hK _ h.push)
theorem St.call {g:FuncId}{ar:List AV}{K:AV→AH→Prop}(h:St H0 p ro0 L H ro bs) (hC:ACall P g ar H (WPost H p ro bs')) (hK:∀H' r',St H0 p ro0 L H' (some r') bs'→H0.next≤r'→K (.tup []) H'):y_call P g ar H (yp Post) K:=by
 refine y_call_of hC (fun v H' h'=>?_) (fun v H' h'=>h'.pan)
 obtain⟨rfl,r',q1,q2,q3⟩:=h'.get
 have hn:=h.kw.nx
 refine hK H' r' ⟨q2,h.k.keep q3 q1,h.kw.trans (ro1:=ro) (fun r hr=>?_) q3,.inr ⟨r',rfl,by omega⟩⟩ (by omega)
 rcases h.fr with e | ⟨r1,e1,e2⟩
 ·exact .inr (by rw[←e,hr])
 ·rw[hr]at e1;cases e1;exact .inl e2
theorem St.fin {r:Nat}(h:St H0 p ro0 L H (some r) bs) (hr:H0.next≤r):WPost H0 p ro0 bs (.ret (.tup [])) H:=.of r hr h.w h.kw
theorem St.ld {q o:Nat}{c:List AV}{x:AV}{K:AV→Prop}(h:St H0 p ro0 L H ro bs) (hm:(q,c)∈L) (hx:c[o]?=some x) (hK:K x):y_rd (.load none (.cst (.ptr q o))) H K:=by
 obtain⟨_,_,_,h4⟩:=h.k _ hm
 exact y_rd_of (v:=x) (by simpa[aread,aload,AOpd.ev,AH.cells?,h4,apart]using hx) hK
end
def PUT (P:Program) (g:FuncId) (t:Ty):Prop:=∀{H:AH}{p:Nat}{ro:Option Nat}{bs:List UInt8}{d:t.D}{x:AV},RC t d [x]→t.wf d→Wr H p ro bs→(bs++t.enc d).length<bnd→ACall P g [.ptr p 0,x] H (WPost H p ro (bs++t.enc d))
theorem PUT.step {g:FuncId}{t:Ty}(h:PUT P g t) (L:List (Nat × List AV)) (p:Nat):StepA P L p (.fn (.func g) [.ptr p 0] []) t:=fun _ _ hR hw _ _ _ hW _ hb=>h hR hw hW hb
end Go.AL
namespace Go.Proofs.YtdandeekdbndgaaGreatDoor
open Go Go.AL Go.AL.Co
theorem F18:Fun Tryz.prog 43 42 a18 a18q:=Fun.mk' (fn:=Tryz.f43) (hs:=[]) mix (by kernel_rfl) (by kernel_rfl) (by kernel_rfl) (by kernel_rfl) (by kernel_rfl) (by kernel_rfl)
theorem n18:N18 Tryz.prog:=fun hn hW hb=>c18 F18 hn hW hb
theorem P18:PUT Tryz.prog 43 .int:=fun{H p ro bs d x} hR hw hW hb=>by
 have hR:[x]=[.int .i64 d]:=hR
 cases hR
 exact n18 hw hW hb
theorem P49:PUT Tryz.prog 96 .bool:=fun{H p ro bs d x} hR _ hW hb=>by
 have hR:[x]=[.bool d]:=hR
 cases hR
 have:=K49 (H:=H) (p:=p) (ro:=ro) (bs:=bs) d hW (by simp only[List.length_append]at hb;show _<bnd;omega)
 cases d<;>exact this
theorem P56:PUT Tryz.prog 103 .byte:=fun{H p ro bs d x} hR _ hW hb=>by
 have hR:[x]=[bv d]:=hR
 cases hR
 refine T56 ?_
 unfold G56
 refine y_pu_of (v:=.ptr p 0) rfl (y_pu_of (v:=.ptr p 0) rfl (wr_ld hW ?_))
 refine y_ef_of (v:=.sl H.next 0 1 (.ex 1)) (H':=H.push (.cells [bv d])) (by simp[aeff,afill,AOpd.ev,AV.cellsOf,bv,N]) ?_
 exact wr_put hW (by simp only[List.length_append]at hb;show _<bnd;omega) fun H' r' q1 q2 q3=>.of r' q1 q2 q3
theorem P20:PUT Tryz.prog 45 tInts:=fun{H p ro bs d x} hR hw hW hb=>by
 refine T20 ?_
 unfold G20
 refine(St.start (L:=[]) hW (fun _ h=>by cases h)).call (T60 (?_:putA Tryz.prog (.ptr p 0) x (.fn (.func 43) [.ptr p 0] []) H _)) fun H' r' h' hr=>h'.fin hr
 exact putA_list n18 rfl hR hw hW (fun _ h=>by cases h) (P18.step [] p) hb
theorem S62 {L:List (Nat × List AV)}{p q:Nat}(hq:(q,[AV.ptr p 0])∈L):StepB Tryz.prog L p (.fn (.func 109) [] [.ptr q 0]) tItem:=by
 intro d c hR hw H ro bs hW hL hb
 obtain⟨c1,c2,rfl,h1,h2⟩:=hR
 have h1:c1=[.int .i64 d.1]:=h1
 have h2:c2=[bv d.2]:=h2
 subst h1 h2
 have he:tItem.enc d=encN d.1++([(d.2:UInt8)]:List UInt8):=rfl
 rw[he]at hb ⊢
 refine T62 ?_
 unfold G62
 refine(St.start hW hL).box rfl fun H1 s1=>?_
 refine s1.ld (.tail _ hq) rfl (y_pu_of (v:=.ptr H.next 0) rfl (s1.ld (.head _) rfl ?_))
 refine s1.call (n18 hw.1 s1.w (by simp only[List.length_append]at hb ⊢;omega)) fun H2 r2 s2 _=>?_
 refine s2.ld (.tail _ hq) rfl (y_pu_of (v:=.ptr H.next 1) rfl (s2.ld (.head _) rfl ?_))
 refine s2.call (P56 rfl trivial s2.w (by rw[List.append_assoc];exact hb)) fun H3 r3 s3 hr=>?_
 have:=s3.fin hr
 rw[List.append_assoc]at this;exact this
theorem P26:PUT Tryz.prog 51 tItems:=fun{H p ro bs d x} hR hw hW hb=>by
 refine T26 ?_
 unfold G26
 refine(St.start (L:=[]) hW (fun _ h=>by cases h)).box rfl fun H1 s1=>?_
 refine s1.ld (.head _) rfl ?_
 refine s1.call (T61 (?_:putB Tryz.prog 2 [(I 0),(N .u8 0)] (.ptr p 0) x (.fn (.func 109) [] [.ptr H.next 0]) H1 _)) fun H2 r2 s2 hr=>s2.fin hr
 exact putB_list (t:=tItem) n18 rfl hR hw s1.w s1.k (S62 (.head _)) hb
end Go.Proofs.YtdandeekdbndgaaGreatDoor
namespace Go.Proofs.YtdandeekdbndgaaGreatDoor
open Go Go.AL Go.AL.Co
theorem S58 {L:List (Nat × List AV)}{p q:Nat}(hq:(q,[AV.ptr p 0])∈L):StepA Tryz.prog L p (.fn (.func 105) [] [.ptr q 0]) tBytes:=by
 intro d x hR hw H ro bs hW hL hb
 refine T58 ?_
 unfold G58
 have s0:=St.start hW hL
 refine s0.ld hq rfl (s0.ld hq rfl ?_)
 refine s0.call (T59 (?_:putA Tryz.prog (.ptr p 0) x (.fn (.func 103) [.ptr p 0] []) H _)) fun H2 r2 s2 hr=>s2.fin hr
 exact putA_list n18 rfl hR hw hW hL (P56.step L p) hb
theorem S55 {L:List (Nat × List AV)}{p q:Nat}(hq:(q,[AV.ptr p 0])∈L):StepB Tryz.prog L p (.fn (.func 102) [] [.ptr q 0]) tPiece:=by
 intro d c hR hw H ro bs hW hL hb
 obtain⟨c1,c2,rfl,h1,h2⟩:=hR
 have h1:c1=[.bool d.1]:=h1
 have h2:c2=[bv d.2]:=h2
 subst h1 h2
 have he:tPiece.enc d=Ty.bool.enc d.1++Ty.byte.enc d.2:=rfl
 rw[he]at hb ⊢
 refine T55 ?_
 unfold G55
 refine(St.start hW hL).box rfl fun H1 s1=>?_
 refine s1.ld (.tail _ hq) rfl (y_pu_of (v:=.ptr H.next 0) rfl (s1.ld (.head _) rfl ?_))
 refine s1.call (P49 (d:=d.1) rfl trivial s1.w (by simp only[List.length_append]at hb ⊢;omega)) fun H2 r2 s2 _=>?_
 refine s2.ld (.tail _ hq) rfl (y_pu_of (v:=.ptr H.next 1) rfl (s2.ld (.head _) rfl ?_))
 refine s2.call (P56 (d:=d.2) rfl trivial s2.w (by rw[List.append_assoc];exact hb)) fun H3 r3 s3 hr=>?_
 have:=s3.fin hr
 rw[List.append_assoc]at this;exact this
theorem S53 {L:List (Nat × List AV)}{p q:Nat}(hq:(q,[AV.ptr p 0])∈L):StepB Tryz.prog L p (.fn (.func 100) [] [.ptr q 0]) tMove:=by
 intro d c hR hw H ro bs hW hL hb
 obtain⟨c1,c2,rfl,h1,h2⟩:=hR
 have h1:c1=[.int .i64 d.1]:=h1
 obtain⟨v,hv⟩:∃v,c2=[v]:=by obtain⟨v,_,h,_⟩:=h2;exact⟨v,h⟩
 subst h1 hv
 have he:tMove.enc d=Ty.int.enc d.1++(Ty.list tPiece).enc d.2:=rfl
 rw[he]at hb ⊢
 refine T53 ?_
 unfold G53
 refine(St.start hW hL).box rfl fun H1 s1=>?_
 refine s1.ld (.tail _ hq) rfl (y_pu_of (v:=.ptr H.next 0) rfl (s1.ld (.head _) rfl ?_))
 refine s1.call (P18 (d:=d.1) rfl hw.1 s1.w (by simp only[List.length_append]at hb ⊢;omega)) fun H2 r2 s2 _=>?_
 refine s2.ld (.tail _ hq) rfl (y_pu_of (v:=.ptr H.next 1) rfl (s2.ld (.head _) rfl ?_))
 refine s2.call (T54 (?_:putB Tryz.prog 2 [(.bool false),(N .u8 0)] (.ptr p 0) v (.fn (.func 102) [] [.ptr q 0]) H2 (WPost H2 p (some r2) (bs++Ty.int.enc d.1++(Ty.list tPiece).enc d.2)))) fun H3 r3 s3 hr=>?_
 ·exact putB_list (t:=tPiece) n18 rfl h2 hw.2 s2.w s2.k (S55 (.tail _ hq)) (by rw[List.append_assoc];exact hb)
 ·have:=s3.fin hr
  rw[List.append_assoc]at this;exact this
theorem S51 {L:List (Nat × List AV)}{p q:Nat}(hq:(q,[AV.ptr p 0])∈L):StepA Tryz.prog L p (.fn (.func 98) [] [.ptr q 0]) (.list tMove):=by
 intro d x hR hw H ro bs hW hL hb
 refine T51 ?_
 unfold G51
 have s0:=St.start hW hL
 refine s0.ld hq rfl ?_
 refine s0.call (T52 (?_:putB Tryz.prog 2 [(I 0),.nils] (.ptr p 0) x (.fn (.func 100) [] [.ptr q 0]) H _)) fun H2 r2 s2 hr=>s2.fin hr
 exact putB_list (t:=tMove) n18 rfl hR hw hW hL (S53 hq) hb
theorem S25 {L:List (Nat × List AV)}{p q:Nat}(hq:(q,[AV.ptr p 0])∈L):StepB Tryz.prog L p (.fn (.func 50) [] [.ptr q 0]) tEqn:=by
 intro d c hR hw H ro bs hW hL hb
 obtain⟨c1,c2,rfl,h1,h2⟩:=hR
 obtain⟨v1,hv1⟩:∃v,c1=[v]:=by obtain⟨v,_,h,_⟩:=h1;exact⟨v,h⟩
 obtain⟨v2,hv2⟩:∃v,c2=[v]:=by obtain⟨v,_,h,_⟩:=h2;exact⟨v,h⟩
 subst hv1 hv2
 have he:tEqn.enc d=tItems.enc d.1++tItems.enc d.2:=rfl
 rw[he]at hb ⊢
 refine T25 ?_
 unfold G25
 refine(St.start hW hL).box rfl fun H1 s1=>?_
 refine s1.ld (.tail _ hq) rfl (y_pu_of (v:=.ptr H.next 0) rfl (s1.ld (.head _) rfl ?_))
 refine s1.call (P26 (d:=d.1) h1 hw.1 s1.w (by simp only[List.length_append]at hb ⊢;omega)) fun H2 r2 s2 _=>?_
 refine s2.ld (.tail _ hq) rfl (y_pu_of (v:=.ptr H.next 1) rfl (s2.ld (.head _) rfl ?_))
 refine s2.call (P26 (d:=d.2) h2 hw.2 s2.w (by rw[List.append_assoc];exact hb)) fun H3 r3 s3 hr=>?_
 have:=s3.fin hr
 rw[List.append_assoc]at this;exact this
end Go.Proofs.YtdandeekdbndgaaGreatDoor
namespace Go.AL
open Co
variable {P:Program}
theorem wrap_lt {n:Int}(h:-9223372036854775808≤n∧n≤9223372036854775807):IntKind.i64.wrap n=n:=by
 rw[wrap_i64];split<;>omega
theorem ints_take_succ {l:List Int}{i:Nat}{x:Int}(h:l[i]?=some x):(l.take (i+1)).flatMap encN=(l.take i).flatMap encN++encN x:=by
 rw[List.take_add_one,h];simp
theorem ints_take_le (l:List Int) (i:Nat):((l.take i).flatMap encN).length≤(l.flatMap encN).length:=by
 conv=>rhs;rw[←List.take_append_drop i l]
 rw[List.flatMap_append,List.length_append];omega
def nc (l:List Int):List AV:=l.map fun n=>.int .i64 n
theorem nc_get {l:List Int}{i:Nat}{x:Int}(h:l[i]?=some x):(nc l)[i]?=some (.int .i64 x):=by simp[nc,h]
end Go.AL
namespace Go.Proofs.YtdandeekdbndgaaGreatDoor
open Go Go.AL Go.AL.Co
theorem S23 {L:List (Nat × List AV)}{p q:Nat}(hq:(q,[AV.ptr p 0])∈L):StepB Tryz.prog L p (.fn (.func 48) [] [.ptr q 0]) tStep:=by
 intro d c hR hw H ro bs hW hL hb
 obtain⟨k,m,r,d1,x,k1,nx,el⟩:=d
 obtain⟨c1,c2,rfl,h1,c3,c4,rfl,h2,c5,c6,rfl,h3,c7,c8,rfl,h4,c9,c10,rfl,h5,c11,c12,rfl,h6,c13,c14,rfl,h7,h8⟩:=hR
 obtain⟨v,hv⟩:∃v,c3=[v]:=by obtain⟨v,_,h,_⟩:=h2;exact⟨v,h⟩
 have h1:c1=[.int .i64 k]:=h1
 have h3:c5=[.int .i64 r]:=h3
 have h4:c7=[.int .i64 d1]:=h4
 have h5:c9=[.int .i64 x]:=h5
 have h6:c11=[.int .i64 k1]:=h6
 have h7:c13=[.int .i64 nx]:=h7
 have h8:c14=[.int .i64 el]:=h8
 subst hv h1 h3 h4 h5 h6 h7 h8
 obtain⟨w1,w2,w3,w4,w5,w6,w7,w8⟩:=hw
 obtain⟨k',rfl⟩:∃k':Int,k'=k:=⟨k,rfl⟩
 obtain⟨r',rfl⟩:∃r':Int,r'=r:=⟨r,rfl⟩
 obtain⟨d1',rfl⟩:∃d1':Int,d1'=d1:=⟨d1,rfl⟩
 obtain⟨x',rfl⟩:∃x':Int,x'=x:=⟨x,rfl⟩
 obtain⟨k1',rfl⟩:∃k1':Int,k1'=k1:=⟨k1,rfl⟩
 obtain⟨nx',rfl⟩:∃nx':Int,nx'=nx:=⟨nx,rfl⟩
 obtain⟨el',rfl⟩:∃el':Int,el'=el:=⟨el,rfl⟩
 let ns:List Int:=[r',d1',x',k1',nx',el']
 have hns:∀y∈ns,I64 y:=by
  intro y hy
  simp only[ns,List.mem_cons,List.not_mem_nil,or_false]at hy
  rcases hy with rfl | rfl | rfl | rfl | rfl | rfl<;>assumption
 have he:tStep.enc (k',m,r',d1',x',k1',nx',el')=encN k'++(tInts.enc m++ns.flatMap encN):=by
  show encN k'++(tInts.enc m++(encN r'++(encN d1'++(encN x'++(encN k1'++(encN nx'++encN el'))))))=_
  simp[ns]
 rw[he]at hb ⊢
 refine T23 ?_
 unfold G23
 refine(St.start hW hL).box rfl fun H1 s1=>?_
 refine s1.ld (.tail _ hq) rfl (y_pu_of (v:=.ptr H.next 0) rfl (s1.ld (.head _) rfl ?_))
 refine s1.call (n18 w1 s1.w (by simp only[List.length_append]at hb ⊢;omega)) fun H2 r2 s2 _=>?_
 refine s2.ld (.tail _ hq) rfl (y_pu_of (v:=.ptr H.next 1) rfl (s2.ld (.head _) rfl ?_))
 refine s2.call (P20 (d:=m) h2 w2 s2.w (by simp only[List.length_append]at hb ⊢;omega)) fun H3 r3 s3 hr3=>?_
 refine y_pu_of (v:=.ptr H.next 2) rfl (s3.ld (.head _) rfl ?_)
 refine y_pu_of (v:=.ptr H.next 3) rfl (s3.ld (.head _) rfl ?_)
 refine y_pu_of (v:=.ptr H.next 4) rfl (s3.ld (.head _) rfl ?_)
 refine y_pu_of (v:=.ptr H.next 5) rfl (s3.ld (.head _) rfl ?_)
 refine y_pu_of (v:=.ptr H.next 6) rfl (s3.ld (.head _) rfl ?_)
 refine y_pu_of (v:=.ptr H.next 7) rfl (s3.ld (.head _) rfl ?_)
 refine y_ef_of (v:=.sl H3.next 0 6 (.ex 6)) (H':=H3.push (.cells (nc ns))) (by rfl) ?_
 refine y_pu_of (v:=.int .i64 6) rfl ?_
 have s4:=s3.push (c:=nc ns)
 let Iv:AV→AV→AV→AV→AH→Prop:=fun a b c d H'=>a=.ptr q 0∧b=.sl H3.next 0 6 (.ex 6)∧c=.int .i64 6∧∃(i rx:Nat),d=.int .i64 (i:Int)∧i≤6∧H.next≤rx ∧
  St H p ro ((H3.next,nc ns)::(H.next,[.int .i64 k']++([v]++([.int .i64 r']++([.int .i64 d1']++([.int .i64 x']++([.int .i64 k1']++([.int .i64 nx']++[.int .i64 el'])))))))::L) H' (some rx) (bs++encN k'++tInts.enc m++(ns.take i).flatMap encN)
 let μ:AV→AV→AV→AV→AH→Nat:=fun _ _ _ d _=>match d with
  | .int _ j=>(6-j).toNat
  | _=>0
 refine⟨Iv,μ,⟨rfl,rfl,rfl,0,r3,rfl,by omega,hr3,by simpa using s4⟩,?_⟩
 intro e H5 hI
 obtain⟨e1,e2,e3,i,rx,e4,hi,hrx,s5⟩:=(hI:Iv (e 1) (e 25) (e 26) (e 27) H5)
 show y_pu (.bin .lss (.cst (e 27)) (.cst (e 26))) _
 rw[e4,e3]
 refine y_pu_of (v:=.bool (decide ((i:Int)<6))) rfl (y_if0_of (fun ht=>?_) (fun ht=>?_))
 ·have hlt:i<6:=by have:=of_decide_eq_true ht;omega
  rw[e2,e1]
  obtain⟨y,hy⟩:∃y,ns[i]?=some y:=⟨ns[i]'(by simpa[ns]using hlt),List.getElem?_eq_getElem _⟩
  have hc:apure (.indexAddrS 1 (.cst (.sl H3.next 0 6 (.ex 6))) (.cst (.int .i64 (i:Int)))) emp=some (.ptr H3.next i):=by
   have h1:(0:Int)≤(i:Int)∧(i:Int)<6:=by omega
   simp[apure,AOpd.ev,aidxS,h1]
  refine y_pu_of hc (s5.ld (.head _) (nc_get hy) (s5.ld (.tail _ (.tail _ hq)) rfl ?_))
  have hsub:=ints_take_le ns (i+1)
  rw[ints_take_succ hy]at hsub
  refine s5.call (n18 (hns y (List.mem_of_getElem? hy)) s5.w (by simp only[List.length_append]at hb hsub ⊢;omega)) fun H6 r6 s6 hr6=>?_
  refine y_pu_of (v:=.int .i64 ((i+1:Nat):Int)) (by
   show some (AV.int .i64 (IntKind.i64.wrap ((i:Int)+1)))=_
   rw[wrap_lt (by omega)];rfl) ?_
  refine⟨⟨rfl,rfl,rfl,i+1,r6,rfl,hlt,hr6,?_⟩,?_⟩
  ·have e:=List.append_assoc (bs++encN k'++tInts.enc m) (List.flatMap encN (ns.take i)) (encN y)
   rw[ints_take_succ hy,←e];exact s6
  ·show((6:Int)-((i+1:Nat):Int)).toNat<μ (e 1) (e 25) (e 26) (e 27) H5
   rw[e4]
   show((6:Int)-((i+1:Nat):Int)).toNat<((6:Int)-(i:Int)).toNat
   omega
 ·have hge:i=6:=by have:=of_decide_eq_false ht;omega
  subst hge
  have:=s5.fin hrx
  rw[show ns.take 6=ns from rfl]at this
  simpa[List.append_assoc]using this
end Go.Proofs.YtdandeekdbndgaaGreatDoor
namespace Go.AL
open Co
variable {P:Program}
theorem St.put {H0 H H':AH}{p r':Nat}{ro0 ro:Option Nat}{L:List (Nat × List AV)}{bs bs':List UInt8}(h:St H0 p ro0 L H ro bs) (q1:H.next≤r') (q2:Wr H' p (some r') bs') (q3:KeepW H p ro H'):St H0 p ro0 L H' (some r') bs'∧H0.next≤r':=by
 have hn:=h.kw.nx
 refine⟨⟨q2,h.k.keep q3 q1,h.kw.trans (ro1:=ro) (fun r hr=>?_) q3,.inr ⟨r',rfl,by omega⟩⟩,by omega⟩
 rcases h.fr with e | ⟨r1,e1,e2⟩
 ·exact .inr (by rw[←e,hr])
 ·rw[hr]at e1;cases e1;exact .inl e2
theorem w8_byte:∀(l:List UInt8) (k:Nat) (x:UInt8),l[k]?=some x→w8 l / 256 ^ k % 256=x.toNat
 | [],k,x,h=>by simp at h
 | y::l,0,x,h=>by
  have e:y=x:=by simpa using h
  subst e
  have:=y.toNat_lt
  show(y.toNat+256*w8 l) / 256 ^ 0 % 256=_
  rw[Nat.pow_zero,Nat.div_one];omega
 | y::l,k+1,x,h=>by
  have h':l[k]?=some x:=by simpa using h
  have:=w8_byte l k x h'
  have hy:=y.toNat_lt
  show(y.toNat+256*w8 l) / 256 ^ (k+1) % 256=_
  rw[Nat.pow_succ,Nat.mul_comm (256 ^ k) 256,←Nat.div_div_eq_div_mul]
  have e:(y.toNat+256*w8 l) / 256=w8 l:=by omega
  rw[e];exact this
theorem shr_byte {n k:Nat}(hk:k<8):(n:Int).fdiv (2 ^ (min (8*k) 64))=((n / 256 ^ k:Nat):Int):=by
 have e:min (8*k) 64=8*k:=by omega
 have e2:(2:Nat) ^ (8*k)=256 ^ k:=by rw[Nat.pow_mul]
 rw[e,Int.fdiv_eq_ediv_of_nonneg]
 ·have:((2:Int) ^ (8*k))=((256 ^ k:Nat):Int):=by
   rw[←e2];simp
  rw[this];simp
 ·exact Int.le_of_lt (Int.pow_pos (by decide))
theorem u8_wrap (n:Nat):IntKind.u8.wrap (n:Int)=((n % 256:Nat):Int):=by
 simp[IntKind.wrap,IntKind.bits,IntKind.signed]
end Go.AL
namespace Go.Proofs.YtdandeekdbndgaaGreatDoor
open Go Go.AL Go.AL.Co
theorem S47 {L:List (Nat × List AV)}{p:Nat}:StepB Tryz.prog L p (.fn (.func 94) [.ptr p 0] []) tClass:=by
 intro d c hR hw H ro bs hW hL hb
 obtain⟨hl,hcl,hcw⟩:=hR
 have hl:(asV d).length=32:=hl
 have he:tClass.enc d=asV d:=rfl
 rw[he]at hb ⊢
 have hcl:c.length=4:=hcl
 refine T47 ?_
 unfold G47
 refine(St.start hW hL).box (x:=.agg c) rfl fun H1 s1=>?_
 refine y_rd_of (v:=.agg c) (by
  obtain⟨_,_,_,h4⟩:=s1.k _ (.head _)
  simp[aread,aload,AOpd.ev,AH.cells?,h4,apart,hcl]
  exact List.take_of_length_le (by omega)) ?_
 let Iv:AV→AV→AV→AH→Prop:=fun a b d' H'=>a=.ptr p 0∧b=.agg c∧∃(i:Nat) (rx:Option Nat),d'=.int .i64 (i:Int)∧i≤4∧(i=4→∃r,rx=some r∧H.next≤r)∧St H p ro ((H.next,c)::L) H' rx (bs++(asV d).take (8*i))
 let μ:AV→AV→AV→AH→Nat:=fun _ _ d' _=>match d' with
  | .int _ j=>(4-j).toNat
  | _=>0
 refine⟨Iv,μ,⟨rfl,rfl,0,ro,rfl,by omega,by intro h;omega,by simpa using s1⟩,?_⟩
 intro e H2 hI
 obtain⟨e1,e2,i,rx,e3,hi,hfin,s2⟩:=(hI:Iv (e 0) (e 7) (e 8) H2)
 show y_pu (.bin .lss (.cst (e 8)) (.cst (I 4))) _
 rw[e3]
 refine y_pu_of (v:=.bool (decide ((i:Int)<4))) rfl (y_if0_of (fun ht=>?_) (fun ht=>?_))
 ·have hlt:i<4:=by have:=of_decide_eq_true ht;omega
  rw[e2,e1]
  have hwd:=hcw i (by show i<32 / 8;omega)
  refine y_pu_of (v:=.int .u64 ((w8 (((asV d).drop (8*i)).take 8):Nat):Int)) (by
   have h1:(0:Int)≤(i:Int)∧(i:Int)<((4:Nat):Int):=by omega
   simp only[apure,AOpd.ev,apart]
   rw[if_pos h1]
   simpa using hwd) ?_
  let Iw:AV→AV→AV→AV→AV→AH→Prop:=fun a w b d' k' H'=>a=.ptr p 0∧w=.int .u64 ((w8 (((asV d).drop (8*i)).take 8):Nat):Int)∧b=.agg c∧d'=.int .i64 (i:Int)∧∃(k:Nat) (ry:Option Nat),k'=.int .i64 (k:Int)∧k≤8∧(k=8→∃r,ry=some r∧H.next≤r) ∧
   St H p ro ((H.next,c)::L) H' ry (bs++(asV d).take (8*i+k))
  let μ2:AV→AV→AV→AV→AV→AH→Nat:=fun _ _ _ _ k' _=>match k' with
   | .int _ j=>(8-j).toNat
   | _=>0
  refine⟨Iw,μ2,⟨rfl,rfl,rfl,rfl,0,rx,rfl,by omega,by intro h;omega,by simpa using s2⟩,?_⟩
  intro e' H3 hJ
  obtain⟨f1,f2,f3,f4,k,ry,f5,hk,hfk,s3⟩:=(hJ:Iw (e' 0) (e' 5) (e' 7) (e' 8) (e' 11) H3)
  show y_pu (.bin .lss (.cst (e' 11)) (.cst (I 8))) _
  rw[f5]
  refine y_pu_of (v:=.bool (decide ((k:Int)<8))) rfl (y_if0_of (fun ht2=>?_) (fun ht2=>?_))
  ·have hk8:k<8:=by have:=of_decide_eq_true ht2;omega
   rw[f1,f2,f3,f4]
   refine y_pu_of (v:=.ptr p 0) rfl (y_pu_of (v:=.ptr p 0) rfl (wr_ld s3.w ?_))
   refine y_pu_of (v:=.int .i64 ((8*k:Nat):Int)) (by
    show some (AV.int .i64 (IntKind.i64.wrap ((8:Int)*(k:Int))))=_
    rw[wrap_lt (by omega)];simp) ?_
   obtain⟨x,hx⟩:∃x,(asV d)[8*i+k]?=some x:=⟨(asV d)[8*i+k]'(by omega),List.getElem?_eq_getElem _⟩
   have hxc:(((asV d).drop (8*i)).take 8)[k]?=some x:=by
    rw[List.getElem?_take,if_pos hk8,List.getElem?_drop];exact hx
   refine y_pu_of (v:=.int .u64 ((w8 (((asV d).drop (8*i)).take 8) / 256 ^ k:Nat):Int)) (by
    have h1:(0:Int)≤((8*k:Nat):Int):=by omega
    simp only[apure,AOpd.ev,abin,h1,if_true,IntKind.bits,Int.toNat_natCast]
    rw[shr_byte hk8]) ?_
   refine y_pu_of (v:=bv x) (by
    show some (AV.int .u8 (IntKind.u8.wrap ((w8 (((asV d).drop (8*i)).take 8) / 256 ^ k:Nat):Int)))=_
    rw[u8_wrap,w8_byte _ k x hxc];rfl) ?_
   refine y_nw_of (c:=[bv x]) (f:=fun r=>.sl r 0 1 (.ex 1)) (by simp[anew,afill,AOpd.ev,AV.cellsOf,bv,N]) ?_
   have htk:(asV d).take (8*i+(k+1))=(asV d).take (8*i+k)++[x]:=by
    rw[←Nat.add_assoc,List.take_add_one,hx];rfl
   refine wr_put s3.w (by
    have:((asV d).take (8*i+k)).length≤(asV d).length:=by rw[List.length_take];omega
    simp only[List.length_append]at hb ⊢
    show _<bnd;omega) fun H4 r4 q1 q2 q3=>?_
   obtain⟨s4,hr4⟩:=s3.put q1 q2 q3
   refine y_pu_of (v:=.int .i64 ((k+1:Nat):Int)) (by
    show some (AV.int .i64 (IntKind.i64.wrap ((k:Int)+1)))=_
    rw[wrap_lt (by omega)];rfl) ?_
   refine⟨⟨rfl,rfl,rfl,rfl,k+1,some r4,rfl,hk8,fun _=>⟨r4,rfl,hr4⟩,?_⟩,?_⟩
   ·rw[htk,←List.append_assoc];exact s4
   ·show((8:Int)-((k+1:Nat):Int)).toNat<μ2 (e' 0) (e' 5) (e' 7) (e' 8) (e' 11) H3
    rw[f5]
    show((8:Int)-((k+1:Nat):Int)).toNat<((8:Int)-(k:Int)).toNat
    omega
  ·have hk8:k=8:=by have:=of_decide_eq_false ht2;omega
   subst hk8
   rw[f1,f3,f4]
   refine y_pu_of (v:=.int .i64 ((i+1:Nat):Int)) (by
    show some (AV.int .i64 (IntKind.i64.wrap ((i:Int)+1)))=_
    rw[wrap_lt (by omega)];rfl) ?_
   refine⟨⟨rfl,rfl,i+1,ry,rfl,hlt,fun _=>hfk rfl,?_⟩,?_⟩
   ·have e8:8*(i+1)=8*i+8:=by omega
    rw[e8];exact s3
   ·show((4:Int)-((i+1:Nat):Int)).toNat<μ (e 0) (e 7) (e 8) H2
    rw[e3]
    show((4:Int)-((i+1:Nat):Int)).toNat<((4:Int)-(i:Int)).toNat
    omega
 ·have h4:i=4:=by have:=of_decide_eq_false ht;omega
  subst h4
  obtain⟨r,hr1,hr2⟩:=hfin rfl
  subst hr1
  have:=s2.fin hr2
  rw[List.take_of_length_le (by omega)]at this
  exact this
end Go.Proofs.YtdandeekdbndgaaGreatDoor
namespace Go.AL
open Co
variable {P:Program}
theorem RC_list1 {t:Ty}{l:(Ty.list t).D}{c:List AV}(h:RC (.list t) l c):∃v,c=[v]:=by obtain⟨v,_,h,_⟩:=h;exact⟨v,h⟩
theorem St.ldA {H0 H:AH}{p:Nat}{ro0 ro:Option Nat}{L:List (Nat × List AV)}{bs:List UInt8}{q o k:Nat}{c:List AV}{K:AV→Prop}(h:St H0 p ro0 L H ro bs) (hm:(q,c)∈L) (hx:o+k≤c.length) (hK:K (.agg ((c.drop o).take k))):y_rd (.load (some k) (.cst (.ptr q o))) H K:=by
 obtain⟨_,_,_,h4⟩:=h.k _ hm
 exact y_rd_of (v:=.agg ((c.drop o).take k)) (by simp[aread,aload,AOpd.ev,AH.cells?,h4,apart,hx]) hK
theorem St.copy {H0 H:AH}{p:Nat}{ro0 ro:Option Nat}{L:List (Nat × List AV)}{bs:List UInt8}{k:Nat}{z c:List AV}{K:AV→AH→Prop}(h:St H0 p ro0 L H ro bs) (hz:z.length=k) (hc:c.length=k)
  (hK:∀H',St H0 p ro0 ((H.next,c)::L) H' ro bs→K (.ptr H.next 0) H'):y_ef (.alloc z) H fun v15 h15=>y_ef (.store k (.cst v15) (.cst (.agg c))) h15 fun _ h16=>K v15 h16:=by
 refine y_ef_of (v:=.ptr H.next 0) (H':=H.push (.cells z)) rfl ?_
 have hs:splice z 0 c=c:=by rw[splice_eq (by omega)];simp[hc,hz]
 refine y_ef_of (v:=.unk) (H':=(H.push (.cells z)).set H.next (.cells c)) (by simp[aeff,AOpd.ev,AH.cells?,AH.get_push,AV.cellsOf,hs,hc,hz]) (hK _ ?_)
 have e:(H.push (.cells z)).set H.next (.cells c)=H.push (.cells c):=by
  refine AH.ext (fun r=>?_) rfl rfl
  rw[AH.get_set,AH.get_push,AH.get_push]
  by_cases hr:r=H.next<;>simp[hr]
 rw[e]
 exact h.push
end Go.AL
namespace Go.Proofs.YtdandeekdbndgaaGreatDoor
open Go Go.AL Go.AL.Co
set_option maxHeartbeats 4000000 in
set_option maxRecDepth 4000 in
theorem P19 {H:AH}{p:Nat}{ro:Option Nat}{bs:List UInt8}{d:tLit.D}{c:List AV}(hR:RC tLit d c) (hw:tLit.wf d) (hW:Wr H p ro bs) (hb:(bs++tLit.enc d).length<bnd) :
  ACall Tryz.prog 44 [.ptr p 0,.agg c] H (WPost H p ro (bs++tLit.enc d)):=by
 obtain⟨kd,t,u,dc,dn,da,ra,rc,mc,mm,mf,me,⟨qb,qd,qt,qo,qz⟩,nn,nt⟩:=d
 obtain⟨c1,_,rfl,h1,c2,_,rfl,h2,c3,_,rfl,h3,c4,_,rfl,h4,c5,_,rfl,h5,c6,_,rfl,h6,c7,_,rfl,h7,c8,_,rfl,h8,c9,_,rfl,h9,c10,_,rfl,h10,c11,_,rfl,h11,c12,_,rfl,h12,c13,_,rfl,h13,c14,c15,rfl,h14,h15⟩:=hR
 obtain⟨q1,_,rfl,g1,q2,_,rfl,g2,q3,_,rfl,g3,q4,q5,rfl,g4,g5⟩:=h13
 obtain⟨v2,rfl⟩:=RC_list1 h2
 obtain⟨v3,rfl⟩:=RC_list1 h3
 obtain⟨v4,rfl⟩:=RC_list1 h4
 obtain⟨v5,rfl⟩:=RC_list1 h5
 obtain⟨v6,rfl⟩:=RC_list1 h6
 obtain⟨v7,rfl⟩:=RC_list1 h7
 obtain⟨v9,rfl⟩:=RC_list1 h9
 obtain⟨v10,rfl⟩:=RC_list1 h10
 obtain⟨v11,rfl⟩:=RC_list1 h11
 obtain⟨v12,rfl⟩:=RC_list1 h12
 have h1:c1=[.int .i64 kd]:=h1
 have h8:c8=[.int .i64 rc]:=h8
 have g1:q1=[.int .i64 qb]:=g1
 have g2:q2=[.int .i64 qd]:=g2
 have g3:q3=[.int .i64 qt]:=g3
 have g4:q4=[.int .i64 qo]:=g4
 have g5:q5=[.bool qz]:=g5
 have h14:c14=[.int .i64 nn]:=h14
 have h15:c15=[.bool nt]:=h15
 subst h1 h8 g1 g2 g3 g4 g5 h14 h15
 obtain⟨w1,w2,w3,w4,w5,w6,w7,w8,w9,w10,w11,w12,⟨u1,u2,u3,u4,u5⟩,w14,w15⟩:=hw
 obtain⟨qb',rfl⟩:∃x:Int,x=qb:=⟨qb,rfl⟩
 obtain⟨qd',rfl⟩:∃x:Int,x=qd:=⟨qd,rfl⟩
 obtain⟨qt',rfl⟩:∃x:Int,x=qt:=⟨qt,rfl⟩
 obtain⟨qo',rfl⟩:∃x:Int,x=qo:=⟨qo,rfl⟩
 let ns:List Int:=[qb',qd',qt',qo']
 have hns:∀y∈ns,I64 y:=by
  intro y hy
  simp only[ns,List.mem_cons,List.not_mem_nil,or_false]at hy
  rcases hy with rfl | rfl | rfl | rfl<;>assumption
 have he:tLit.enc (kd,t,u,dc,dn,da,ra,rc,mc,mm,mf,me,(qb',qd',qt',qo',qz),nn,nt) =
   (encN kd:List UInt8)++((tItems.enc t:List UInt8)++((tItems.enc u:List UInt8)++(((Ty.list tClass).enc dc:List UInt8)++(((Ty.list tInts).enc dn:List UInt8)++(((Ty.list .bool).enc da:List UInt8)++((tInts.enc ra:List UInt8)++((encN rc:List UInt8)++(((Ty.list tClass).enc mc:List UInt8)++(((Ty.list (.list tMove)).enc mm:List UInt8)++(((Ty.list .bool).enc mf:List UInt8)++(((Ty.list tBytes).enc me:List UInt8)++((ns.flatMap encN:List UInt8)++((Ty.bool.enc qz:List UInt8)++((encN nn:List UInt8)++((Ty.bool.enc nt:List UInt8)))))))))))))))):=by
  show(encN kd:List UInt8)++((tItems.enc t:List UInt8)++((tItems.enc u:List UInt8)++(((Ty.list tClass).enc dc:List UInt8)++(((Ty.list tInts).enc dn:List UInt8)++(((Ty.list .bool).enc da:List UInt8)++((tInts.enc ra:List UInt8)++((encN rc:List UInt8)++(((Ty.list tClass).enc mc:List UInt8)++(((Ty.list (.list tMove)).enc mm:List UInt8)++(((Ty.list .bool).enc mf:List UInt8)++(((Ty.list tBytes).enc me:List UInt8)++((encN qb'++(encN qd'++(encN qt'++(encN qo'++(Ty.bool.enc qz:List UInt8)))))++((encN nn:List UInt8)++((Ty.bool.enc nt:List UInt8)))))))))))))))=_
  simp[ns,List.append_assoc]
 rw[he]at hb ⊢
 have bd:∀{a b:List UInt8},a.length≤b.length→b.length<bnd→a.length<bnd:=fun h1 h2=>Nat.lt_of_le_of_lt h1 h2
 refine T19 ?_
 unfold G19
 refine(St.start (L:=[]) hW (fun _ h=>by cases h)).box (x:=.ptr p 0) rfl fun H1 s1=>?_
 refine s1.box (x:=.agg _) rfl fun H2 s2=>?_
 refine y_pu_of (v:=.ptr H1.next 0) rfl (s2.ldA (.head _) (by simp) ?_)
 refine s2.copy rfl (by simp) fun H3 s3=>?_
 refine s3.ld (.tail _ (.tail _ (.head _))) rfl (y_pu_of (v:=.ptr H2.next 0) rfl (s3.ld (o:=0) (.head _) rfl ?_))
 refine s3.call (n18 w1 s3.w (by simp only[List.length_append]at hb ⊢;omega)) fun H4 r4 s4 hr4=>?_
 refine s4.ld (.tail _ (.tail _ (.head _))) rfl (y_pu_of (v:=.ptr H2.next 1) rfl (s4.ld (o:=1) (.head _) rfl ?_))
 refine s4.call (P26 (d:=t) h2 w2 s4.w (by simp only[List.length_append]at hb ⊢;omega)) fun H5 r5 s5 hr5=>?_
 refine s5.ld (.tail _ (.tail _ (.head _))) rfl (y_pu_of (v:=.ptr H2.next 2) rfl (s5.ld (o:=2) (.head _) rfl ?_))
 refine s5.call (P26 (d:=u) h3 w3 s5.w (by simp only[List.length_append]at hb ⊢;omega)) fun H6 r6 s6 hr6=>?_
 refine s6.ld (.tail _ (.tail _ (.head _))) rfl (y_pu_of (v:=.ptr H2.next 3) rfl (y_pu_of (v:=.ptr H2.next 3) rfl (s6.ld (o:=3) (.head _) rfl (s6.ld (.tail _ (.tail _ (.head _))) rfl ?_))))
 refine s6.call (T46 (putB_list (t:=tClass) n18 rfl h4 w4 s6.w s6.k S47 (by simp only[List.length_append]at hb ⊢;omega))) fun H7 r7 s7 hr7=>?_
 refine s7.ld (.tail _ (.tail _ (.head _))) rfl (y_pu_of (v:=.ptr H2.next 3) rfl (y_pu_of (v:=.ptr H2.next 4) rfl (s7.ld (o:=4) (.head _) rfl (s7.ld (.tail _ (.tail _ (.head _))) rfl ?_))))
 refine s7.call (T21 (putA_list (t:=tInts) n18 rfl h5 w5 s7.w s7.k (P20.step _ p) (by simp only[List.length_append]at hb ⊢;omega))) fun H8 r8 s8 hr8=>?_
 refine s8.ld (.tail _ (.tail _ (.head _))) rfl (y_pu_of (v:=.ptr H2.next 3) rfl (y_pu_of (v:=.ptr H2.next 5) rfl (s8.ld (o:=5) (.head _) rfl (s8.ld (.tail _ (.tail _ (.head _))) rfl ?_))))
 refine s8.call (T48 (putA_list (t:=.bool) n18 rfl h6 w6 s8.w s8.k (P49.step _ p) (by simp only[List.length_append]at hb ⊢;omega))) fun H9 r9 s9 hr9=>?_
 refine s9.ld (.tail _ (.tail _ (.head _))) rfl (y_pu_of (v:=.ptr H2.next 6) rfl (y_pu_of (v:=.ptr H2.next 6) rfl (s9.ld (o:=6) (.head _) rfl ?_)))
 refine s9.call (P20 (d:=ra) h7 w7 s9.w (by simp only[List.length_append]at hb ⊢;omega)) fun H10 r10 s10 hr10=>?_
 refine s10.ld (.tail _ (.tail _ (.head _))) rfl (y_pu_of (v:=.ptr H2.next 6) rfl (y_pu_of (v:=.ptr H2.next 7) rfl (s10.ld (o:=7) (.head _) rfl ?_)))
 refine s10.call (n18 w8 s10.w (by simp only[List.length_append]at hb ⊢;omega)) fun H11 r11 s11 hr11=>?_
 refine s11.ld (.tail _ (.tail _ (.head _))) rfl (y_pu_of (v:=.ptr H2.next 8) rfl (y_pu_of (v:=.ptr H2.next 8) rfl (s11.ld (o:=8) (.head _) rfl (s11.ld (.tail _ (.tail _ (.head _))) rfl ?_))))
 refine s11.call (T46 (putB_list (t:=tClass) n18 rfl h9 w9 s11.w s11.k S47 (by simp only[List.length_append]at hb ⊢;omega))) fun H12 r12 s12 hr12=>?_
 refine s12.ld (.tail _ (.tail _ (.head _))) rfl (y_pu_of (v:=.ptr H2.next 8) rfl (y_pu_of (v:=.ptr H2.next 9) rfl (s12.ld (o:=9) (.head _) rfl ?_)))
 refine s12.call (T50 (putA_list (t:=.list tMove) n18 rfl h10 w10 s12.w s12.k (S51 (.tail _ (.tail _ (.head _)))) (by simp only[List.length_append]at hb ⊢;omega))) fun H13 r13 s13 hr13=>?_
 refine s13.ld (.tail _ (.tail _ (.head _))) rfl (y_pu_of (v:=.ptr H2.next 8) rfl (y_pu_of (v:=.ptr H2.next 10) rfl (s13.ld (o:=10) (.head _) rfl (s13.ld (.tail _ (.tail _ (.head _))) rfl ?_))))
 refine s13.call (T48 (putA_list (t:=.bool) n18 rfl h11 w11 s13.w s13.k (P49.step _ p) (by simp only[List.length_append]at hb ⊢;omega))) fun H14 r14 s14 hr14=>?_
 refine s14.ld (.tail _ (.tail _ (.head _))) rfl (y_pu_of (v:=.ptr H2.next 8) rfl (y_pu_of (v:=.ptr H2.next 11) rfl (s14.ld (o:=11) (.head _) rfl ?_)))
 refine s14.call (T57 (putA_list (t:=tBytes) n18 rfl h12 w12 s14.w s14.k (S58 (.tail _ (.tail _ (.head _)))) (by simp only[List.length_append]at hb ⊢;omega))) fun H15 r15 s15 hr15=>?_
 refine y_pu_of (v:=.ptr H2.next 12) rfl (y_pu_of (v:=.ptr H2.next 12) rfl (s15.ld (o:=12) (.head _) rfl ?_))
 refine y_pu_of (v:=.ptr H2.next 12) rfl (y_pu_of (v:=.ptr H2.next 13) rfl (s15.ld (o:=13) (.head _) rfl ?_))
 refine y_pu_of (v:=.ptr H2.next 12) rfl (y_pu_of (v:=.ptr H2.next 14) rfl (s15.ld (o:=14) (.head _) rfl ?_))
 refine y_pu_of (v:=.ptr H2.next 12) rfl (y_pu_of (v:=.ptr H2.next 15) rfl (s15.ld (o:=15) (.head _) rfl ?_))
 refine y_ef_of (v:=.sl H15.next 0 4 (.ex 4)) (H':=H15.push (.cells (nc ns))) (by rfl) ?_
 refine y_pu_of (v:=.int .i64 4) rfl ?_
 have s16:=s15.push (c:=nc ns)
 obtain⟨B,hB⟩:∃B:List UInt8,B=((((((((((((bs++(encN kd:List UInt8))++(tItems.enc t:List UInt8))++(tItems.enc u:List UInt8))++((Ty.list tClass).enc dc:List UInt8))++((Ty.list tInts).enc dn:List UInt8))++((Ty.list .bool).enc da:List UInt8))++(tInts.enc ra:List UInt8))++(encN rc:List UInt8))++((Ty.list tClass).enc mc:List UInt8))++((Ty.list (.list tMove)).enc mm:List UInt8))++((Ty.list .bool).enc mf:List UInt8))++((Ty.list tBytes).enc me:List UInt8)):=⟨_,rfl⟩
 have s16:St H p ro _ _ (some r15) B:=hB▸s16
 have hbB:(B++((ns.flatMap encN:List UInt8)++((Ty.bool.enc qz:List UInt8)++((encN nn:List UInt8)++(Ty.bool.enc nt:List UInt8))))).length<bnd:=by
  rw[hB];simpa only[List.append_assoc]using hb
 have hfin:bs++((encN kd:List UInt8)++((tItems.enc t:List UInt8)++((tItems.enc u:List UInt8)++(((Ty.list tClass).enc dc:List UInt8)++(((Ty.list tInts).enc dn:List UInt8)++(((Ty.list .bool).enc da:List UInt8)++((tInts.enc ra:List UInt8)++((encN rc:List UInt8)++(((Ty.list tClass).enc mc:List UInt8)++(((Ty.list (.list tMove)).enc mm:List UInt8)++(((Ty.list .bool).enc mf:List UInt8)++(((Ty.list tBytes).enc me:List UInt8)++((ns.flatMap encN:List UInt8)++((Ty.bool.enc qz:List UInt8)++((encN nn:List UInt8)++((Ty.bool.enc nt:List UInt8)))))))))))))))))=B++((ns.flatMap encN:List UInt8)++((Ty.bool.enc qz:List UInt8)++((encN nn:List UInt8)++(Ty.bool.enc nt:List UInt8)))):=by
  rw[hB];simp only[List.append_assoc]
 rw[hfin]
 clear hb hfin hB
 obtain⟨LL,s16,hm0,hm1,hm2,hm3⟩:∃LL,St H p ro LL (H15.push (.cells (nc ns))) (some r15) B∧(H.next,[AV.ptr p 0])∈LL∧(H1.next,([AV.int .i64 kd]++([v2]++([v3]++([v4]++([v5]++([v6]++([v7]++([AV.int .i64 rc]++([v9]++([v10]++([v11]++([v12]++(([AV.int .i64 qb']++([AV.int .i64 qd']++([AV.int .i64 qt']++([AV.int .i64 qo']++[AV.bool qz]))))++([AV.int .i64 nn]++[AV.bool nt])))))))))))))))∈LL∧(H2.next,((([AV.int .i64 kd]++([v2]++([v3]++([v4]++([v5]++([v6]++([v7]++([AV.int .i64 rc]++([v9]++([v10]++([v11]++([v12]++(([AV.int .i64 qb']++([AV.int .i64 qd']++([AV.int .i64 qt']++([AV.int .i64 qo']++[AV.bool qz]))))++([AV.int .i64 nn]++[AV.bool nt]))))))))))))))).drop 0).take 18)∈LL∧(H15.next,nc ns)∈LL:=
  ⟨_,s16,List.Mem.tail _ (List.Mem.tail _ (List.Mem.tail _ (List.Mem.head _))),List.Mem.tail _ (List.Mem.tail _ (List.Mem.head _)),List.Mem.tail _ (List.Mem.head _),List.Mem.head _⟩
 let Iv:AV→AV→AV→AV→AV→AV→AH→Prop:=fun a b c s l d H'=>a=.ptr H.next 0∧b=.ptr H1.next 0∧c=.ptr H2.next 0∧s=.sl H15.next 0 4 (.ex 4)∧l=.int .i64 4∧∃(i rx:Nat),d=.int .i64 (i:Int)∧i≤4∧H.next≤rx ∧
  St H p ro LL H' (some rx) (B++(ns.take i).flatMap encN)
 let μ:AV→AV→AV→AV→AV→AV→AH→Nat:=fun _ _ _ _ _ d _=>match d with
  | .int _ j=>(4-j).toNat
  | _=>0
 refine⟨Iv,μ,⟨rfl,rfl,rfl,rfl,rfl,0,r15,rfl,by omega,hr15,by simpa using s16⟩,?_⟩
 intro e H5 hI
 obtain⟨e1,e2,e3,e4,e5,i,rx,e6,hi,hrx,s5⟩:=(hI:Iv (e 2) (e 3) (e 4) (e 90) (e 91) (e 92) H5)
 show y_pu (.bin .lss (.cst (e 92)) (.cst (e 91))) _
 rw[e6,e5]
 refine y_pu_of (v:=.bool (decide ((i:Int)<4))) rfl (y_if0_of (fun ht=>?_) (fun ht=>?_))
 ·have hlt:i<4:=by have:=of_decide_eq_true ht;omega
  rw[e4,e1,e2,e3]
  obtain⟨y,hy⟩:∃y,ns[i]?=some y:=⟨ns[i]'(by simpa[ns]using hlt),List.getElem?_eq_getElem _⟩
  have hc:apure (.indexAddrS 1 (.cst (.sl H15.next 0 4 (.ex 4))) (.cst (.int .i64 (i:Int)))) emp=some (.ptr H15.next i):=by
   have h1:(0:Int)≤(i:Int)∧(i:Int)<((4:Nat):Int):=by omega
   simp only[apure,AOpd.ev,aidxS]
   rw[if_pos h1];simp
  refine y_pu_of hc (s5.ld hm3 (nc_get hy) (s5.ld hm0 rfl ?_))
  have hsub:=ints_take_le ns (i+1)
  rw[ints_take_succ hy]at hsub
  refine s5.call (n18 (hns y (List.mem_of_getElem? hy)) s5.w (by simp only[List.length_append]at hbB hsub ⊢;omega)) fun H6 r6 s6 hr6=>?_
  refine y_pu_of (v:=.int .i64 ((i+1:Nat):Int)) (by
   show some (AV.int .i64 (IntKind.i64.wrap ((i:Int)+1)))=_
   rw[wrap_lt (by omega)];rfl) ?_
  refine⟨⟨rfl,rfl,rfl,rfl,rfl,i+1,r6,rfl,hlt,hr6,?_⟩,?_⟩
  ·rw[ints_take_succ hy,←List.append_assoc];exact s6
  ·show((4:Int)-((i+1:Nat):Int)).toNat<μ (e 2) (e 3) (e 4) (e 90) (e 91) (e 92) H5
   rw[e6]
   show((4:Int)-((i+1:Nat):Int)).toNat<((4:Int)-(i:Int)).toNat
   omega
 ·have hge:i=4:=by have:=of_decide_eq_false ht;omega
  subst hge
  rw[show ns.take 4=ns from rfl]at s5
  rw[e1,e2,e3]
  refine s5.ld hm0 rfl (y_pu_of (v:=.ptr H2.next 12) rfl (y_pu_of (v:=.ptr H2.next 16) rfl (s5.ld (o:=16) hm2 rfl ?_)))
  refine s5.call (P49 (d:=qz) rfl trivial s5.w (by simp only[List.length_append]at hbB ⊢;omega)) fun H6 r6 s6 hr6=>?_
  refine s6.ld hm0 rfl (y_pu_of (v:=.ptr H2.next 17) rfl (s6.ld (o:=17) hm2 rfl ?_))
  refine s6.call (n18 w14 s6.w (by simp only[List.length_append]at hbB ⊢;omega)) fun H7 r7 s7 hr7=>?_
  refine s7.ld hm0 rfl (y_pu_of (v:=.ptr H1.next 18) rfl (s7.ld (o:=18) hm1 rfl ?_))
  refine s7.call (P49 (d:=nt) rfl trivial s7.w (by simp only[List.length_append]at hbB ⊢;omega)) fun H8 r8 s8 hr8=>?_
  have:=s8.fin hr8
  simpa only[List.append_assoc]using this
end Go.Proofs.YtdandeekdbndgaaGreatDoor
namespace Go.Proofs.YtdandeekdbndgaaGreatDoor
open Go Go.AL Go.AL.Co
set_option maxHeartbeats 4000000 in
set_option maxRecDepth 4000 in
theorem S17 {L:List (Nat × List AV)}{p q:Nat}(hq:(q,[AV.ptr p 0])∈L):StepB Tryz.prog L p (.fn (.func 42) [] [.ptr q 0]) tNode:=by
 intro d c hR hw H ro bs hW hL hb
 obtain⟨ru,l,r,x,li,us,st,rows,gr⟩:=d
 obtain⟨c1,_,rfl,h1,c2,_,rfl,h2,c3,_,rfl,h3,c4,_,rfl,h4,cL,_,rfl,h5,c6,_,rfl,h6,c7,_,rfl,h7,c8,c9,rfl,h8,h9⟩:=hR
 obtain⟨v6,rfl⟩:=RC_list1 h6
 obtain⟨v7,rfl⟩:=RC_list1 h7
 obtain⟨v8,rfl⟩:=RC_list1 h8
 obtain⟨v9,rfl⟩:=RC_list1 h9
 have hcl:cL.length=19:=RC_len tLit _ _ h5
 have h1:c1=[.int .i64 ru]:=h1
 have h2:c2=[.int .i64 l]:=h2
 have h3:c3=[.int .i64 r]:=h3
 have h4:c4=[.int .i64 x]:=h4
 subst h1 h2 h3 h4
 obtain⟨w1,w2,w3,w4,w5,w6,w7,w8,w9⟩:=hw
 obtain⟨ru',rfl⟩:∃y:Int,y=ru:=⟨ru,rfl⟩
 obtain⟨l',rfl⟩:∃y:Int,y=l:=⟨l,rfl⟩
 obtain⟨rr',rfl⟩:∃y:Int,y=r:=⟨r,rfl⟩
 obtain⟨x',rfl⟩:∃y:Int,y=x:=⟨x,rfl⟩
 let ns:List Int:=[ru',l',rr',x']
 have hns:∀y∈ns,I64 y:=by
  intro y hy
  simp only[ns,List.mem_cons,List.not_mem_nil,or_false]at hy
  rcases hy with rfl | rfl | rfl | rfl<;>assumption
 have he:tNode.enc (ru',l',rr',x',li,us,st,rows,gr)=(ns.flatMap encN:List UInt8)++((tLit.enc li:List UInt8)++((tInts.enc us:List UInt8)++(((Ty.list tInts).enc st:List UInt8)++(((Ty.list tStep).enc rows:List UInt8)++((Ty.list tEqn).enc gr:List UInt8))))):=by
  show encN ru'++(encN l'++(encN rr'++(encN x'++((tLit.enc li:List UInt8)++((tInts.enc us:List UInt8)++(((Ty.list tInts).enc st:List UInt8)++(((Ty.list tStep).enc rows:List UInt8)++((Ty.list tEqn).enc gr:List UInt8))))))))=_
  simp[ns,List.append_assoc]
 rw[he]at hb ⊢
 refine T17 ?_
 unfold G17
 refine(St.start hW hL).box (x:=.agg _) rfl fun H1 s1=>?_
 refine y_pu_of (v:=.ptr H.next 0) rfl (s1.ld (o:=0) (.head _) rfl ?_)
 refine y_pu_of (v:=.ptr H.next 1) rfl (s1.ld (o:=1) (.head _) rfl ?_)
 refine y_pu_of (v:=.ptr H.next 2) rfl (s1.ld (o:=2) (.head _) rfl ?_)
 refine y_pu_of (v:=.ptr H.next 3) rfl (s1.ld (o:=3) (.head _) rfl ?_)
 refine y_ef_of (v:=.sl H1.next 0 4 (.ex 4)) (H':=H1.push (.cells (nc ns))) (by rfl) ?_
 refine y_pu_of (v:=.int .i64 4) rfl ?_
 have s2:=s1.push (c:=nc ns)
 obtain⟨LL,s2,hm0,hm1,hm2⟩:∃LL,St H p ro LL (H1.push (.cells (nc ns))) ro bs∧(q,[AV.ptr p 0])∈LL∧(H.next,[AV.int .i64 ru']++([AV.int .i64 l']++([AV.int .i64 rr']++([AV.int .i64 x']++(cL++([v6]++([v7]++([v8]++[v9]))))))))∈LL∧(H1.next,nc ns)∈LL:=
  ⟨_,s2,List.Mem.tail _ (List.Mem.tail _ hq),List.Mem.tail _ (List.Mem.head _),List.Mem.head _⟩
 let Iv:AV→AV→AV→AV→AV→AH→Prop:=fun a b s l d H'=>a=.ptr q 0∧b=.ptr H.next 0∧s=.sl H1.next 0 4 (.ex 4)∧l=.int .i64 4∧∃(i:Nat) (rx:Option Nat),d=.int .i64 (i:Int)∧i≤4∧St H p ro LL H' rx (bs++(ns.take i).flatMap encN)
 let μ:AV→AV→AV→AV→AV→AH→Nat:=fun _ _ _ _ d _=>match d with
  | .int _ j=>(4-j).toNat
  | _=>0
 refine⟨Iv,μ,⟨rfl,rfl,rfl,rfl,0,ro,rfl,by omega,by simpa using s2⟩,?_⟩
 intro e H5 hI
 obtain⟨e1,e2,e3,e4,i,rx,e5,hi,s5⟩:=(hI:Iv (e 1) (e 2) (e 13) (e 14) (e 15) H5)
 show y_pu (.bin .lss (.cst (e 15)) (.cst (e 14))) _
 rw[e5,e4]
 refine y_pu_of (v:=.bool (decide ((i:Int)<4))) rfl (y_if0_of (fun ht=>?_) (fun ht=>?_))
 ·have hlt:i<4:=by have:=of_decide_eq_true ht;omega
  rw[e1,e2,e3]
  obtain⟨y,hy⟩:∃y,ns[i]?=some y:=⟨ns[i]'(by simpa[ns]using hlt),List.getElem?_eq_getElem _⟩
  have hc:apure (.indexAddrS 1 (.cst (.sl H1.next 0 4 (.ex 4))) (.cst (.int .i64 (i:Int)))) emp=some (.ptr H1.next i):=by
   have h1:(0:Int)≤(i:Int)∧(i:Int)<((4:Nat):Int):=by omega
   simp only[apure,AOpd.ev,aidxS]
   rw[if_pos h1];simp
  refine y_pu_of hc (s5.ld hm2 (nc_get hy) (s5.ld hm0 rfl ?_))
  have hsub:=ints_take_le ns (i+1)
  rw[ints_take_succ hy]at hsub
  refine s5.call (n18 (hns y (List.mem_of_getElem? hy)) s5.w (by simp only[List.length_append]at hb hsub ⊢;omega)) fun H6 r6 s6 hr6=>?_
  refine y_pu_of (v:=.int .i64 ((i+1:Nat):Int)) (by
   show some (AV.int .i64 (IntKind.i64.wrap ((i:Int)+1)))=_
   rw[wrap_lt (by omega)];rfl) ?_
  refine⟨⟨rfl,rfl,rfl,rfl,i+1,some r6,rfl,hlt,?_⟩,?_⟩
  ·rw[ints_take_succ hy,←List.append_assoc];exact s6
  ·show((4:Int)-((i+1:Nat):Int)).toNat<μ (e 1) (e 2) (e 13) (e 14) (e 15) H5
   rw[e5]
   show((4:Int)-((i+1:Nat):Int)).toNat<((4:Int)-(i:Int)).toNat
   omega
 ·have hge:i=4:=by have:=of_decide_eq_false ht;omega
  subst hge
  rw[show ns.take 4=ns from rfl]at s5
  rw[e1,e2]
  refine s5.ld hm0 rfl (y_pu_of (v:=.ptr H.next 4) rfl (s5.ldA (o:=4) (k:=19) hm1 (by simp[hcl]) ?_))
  have hcL:(([AV.int .i64 ru']++([AV.int .i64 l']++([AV.int .i64 rr']++([AV.int .i64 x']++(cL++([v6]++([v7]++([v8]++[v9])))))))).drop 4).take 19=cL:=by
   simp[←hcl]
  rw[hcL]
  refine s5.call (P19 h5 w5 s5.w (by simp only[List.length_append]at hb ⊢;omega)) fun H6 r6 s6 hr6=>?_
  refine s6.ld hm0 rfl (y_pu_of (v:=.ptr H.next 23) rfl (s6.ld (o:=23) (x:=v6) hm1 (by simp[List.getElem?_append,hcl]) ?_))
  refine s6.call (P20 (d:=us) h6 w6 s6.w (by simp only[List.length_append]at hb ⊢;omega)) fun H7 r7 s7 hr7=>?_
  refine s7.ld hm0 rfl (y_pu_of (v:=.ptr H.next 24) rfl (s7.ld (o:=24) (x:=v7) hm1 (by simp[List.getElem?_append,hcl]) (s7.ld hm0 rfl ?_)))
  refine s7.call (T21 (putA_list (t:=tInts) n18 rfl h7 w7 s7.w s7.k (P20.step _ p) (by simp only[List.length_append]at hb ⊢;omega))) fun H8 r8 s8 hr8=>?_
  refine s8.ld hm0 rfl (y_pu_of (v:=.ptr H.next 25) rfl (s8.ld (o:=25) (x:=v8) hm1 (by simp[List.getElem?_append,hcl]) ?_))
  refine s8.call (T22 (putB_list (t:=tStep) n18 rfl h8 w8 s8.w s8.k (S23 hm0) (by simp only[List.length_append]at hb ⊢;omega))) fun H9 r9 s9 hr9=>?_
  refine s9.ld hm0 rfl (y_pu_of (v:=.ptr H.next 26) rfl (s9.ld (o:=26) (x:=v9) hm1 (by simp[List.getElem?_append,hcl]) ?_))
  refine s9.call (T24 (putB_list (t:=tEqn) n18 rfl h9 w9 s9.w s9.k (S25 hm0) (by simp only[List.length_append]at hb ⊢;omega))) fun H10 r10 s10 hr10=>?_
  have:=s10.fin hr10
  simpa only[List.append_assoc]using this
end Go.Proofs.YtdandeekdbndgaaGreatDoor
namespace Go.Proofs.YtdandeekdbndgaaGreatDoor
open Go Go.AL Go.AL.Co
def EPost (H:AH) (bs:List UInt8):AOut→AH→Prop:=fun o H'=>∃r,H.next≤r∧r<H'.next∧o=.ret (.sl r 0 bs.length (.op 1))∧H'.get r=some (.cells (bs.map bv))∧KeepN H H'
theorem P6 {H:AH}{v0:AV}{d:tProof.D}(hR:RC tProof d [v0]) (hw:tProof.wf d) (hb:(tProof.enc d).length<bnd):ACall Tryz.prog 15 [v0] H (EPost H (tProof.enc d)):=by
 refine T6 ?_
 unfold G6
 refine y_pu_of (v:=.agg [.nils]) rfl (box_new rfl ?_)
 refine y_ef_of (v:=.ptr (H.next+1) 0) (H':=(H.push (.cells [.nils])).push (.cells [.nilp])) rfl ?_
 refine y_ef_of (v:=.unk) (H':=((H.push (.cells [.nils])).push (.cells [.nilp])).set (H.next+1) (.cells [.ptr H.next 0])) (by simp[aeff,AOpd.ev,AH.cells?,AH.get_push,AV.cellsOf,splice]) ?_
 generalize hH4:((H.push (.cells [.nils])).push (.cells [.nilp])).set (H.next+1) (.cells [.ptr H.next 0])=H4
 have g0:H4.get H.next=some (.cells [.nils]):=by
  subst hH4
  have:H.next≠H.next+1:=by omega
  simp[AH.get_set,AH.get_push,this]
 have g1:H4.get (H.next+1)=some (.cells [.ptr H.next 0]):=by subst hH4;simp[AH.get_set]
 have g2:H4.next=H.next+2:=by subst hH4;rfl
 have g3:KeepN H H4:=by
  refine⟨by omega,fun x hx=>?_,by subst hH4;rfl⟩
  subst hH4
  have h1:x≠H.next:=by omega
  have h2:x≠H.next+1:=by omega
  simp[AH.get_set,AH.get_push,h1,h2]
 have hW:Wr H4 H.next none []:=.nil g0 (by omega)
 have hL:KpL [(H.next+1,[AV.ptr H.next 0])] H.next H4 none:=fun x hx=>by
  cases hx with
  | head=>exact⟨by show H.next+1<H4.next;omega,by show H.next+1≠H.next;omega,by simp,g1⟩
  | tail _ h=>cases h
 have s0:=St.start hW hL
 refine s0.ld (.head _) rfl ?_
 refine s0.call (bs':=[]++tProof.enc d) (T16 (putB_list (t:=tNode) n18 rfl hR hw hW hL (S17 (.head _)) (by rw[List.nil_append];exact hb))) fun H5 r5 s5 hr5=>?_
 refine s5.ld (.head _) rfl (y_pu_of (v:=.ptr H.next 0) rfl (y_pu_of (v:=.ptr H.next 0) rfl ?_))
 have hw5:=s5.w
 rw[List.nil_append]at hw5
 refine wr_ld hw5 ?_
 cases hw5 with
 | row hp hr hne hl0 hrt=>
  refine⟨r5,by omega,hrt,rfl,hr,?_⟩
  have hk:=s5.kw
  have hn:=hk.nx
  exact⟨by omega,fun x hx=>by rw[hk.get x (by omega) (by omega) (by simp),g3.get x hx],hk.gl.trans g3.gl⟩
end Go.Proofs.YtdandeekdbndgaaGreatDoor
namespace Go.AL
open Co
inductive FrzX (z:Nat):AV→List AV→Nat→Prop
 | nil:FrzX z .nils [] 0
 | sim {c:List AV} {n:Nat} (h:c.length=n*z) (hn:0<n):FrzX z (.sim c n false) c n
def RX:(t:Ty)→t.D→List AV→Prop
 | .int,n,c=>c=[.int .i64 n]
 | .byte,x,c=>c=[bv x]
 | .bool,b,c=>c=[.bool b]
 | .list t,l,c=>∃v cs,c=[v]∧FrzX (tsz t) v cs (asL l).length∧∃css:List (List AV),cs=css.flatten∧css.length=(asL l).length∧∀(i:Nat) (x:t.D) (y:List AV),(asL l)[i]?=some x→css[i]?=some y→RX t x y
 | .pair a b,p,c=>∃c1 c2,c=c1++c2∧RX a p.1 c1∧RX b p.2 c2
 | .vec n,l,c=>(asV l).length=n∧c.length=n / 8∧∀i,i<n / 8→c[i]?=some (.int .u64 ((w8 (((asV l).drop (8*i)).take 8):Nat):Int))
theorem RX_rc:∀(t:Ty) (d:t.D) (c:List AV),RX t d c→RC t d c
 | .int,_,_,h=>h
 | .byte,_,_,h=>h
 | .bool,_,_,h=>h
 | .list t,_,_,h=>by
  obtain⟨v,cs,rfl,hf,css,h1,h2,h3⟩:=h
  refine⟨v,cs,rfl,?_,css,h1,h2,fun i x y hx hy=>RX_rc t _ _ (h3 i x y hx hy)⟩
  clear h2 h3
  generalize (asL _).length=n at hf ⊢
  cases hf with
  | nil=>exact .nil
  | sim h _=>exact .sim h
 | .pair a b,_,_,h=>by
  obtain⟨c1,c2,rfl,h1,h2⟩:=h
  exact⟨c1,c2,rfl,RX_rc a _ _ h1,RX_rc b _ _ h2⟩
 | .vec _,_,_,h=>h
theorem RX_len (t:Ty) (d:t.D) (c:List AV) (h:RX t d c):c.length=tsz t:=RC_len t d c (RX_rc t d c h)
theorem RX_fun:∀(t:Ty) (d:t.D) (c c':List AV),RX t d c→RX t d c'→c=c'
 | .int,_,_,_,h,h'=>by have h:_=_:=h;have h':_=_:=h';rw[h,h']
 | .byte,_,_,_,h,h'=>by have h:_=_:=h;have h':_=_:=h';rw[h,h']
 | .bool,_,_,_,h,h'=>by have h:_=_:=h;have h':_=_:=h';rw[h,h']
 | .list t,l,c,c',h,h'=>by
  obtain⟨v,cs,rfl,hf,css,h1,h2,h3⟩:=h
  obtain⟨v',cs',rfl,hf',css',h1',h2',h3'⟩:=h'
  have e:css=css':=by
   refine List.ext_getElem? fun i=>?_
   rcases Nat.lt_or_ge i (asL l).length with hi | hi
   ·have a0:(asL l)[i]?=some ((asL l)[i]'hi):=List.getElem?_eq_getElem hi
    have a1:css[i]?=some (css[i]'(by omega)):=List.getElem?_eq_getElem (by omega)
    have a2:css'[i]?=some (css'[i]'(by omega)):=List.getElem?_eq_getElem (by omega)
    rw[a1,a2,RX_fun t _ _ _ (h3 i _ _ a0 a1) (h3' i _ _ a0 a2)]
   ·rw[List.getElem?_eq_none (by omega),List.getElem?_eq_none (by omega)]
  subst e
  generalize (asL l).length=n at hf hf'
  cases hf with
  | nil=>cases hf' with
   | nil=>rfl
   | sim _ hn=>omega
  | sim _ hn=>cases hf' with
   | nil=>omega
   | sim _ _=>rw[h1,h1']
 | .pair a b,_,_,_,h,h'=>by
  obtain⟨c1,c2,rfl,h1,h2⟩:=h
  obtain⟨c1',c2',rfl,h1',h2'⟩:=h'
  rw[RX_fun a _ _ _ h1 h1',RX_fun b _ _ _ h2 h2']
 | .vec n,_,c,c',h,h'=>by
  obtain⟨_,h2,h3⟩:=h
  obtain⟨_,h2',h3'⟩:=h'
  refine List.ext_getElem? fun i=>?_
  rcases Nat.lt_or_ge i (n / 8)with hi | hi
  ·rw[h3 i hi,h3' i hi]
  ·rw[List.getElem?_eq_none (by omega),List.getElem?_eq_none (by omega)]
def cellsD:(t:Ty)→t.D→List AV
 | .int,n=>[.int .i64 n]
 | .byte,x=>[bv x]
 | .bool,b=>[.bool b]
 | .list t,l=>match asL l with
  | []=>[.nils]
  | x::r=>[.sim ((x::r).map (cellsD t)).flatten (r.length+1) false]
 | .pair a b,p=>cellsD a p.1++cellsD b p.2
 | .vec n,l=>(List.range (n / 8)).map fun i=>.int .u64 ((w8 (((asV l).drop (8*i)).take 8):Nat):Int)
theorem RX_cells:∀(t:Ty) (d:t.D),t.wf d→RX t d (cellsD t d)
 | .int,_,_=>rfl
 | .byte,_,_=>rfl
 | .bool,_,_=>rfl
 | .list t,l,hw=>by
  have hel:∀(l:List t.D),(∀x∈l,t.wf x)→∀(i:Nat) (x:t.D) (y:List AV),l[i]?=some x→(l.map (cellsD t))[i]?=some y→RX t x y:=fun l hl i x y hx hy=>by
   rw[List.getElem?_map,hx]at hy
   cases hy
   exact RX_cells t x (hl x (List.mem_of_getElem? hx))
  have hw:∀x∈asL l,t.wf x:=hw.2
  show ∃v cs,cellsD (.list t) l=[v]∧_
  unfold cellsD
  generalize asL l=k at hw
  cases k with
  | nil=>exact⟨_,[],rfl,.nil,[],rfl,rfl,fun i x y hx=>by simp at hx⟩
  | cons x r=>
   refine⟨_,_,rfl,.sim ?_ (Nat.succ_pos _),(x::r).map (cellsD t),rfl,by simp,hel (x::r) hw⟩
   rw[flat_len (z:=tsz t) _ fun y hy=>?_]
   ·simp
   ·obtain⟨i,hi⟩:=List.getElem?_of_mem hy
    obtain⟨u,hu,rfl⟩:=List.mem_map.1 hy
    exact RX_len t u _ (RX_cells t u (hw u hu))
 | .pair a b,d,hw=>⟨_,_,rfl,RX_cells a _ hw.1,RX_cells b _ hw.2⟩
 | .vec n,l,hw=>⟨hw,by show((List.range (n / 8)).map _).length=_;simp,fun i hi=>by
   show((List.range (n / 8)).map _)[i]?=_
   simp[hi]⟩
def QV:(t:Ty)→t.D→AV→Prop
 | .pair a b,d,x=>∃c,x=.agg c∧RC (.pair a b) d c
 | .int,d,x=>RC .int d [x]
 | .byte,d,x=>RC .byte d [x]
 | .bool,d,x=>RC .bool d [x]
 | .list t,d,x=>RC (.list t) d [x]
 | .vec n,d,x=>∃c,x=.agg c∧RC (.vec n) d c
end Go.AL
