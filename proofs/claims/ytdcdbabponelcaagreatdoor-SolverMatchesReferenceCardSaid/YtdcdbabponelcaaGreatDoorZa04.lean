import Derived.Test.YtdcdbabponelcaaGreatDoorZa03
import Derived.Recover
/-
  calls; the scope of a function; steps of a walk; deferred calls.
-/
set_option linter.unusedSectionVars false
set_option linter.unusedVariables false
set_option linter.unusedSimpArgs false
namespace Go.AL
inductive Da where
 | tmp (t:Nat)
 | cell (a:Nat) (agg:Option Nat)
def Z7 (P:Program):ResultVar→Option Da
 | .tmp t=>if t<Ao then some (.tmp t)else none
 | .cell a t=>if a<Ao then(HY P t).map (.cell a ·)else none
def Fs (P:Program):List ResultVar→Option (List Da)
 | []=>some []
 | x::l=>match Z7 P x,Fs P l with
  | some y,some r=>some (y::r)
  | _,_=>none
def DY (e:Env) (H:AH):List Da→Option (List AV)
 | []=>some []
 | .tmp t::l=>(DY e H l).map (e t::·)
 | .cell a g::l=>match Cm g (e a) H with
  | some v=>(DY e H l).map (v::·)
  | none=>none
def LB:List AV→AV
 | [v]=>v
 | l=>.tup l
section
variable {P:Program}{Z:Zt}{σ:Sg}{H:AH}{w:World}{e:Env}{a:Act}
def Mc (tmps:Array Value):ResultVar→Sem Value
 | .tmp t=>pure (tmps.getD t undef)
 | .cell a t=>do loadVar t (←asAddr (tmps.getD a undef))
theorem FT (hW:WR Z σ H w) (he:ER Z σ e a):∀{rs:List ResultVar}{ars:List Da}{vs:List AV},Fs P rs=some ars→DY e H ars=some vs →
  ∃us:List Value,(rs.mapM (Mc a.tmps)).run P w=.ok us w∧CI Z σ vs us
 | [],ars,vs,h1,h2=>by
  simp only[Fs,Option.some.injEq]at h1;subst h1
  simp only[DY,Option.some.injEq]at h2;subst h2
  exact⟨[],by simp,.nil⟩
 | x::rs,ars,vs,h1,h2=>by
  simp only[Fs]at h1
  split at h1<;>simp only[Option.some.injEq,reduceCtorEq]at h1
  rename_i y r hx hr
  subst h1
  cases x with
  | tmp t=>
   simp only[Z7]at hx
   split at hx<;>simp only[Option.some.injEq,reduceCtorEq]at hx
   rename_i hlt
   subst hx
   simp only[DY,Option.map_eq_some_iff]at h2
   obtain⟨vs',h2,rfl⟩:=h2
   obtain⟨us,g1,g2⟩:=FT hW he hr h2
   exact⟨a.tmps.getD t undef::us,by simp[List.mapM_cons,Mc,g1],.cons (he t hlt) g2⟩
  | cell ad t=>
   simp only[Z7]at hx
   split at hx<;>(try (cases hx;done))
   rename_i hlt
   simp only[Option.map_eq_some_iff]at hx
   obtain⟨g,hg,rfl⟩:=hx
   simp only[DY]at h2
   split at h2<;>(try (cases h2;done))
   rename_i v hv
   simp only[Option.map_eq_some_iff]at h2
   obtain⟨vs',h2,rfl⟩:=h2
   obtain⟨us,g1,g2⟩:=FT hW he hr h2
   obtain⟨cv,r1,r2⟩:=KD (P:=P) hW hg (he ad hlt) hv
   refine⟨cv::us,?_,.cons r2 g2⟩
   have:(Mc a.tmps (.cell ad t)).run P w=.ok cv w:=by
    simp only[Mc]
    cases hp:a.tmps.getD ad undef with
    | pointer o=>
     cases o with
     | none=>rw[hp]at r1;simp[Instr.loadAt,Instr.sureAddr]at r1
     | some x=>rw[hp]at r1;simpa[Instr.loadAt,Instr.sureAddr,asAddr]using r1
    | _=>rw[hp]at r1;simp[Instr.loadAt,Instr.sureAddr]at r1
   simp[List.mapM_cons,this,g1]
theorem OH (hW:WR Z σ H w) (he:ER Z σ e a){fn:Func}{ars:List Da}{vs:List AV}(h1:Fs P fn.results.toList=some ars) (h2:DY e H ars=some vs) :
  ∃cv,(results fn a.tmps).run P w=.ok cv w∧VR Z σ (LB vs) cv:=by
 obtain⟨us,g1,g2⟩:=FT hW he h1 h2
 have hm:(fn.results.mapM (Mc a.tmps)).run P w=.ok us.toArray w:=by
  rw[Array.mapM_eq_mapM_toList];simp[g1]
 have hres:(results fn a.tmps).run P w=.ok (if h:us.toArray.size=1 then us.toArray[0]else .tuple us.toArray) w:=by
  have e1:results fn a.tmps=(do let vs ←fn.results.mapM (Mc a.tmps);pure (if h:vs.size=1 then vs[0]else .tuple vs)):=rfl
  rw[e1];simp[hm]
 refine⟨_,hres,?_⟩
 cases g2 with
 | nil=>simp[LB];exact .tup (by simpa using CI.nil)
 | cons h t=>
  cases t with
  | nil=>simpa[LB]using h
  | cons h' t'=>simp[LB];exact .tup (by simpa using CI.cons h (.cons h' t'))
def Lb (ars:List Da) (post:Cc→AH→Prop):Ex→Env→AH→Prop
 | .normal,e,H | .ret,e,H=>match DY e H ars with
  | some vs=>post (.ret (LB vs)) H
  | none=>False
 | .pan v,_,H=>post (.pan v) H
 | .exit _,_,_=>False
def JV (args:List AV):Env:=fun t=>if t=Ao then .tup []else args.getD t .unk
def NS:CJ→Bool
 | .reg ops=>ops.all (fun o=>!o.k.Bv)
 | .seq a b | .cond _ a b=>NS a&&NS b
 | .block _ a | .loop a=>NS a
 | _=>true
def Dd (Q:Ex→Env→AH→Prop):Ex→Env→AH→Prop:=fun x e H=>e Ao=.tup []→Q x e H
theorem CI.getD {l:List AV}{vs:List Value}(h:CI Z σ l vs) (t:Nat):VR Z σ (l.getD t .unk) (vs.getD t undef):=by
 rw[List.getD_eq_getElem?_getD,List.getD_eq_getElem?_getD]
 cases hl:l[t]? with
 | none=>simp;exact .unk _
 | some x=>
  obtain⟨v,h1,h2⟩:=h.get hl
  rw[h1];exact h2
theorem WL {vs:List Value}{args:List AV}(hv:CI Z σ args vs){n:Nat}(hlen:args.length≤n) (hn:n≤Ao) :
  FR Z σ n (JV args) { tmps:=vs.toArray++Array.replicate (n-vs.toArray.size) undef,defers:=[] }:=by
 have hl:=hv.length
 refine⟨fun t ht=>?_,⟨[],by simp[JV],.nil⟩,by simp;omega⟩
 have hne:t≠Ao:=by omega
 simp only[JV,hne,if_false]
 have hg:(vs.toArray++Array.replicate (n-vs.toArray.size) undef).getD t undef=vs.getD t undef:=by
  rw[Array.getD_eq_getD_getElem?,List.getD_eq_getElem?_getD,Array.getElem?_append]
  split
  ·simp
  ·rename_i hlt
   have hlt':vs.length≤t:=by simpa using hlt
   rw[List.getElem?_eq_none hlt']
   rw[Array.getElem?_replicate]
   split<;>rfl
 rw[hg];exact hv.getD t
theorem An.kj {f:FuncId}{args:List AV}{H:AH}{post:Cc→AH→Prop}(hE:Enters P f)
  (h:∀(Z:Zt) (σ:Sg) (w:World) (vs:List Value),KL Z→(∀b,¬Z.old b→Z b=none)→WR Z σ H w→CI Z σ args vs →
   Calls P f vs.toArray w fun e w'=>∃Z' σ' H' out,Ck Z Z'∧Nw σ H.next σ'∧H.next≤H'.next∧WR Z' σ' H' w'∧SC Z' σ' out e∧post out H'):An P f args H post:=by
 refine⟨hE,fun Z σ w vs hW hv=>?_⟩
 have c1:∀(Z:Zt) (o:Nat→Prop),Zc Z { Z with old:=o }:=fun Z o _ _ _ _ h=>h
 have wr:∀(Z:Zt) (o:Nat→Prop) {σ:Sg} {H:AH} {w:World},WR Z σ H w→WR { Z with old:=o } σ H w:=fun Z o σ H w hW=>
  ⟨hW.z,fun r x p h1 h2=>⟨(hW.h r x p h1 h2).1,((hW.h r x p h1 h2).2).KM (c1 Z o) rfl⟩,hW.inj,hW.fresh,hW.top,hW.rest⟩
 refine(h { Z with old:=fun b=>∃o,Z b=some o } σ w vs (fun b hb=>hb) (fun b hb=>?_) (wr Z _ hW) (hv.Em (c1 Z _) (fun _ _ h=>h))).mono ?_
 ·cases hq:Z b with
  | none=>rfl
  | some x=>exact absurd ⟨x,hq⟩ hb
 ·rintro e w' ⟨Z',σ',H',out,g1,g2,g3,g4,g5,g6⟩
  refine⟨{ Z' with old:=Z.old },σ',H',out,⟨g1.le,g1.os,g1.out,g1.Gs,rfl⟩,g2,g3,wr Z' _ g4,?_,g6⟩
  cases out with
  | ret v=>obtain⟨cv,q1,q2⟩:=g5;exact⟨cv,q1,q2.Em (c1 Z' _) (fun _ _ h=>h)⟩
  | pan v=>obtain⟨cv,q1,q2⟩:=g5;exact⟨cv,q1,q2.Em (c1 Z' _) (fun _ _ h=>h)⟩
theorem DR.shut {Z:Zt}{σ:Sg}{b:Nat}{o:Obj}(hb:Z b=some (.deferred (some []))){ds:List AV}{dd:List Deferred}(h:DR Z σ ds dd):(∀d∈dd,d.target≠.collected b)→DR (Z.at b o) σ ds dd:=by
 have hc:Zc Z (Z.at b o):=Zt.Ua o fun x hx=>by rw[hb]at hx;cases hx;exact LH
 induction h with
 | nil=>exact fun _=>.nil
 | cons h _ ih=>exact fun hn=>.cons (h.Em hc (fun _ _ h=>h)) (ih fun d hd=>hn d (List.mem_cons_of_mem _ hd))
 | mark h h2 h3 _ ih=>exact fun hn=>.mark (by rw[Zt.FO _ _ (fun hq=>hn _ (List.mem_cons_self ..) (by rw[hq]))];exact h) h2 h3 (ih fun d hd=>hn d (List.mem_cons_of_mem _ hd))
theorem GC {fn:Func}{tmps:Array Value}{R:Ending→World→Prop}{u:FrameMode}(hu:u≠.run){Z0:Zt}:∀(ds:List AV) (dd:List Deferred) (Z:Zt) (w:World),(∀x∈ds,x=.nili)→DR Z σ ds dd→WR Z σ H w→Ck Z0 Z →
  (∀b,¬Z.old b→Z0 b=none)→(∀Z' w',Ck Z0 Z'→Zc Z Z'→WR Z' σ H w'→LeavesIn Fence.wide 0 P fn tmps R [] u w')→LeavesInM Fence.wide 0 P fn tmps R dd u w
 | [],dd,Z,w,_,hD,hW,hZ,_,hK=>by
  cases hD
  exact hK Z w hZ (fun _ _ _ _ h=>h) hW
 | x::ds,dd,Z,w,hx,hD,hW,hZ,ho,hK=>by
  have:=hx x (List.mem_cons_self ..)
  subst this
  cases hD with
  | @mark b _ dd' h h2 h3 t=>
   have hc:Zc Z (Z.at b (.deferred none)):=Zt.Ua _ fun x hx=>by rw[h]at hx;cases hx;exact LH
   refine⟨hu,.inl ⟨b,_,rfl,run_takeDeferred (hW.z _ _ h),?_⟩⟩
   exact GC hu ds dd' _ _ (fun y hy=>hx y (List.mem_cons_of_mem _ hy)) (t.shut h h3) (hW.KM h LH _) (Zt.Q4 _ hZ (.inl (ho b h2))) ho
    (fun Z' w' k1 k2 k3=>hK Z' w' k1 (fun b c e fr hb=>k2 b c e fr (hc b c e fr hb)) k3)
theorem O4 {f:FuncId}{fn:Func}{c:Code}{ars:List Da}{args:List AV}{post:Cc→AH→Prop}(hf:P.funcs[f]?=some fn)
  (hb:fn.body=some c) (hn:fn.ntmps≤Ao) (hlen:args.length≤fn.ntmps) (hr:Fs P fn.results.toList=some ars) {vs:List Value} (hO:KL Z) (hN:∀b,¬Z.old b→Z b=none) (hW:WR Z σ H w) (hv:CI Z σ args vs)
  (h:∀a,FR Z σ fn.ntmps (JV args) a→c.wpIn (RF none) 0 P (QR Z σ fn.ntmps H.next fun x e H=>(∃ds,e Ao=.tup ds∧∀x∈ds,x=.nili)∧Lb ars post x e H) a w) :
  Calls P f vs.toArray w fun e w'=>∃Z' σ' H' out,Ck Z Z'∧Nw σ H.next σ'∧H.next≤H'.next∧WR Z' σ' H' w'∧SC Z' σ' out e∧post out H':=by
 refine(callsIn_wide (n:=0)).1 (callsIn_of_wp_marks hf hb trivial (Code.wpIn_mono ?_ (h _ (WL hv hlen hn))))
 rintro ex a' w' ⟨Z',σ',z,e',H',g1,g2,g3,g4,g5,g6,⟨ds,g7,g8⟩,g9⟩
 have hds:DR Z' σ' ds a'.defers:=by
  obtain⟨l,k1,k2⟩:=g5.ds
  rw[g7]at k1;simp only[AV.tup.injEq]at k1;subst k1;exact k2
 have hN':∀b,¬Z'.old b→Z b=none:=fun b hb=>hN b (by rw[←g1.old];exact hb)
 have fin:(match DY e' H' ars with | some vs=>post (.ret (LB vs)) H' | none=>False)→LeavesInM Fence.wide 0 P fn a'.tmps (fun e w'=>∃Z' σ' H' out,Ck Z Z'∧Nw σ H.next σ'∧H.next≤H'.next∧WR Z' σ' H' w'∧SC Z' σ' out e∧post out H') a'.defers .returning w':=fun hp=>by
  refine GC (by simp) ds _ Z' w' g8 hds g4 g1 hN' fun Z2 w2 k1 k2 k3=>?_
  split at hp
  ·rename_i us hus
   obtain⟨cv,r1,r2⟩:=OH (P:=P) k3 (fun t ht=>(g5.er t ht).Em k2 (fun _ _ h=>h)) hr hus
   exact⟨cv,r1,Z2,σ',H',.ret (LB us),k1,g2,g3,k3,⟨cv,rfl,r2⟩,hp⟩
  ·exact hp.elim
 cases z with
 | normal=>cases g6;exact fin g9
 | ret=>cases g6;exact fin g9
 | exit i=>exact g9.elim
 | pan v=>
  obtain⟨cv,rfl,hv⟩:=g6
  refine GC (by simp) ds _ Z' w' g8 hds g4 g1 hN' fun Z2 w2 k1 k2 k3=>?_
  exact⟨Z2,σ',H',.pan v,k1,g2,g3,k3,⟨cv,rfl,hv.Em k2 (fun _ _ h=>h)⟩,g9⟩
theorem Mj:∀x∈([]:List AV),x=.nili:=fun x hx=>by cases hx
end
end Go.AL
namespace Go.AL
def Gv (k:Nat) (σ:Sg):Sg:=fun r=>if r<k then σ r else none
def AH.cut (H:AH) (k:Nat) (g:Nat→Option Obj):AH:=⟨fun r=>if r<k then H.get r else none,k,g⟩
mutual
inductive Sc (k:Nat):AV→Prop
 | unk:Sc k .unk
 | bool (b:Bool):Sc k (.bool b)
 | int (t:IntKind) (n:Int):Sc k (.int t n)
 | str (l:List UInt8):Sc k (.str l)
 | nilp:Sc k .nilp
 | ptr {r o:Nat} (h:r<k):Sc k (.ptr r o)
 | pim {l:List AV} {o:Nat} (h:DZ k l):Sc k (.pim l o)
 | nils:Sc k .nils
 | sl {r o n:Nat} {m:Nu} (h:r<k):Sc k (.sl r o n m)
 | sim {l:List AV} {n:Nat} {ex:Bool} (h:DZ k l):Sc k (.sim l n ex)
 | nilm:Sc k .nilm
 | mp {r:Nat} (h:r<k):Sc k (.mp r)
 | nilf:Sc k .nilf
 | fn {f:Fn} {a b:List AV} (h1:DZ k a) (h2:DZ k b):Sc k (.fn f a b)
 | nili:Sc k .nili
 | ifc {t:TypeId} {x:AV} (h:Sc k x):Sc k (.ifc t x)
 | agg {l:List AV} (h:DZ k l):Sc k (.agg l)
 | tup {l:List AV} (h:DZ k l):Sc k (.tup l)
inductive DZ (k:Nat):List AV→Prop
 | nil:DZ k []
 | cons {x:AV} {l:List AV} (h:Sc k x) (t:DZ k l):DZ k (x::l)
end
theorem DZ.mem {k:Nat}{l:List AV}(h:DZ k l){x:AV}(hx:x∈l):Sc k x:=by
 induction l with
 | nil=>simp at hx
 | cons y l ih=>
  cases h with
  | cons h t=>cases hx with
   | head=>exact h
   | tail _ hx=>exact ih t hx
theorem DZ.Hs {k:Nat}{l:List AV}(h:∀x∈l,Sc k x):DZ k l:=by
 induction l with
 | nil=>exact .nil
 | cons y l ih=>exact .cons (h y (List.mem_cons_self ..)) (ih fun x hx=>h x (List.mem_cons_of_mem _ hx))
section
variable {Z Z':Zt}{σ σ':Sg}{k:Nat}
theorem MA (hk:∀r,k≤r→σ r=none){x:AV}{v:Value}(h:VR Z σ x v):Sc k x:=by
 have lt:∀{r:Nat} {p:GS},σ r=some p→r<k:=fun{r p} h=>by
  rcases Nat.lt_or_ge r k with h' | h'
  ·exact h'
  ·rw[hk r h']at h;cases h
 refine VR.rec (motive_1:=fun x v _=>Sc k x) (motive_2:=fun l vs _=>DZ k l) ?_ ?_ ?_ ?_ ?_ ?_ ?_ ?_ ?_ ?_ ?_ ?_ ?_ ?_ ?_ ?_ ?_ ?_ ?_ ?_ ?_ ?_ ?_ ?_ ?_ h
 case refine_1=>exact fun v=>.unk
 case refine_2=>exact fun v=>.bool v
 case refine_3=>exact fun k n=>.int k n
 case refine_4=>exact fun l=>.str l
 case refine_5=>exact .nilp
 case refine_6=>exact fun h=>.ptr (lt h)
 case refine_7=>exact fun hz h1 _ ih=>.pim ih
 case refine_8=>exact .nils
 case refine_9=>exact fun h hn=>.sl (lt h)
 case refine_10=>exact fun h a=>.sl (lt h)
 case refine_11=>exact fun h hn hs=>.sl (lt h)
 case refine_12=>exact fun h a=>.sl (lt h)
 case refine_13=>exact fun hn hx hs hz h1 _ ih=>.sim ih
 case refine_14=>exact fun a hx=>.sim .nil
 case refine_15=>exact .sim .nil
 case refine_16=>exact .nilm
 case refine_17=>exact fun h=>.mp (lt h)
 case refine_18=>exact .nilf
 case refine_19=>exact fun _ _ i1 i2=>.fn i1 i2
 case refine_20=>exact .nili
 case refine_21=>exact fun _ ih=>.ifc ih
 case refine_22=>exact fun h1 _ ih=>.agg ih
 case refine_23=>exact fun _ ih=>.tup ih
 case refine_24=>exact .nil
 case refine_25=>exact fun _ _ i1 i2=>.cons i1 i2
theorem L_ (hk:∀r,k≤r→σ r=none){l:List AV}{vs:List Value}(h:CI Z σ l vs):DZ k l:=by
 induction l generalizing vs with
 | nil=>exact .nil
 | cons x l ih=>cases h with | cons h t=>exact .cons (MA hk h) (ih t)
theorem VR.cut {x:AV}{v:Value}(h:VR Z σ x v):Sc k x→VR Z (Gv k σ) x v:=by
 have at':∀{r:Nat} {p:GS},r<k→σ r=some p→Gv k σ r=some p:=fun h1 h2=>by simp[Gv,h1,h2]
 refine VR.rec (motive_1:=fun x v _=>Sc k x→VR Z (Gv k σ) x v) (motive_2:=fun l vs _=>DZ k l→CI Z (Gv k σ) l vs) ?_ ?_ ?_ ?_ ?_ ?_ ?_ ?_ ?_ ?_ ?_ ?_ ?_ ?_ ?_ ?_ ?_ ?_ ?_ ?_ ?_ ?_ ?_ ?_ ?_ h
 case refine_1=>exact fun v _=>.unk v
 case refine_2=>exact fun v _=>.bool v
 case refine_3=>exact fun k n _=>.int k n
 case refine_4=>exact fun l _=>.str l
 case refine_5=>exact fun _=>.nilp
 case refine_6=>exact fun h hs=>by cases hs with | ptr h'=>exact .ptr (at' h' h)
 case refine_7=>exact fun hz h1 _ ih hs=>by cases hs with | pim h'=>exact .pim hz h1 (ih h')
 case refine_8=>exact fun _=>.nils
 case refine_9=>exact fun h hn hs=>by cases hs with | sl h'=>exact .slx (at' h' h) hn
 case refine_10=>exact fun h a hs=>by cases hs with | sl h'=>exact .slxz (at' h' h) a
 case refine_11=>exact fun h hn hz hs=>by cases hs with | sl h'=>exact .slo (at' h' h) hn hz
 case refine_12=>exact fun h a hs=>by cases hs with | sl h'=>exact .sloz (at' h' h) a
 case refine_13=>exact fun hn hx hs hz h1 _ ih h=>by cases h with | sim h'=>exact .sim hn hx hs hz h1 (ih h')
 case refine_14=>exact fun a hx _=>.simz a hx
 case refine_15=>exact fun _=>.simn
 case refine_16=>exact fun _=>.nilm
 case refine_17=>exact fun h hs=>by cases hs with | mp h'=>exact .mp (at' h' h)
 case refine_18=>exact fun _=>.nilf
 case refine_19=>exact fun _ _ i1 i2 hs=>by cases hs with | fn a b=>exact .fn (i1 a) (i2 b)
 case refine_20=>exact fun _=>.nili
 case refine_21=>exact fun _ ih hs=>by cases hs with | ifc h=>exact .ifc (ih h)
 case refine_22=>exact fun h1 _ ih hs=>by cases hs with | agg h=>exact .agg h1 (ih h)
 case refine_23=>exact fun _ ih hs=>by cases hs with | tup h=>exact .tup (ih h)
 case refine_24=>exact fun _=>.nil
 case refine_25=>exact fun _ _ i1 i2 hs=>by cases hs with | cons a b=>exact .cons (i1 a) (i2 b)
theorem CI.cut {l:List AV}{vs:List Value}(h:CI Z σ l vs) (hs:DZ k l):CI Z (Gv k σ) l vs:=by
 induction l generalizing vs with
 | nil=>cases h;exact .nil
 | cons x l ih=>cases h with | cons h t=>cases hs with | cons a b=>exact .cons (h.cut a) (ih t b)
end
mutual
inductive Fx (H:AH) (k:Nat):AV→AV→Prop
 | low {x:AV} (h:Sc k x):Fx H k x x
 | unk (x:AV):Fx H k x .unk
 | sl {r o n m:Nat} {lim:Nu} {l l':List AV} {ex:Bool} (hr:k≤r) (hc:H.cells? r=some l) (hm:o+m≤l.length) (hl:Cd H k ((l.drop o).take m) l') (hn:n=0→m=0) (hx:ex=true→lim=.ex n) :
   Fx H k (.sl r o n lim) (.sim l' n ex)
 | ptr {r o:Nat} {l l':List AV} (hr:k≤r) (hc:H.cells? r=some l) (hl:Cd H k l l'):Fx H k (.ptr r o) (.pim l' o)
 | ifc {t:TypeId} {x y:AV} (h:Fx H k x y):Fx H k (.ifc t x) (.ifc t y)
 | agg {l l':List AV} (h:Cd H k l l'):Fx H k (.agg l) (.agg l')
 | tup {l l':List AV} (h:Cd H k l l'):Fx H k (.tup l) (.tup l')
 | fn {f:Fn} {a b a' b':List AV} (h1:Cd H k a a') (h2:Cd H k b b'):Fx H k (.fn f a b) (.fn f a' b')
inductive Cd (H:AH) (k:Nat):List AV→List AV→Prop
 | nil:Cd H k [] []
 | cons {x y:AV} {l l':List AV} (h:Fx H k x y) (t:Cd H k l l'):Cd H k (x::l) (y::l')
end
theorem Cd.low {H:AH}{k:Nat}{l:List AV}(h:DZ k l):Cd H k l l:=by
 induction l with
 | nil=>exact .nil
 | cons x l ih=>cases h with | cons a b=>exact .cons (.low a) (ih b)
open Classical in
noncomputable def TR (Z:Zt) (σ:Sg) (H:AH) (k:Nat) (w:World) (b:Nat):Option Obj:=
 if (∃r o p,k≤r∧H.get r=some o∧σ r=some p∧p.b=b)then w.heap[b]? else Z b
noncomputable def KS (Z:Zt) (σ:Sg) (H:AH) (k:Nat) (w:World):Zt:={ Z with blk:=TR Z σ H k w }
section
variable {Z:Zt}{σ:Sg}{H:AH}{w:World}{k:Nat}
theorem Kh (hW:WR Z σ H w):Ck Z (KS Z σ H k w):=by
 refine⟨fun b o hz=>?_,rfl,rfl,rfl,rfl⟩
 simp only[KS,TR]
 split
 ·exact hW.z b o hz
 ·exact hz
theorem Qd {r:Nat}{o:DE}{p:GS}(hr:k≤r) (hg:H.get r=some o) (hp:σ r=some p):KS Z σ H k w p.b=w.heap[p.b]?:=by
 simp only[KS,TR];rw[if_pos ⟨r,o,p,hr,hg,hp,rfl⟩]
def jE (k:Nat):DE→Prop
 | .cells l=>DZ k l
 | .map es _=>∀e∈es,Sc k e.1∧Sc k e.2.1
theorem WR.Zx (hW:WR Z σ H w) (hs:∀r o p,r<k→H.get r=some o→σ r=some p→jE k o){g:Nat→Option Obj}(hg:∀b o,g b=some o→Z b=some o∧Y9 o):WR (KS Z σ H k w) (Gv k σ) (H.cut k g) w:=by
 refine⟨fun b o hz=>?_,fun r o p hr hp=>?_,fun r r' o o' p p' h1 h2 h3 h4 he=>?_,fun r hr=>?_,fun r hr=>?_,KK.le ⟨hW.rest.1,hW.rest.2.1,hg⟩ (Kh hW)⟩
 ·simp only[KS,TR]at hz
  split at hz
  ·exact hz
  ·exact hW.z b o hz
 ·simp only[AH.cut]at hr
  simp only[Gv]at hp
  split at hr
  ·rename_i hlt
   rw[if_pos hlt]at hp
   obtain⟨h1,h2⟩:=hW.h r o p hr hp
   refine⟨?_,?_⟩
   ·simp only[KS,TR]
    rw[if_neg]
    ·exact h1
    ·rintro⟨r',o',p',hr',hg',hp',hb'⟩
     have:=hW.inj r r' o o' p p' hr hg' hp hp' hb'.symm
     omega
   ·have hsc:=hs r o p hlt hr hp
    have hle:Ck Z (KS Z σ H k w):=Kh hW
    cases h2 with
    | cells hb hs' hf hl hv h1=>exact .cells hb hs' hf hl ((hv.mono hle (KJ.refl _)).cut hsc) h1
    | map hb hn he=>
     refine .map hb hn fun i kk x n hi=>?_
     obtain⟨m,g1,g2,g3,g4⟩:=he i kk x n hi
     have hm:=hsc _ (List.mem_of_getElem? hi)
     exact⟨m,g1,(g2.mono hle (KJ.refl _)).cut hm.1,(g3.mono hle (KJ.refl _)).cut hm.2,g4⟩
  ·cases hr
 ·simp only[AH.cut]at h1 h2
  simp only[Gv]at h3 h4
  split at h1<;>(try (cases h1;done))
  split at h2<;>(try (cases h2;done))
  rename_i a b
  rw[if_pos a]at h3
  rw[if_pos b]at h4
  exact hW.inj r r' o o' p p' h1 h2 h3 h4 he
 ·have:¬r<k:=by have:k≤r:=hr;omega
  simp[Gv,this]
 ·have:¬r<k:=by have:k≤r:=hr;omega
  simp[AH.cut,this]
theorem Cd.len {l l':List AV}(h:Cd H k l l'):l.length=l'.length:=by
 induction l generalizing l' with
 | nil=>cases h;rfl
 | cons x l ih=>cases h with | cons a b=>simp[ih b]
mutual
theorem Fx.sound (hW:WR Z σ H w):∀{x y:AV},Fx H k x y→∀{v:Value},VR Z σ x v→VR (KS Z σ H k w) (Gv k σ) y v
 | _,_,.low h,v,hv=>(hv.mono (Kh hW) (KJ.refl _)).cut h
 | _,_,.unk _,v,_=>.unk v
 | _,_,@Fx.sl _ _ r o n m lim l l' ex hr hc hm hl hn hx,v,hv=>by
  have hlen:m=l'.length:=by have:=hl.len;simp at this;omega
  have main:∀(p:GS),σ r=some p→∀cap,n≤cap→(ex=true→cap=n)→VR (KS Z σ H k w) (Gv k σ) (.sim l' n ex) (.slice (some ⟨p.b,p.base+o,none⟩) n cap):=by
   intro p hp cap MJ hxc
   obtain⟨_,c,el,fr,hb,_,_,h4,h5,h6⟩:=hW.row hc hp
   have hz:=Qd (Z:=Z) (w:=w) hr (cells?_some hc) hp
   rw[hb]at hz
   have e1:(c.toList.drop (p.base+o)).take l'.length=(((c.toList.drop p.base).take l.length).drop o).take m:=by
    rw[List.drop_take,List.drop_drop,List.take_take,Nat.min_eq_left (by omega),hlen]
   refine .sim MJ hxc rfl hz ?_ ?_
   ·simp only[e1];intro u hu;exact h6 u (List.mem_of_mem_drop (List.mem_of_mem_take hu))
   ·simp only[e1];exact Cd.sound hW hl ((h5.drop _).take _)
  cases hv with
  | slx hp hnm=>exact main _ hp _ hnm (fun h=>by have:=hx h;simp only[Nu.ex.injEq]at this;exact this)
  | slxz hp ad=>
   have h0:l'=[]:=List.eq_nil_of_length_eq_zero (by rw[←hlen];exact hn rfl)
   subst h0;exact .simz ad (fun _=>rfl)
  | slo hp hnm hs=>exact main _ hp _ hnm (fun h=>by have:=hx h;cases this)
  | sloz hp ad=>
   have h0:l'=[]:=List.eq_nil_of_length_eq_zero (by rw[←hlen];exact hn rfl)
   subst h0;exact .simz ad (fun _=>rfl)
 | _,_,@Fx.ptr _ _ r o l l' hr hc hl,v,hv=>by
  obtain⟨p,hp,rfl⟩:=hv.FJ
  obtain⟨_,c,el,fr,hb,_,_,h4,h5,h6⟩:=hW.row hc hp
  have hz:=Qd (Z:=Z) (w:=w) hr (cells?_some hc) hp
  rw[hb]at hz
  have hlen:=hl.len
  refine .pim hz ?_ ?_
  ·rw[←hlen];exact h6
  ·rw[←hlen];exact Cd.sound hW hl h5
 | _,_,.ifc h,v,hv=>by cases hv with | ifc hv=>exact .ifc (Fx.sound hW h hv)
 | _,_,.agg h,v,hv=>by cases hv with | agg h1 hv=>exact .agg h1 (Cd.sound hW h hv)
 | _,_,.tup h,v,hv=>by cases hv with | tup hv=>exact .tup (Cd.sound hW h hv)
 | _,_,.fn h1 h2,v,hv=>by cases hv with | fn a b=>exact .fn (Cd.sound hW h1 a) (Cd.sound hW h2 b)
theorem Cd.sound (hW:WR Z σ H w):∀{l l':List AV},Cd H k l l'→∀{vs:List Value},CI Z σ l vs→CI (KS Z σ H k w) (Gv k σ) l' vs
 | _,_,.nil,vs,hv=>by cases hv;exact .nil
 | _,_,.cons h t,vs,hv=>by cases hv with | cons a b=>exact .cons (Fx.sound hW h a) (Cd.sound hW t b)
end
def gZ (H:AH) (k:Nat):Cc→Cc→Prop
 | .ret x,.ret y=>Fx H k x y
 | .pan x,.pan y=>Fx H k x y
 | _,_=>False
theorem An.scope {P:Program}{f:FuncId}{args:List AV}{H:AH}{post0 post:Cc→AH→Prop}(h:DZ H.next args→(∀r,H.next≤r→H.get r=none)→An P f args H post0)
  (hE:Enters P f)
  (hp:DZ H.next args→(∀r,H.next≤r→H.get r=none)→∀out H',post0 out H'→∃out',gZ H' H.next out out'∧(∀r o,r<H.next→H'.get r=some o→H.get r=some o∨jE H.next o)∧post out' (H'.cut H.next H.gl)) :
  An P f args H post:=by
 refine⟨hE,fun Z σ w vs hW hv=>?_⟩
 have hsc:DZ H.next args:=L_ hW.fresh hv
 refine((h hsc hW.top).2 Z σ w vs hW hv).mono fun x w' hx=>?_
 obtain⟨Z',σ',H',out,g1,g2,g3,g4,g5,g6⟩:=hx
 obtain⟨out',k1,k2,k3⟩:=hp hsc hW.top out H' g6
 have hall:∀r o p,r<H.next→H'.get r=some o→σ' r=some p→jE H.next o:=by
  intro r o p hr ho hp
  rcases k2 r o hr ho with h | h
  ·have hp':σ r=some p:=by rw[←g2 r hr];exact hp
   have:=(hW.h r o p h hp').2
   cases this with
   | cells hb hs' hf hl hv h1=>exact L_ hW.fresh hv
   | map hb hn he=>
    intro e hm
    obtain⟨i,hi⟩:=List.getElem?_of_mem hm
    obtain⟨m,q1,q2,q3,q4⟩:=he i e.1 e.2.1 e.2.2 hi
    exact⟨MA hW.fresh q2,MA hW.fresh q3⟩
  ·exact h
 refine⟨KS Z' σ' H' H.next w',Gv H.next σ',H'.cut H.next H.gl,out',g1.trans (Kh g4),fun r hr=>?_,Nat.le_refl _,g4.Zx hall (fun b o hb=>⟨g1.le _ _ (hW.rest.2.2 b o hb).1,(hW.rest.2.2 b o hb).2⟩),?_,k3⟩
 ·simp only[Gv,hr,if_true];exact g2 r hr
 ·cases out<;>cases out'<;>simp only[gZ]at k1
  ·obtain⟨cv,rfl,hv⟩:=g5;exact⟨cv,rfl,k1.sound g4 hv⟩
  ·obtain⟨cv,rfl,hv⟩:=g5;exact⟨cv,rfl,k1.sound g4 hv⟩
theorem AH.UO {H H':AH}(htop:∀r,H.next≤r→H.get r=none) (h:∀r,r<H.next→H'.get r=H.get r):H'.cut H.next H.gl=H:=by
 refine AH.ext (fun r=>?_) rfl
 simp only[AH.cut]
 split
 ·exact h r ‹_›
 ·rw[htop r (by omega)]
end
end Go.AL
namespace Go.AL
variable [YC] {P:Program}{e:Env}{H:AH}{K:Env→AH→Prop}{Kp:AV→Env→AH→Prop}{l:List Bz}{d:Option Nat}{k:AK}{s:Nat}{w b:Bool}{v:AV × AH}{g:FuncId}{f:Ak}{args:List Ak}{as first cap:List AV}
def AK.plain:AK→Bool
 | .call _ _ | .defer _ _ | .panic _ | .recover=>false
 | _=>true
theorem M1 {K Kp:AV→AH→Prop}(hp:k.plain=true) (h:EN k e H=some v) (hK:K v.1 v.2):Fy P k e H K Kp:=by
 cases k<;>first | (cases hp;done) | (simp only[Fy,h];exact hK)
theorem JY (hd:k.Bv=false) (h:Fy P k e H (fun v H'=>Cp P l (e.put d v) H' K Kp) (fun v H'=>Kp v e H')):Cp P (⟨d,k,none⟩::l) e H K Kp:=by
 cases k<;>first | (cases hd;done) | exact h
theorem TG (hp:k.plain=true):k.Bv=false:=by cases k<;>first | rfl | cases hp
theorem QM {b:Option Bool}(hb:I7 (e s)=some b) (h:b=some w→Fy P k e H (fun v H'=>Cp P l (e.put d v) H' K Kp) (fun v H'=>Kp v e H')) (hN:b≠some w→Cp P l (e.put d AI) H K Kp):Cp P (⟨d,k,some (s,w)⟩::l) e H K Kp:=by
 simp only[Cp,hb];exact⟨h,hN⟩
theorem Lm {K Kp:AV→AH→Prop}{post:Cc→AH→Prop}(hf:f.ev e=.fn (.func g) first cap) (ha:first++args.map (·.ev e)++cap=as) (hC:An P g as H post)
  (hK:∀v H',post (.ret v) H'→K v H') (hP:∀v H',post (.pan v) H'→Kp v H'):Fy P (.call f args) e H K Kp:=by
 simp only[Fy,EV,hf]
 subst ha
 exact hC.mono fun o H' h=>by cases o with
  | ret v=>exact hK v H' h
  | pan v=>exact hP v H' h
abbrev Ca (P:Program) (g:FuncId) (as:List AV) (H:AH) (r:AV) (H1:AH):Prop:=An P g as H (fun o H'=>o=.ret r∧H'=H1)
section
variable {Q:Ex→Env→AH→Prop}{x y:CJ}{c:Ak}{id:Nat}{ops:List Bz}{plan:List Cv}
def ry (P:Program) (y:CJ) (Q:Ex→Env→AH→Prop):Ex→Env→AH→Prop:=fun x e' H'=>match x with
 | .normal=>D P y Q e' H'
 | x=>Q x e' H'
def sJ (id:Nat) (Q:Ex→Env→AH→Prop):Ex→Env→AH→Prop:=fun x e' H'=>match x with
 | .exit i=>if i=id then Q .normal e' H' else Q (.exit i) e' H'
 | x=>Q x e' H'
def po (I:Env→AH→Prop) (m:Nat) (μ:Env→AH→Nat) (Q:Ex→Env→AH→Prop):Ex→Env→AH→Prop:=fun x e' H'=>match x with
 | .normal=>I e' H'∧μ e' H'<m
 | x=>Q x e' H'
theorem M_ (h:Q .normal e H):Sm Q .normal e H:=⟨e,H,VS.refl _ _,h⟩
theorem UN (h:Cp P ops e H (fun e' H'=>Sm Q .normal e' H') (fun v e' H'=>Q (.pan v) e' H')):D P (.reg ops) Q e H:=h
theorem Qz (h:BO P (Gw plan e) (fun e' H'=>Sm Q .normal e' H') (fun v e' H'=>Q (.pan v) e' H') plan e H []):D P (.dreg plan) Q e H:=h
end
end Go.AL
namespace Go.AL
variable [YC] {P:Program}{ep e:Env}{H:AH}{K:Env→AH→Prop}{Kp:AV→Env→AH→Prop}{l:List Cv}{d:Option Nat}{k:AK}{s i m:Nat}{w b:Bool}{v:AV}{fl:List Nat}{pend:Dl}{g:FuncId}{f:Ak}{args:List Ak}{as first cap:List AV}
theorem Hr (h:Ap k e=some v) (hK:BO P ep K Kp l (e.put d v) H pend):BO P ep K Kp (⟨i,⟨d,k,none⟩,m,fl,false⟩::l) e H pend:=by
 simp only[BO,h];exact hK
theorem NM (h0:Ap k e=none) (h:Ba k e H=some v) (hK:BO P ep K Kp l (e.put d v) H ((i,fun H'=>Ba k e H'=some v)::pend)):BO P ep K Kp (⟨i,⟨d,k,none⟩,m,fl,false⟩::l) e H pend:=by
 simp only[BO,h0,h];exact hK
theorem QZ {c:List AV}{fv:Nat→AV}(h0:Ap k e=none) (h1:Ba k e H=none) (h:D0 k e=some (c,fv))
  (hK:BO P ep K Kp l (e.put d (fv H.next)) (H.push (.cells c)) ((i,fun H'=>H'.get H.next=some (.cells c))::pend)):BO P ep K Kp (⟨i,⟨d,k,none⟩,m,fl,false⟩::l) e H pend:=by
 simp only[BO,h0,h1,h];exact hK
theorem Qb (h:Fy P k e H (fun v H'=>PA fl pend H'∧BO P ep K Kp l (e.put d v) H' pend) (fun v H'=>Kp v ep H')):BO P ep K Kp (⟨i,⟨d,k,none⟩,m,fl,true⟩::l) e H pend:=by
 simp only[BO];exact h
theorem OR {ef:Bool}{b:Option Bool}(hb:I7 (e s)=some b) (h:b=some w→BO P ep K Kp (⟨i,⟨d,k,none⟩,m,fl,ef⟩::l) e H pend) (hN:b≠some w→BO P ep K Kp l (e.put d AI) H pend) :
  BO P ep K Kp (⟨i,⟨d,k,some (s,w)⟩,m,fl,ef⟩::l) e H pend:=by
 simp only[BO,hb]at h ⊢;exact⟨h,hN⟩
end Go.AL
namespace Go.AL
structure Wl (P:Program) (f:FuncId) (n:Nat) (ac:CJ) (ars:List Da):Prop where
 ex:∃(fn:Func) (c:Code) (hs:Hints),P.funcs[f]?=some fn∧fn.name≠"runtime.NumGoroutine"∧fn.body=some c∧fn.ntmps=n∧comp P hs n c=some ac∧Fs P fn.results.toList=some ars
 mix:P.follows .mixedOrders=true
 le:n≤Ao
theorem Wl.mk' {P:Program}{f:FuncId}{fn:Func}{n:Nat}{hs:Hints}{ac:CJ}{ars:List Da}(hmix:P.follows .mixedOrders=true) (hf:P.funcs[f]?=some fn) (Iq:(fn.name=="runtime.NumGoroutine")=false)
  (hn:fn.ntmps=n) (hb:fn.body.bind (comp P hs n)=some ac) (hr:Fs P fn.results.toList=some ars) (hle:Nat.ble n Ao=true):Wl P f n ac ars:=by
 obtain⟨c,hc,hcc⟩:=Option.bind_eq_some_iff.1 hb
 exact⟨⟨fn,c,hs,hf,by simpa using Iq,hc,hn,hcc,hr⟩,hmix,Nat.le_of_ble_eq_true hle⟩
end Go.AL
namespace Go.AL
mutual
inductive EU (H:AH) (R:Nat→Prop):AV→AV→Prop
 | same (x:AV):EU H R x x
 | unk (x:AV):EU H R x .unk
 | sl {r o n m:Nat} {lim:Nu} {l l':List AV} {ex:Bool} (hr:R r) (hc:H.cells? r=some l) (hm:o+m≤l.length) (hl:Bu H R ((l.drop o).take m) l') (hn:n=0→m=0) (hx:ex=true→lim=.ex n) :
   EU H R (.sl r o n lim) (.sim l' n ex)
 | ptr {r o:Nat} {l l':List AV} (hr:R r) (hc:H.cells? r=some l) (hl:Bu H R l l'):EU H R (.ptr r o) (.pim l' o)
 | ifc {t:TypeId} {x y:AV} (h:EU H R x y):EU H R (.ifc t x) (.ifc t y)
 | agg {l l':List AV} (h:Bu H R l l'):EU H R (.agg l) (.agg l')
 | tup {l l':List AV} (h:Bu H R l l'):EU H R (.tup l) (.tup l')
 | fn {f:Fn} {a b a' b':List AV} (h1:Bu H R a a') (h2:Bu H R b b'):EU H R (.fn f a b) (.fn f a' b')
inductive Bu (H:AH) (R:Nat→Prop):List AV→List AV→Prop
 | nil:Bu H R [] []
 | cons {x y:AV} {l l':List AV} (h:EU H R x y) (t:Bu H R l l'):Bu H R (x::l) (y::l')
end
theorem Bu.same {H:AH}{R:Nat→Prop}:∀(l:List AV),Bu H R l l
 | []=>.nil
 | x::l=>.cons (.same x) (Bu.same l)
theorem Bu.len {H:AH}{R:Nat→Prop}{l l':List AV}(h:Bu H R l l'):l.length=l'.length:=by
 induction l generalizing l' with
 | nil=>cases h;rfl
 | cons x l ih=>cases h with | cons a b=>simp[ih b]
open Classical in
noncomputable def fR (Z:Zt) (σ:Sg) (H:AH) (R:Nat→Prop) (w:World) (b:Nat):Option Obj:=
 if (∃r o p,R r∧H.get r=some o∧σ r=some p∧p.b=b)then w.heap[b]? else Z b
noncomputable def On (Z:Zt) (σ:Sg) (H:AH) (R:Nat→Prop) (w:World):Zt:={ Z with blk:=fR Z σ H R w }
section
variable {Z:Zt}{σ:Sg}{H:AH}{w:World}{R:Nat→Prop}
theorem Gt (hW:WR Z σ H w):Ck Z (On Z σ H R w):=by
 refine⟨fun b o hz=>?_,rfl,rfl,rfl,rfl⟩
 simp only[On,fR]
 split
 ·exact hW.z b o hz
 ·exact hz
theorem Pp {r:Nat}{o:DE}{p:GS}(hr:R r) (hg:H.get r=some o) (hp:σ r=some p):On Z σ H R w p.b=w.heap[p.b]?:=by
 simp only[On,fR];rw[if_pos ⟨r,o,p,hr,hg,hp,rfl⟩]
mutual
theorem EU.sound (hW:WR Z σ H w):∀{x y:AV},EU H R x y→∀{v:Value},VR Z σ x v→VR (On Z σ H R w) σ y v
 | _,_,.same x,v,hv=>hv.mono (Gt hW) (KJ.refl _)
 | _,_,.unk _,v,_=>.unk v
 | _,_,@EU.sl _ _ r o n m lim l l' ex hr hc hm hl hn hx,v,hv=>by
  have hlen:m=l'.length:=by have:=hl.len;simp at this;omega
  have main:∀(p:GS),σ r=some p→∀cap,n≤cap→(ex=true→cap=n)→VR (On Z σ H R w) σ (.sim l' n ex) (.slice (some ⟨p.b,p.base+o,none⟩) n cap):=by
   intro p hp cap MJ hxc
   obtain⟨_,c,el,fr,hb,_,_,h4,h5,h6⟩:=hW.row hc hp
   have hz:=Pp (Z:=Z) (w:=w) hr (cells?_some hc) hp
   rw[hb]at hz
   have e1:(c.toList.drop (p.base+o)).take l'.length=(((c.toList.drop p.base).take l.length).drop o).take m:=by
    rw[List.drop_take,List.drop_drop,List.take_take,Nat.min_eq_left (by omega),hlen]
   refine .sim MJ hxc rfl hz ?_ ?_
   ·simp only[e1];intro u hu;exact h6 u (List.mem_of_mem_drop (List.mem_of_mem_take hu))
   ·simp only[e1];exact Bu.sound hW hl ((h5.drop _).take _)
  cases hv with
  | slx hp hnm=>exact main _ hp _ hnm (fun h=>by have:=hx h;simp only[Nu.ex.injEq]at this;exact this)
  | slxz hp ad=>
   have h0:l'=[]:=List.eq_nil_of_length_eq_zero (by rw[←hlen];exact hn rfl)
   subst h0;exact .simz ad (fun _=>rfl)
  | slo hp hnm hs=>exact main _ hp _ hnm (fun h=>by have:=hx h;cases this)
  | sloz hp ad=>
   have h0:l'=[]:=List.eq_nil_of_length_eq_zero (by rw[←hlen];exact hn rfl)
   subst h0;exact .simz ad (fun _=>rfl)
 | _,_,@EU.ptr _ _ r o l l' hr hc hl,v,hv=>by
  obtain⟨p,hp,rfl⟩:=hv.FJ
  obtain⟨_,c,el,fr,hb,_,_,h4,h5,h6⟩:=hW.row hc hp
  have hz:=Pp (Z:=Z) (w:=w) hr (cells?_some hc) hp
  rw[hb]at hz
  have hlen:=hl.len
  refine .pim hz ?_ ?_
  ·rw[←hlen];exact h6
  ·rw[←hlen];exact Bu.sound hW hl h5
 | _,_,.ifc h,v,hv=>by cases hv with | ifc hv=>exact .ifc (EU.sound hW h hv)
 | _,_,.agg h,v,hv=>by cases hv with | agg h1 hv=>exact .agg h1 (Bu.sound hW h hv)
 | _,_,.tup h,v,hv=>by cases hv with | tup hv=>exact .tup (Bu.sound hW h hv)
 | _,_,.fn h1 h2,v,hv=>by cases hv with | fn a b=>exact .fn (Bu.sound hW h1 a) (Bu.sound hW h2 b)
theorem Bu.sound (hW:WR Z σ H w):∀{l l':List AV},Bu H R l l'→∀{vs:List Value},CI Z σ l vs→CI (On Z σ H R w) σ l' vs
 | _,_,.nil,vs,hv=>by cases hv;exact .nil
 | _,_,.cons h t,vs,hv=>by cases hv with | cons a b=>exact .cons (EU.sound hW h a) (Bu.sound hW t b)
end
theorem WR.Km (hW:WR Z σ H w) {H':AH}(hn:H'.next=H.next) (hH:∀r o,H'.get r=some o→¬R r∧(H.get r=some o∨∃l l',o=.cells l'∧H.get r=some (.cells l)∧Bu H R l l')) (hg:H'.gl=H.gl:=by rfl):WR (On Z σ H R w) σ H' w:=by
 have old:∀r o,H'.get r=some o→∃o0,H.get r=some o0:=fun r o h=>by
  rcases(hH r o h).2 with h | ⟨l,l',_,h,_⟩
  ·exact⟨_,h⟩
  ·exact⟨_,h⟩
 refine⟨fun b o hz=>?_,fun r o p hr hp=>?_,fun r r' o o' p p' h1 h2 h3 h4 he=>?_,fun r hr=>hW.fresh r (by omega),fun r hr=>?_,by rw[hg];exact hW.rest.le (Gt hW)⟩
 ·simp only[On,fR]at hz
  split at hz
  ·exact hz
  ·exact hW.z b o hz
 ·obtain⟨hnR,hor⟩:=hH r o hr
  have blk:∀o0,H.get r=some o0→On Z σ H R w p.b=none:=by
   intro o0 h0
   simp only[On,fR]
   rw[if_neg]
   ·exact(hW.h r o0 p h0 hp).1
   ·rintro⟨r',o',p',hr',hg',hp',hb'⟩
    have:=hW.inj r r' _ _ p p' h0 hg' hp hp' hb'.symm
    subst this;exact hnR hr'
  rcases hor with h0 | ⟨l,l',rfl,h0,hf⟩
  ·exact⟨blk _ h0,((hW.h r o p h0 hp).2).mono (Gt hW) (KJ.refl _) rfl⟩
  ·refine⟨blk _ h0,?_⟩
   have:=(hW.h r _ p h0 hp).2
   have hlen:=hf.len
   cases this with
   | cells hb hs hf' hl hv h1=>exact .cells hb hs hf' (by rw[←hlen];exact hl) (by rw[←hlen];exact Bu.sound hW hf hv) (by rw[←hlen];exact h1)
 ·obtain⟨o1,g1⟩:=old r o h1
  obtain⟨o2,g2⟩:=old r' o' h2
  exact hW.inj r r' o1 o2 p p' g1 g2 h3 h4 he
 ·cases hh:H'.get r with
  | none=>rfl
  | some o=>obtain⟨o0,h0⟩:=old r o hh;rw[hW.top r (by omega)]at h0;cases h0
end
end Go.AL
namespace Go.AL
section
variable {P:Program}
def MR (Z:Zt) (σ:Sg):Option AV→FrameMode→Prop
 | none,u=>u=.returning
 | some v,u=>∃cv,u=.panicking [{ v:=cv,recovered:=false }]∧VR Z σ v cv
def pa (P:Program) (g:FuncId) (all:List AV) (m:Option AV) (H:AH) (post:AH→Prop):Prop:=
 Enters P g∧∀(Z:Zt) (σ:Sg) (w:World) (vs:List Value) (u:FrameMode),WR Z σ H w→CI Z σ all vs→MR Z σ m u →
  CallsD P g vs.toArray u w fun e u' w'=>∃v Z' σ' H',e=.returned v∧settle u'=.returning∧Ck Z Z'∧Nw σ H.next σ'∧H.next≤H'.next∧WR Z' σ' H' w'∧post H'
def dpost (P:Program) (ars:List Da) (post:Cc→AH→Prop):Ex→Env→AH→Prop:=fun x e H=>
 ∃g all m,e Ao=.tup [.tup [.fn (.func g) [] [],.tup all]]∧(match x with
  | .normal | .ret=>m=none
  | .pan v=>m=some v
  | .exit _=>False)∧pa P g all m H fun H'=>match DY e H' ars with
   | some vs=>post (.ret (LB vs)) H'
   | none=>False
def sK:Option AV→AV
 | none=>.nili
 | some v=>v
end
end Go.AL
