import Derived.Test.YtdandeekdbndgaaGreatDoorZg01
import Derived.Test.YtdandeekdbndgaaGreatDoorZf02
import Derived.Test.YtdandeekdbndgaaGreatDoorZf03
import Derived.Test.YtdandeekdbndgaaGreatDoorCards
import Derived.Test.YtdandeekdbndgaaGreatDoorTie
import Derived.WalkKit
import Derived.ProofKit
import Derived.OpenShut
import Derived.Deep.DeepHandedRow
import Derived.Lib.LaidTab
import Derived.ReadAgain
/-
  the law at the root.
-/
namespace Go.Proofs.YtdandeekdbndgaaGreatDoor
open Go Go.AL Go.AL.Co Go.ChangeShapes Go.WideShapes Go.ChangeAt Go.RowKit
open Go.Proofs.YtdandeekdbndgaaGreatDoor.San (HP0 orc308)
theorem own:ownKnob Tryz.prog.godebug=none:=by kernel_rfl
theorem gTab:Tryz.prog.globalNamed "math/bits.deBruijn64tab"=some 0:=by kernel_rfl
theorem gTabType:(Tryz.prog.globals[0]?).map (·.type)=some 433:=by kernel_rfl
theorem cells433:Tryz.prog.cellsOf 433=64:=by kernel_rfl
theorem cells5:Tryz.prog.cellsOf 5=1:=by kernel_rfl
def zsTab:List Int:=dbt.map Int.ofNat
theorem table {W:World}(h:laidMetH Tryz.prog Rows.proofDecodingUptoRow.laid W):Lib.TabIs Tryz.prog W "math/bits.deBruijn64tab" .u8 zsTab:=
 Lib.tabIs_of_head (rest:=[]) gTab gTabType Tryz.underlying433 Tryz.underlying5 cells5 cells433 h
theorem tabW {W:World}(h:laidMetH Tryz.prog Rows.proofDecodingUptoRow.laid W):TabW W:=fun t ht n hn=>by
 have h1:=(table h).cell gTab t (by show t<64;exact ht)
 have h2:zsTab.getD t 0=(n:Int):=by
  unfold zsTab
  rw[List.getD_eq_getElem?_getD,List.getElem?_map,hn];rfl
 rw[h2]at h1
 exact h1
def zAll (W:World):Zt:=⟨fun b=>W.heap[b]?,W.os,W.output,fun _=>false,W.heap.size⟩
theorem root_WR (W:World) [hG:GLC] (hg:GLC.G=fun b=>W.heap[b]?):WR (zAll W) (fun _=>none) (toAH HP0) W:=by
 have hnx:HP0.nx=0:=by kernel_rfl
 have hnone:∀r,(toAH HP0).get r=none:=fun r=>by
  rw[toAH_get,hnx,if_neg (by omega)]
 refine⟨fun b o h=>h,fun r o p hr=>?_,fun r r' o o' p p' hr=>?_,fun r _=>rfl,fun r _=>hnone r,rfl,rfl,fun b o hb=>?_⟩
 ·rw[hnone]at hr;cases hr
 ·rw[hnone]at hr;cases hr
 ·have hb:GLC.G b=some o:=hb
  rw[hg]at hb;exact hb
theorem flat_sing:∀l:List UInt8,(l.map fun x=>[bv x]).flatten=l.map bv
 | []=>rfl
 | x::l=>by rw[List.map_cons,List.flatten_cons,flat_sing l];rfl
theorem bytes_len (l:List UInt8):l.length≤((Ty.list .byte).enc (show(Ty.list .byte).D from l)).length:=by
 have e:(Ty.list .byte).enc (show(Ty.list .byte).D from l)=encN (l.length:Int)++l.flatMap (fun x=>[x]):=rfl
 rw[e,List.length_append,flat1];omega
theorem frz_bytes {l:List UInt8}{x:AV}(h:RC (.list .byte) (show(Ty.list .byte).D from l) [x]):Frz 1 x (l.map bv) l.length:=by
 obtain⟨cs,css,hf,h1,h2,h3,h4⟩:=list_parts (t:=.byte) h
 have hf:Frz 1 x cs l.length:=hf
 have hl:css.length=l.length:=h2
 have h4:∀(i:Nat) (x:UInt8) (y:List AV),l[i]?=some x→css[i]?=some y→y=[bv x]:=h4
 have hcs:cs=l.map bv:=by
  have:css=l.map fun x=>[bv x]:=by
   refine List.ext_getElem? fun i=>?_
   rw[List.getElem?_map]
   rcases Nat.lt_or_ge i l.length with hi | hi
   ·have a1:=List.getElem?_eq_getElem hi
    have a2:css[i]?=some (css[i]'(by omega)):=List.getElem?_eq_getElem (by omega)
    rw[a1,a2,h4 i _ _ a1 a2];rfl
   ·rw[List.getElem?_eq_none (by omega),List.getElem?_eq_none hi];rfl
  rw[h1,this]
  exact flat_sing l
 rw[←hcs];exact hf
theorem carryAll {H:Type}{enc:TypeId × Value→H}{P:Program}{w w':World}{base:Nat}{spare:Nat→Bool}{held:Bool}:∀{ts:List TypeId}{vs:List Value}{ds:List (DataW H)}{ps:List MemPlace},
  DataW.TrodAll enc P w base spare held ts vs ds ps→(∀p∈ps,w.sameAt w' p)→DataW.TrodAll enc P w' base spare held ts vs ds ps
 | [],[],[],_,h,_=>h
 | _::_,_::_,_::_,_,⟨p,q,⟨n,h1⟩,h2,e⟩,hs=>⟨p,q,⟨n,DataW.trod_carry n _ _ _ h1 fun x hx=>hs x (by rw[e];exact List.mem_append_left _ hx)⟩,carryAll h2 fun x hx=>hs x (by rw[e];exact List.mem_append_right _ hx),e⟩
theorem kids:Kids Tryz.prog (·<Tryz.prog.types.size):=kids_rows (by kernel_rfl) (by kernel_rfl)
theorem full:∀t e,t<Tryz.prog.types.size→Tryz.prog.underlying t=some (.slice e)→0<Tryz.prog.cellsOf e:=slices_full_of Tryz.prog (by kernel_rfl)
theorem root_slice {H:Type}{enc:TypeId × Value→H}{W:World}{σ:Sg}{t:TypeId}{τ:Ty}{v:Value}{D:DataW H}{p:List MemPlace}(hR:RD enc Tryz.prog W (zAll W) σ t (.list τ)) (hv:∃a len cap,v=.slice a len cap) (h:DataW.Trod enc Tryz.prog W 0 (fun _=>true) true t v D p) :
  ∃(d:(Ty.list τ).D) (x:AV),RC (.list τ) d [x]∧VR (zAll W) σ x v∧(Ty.list τ).wf d∧((Ty.list τ).enc d).length≤40*Rows.uptoBulk D:=by
 obtain⟨a,len,cap,rfl⟩:=hv
 obtain⟨fuel,h⟩:=h
 obtain⟨d,l,z1,z2,z3,z4,z5⟩:=hR fuel _ D p h
 obtain⟨x,cs,rfl,hf⟩:=z1
 cases z2 with
 | cons q1 _=>exact⟨d,x,⟨x,cs,rfl,hf⟩,q1,z4,z5⟩
theorem root_struct {H:Type}{enc:TypeId × Value→H}{W:World}{σ:Sg}{t:TypeId}{τ:Ty}{v:Value}{D:DataW H}{p:List MemPlace}(hR:RD enc Tryz.prog W (zAll W) σ t τ) (hv:∃cs,v=.agg cs) (h:DataW.Trod enc Tryz.prog W 0 (fun _=>true) true t v D p) :
  ∃(d:τ.D) (l:List AV),RC τ d l∧VR (zAll W) σ (.agg l) v∧τ.wf d∧(τ.enc d).length≤40*Rows.uptoBulk D:=by
 obtain⟨cs,rfl⟩:=hv
 obtain⟨fuel,h⟩:=h
 obtain⟨d,l,z1,z2,z3,z4,z5⟩:=hR fuel _ D p h
 exact⟨d,l,z1,.agg z3 z2,z4,z5⟩
set_option maxRecDepth 100000 in
set_option maxHeartbeats 2000000 in
theorem contract (H:Type) (enc:TypeId × Value→H) (W:World) (base:Nat) (args:Array Value) (ds gs:List (DataW H)) (before:List MemPlace)
  (hval:∀(j:Nat) t v,Tryz.f3.params[j]?=some t→args[j]?=some v→Value.okWide Tryz.prog W .any base t v)
  (hW:DataW.Whole enc Tryz.prog Tryz.f3.params.toList Rows.proofDecodingSpec.vars false W args.toList ds gs before) (hcond:Rows.uptoSmall H (ds++gs)=true) (hL:laidMetH Tryz.prog Rows.proofDecodingUptoRow.laid W) :
  Calls Tryz.prog 3 args W fun e W'=>∃v,e=.returned v∧Rows.proofDecodingSpec.post enc Tryz.prog Tryz.f3 false true false false W args v W':=by
 have hW':=hW
 have hlt:=hW.lt
 obtain⟨p,q,hA0,hV,rfl,hfz,hnd⟩:=hW
 have hA:DataW.TrodAll enc Tryz.prog W 0 (fun _=>true) true Tryz.f3.params.toList args.toList ds p:=hA0
 rw[Tryz.params3]at hA hval
 obtain⟨v0,vs0,d0,ds0,p0,q0,hargs,rfl,rfl,h0,r0⟩:=trodAll_cons hA
 obtain⟨v1,vs1,d1,ds1,p1,q1,rfl,rfl,rfl,h1,r1⟩:=trodAll_cons r0
 obtain⟨v2,vs2,d2,ds2,p2,q2,rfl,rfl,rfl,h2,r2⟩:=trodAll_cons r1
 obtain⟨rfl,rfl,rfl⟩:=trodAll_nil r2
 obtain rfl:args=#[v0,v1,v2]:=by cases args;simp_all
 obtain⟨rfl,rfl⟩:=trodVars_none hV
 letI hG:GLC:=⟨fun b=>W.heap[b]?⟩
 have hT:=tabW hL
 have hheap0:∃o,W.heap[0]?=some o:=by
  have h3:=hT 0 (by omega) 0 rfl
  unfold World.cell? at h3
  split at h3
  ·rename_i heq;exact⟨_,heq⟩
  ·cases h3
 obtain⟨o0,ho0⟩:=hheap0
 letI hC:TabC:=⟨⟨o0,ho0,fun w hw t ht n hn=>by
  have:=hT t ht n hn
  unfold World.cell? at this ⊢
  rw[hw];rw[ho0]at this;exact this⟩⟩
 have hZ:∀b o,W.heap[b]?=some o→(zAll W) b=some o:=fun b o h=>h
 obtain⟨b,x0,a1,a2,a3,a4⟩:=root_slice (rd24 (enc:=enc) (σ:=fun _=>none) hZ) (okWide_slice Tryz.underlying22 (hval 0 22 v0 rfl rfl)) h0
 obtain⟨d,x1,b1,b2,b3,b4⟩:=root_slice (rd23 (enc:=enc) (σ:=fun _=>none) hZ) (okWide_slice Tryz.underlying24 (hval 1 24 v1 rfl rfl)) h1
 obtain⟨l,c2,c1,cv2,c3,c4⟩:=root_struct (rd62 (enc:=enc) (σ:=fun _=>none) hZ) (by obtain⟨cs,h,_⟩:=okWide_struct Tryz.underlying43 (hval 2 43 v2 rfl rfl);exact⟨cs,h⟩) h2
 obtain⟨b,rfl⟩:∃l:List UInt8,l=b:=⟨b,rfl⟩
 have hbulk:Rows.uptoBulk d0+(Rows.uptoBulk d1+(Rows.uptoBulk d2+0))≤1048576:=by
  have:decide (Rows.uptoBulkAll ([d0,d1,d2]++[])≤1048576)=true:=hcond
  have:=of_decide_eq_true this
  simpa[Rows.uptoBulkAll]using this
 have hblen:b.length<67108864:=by
  have h1:=bytes_len b
  have h2:((Ty.list .byte).enc (show(Ty.list .byte).D from b)).length≤40*Rows.uptoBulk d0:=a4
  omega
 have walk:=(P3 (v0:=x0) (v1:=x1) (cl:=c2) (a:=d) (l:=l) (b:=b) ok308 (frz_bytes a1) hblen b1 b3 (by have b4:(tProof.enc d).length≤40*Rows.uptoBulk d1:=b4;omega) c1 c3 (by omega)).2 (zAll W) (fun _=>none) W [v0,v1,v2] (root_WR W rfl) (.cons a2 (.cons b2 (.cons cv2 .nil)))
 refine Calls.mono walk fun e W' hx=>?_
 obtain⟨Z',σ',H',out,y1,_,_,y4,y5,rfl⟩:=hx
 obtain⟨cv,rfl,y6⟩:=y5
 cases y6
 have hheap:∀i,i<W.heap.size→W'.heap[i]?=W.heap[i]?:=fun i hi=>by
  have h1:W.heap[i]?=some (W.heap[i]'hi):=Array.getElem?_eq_getElem hi
  rw[h1]
  exact y4.z _ _ (y1.le _ _ h1)
 have hos:W'.os=W.os:=y4.rest.1.trans y1.os
 have hout:W'.output=W.output:=y4.rest.2.1.trans y1.out
 refine⟨_,rfl,[d0,d1,d2],[],_,[],p0++(p1++(p2++[])),[],hW',?_,?_,rfl,⟨hos,hout,fun i hi=>?_⟩,fun h=>by cases h⟩
 ·exact trodAll_cons_mk (shut_bool Tryz.underlying4 true) trodAll_mk0
 ·have hres:=DataW.TrodAll.respare kids full (spare':=fun b=>decide (b<W.heap.size)) (fun t ht=>?_) hA0 (fun x hx=>decide_eq_true (hlt x (by simpa using hx)))
  ·refine carryAll hres fun x hx=>?_
   have hb:=hlt x (by simpa using hx)
   cases x with
   | cell bb off=>
    show _=_
    have hb:bb<W.heap.size:=hb
    simp only[World.cell?,hheap bb hb]
   | map bb=>
    show _=_
    have hb:bb<W.heap.size:=hb
    simp only[hheap bb hb]
  ·rw[Tryz.params3]at ht
   have hz:43<Tryz.prog.types.size:=Nat.lt_of_lt_of_le (by omega:43<44) (Nat.le_of_ble_eq_true (by kernel_rfl))
   simp only[List.mem_cons,List.not_mem_nil,or_false]at ht
   rcases ht with rfl | rfl | rfl
   ·exact Nat.lt_trans (by omega:22<43) hz
   ·exact Nat.lt_trans (by omega:24<43) hz
   ·exact hz
 ·rw[hheap i hi]
  cases W.heap[i]? with
  | none=>rfl
  | some o=>
   cases o<;>first | rfl | exact⟨rfl,rfl,rfl,fun _ _=>rfl⟩ | exact .inr ⟨rfl,rfl⟩
end Go.Proofs.YtdandeekdbndgaaGreatDoor
