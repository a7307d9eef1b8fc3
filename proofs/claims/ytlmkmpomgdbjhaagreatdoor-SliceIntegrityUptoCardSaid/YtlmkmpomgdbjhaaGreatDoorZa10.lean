import Derived.Test.YtlmkmpomgdbjhaaGreatDoorZa09
import Derived.Test.YtlmkmpomgdbjhaaGreatDoorProg
/-
  a part of the proof.
-/
set_option linter.unusedSectionVars false
set_option linter.unusedVariables false
set_option linter.unusedSimpArgs false
namespace Go.Proofs.YtlmkmpomgdbjhaaGreatDoor
open Tryz
section
open Go Go.AL Go.AL.Sha Go.AL.Co
variable [BQ]
def Il (key sg sec bs:List UInt8) (x:AV):Prop:=
 if sg=keyed sec (key++bs)then match Fw bs with
  | some (A,B,l)=>∃p,x=.tup [.agg [iv A,iv B,p],iv 0]/\LR Ad l p/\∀k,Sc k p
  | none=>x=.tup [.agg [iv 0,iv 0,.nils],iv 4]
 else x=.tup [.agg [iv 0,iv 0,.nils],iv 280]
def FE (b:List UInt8) (bad:Bool):Int × List UInt8 × Bool:=if b.length<8 then(0,b,true)else(wI (b.take 8),b.drop 8,bad)
theorem WY {H0 H:AH}{L:List (Nat × List AV)}{rb:Nat}{v:AV}{b:List UInt8}{bad:Bool}{Kp K:AV->AH->Prop}(s:A2 H0 ((rb,[v,.bool bad])::L) H) (hv:It b v)
  (hK:∀v' H',It (FE b bad).2.1 v'->A2 H0 ((rb,[v',.bool (FE b bad).2.2])::L) H'->K (iv (FE b bad).1) H'):AF prog 22 [.ptr rb 0] H Kp K:=by
 refine Yj s hv (fun h H' s'=>?_) (fun h v' H' hv' s'=>?_)
 ·unfold FE at hK
  rw[if_pos h]at hK
  exact hK v H' hv s'
 ·unfold FE at hK
  rw[if_neg (by omega)]at hK
  exact hK v' H' hv' s'
theorem yN (bs:List UInt8):(bs.length<24->(FE (FE (FE bs false).2.1 (FE bs false).2.2).2.1 (FE (FE bs false).2.1 (FE bs false).2.2).2.2).2.2=true) /\
  (24<=bs.length->FE bs false=(wI (bs.take 8),bs.drop 8,false)/\FE (bs.drop 8) false=(wI ((bs.drop 8).take 8),bs.drop 16,false)/\FE (bs.drop 16) false=(wI ((bs.drop 16).take 8),bs.drop 24,false)):=by
 have h1:8<=bs.length->FE bs false=(wI (bs.take 8),bs.drop 8,false):=fun h=>by unfold FE;rw[if_neg (by omega)]
 have h2:∀c,16<=bs.length->FE (bs.drop 8) c=(wI ((bs.drop 8).take 8),bs.drop 16,c):=fun c h=>by unfold FE;rw[if_neg (by rw[List.length_drop];omega),List.drop_drop]
 have h3:∀c,24<=bs.length->FE (bs.drop 16) c=(wI ((bs.drop 16).take 8),bs.drop 24,c):=fun c h=>by unfold FE;rw[if_neg (by rw[List.length_drop];omega),List.drop_drop]
 have st:∀(b:List UInt8) (c:Bool),b.length<8->FE b c=(0,b,true):=fun b c h=>by unfold FE;rw[if_pos h]
 refine⟨fun h=>?_,fun h=>⟨h1 (by omega),h2 _ (by omega),h3 _ h⟩⟩
 by_cases c1:bs.length<8
 ·rw[st bs false c1]
  simp only
  rw[st bs true c1]
  simp only
  rw[st bs true c1]
 rw[h1 (by omega)]
 simp only
 by_cases c2:bs.length<16
 ·have c2':(bs.drop 8).length<8:=by rw[B3];omega
  rw[st _ false c2']
  simp only
  rw[st _ true c2']
 rw[h2 _ (by omega)]
 simp only
 rw[st _ _ (by rw[B3];omega)]
set_option maxHeartbeats 2000000 in
theorem mL [Bj] {H:AH}{key sg sec bs:List UInt8}{y:AV}(hg:H.gl=BQ.G) (hk:key.length=32) (hsg:sg.length=32) (hs:sec.length=32) (hy:It bs y) (hl:bs.length<68719400000) :
  CP prog 7 [.agg (key.map bv++y::sg.map bv),.agg (sec.map bv)] H (Il key sg sec bs):=CP.of <| by
 refine T7 ?_
 unfold G7
 have hcl:(key.map bv++y::sg.map bv).length=65:=by simp[hk,hsg]
 refine(A2.start H).box (c:=key.map bv++y::sg.map bv) rfl fun r2 H1 s=>s.box (c:=sec.map bv) rfl fun r3 H2 s=>s.alloc fun r4 H3 s=>?_
 have m2:(r2,key.map bv++y::sg.map bv)∈[(r4,[I 0,I 0,.nils]),(r3,sec.map bv),(r2,key.map bv++y::sg.map bv)]:=by simp
 have m3:(r3,sec.map bv)∈[(r4,[I 0,I 0,.nils]),(r3,sec.map bv),(r2,key.map bv++y::sg.map bv)]:=by simp
 have d33:((key.map bv++y::sg.map bv).drop 33).take 32=sg.map bv:=by
  rw[EZ,G6 (by simp[hk]),Au,hk,Bf]
  exact AX (by simp[hsg])
 have d0:((key.map bv++y::sg.map bv).drop 0).take 32=key.map bv:=by
  rw[B5];exact LM (by simp[hk])
 have g32:(key.map bv++y::sg.map bv)[32]?=some y:=by
  rw[C4 (by simp[hk])];simp[hk]
 refine AA (v:=.ptr r2 33) rfl (s.ki (d:=sg.map bv) m2 d33 (by rw[hcl];omega) ?_)
 refine AA (v:=.ptr r2 0) rfl (s.ki (d:=key.map bv) m2 d0 (by rw[hcl];omega) ?_)
 refine AA (v:=.ptr r2 32) rfl (s.ld m2 g32 (s.Gx m3 (by rw[Au,hs]) ?_))
 refine Ed (fV (s.k.gl.trans hg) hk hs hy hl) fun x hx=>?_
 subst hx
 have hdl:(keyed sec (key++bs)).length=32:=rfl
 refine⟨⟨s.UH (d:=sg.map bv) m2 d33 (by rw[hcl];omega),trivial⟩,?_⟩
 have q1:sg≠keyed sec (key++bs)->Il key sg sec bs (.tup [.agg [iv 0,iv 0,.nils],iv 280]):=fun h=>by unfold Il;rw[if_neg h]
 have q2:sg=keyed sec (key++bs)->Fw bs=none->Il key sg sec bs (.tup [.agg [iv 0,iv 0,.nils],iv 4]):=fun h h2=>by unfold Il;rw[if_pos h,h2]
 have q3:sg=keyed sec (key++bs)->∀A B l p,Fw bs=some (A,B,l)->(LR Ad l p/\∀k,Sc k p)->Il key sg sec bs (.tup [.agg [iv A,iv B,p],iv 0]):=fun h A B l p h2 h3=>by unfold Il;rw[if_pos h,h2];exact⟨p,rfl,h3⟩
 generalize Il key sg sec bs=Q at q1 q2 q3 ⊢
 generalize keyed sec (key++bs)=dg at hdl q1 q2 q3 ⊢
 refine AA (bX hsg hdl true) ?_
 by_cases he:sg=dg
 ·rw[decide_eq_true he]
  refine Bu ?_
  refine AA (v:=.ptr r2 32) rfl (s.ld m2 g32 ?_)
  refine AA (v:=.agg [y,.bool false]) (by rcases hy with⟨_,rfl⟩ | ⟨b,rfl⟩<;>rfl) ?_
  refine s.box (c:=[y,.bool false]) rfl fun rb H4 s=>?_
  refine WY s hy fun y1 H5 hy1 s=>WY s hy1 fun y2 H6 hy2 s=>?_
  refine AA (v:=.agg [iv (FE bs false).1,iv (FE (FE bs false).2.1 (FE bs false).2.2).1,.nils]) rfl (s.alloc fun ro H7 s=>s.DZ (vs:=[iv (FE bs false).1,iv (FE (FE bs false).2.1 (FE bs false).2.2).1,.nils]) rfl rfl fun H8 s=>?_)
  refine WY s.swap hy2 fun y3 H9 hy3 s=>?_
  obtain⟨w1,w2⟩:=yN bs
  generalize hA:(FE bs false).1=A at s ⊢
  generalize hB:(FE (FE bs false).2.1 (FE bs false).2.2).1=B at s ⊢
  generalize hN:(FE (FE (FE bs false).2.1 (FE bs false).2.2).2.1 (FE (FE bs false).2.1 (FE bs false).2.2).2.2).1=n at s ⊢
  refine ny (fun J=>∀(v pv:AV) (b:List UInt8) (bad:Bool) (L':List (Nat × List AV)) (ds:List Ad.D) (H':AH),A2 H ((rb,[v,.bool bad])::(ro,[iv A,iv B,pv])::(r4,[I 0,I 0,.nils])::L') H'->It b v->(∃p,FZ L' pv p/\LR Ad ds p/\∀k,Sc k p)->pv.cellsOf=some [pv] ->
   (bad=true->Fw bs=none)->(bad=false->(n<0\/b≠[]->Fw bs=none)/\(0<=n->b=[]->Fw bs=some (A,B,ds)))->J (.ptr r4 0) (.ptr rb 0) (.ptr ro 0) (iv n) H') ?_ (fun J hJ=>?_)
  ·intro v pv b bad L' ds H' s hv hp hp1 f1 f2
   refine AA (v:=.ptr rb 0) rfl (AA (v:=.ptr rb 1) rfl (s.ld (o:=1) (.head _) rfl ?_))
   cases bad with
   | true=>
    refine Pz (AA (v:=.bool true) rfl (Pz (AA (v:=.bool true) rfl ?_)))
    refine B8 (AA (v:=.agg [iv 0,iv 0,.nils]) rfl (A2.Km (A:=[(rb,[v,.bool true]),(ro,[iv A,iv B,pv])]) (vs:=[iv 0,iv 0,.nils]) s rfl rfl (by show 0+3<=3;omega) fun H10 s=>s.Gx (.tail _ (.tail _ (.head _))) rfl ?_))
    exact s.Mo (fun k=>.tup (.cons (.agg (.cons (.int _ _) (.cons (.int _ _) (.cons .nils .nil)))) (.cons (.int _ _) .nil))) (q2 he (f1 rfl))
   | false=>
    obtain⟨f3,f4⟩:=f2 rfl
    refine Sp (Cn (b:=0) (fun hlt=>?_) (fun hlt=>?_))
    ·refine AA (v:=.bool true) rfl (Pz (AA (v:=.bool true) rfl ?_))
     refine B8 (AA (v:=.agg [iv 0,iv 0,.nils]) rfl (A2.Km (A:=[(rb,[v,.bool false]),(ro,[iv A,iv B,pv])]) (vs:=[iv 0,iv 0,.nils]) s rfl rfl (by show 0+3<=3;omega) fun H10 s=>s.Gx (.tail _ (.tail _ (.head _))) rfl ?_))
     exact s.Mo (fun k=>.tup (.cons (.agg (.cons (.int _ _) (.cons (.int _ _) (.cons .nils .nil)))) (.cons (.int _ _) .nil))) (q2 he (f3 (.inl hlt)))
    ·refine AA (v:=.bool false) rfl (Sp ?_)
     refine AA (v:=.ptr rb 0) rfl (AA (v:=.ptr rb 0) rfl (s.ld (o:=0) (.head _) rfl (hv.len (XX (b:=0) (fun hgt=>?_) (fun hgt=>?_)))))
     ·refine AA (v:=.bool true) rfl ?_
      refine B8 (AA (v:=.agg [iv 0,iv 0,.nils]) rfl (A2.Km (A:=[(rb,[v,.bool false]),(ro,[iv A,iv B,pv])]) (vs:=[iv 0,iv 0,.nils]) s rfl rfl (by show 0+3<=3;omega) fun H10 s=>s.Gx (.tail _ (.tail _ (.head _))) rfl ?_))
      exact s.Mo (fun k=>.tup (.cons (.agg (.cons (.int _ _) (.cons (.int _ _) (.cons .nils .nil)))) (.cons (.int _ _) .nil))) (q2 he (f3 (.inr fun h=>by rw[h]at hgt;simp at hgt)))
     ·refine AA (v:=.bool false) rfl (Bu ?_)
      have hb0:b=[]:=GG.1 (by omega)
      obtain⟨p,hp2,hp3⟩:=hp
      refine s.Gx (.tail _ (.head _)) rfl ?_
      refine A2.Km (A:=[(rb,[v,.bool false]),(ro,[iv A,iv B,pv])]) (vs:=[iv A,iv B,pv]) s rfl rfl (by show 0+3<=3;omega) fun H10 s=>s.Gx (.tail _ (.tail _ (.head _))) rfl ?_
      exact s.fin (y:=.tup [.agg [iv A,iv B,p],iv 0]) (fun H k hR=>.tup (.cons (.agg (.cons (.low (.int _ _)) (.cons (.low (.int _ _)) (.cons (hp2 H k fun x hx=>hR x (.tail _ (.tail _ (.tail _ hx)))) .nil)))) (.cons (.low (.int _ _)) .nil))) (q3 he _ _ _ _ (f4 (by omega) hb0) hp3)
  ·generalize hb3:(FE (FE (FE bs false).2.1 (FE bs false).2.2).2.1 (FE (FE bs false).2.1 (FE bs false).2.2).2.2).2.1=b3 at s hy3
   generalize Py:(FE (FE (FE bs false).2.1 (FE bs false).2.2).2.1 (FE (FE bs false).2.1 (FE bs false).2.2).2.2).2.2=c3 at s w1
   have r1:c3=true->Fw bs=none:=fun h=>by
    by_cases h24:bs.length<24
    ·unfold Fw;rw[if_pos h24]
    ·obtain⟨a1,a2,a3⟩:=w2 (by omega)
     rw[a1]at Py
     simp only at Py
     rw[a2]at Py
     simp only at Py
     rw[a3]at Py
     rw[<- Py]at h
     cases h
   have r2':c3=false->Fw bs=(if n<0 then none else match items bs.length n b3 with
     | some (l,[])=>some (A,B,l)
     | _=>none)/\b3=bs.drop 24:=fun h=>by
    have h24:24<=bs.length:=by
     by_cases h24:bs.length<24
     ·rw[w1 h24]at h;cases h
     ·omega
    obtain⟨a1,a2,a3⟩:=w2 h24
    rw[a1]at hA hB hN hb3
    simp only at hA hB hN hb3
    rw[a2]at hB hN hb3
    simp only at hB hN hb3
    rw[a3]at hN hb3
    simp only at hN hb3
    refine⟨?_,hb3.symm⟩
    unfold Fw
    rw[if_neg (by omega),hA,hB,hN,hb3]<;>rfl
   have s:A2 H ((rb,[y3,.bool c3])::(ro,[iv A,iv B,.nils])::(r4,[I 0,I 0,.nils])::[(r3,sec.map bv),(r2,key.map bv++y::sg.map bv)]) H9:=s
   generalize [(r3,sec.map bv),(r2,key.map bv++y::sg.map bv)]=Lr at s
   clear m2 m3 q1 q2 q3 d33 d0 g32 hcl w1 w2
   let R:Bool->Nat->List UInt8->List Ad.D->Prop:=fun bad i b ds=>(bad=true->Fw bs=none)/\(bad=false->c3=false/\ds.length=i/\8*i+b.length<=bs.length/\((n<0/\i=0)\/(0<=n/\(i:Int)<=n/\∃f,b.length<=f/\items bs.length n b3=(items f (n-(i:Int)) b).map fun p=>(ds++p.1,p.2))))
   let I1:AV->AV->AV->AV->AV->AV->AH->Prop:=fun e4 e6 e7 e8 e9 e10 H'=>e4=.ptr r4 0/\e6=.ptr rb 0/\e7=.fn (.func 22) [.ptr rb 0] []/\e8=.ptr ro 0/\e9=iv n /\
    ∃(i:Nat) (v pv:AV) (b:List UInt8) (bad:Bool) (ds:List Ad.D) (o:List (Nat × List AV)) (cs:List AV),e10=iv (i:Int)/\ds.length<=68719400000/\A2 H ((rb,[v,.bool bad])::(ro,[iv A,iv B,pv])::(r4,[I 0,I 0,.nils])::(o++Lr)) H'/\It b v /\
     GL [] 1 (PD ds) ds.length cs/\Lv 1 o ds.length cs pv/\R bad i b ds
   let μ1:AV->AV->AV->AV->AV->AV->AH->Nat:=fun _ _ _ _ _ e10 _=>match e10 with
    | .int _ j=>(n-j).toNat
    | _=>0
   refine⟨I1,μ1,⟨rfl,rfl,rfl,rfl,rfl,0,y3,.nils,b3,c3,[],[],[],rfl,by simp,s,hy3,GL.nil,.nil,r1,fun h=>⟨h,rfl,?_,?_⟩⟩,?_⟩
   ·rw[(r2' h).2,B3];omega
   ·by_cases hn:n<0
    ·exact .inl ⟨hn,rfl⟩
    ·refine .inr ⟨by omega,by omega,bs.length,by rw[(r2' h).2,B3];omega,?_⟩
     rw[show n-((0:Nat):Int)=n by omega]
     cases items bs.length n b3<;>rfl
   clear s hy3
   intro e H10 hIv
   obtain⟨e4,e6,e7,e8,e9,i,v,pv,b,bad,ds,o,cs,e10,hdl,s,hv,hG,hL,f1,f2⟩:=(hIv:I1 (e 4) (e 6) (e 7) (e 8) (e 9) (e 10) H10)
   have hmu:μ1 (e 4) (e 6) (e 7) (e 8) (e 9) (e 10) H10=(n-(i:Int)).toNat:=by rw[e10]
   show AB (.bin .lss (.cst (e 10)) (.cst (e 9))) _
   rw[e4,e6,e7,e8,e9,e10]
   obtain⟨p,hp1,hp2⟩:=hG.P3 hL
   have hp:∃p,FZ (o++Lr) pv p/\LR Ad ds p/\∀k,Sc k p:=⟨p,hp1.mono (by simp),fe (lz hp2),hp2.sc⟩
   have ex:¬((i:Int)<n/\bad=false)->J (.ptr r4 0) (.ptr rb 0) (.ptr ro 0) (iv n) H10:=fun hx=>by
    refine hJ v pv b bad (o++Lr) ds H10 s hv hp hL.cell f1 fun hb=>?_
    obtain⟨h0,h1,_,h3⟩:=f2 hb
    have hE:=(r2' h0).1
    rcases h3 with⟨h3,_⟩ | ⟨h3,h4,f,h5,h6⟩
    ·rw[if_pos h3]at hE
     exact⟨fun _=>hE,fun h=>by omega⟩
    ·have hin:¬(i:Int)<n:=fun h=>hx ⟨h,hb⟩
     have h7:items f (n-(i:Int)) b=some ([],b):=by cases f<;>(unfold items;rw[if_pos (by omega)])
     rw[h7]at h6
     rw[if_neg (by omega),h6]at hE
     refine⟨fun h=>?_,fun _ h=>?_⟩
     ·rcases h with h | h
      ·omega
      ·cases b with
       | nil=>exact absurd rfl h
       | cons x l=>exact hE
     ·subst h
      simpa using hE
   refine Cn (fun hlt=>?_) (fun hlt=>iy (AA (v:=.bool false) rfl (Bu (ex fun h=>hlt h.1))))
   refine So (AA (v:=.ptr rb 0) rfl (AA (v:=.ptr rb 1) rfl (s.ld (o:=1) (.head _) rfl (Tl ?_))))
   cases bad with
   | true=>exact AA (v:=.bool false) rfl (Bu (ex fun h=>by cases h.2))
   | false=>
   refine AA (v:=.bool true) rfl (B8 ?_)
   obtain⟨h0,hdi,hbl,h3⟩:=f2 rfl
   obtain⟨hn0,hin,f,hbf,hit⟩:0<=n/\(i:Int)<=n/\∃f,b.length<=f/\items bs.length n b3=(items f (n-(i:Int)) b).map fun p=>(ds++p.1,p.2):=by
    rcases h3 with⟨h3,_⟩ | h3
    ·omega
    ·exact h3
   have hE:=(r2' h0).1
   rw[if_neg (by omega)]at hE
   have hno:items f (n-(i:Int)) b=none->Fw bs=none:=fun h=>by rw[h]at hit;rw[hit]at hE;exact hE
   obtain⟨t1,t2⟩:=Vt hlt hbf
   obtain⟨k,b',bd,hr,hb',x1,x2⟩:∃k b' bd,FE b false=(k,b',bd)/\b'.length<=b.length/\((k<0\/(b'.length:Int)<k)->Fw bs=none)/\(0<=k->k<=(b'.length:Int)->(bd=true->Fw bs=none)/\((∀d,Ad.dec (b'.take k.toNat)≠.ok d [])->Fw bs=none) /\
     (∀d,bd=false->Ad.dec (b'.take k.toNat)=.ok d []->b'.length+8=b.length/\∃f',(b'.drop k.toNat).length<=f'/\items bs.length n b3=(items f' (n-((i:Int)+1)) (b'.drop k.toNat)).map fun p=>((ds++[d])++p.1,p.2))):=by
    by_cases h8:b.length<8
    ·have hz:=hno (t1 h8)
     exact⟨0,b,true,by unfold FE;rw[if_pos h8],Nat.le_refl _,fun _=>hz,fun _ _=>⟨fun _=>hz,fun _=>hz,fun d h=>by cases h⟩⟩
    ·obtain⟨u1,u2⟩:=t2 (by omega)
     refine⟨wI (b.take 8),b.drop 8,false,by unfold FE;rw[if_neg h8],by rw[List.length_drop];omega,fun h=>hno (u1 h),fun a1 a2=>?_⟩
     obtain⟨f',g1,g2,g3⟩:=u2 a1 a2
     refine⟨fun h=>(by cases h),fun h=>hno (g3 h),fun d _ hd=>⟨by rw[B3];omega,f',g1,?_⟩⟩
     rw[hit,g2 d hd]
     cases items f' (n-((i:Int)+1)) ((b.drop 8).drop (wI (b.take 8)).toNat)<;>simp
   clear t1 t2 hno h3 f1 f2 hit ex
   show AF prog 22 [.ptr rb 0] H10 _ _
   refine WY s hv fun v' H11 hv' s=>?_
   rw[hr]at hv' s ⊢
   simp only at hv' s ⊢
   refine Cn (b:=0) (fun hk0=>?_) (fun hk0=>?_)
   ·refine Pz (AA (v:=.bool true) rfl (B8 (AA (v:=.ptr rb 0) rfl (AA (v:=.ptr rb 1) rfl ?_))))
    exact s.put (vs:=[.bool true]) rfl rfl (by show 1+1<=2;omega) fun H12 s=>hJ v' pv b' true (o++Lr) ds H12 s hv' hp hL.cell (fun _=>x1 (.inl hk0)) (fun h=>by cases h)
   refine Sp (AA (v:=.ptr rb 0) rfl (AA (v:=.ptr rb 0) rfl (s.ld (o:=0) (.head _) rfl (hv'.len (XX (fun hgt=>?_) (fun hgt=>?_))))))
   ·refine AA (v:=.bool true) rfl (B8 (AA (v:=.ptr rb 0) rfl (AA (v:=.ptr rb 1) rfl ?_)))
    exact s.put (vs:=[.bool true]) rfl rfl (by show 1+1<=2;omega) fun H12 s=>hJ v' pv b' true (o++Lr) ds H12 s hv' hp hL.cell (fun _=>x1 (.inr hgt)) (fun h=>by cases h)
   refine AA (v:=.bool false) rfl (Bu ?_)
   obtain⟨z1,z2,z3⟩:=x2 (by omega) (by omega)
   obtain⟨m,rfl⟩:∃m:Nat,k=(m:Int):=⟨k.toNat,by omega⟩
   rw[CL]at z2 z3
   have hm:m<=b'.length:=by omega
   refine AA (v:=.ptr rb 0) rfl (AA (v:=.ptr rb 0) rfl (s.ld (o:=0) (.head _) rfl (hv'.hi (k:=m) hm fun w hw=>?_)))
   refine lD s hw (by rw[BL];omega) fun x en d H12 s hrc hsc hone hen=>?_
   refine AA (v:=x) rfl (AA (v:=iv en) rfl (AA (v:=.ptr rb 0) rfl (AA (v:=.ptr rb 1) rfl (s.ld (o:=1) (.head _) rfl ?_))))
   refine nY (fun J=>∀x y,(bd=false->y=.bool (decide (en≠0)))->J x y H12) ?_ ?_ ?_
   ·intro x' y' hy'
    have hpk:AJ (.pick (.cst (.bool bd)) (.cst (.bool true)) (.cst y')) emp=some (.bool (bd||decide (en≠0))):=by
     cases bd with
     | true=>cases y'<;>rfl
     | false=>rw[hy' rfl];rfl
    refine AA hpk ?_
    clear hpk hy' x' y'
    have hbe:((bd||decide (en≠0))=true->Fw bs=none)/\((bd||decide (en≠0))=false->bd=false/\Ad.dec (b'.take m)=.ok d []):=by
     rcases hen with⟨h1,h2⟩ | ⟨h1,h2⟩
     ·subst h1
      cases bd with
      | true=>exact⟨fun _=>z1 rfl,fun h=>by cases h⟩
      | false=>exact⟨fun h=>by simp at h,fun _=>⟨rfl,h2⟩⟩
     ·rw[decide_eq_true h1,Bool.or_true]
      exact⟨fun _=>z2 h2,fun h=>by cases h⟩
    generalize (bd||decide (en≠0))=be at hbe
    refine AA (v:=.ptr rb 0) rfl (AA (v:=.ptr rb 1) rfl ?_)
    refine s.put (vs:=[.bool be]) rfl rfl (by show 1+1<=2;omega) fun H13 s=>?_
    have s:A2 H ((rb,[v',.bool be])::(ro,[iv A,iv B,pv])::(r4,[I 0,I 0,.nils])::(o++Lr)) H13:=s
    refine AA (v:=.ptr rb 0) rfl (AA (v:=.ptr rb 0) rfl (s.ld (o:=0) (.head _) rfl (hv'.lo (k:=m) hm fun w2 hw2=>?_)))
    refine AA (v:=.ptr rb 0) rfl (AA (v:=.ptr rb 0) rfl ?_)
    refine s.put (vs:=[w2]) hw2.one rfl (by show 0+1<=2;omega) fun H14 s=>?_
    have s:A2 H ((rb,[w2,.bool be])::(ro,[iv A,iv B,pv])::(r4,[I 0,I 0,.nils])::(o++Lr)) H14:=s
    refine AA (v:=.ptr ro 2) rfl (s.ld (o:=2) (.tail _ (.head _)) rfl ?_)
    have s2:=A2.gC (A:=[(rb,[w2,.bool be]),(ro,[iv A,iv B,pv]),(r4,[I 0,I 0,.nils])]) (o:=o) (B:=Lr) s
    refine s2.app hL hG.n hone rfl rfl (by omega) (by omega) fun o' pv' H15 s3 hL'=>?_
    have s4:A2 H ((rb,[w2,.bool be])::(ro,[iv A,iv B,pv])::(r4,[I 0,I 0,.nils])::(o'++Lr)) H15:=A2.gC (A:=o') (o:=[(rb,[w2,.bool be]),(ro,[iv A,iv B,pv]),(r4,[I 0,I 0,.nils])]) (B:=Lr) s3
    refine AA (v:=.ptr ro 2) rfl (A2.Km (A:=[(rb,[w2,.bool be])]) (vs:=[pv']) s4 hL'.cell rfl (by show 2+1<=3;omega) fun H16 s5=>?_)
    have hlen:(ds++[d]).length=ds.length+1:=by simp
    refine CE (b:=1) ⟨by omega,by omega⟩ ⟨⟨rfl,rfl,rfl,rfl,rfl,i+1,w2,pv',b'.drop m,be,ds++[d],o',cs++[x],rfl,by omega,s5,hw2,hG.sO hsc hrc,by rw[hlen];exact hL',hbe.1,fun hf=>?_⟩,?_⟩
    ·obtain⟨hf1,hf2⟩:=hbe.2 hf
     obtain⟨y1,f',y2,y3⟩:=z3 d hf1 hf2
     refine⟨h0,by omega,by rw[B3];omega,.inr ⟨hn0,by omega,f',y2,?_⟩⟩
     rw[show n-((i+1:Nat):Int)=n-((i:Int)+1)by omega]
     exact y3
    ·show _<μ1 (e 4) (e 6) (e 7) (e 8) (e 9) (e 10) H10
     rw[hmu]
     show(n-((i:Int)+1)).toNat<_
     omega
   ·intro hb1 J hJ2
    refine bt (b:=0) (fun h=>hJ2 _ _ fun _=>by rw[decide_eq_true h]) (fun h=>hJ2 _ _ fun _=>by rw[decide_eq_false (fun h'=>h' h)])
   ·intro hb1 J hJ2
    exact hJ2 _ _ fun h=>absurd h hb1
 ·rw[decide_eq_false he]
  refine B8 ?_
  refine AA (v:=.agg [iv 0,iv 0,.nils]) rfl (s.DZ (vs:=[iv 0,iv 0,.nils]) rfl rfl fun H4 s=>s.Gx (.head _) rfl ?_)
  exact s.Mo (fun k=>.tup (.cons (.agg (.cons (.int _ _) (.cons (.int _ _) (.cons .nils .nil)))) (.cons (.int _ _) .nil))) (q1 he)
end
end Go.Proofs.YtlmkmpomgdbjhaaGreatDoor
namespace Go.AL
section
open Sha Go.AL.Co
variable [BQ]
end
end Go.AL
namespace Go.Proofs.YtlmkmpomgdbjhaaGreatDoor
open Tryz
section
open Go Go.AL Go.AL.Sha Go.AL.Co
variable [BQ]
end
end Go.Proofs.YtlmkmpomgdbjhaaGreatDoor
namespace Go.AL
section
open Sha
theorem ZG (a b c d:UInt8):a.toUInt32 <<< 24+b.toUInt32 <<< 16+c.toUInt32 <<< 8+d.toUInt32=word a b c d:=by
 have ha:=a.toNat_lt
 have hb:=b.toNat_lt
 have hc:=c.toNat_lt
 have hd:=d.toNat_lt
 refine UInt32.toNat_inj.1 ?_
 unfold word
 simp only[UInt32.toNat_add,UInt32.toNat_or,Od,UInt8.toNat_toUInt32]
 have e24:(24:UInt32).toNat % 32=24:=by decide
 have e16:(16:UInt32).toNat % 32=16:=by decide
 have e8:(8:UInt32).toNat % 32=8:=by decide
 rw[e24,e16,e8]
 generalize a.toNat=a at *
 generalize b.toNat=b at *
 generalize c.toNat=c at *
 generalize d.toNat=d at *
 have h1:a <<< 24 % 2 ^ 32=a <<< 24:=B4 (by rw[Fh];omega)
 have h2:b <<< 16 % 2 ^ 32=b <<< 16:=B4 (by rw[Fh];omega)
 have h3:c <<< 8 % 2 ^ 32=c <<< 8:=B4 (by rw[Fh];omega)
 rw[h1,h2,h3]
 have g1:a <<< 24 ||| b <<< 16=a <<< 24+b <<< 16:=(Ga (by rw[Fh];omega) a).symm
 have g2:(a <<< 24+b <<< 16)=(a <<< 8+b) <<< 16:=by simp only[Fh];omega
 have g3:(a <<< 8+b) <<< 16 ||| c <<< 8=(a <<< 8+b) <<< 16+c <<< 8:=(Ga (by rw[Fh];omega) _).symm
 have g4:(a <<< 8+b) <<< 16+c <<< 8=(a <<< 16+b <<< 8+c) <<< 8:=by simp only[Fh];omega
 have g5:(a <<< 16+b <<< 8+c) <<< 8 ||| d=(a <<< 16+b <<< 8+c) <<< 8+d:=(Ga (by omega) _).symm
 rw[g1,g2,g3,g4,g5]
 simp only[Fh]
 omega
variable [BQ]
section
variable {K:AV->Prop}
theorem gf {a:UInt32}(hK:K (wv (~~~a))):AB (.bin .sub (.cst (N .u32 4294967295)) (.cst (wv a))) K:=AA (by
 show some (AV.int .u32 (IntKind.u32.wrap ((4294967295:Int)-(a.toNat:Int))))=some (AV.int .u32 ((~~~a).toNat:Int))
 have:=a.toNat_lt
 have h2:UInt32.size=4294967296:=rfl
 rw[wrap_u32',UInt32.toNat_not,h2]
 congr 2
 omega) hK
theorem gZ {a:UInt32}{k:Nat}(hk:k<32) (hK:K (wv (a <<< UInt32.ofNat k))):AB (.bin .shl (.cst (wv a)) (.cst (iv (k:Int)))) K:=AA (by
 have e:(UInt32.ofNat k).toNat=k:=by rw[LS];omega
 show(if (0:Int)<=(k:Int)then some (AV.int .u32 (IntKind.u32.wrap ((a.toNat:Int)*2 ^ (min ((k:Int).toNat) 32))))else none)=some (AV.int .u32 ((a <<< UInt32.ofNat k).toNat:Int))
 rw[if_pos (by omega),wrap_u32',Od,CL,B7 (by omega),e,B4 hk,Fh]
 simp) hK
end
def Lf (w:List UInt32) (i:Nat):List UInt32:=if i<=16 then w.take i else ext (i-16) w
theorem cm {w:List UInt32}(hw:w.length=16) (i:Nat):(Lf w i).length=i:=by
 unfold Lf
 split
 ·rw[BL];omega
 ·rw[ME];omega
theorem gX {w:List UInt32}{i:Nat}(h:i<16){x:UInt32}(hx:w[i]?=some x):Lf w (i+1)=Lf w i++[x]:=by
 unfold Lf
 rw[if_pos (by omega),if_pos (by omega),Cr,hx];rfl
theorem gY {w:List UInt32}(hw:w.length=16){i:Nat}(h:16<=i):Lf w (i+1)=Lf w i++[Sha.next (Lf w i)]:=by
 have e:Lf w i=ext (i-16) w:=by
  unfold Lf
  split
  ·have:i=16:=by omega
   subst this
   exact AX (by omega)
  ·rfl
 rw[e]
 unfold Lf
 rw[if_neg (by omega),show i+1-16=(i-16)+1 by omega,P5]
end
end Go.AL
namespace Go.Proofs.YtlmkmpomgdbjhaaGreatDoor
open Tryz
section
open Go Go.AL Go.AL.Sha
variable [BQ]
theorem Q3 {x:UInt32}{k:Nat}{H:AH}(h1:0<k) (hk:k<32):CP prog 132 [wv x,iv (k:Int)] H fun v=>v=wv (KS x (UInt32.ofNat (32-k))):=by
 refine tD ?_
 unfold o5
 refine VK hk (DP (a:=32) ⟨by omega,by omega⟩ ?_)
 rw[show(32:Int)-(k:Int)=((32-k:Nat):Int)by omega]
 refine gZ (by omega) (ZH ?_)
 refine⟨rfl,_,rfl,?_⟩
 unfold KS
 have e:(32:UInt32)-UInt32.ofNat (32-k)=UInt32.ofNat k:=by
  refine UInt32.toNat_inj.1 ?_
  rw[UInt32.toNat_sub,LS,LS]
  have:(32:UInt32).toNat=32:=by decide
  rw[this];omega
 rw[e,UInt32.or_comm]
theorem p7 {x:UInt32}{H:AH}:CP prog 132 [wv x,iv 7] H fun v=>v=wv (KS x 25):=Q3 (k:=7) (by omega) (by omega)
theorem iG {x:UInt32}{H:AH}:CP prog 132 [wv x,iv 18] H fun v=>v=wv (KS x 14):=Q3 (k:=18) (by omega) (by omega)
theorem yc {x:UInt32}{H:AH}:CP prog 132 [wv x,iv 17] H fun v=>v=wv (KS x 15):=Q3 (k:=17) (by omega) (by omega)
theorem yb {x:UInt32}{H:AH}:CP prog 132 [wv x,iv 19] H fun v=>v=wv (KS x 13):=Q3 (k:=19) (by omega) (by omega)
theorem p6 {x:UInt32}{H:AH}:CP prog 132 [wv x,iv 6] H fun v=>v=wv (KS x 26):=Q3 (k:=6) (by omega) (by omega)
theorem ye {x:UInt32}{H:AH}:CP prog 132 [wv x,iv 11] H fun v=>v=wv (KS x 21):=Q3 (k:=11) (by omega) (by omega)
theorem ya {x:UInt32}{H:AH}:CP prog 132 [wv x,iv 25] H fun v=>v=wv (KS x 7):=Q3 (k:=25) (by omega) (by omega)
theorem p2 {x:UInt32}{H:AH}:CP prog 132 [wv x,iv 2] H fun v=>v=wv (KS x 30):=Q3 (k:=2) (by omega) (by omega)
theorem yd {x:UInt32}{H:AH}:CP prog 132 [wv x,iv 13] H fun v=>v=wv (KS x 19):=Q3 (k:=13) (by omega) (by omega)
theorem rh {x:UInt32}{H:AH}:CP prog 132 [wv x,iv 22] H fun v=>v=wv (KS x 10):=Q3 (k:=22) (by omega) (by omega)
theorem PE:∀(l:List UInt32) (k:Nat),Gy k (l.map wv)
 | [],_=>.nil
 | _::l,k=>.cons (.int _ _) (PE l k)
theorem vO {H:AH}:CP prog 131 [] H fun x=>x=.agg (K.map wv):=CP.of <| by
 refine tE ?_
 unfold o6
 refine(A2.start H).alloc fun q H1 s=>AA (v:=.agg (K.map wv)) rfl (s.DZ (vs:=K.map wv) rfl rfl fun H2 s=>s.Gx (.head _) rfl ?_)
 exact s.Mo (fun k=>.agg (PE _ k)) rfl
theorem C65 {H:AH}:CP prog 65 [] H fun x=>x=.agg (init.l.map wv):=CP.of <| by
 refine T65 ?_
 unfold xW
 refine(A2.start H).alloc fun q H1 s=>AA (v:=.agg (init.l.map wv)) rfl (s.DZ (vs:=init.l.map wv) rfl rfl fun H2 s=>s.Gx (.head _) rfl ?_)
 exact s.Mo (fun k=>.agg (PE _ k)) rfl
set_option maxHeartbeats 4000000 in
theorem vP {H:AH}{q o:Nat}{lim:Qe}{bs:List UInt8}{cs:List AV}(hq:H.get q=some (.cells cs)) (hb:∀i,i<64->cs[o+i]?=some (bv (bs.getD i 0))) (hl:bs.length=64) (hqn:q<H.next) :
  CP prog 130 [.sl q o 64 lim] H fun x=>x=.agg ((ext 48 (words bs)).map wv):=CP.of <| by
 have hwl:(words bs).length=16:=Jz 16 bs (by omega)
 generalize hw:words bs=w at hwl
 refine tF ?_
 unfold o7
 refine(A2.start H).alloc fun q1 H1 s=>AA (v:=.agg (BD 64 (N .u32 0) [])) rfl (s.alloc fun q3 H2 s=>s.DZ (vs:=BD 64 (N .u32 0) []) rfl rfl fun H3 s=>?_)
 have s:A2 H [(q3,FQ (Lf w 0)),(q1,BD 64 (N .u32 0) [])] H3:=s
 let I1:AV->AV->AV->AV->AH->Prop:=fun e0 e2 e3 e4 H'=>e0=.sl q o 64 lim/\e2=.ptr q1 0/\e3=.ptr q3 0/\∃i:Nat,e4=iv (i:Int)/\i<=64/\A2 H [(q3,FQ (Lf w i)),(q1,BD 64 (N .u32 0) [])] H'
 let μ1:AV->AV->AV->AV->AH->Nat:=fun _ _ _ e4 _=>match e4 with
  | .int _ j=>((64:Int)-j).toNat
  | _=>0
 refine⟨I1,μ1,⟨rfl,rfl,rfl,0,rfl,by omega,s⟩,?_⟩
 clear s
 intro e H4 hI
 obtain⟨e0,e2,e3,i,e4,hi,s⟩:=(hI:I1 (e 0) (e 2) (e 3) (e 4) H4)
 have hmu:μ1 (e 0) (e 2) (e 3) (e 4) H4=((64:Int)-(i:Int)).toNat:=by rw[e4]
 show AB (.bin .lss (.cst (e 4)) (.cst (I 64))) _
 rw[e0,e2,e3,e4]
 have hil:=cm hwl i
 refine Cn (b:=64) (fun hlt=>B8 ?_) (fun hlt=>Bu ?_)
 ·have hi64:i<64:=by omega
  refine Tm (b:=16) ?_
  refine eP (fun J=>∀H',A2 H [(q3,FQ (Lf w (i+1))),(q1,BD 64 (N .u32 0) [])] H'->J (.sl q o 64 lim) (.ptr q1 0) (.ptr q3 0) (iv (i:Int)) H') (fun H5 s5=>?_) (fun ht J hJ=>?_) (fun hf J hJ=>?_)
  ·refine CE (b:=1) ⟨by omega,by omega⟩ ⟨⟨rfl,rfl,rfl,i+1,rfl,by omega,s5⟩,?_⟩
   show _<μ1 (e 0) (e 2) (e 3) (e 4) H4
   rw[hmu]
   show((64:Int)-((i:Int)+1)).toNat<_
   omega
  ·have hi16:i<16:=by have:=of_decide_eq_true ht;omega
   have hq2:H4.get q=some (.cells cs):=by rw[s.k.get q hqn];exact hq
   refine Hd (a:=4) ⟨by omega,by omega⟩ ?_
   rw[show(4:Int)*(i:Int)=((4*i:Nat):Int)by omega]
   refine fX (by omega) hq2 (hb (4*i) (by omega)) (JH (O5 (n:=24) (by decide) ?_))
   refine Hd (a:=4) ⟨by omega,by omega⟩ (CE (b:=1) ⟨by omega,by omega⟩ ?_)
   rw[show(4:Int)*(i:Int)+1=((4*i+1:Nat):Int)by omega]
   refine fX (by omega) hq2 (hb (4*i+1) (by omega)) (JH (O5 (n:=16) (by decide) (Df ?_)))
   refine Hd (a:=4) ⟨by omega,by omega⟩ (CE (b:=2) ⟨by omega,by omega⟩ ?_)
   rw[show(4:Int)*(i:Int)+2=((4*i+2:Nat):Int)by omega]
   refine fX (by omega) hq2 (hb (4*i+2) (by omega)) (JH (O5 (n:=8) (by decide) (Df ?_)))
   refine Hd (a:=4) ⟨by omega,by omega⟩ (CE (b:=3) ⟨by omega,by omega⟩ ?_)
   rw[show(4:Int)*(i:Int)+3=((4*i+3:Nat):Int)by omega]
   refine fX (by omega) hq2 (hb (4*i+3) (by omega)) (JH (Df (EO (i:=i) (by omega) ?_)))
   rw[ZG]
   have hw1:=MW i bs (by omega)
   rw[hw]at hw1
   have e1:=gX hi16 hw1
   generalize word (bs.getD (4*i) 0) (bs.getD (4*i+1) 0) (bs.getD (4*i+2) 0) (bs.getD (4*i+3) 0)=x at e1 ⊢
   have hps:=KD (l:=Lf w i) (x:=x) (by rw[hil];omega)
   rw[hil,<- e1]at hps
   refine s.put (vs:=[wv x]) rfl rfl (by rw[KE (by omega)];omega) fun H5 s5=>?_
   rw[hps]at s5
   exact hJ _ s5
  ·have hi16:16<=i:=by have:=of_decide_eq_false hf;omega
   refine DP (b:=15) ⟨by omega,by omega⟩ ?_
   rw[show(i:Int)-15=((i-15:Nat):Int)by omega]
   refine fY (i:=i-15) s (.head _) (by omega) (Cc (by omega)) ?_
   refine DP (b:=2) ⟨by omega,by omega⟩ ?_
   rw[show(i:Int)-2=((i-2:Nat):Int)by omega]
   refine fY (i:=i-2) s (.head _) (by omega) (Cc (by omega)) ?_
   refine DP (b:=16) ⟨by omega,by omega⟩ ?_
   rw[show(i:Int)-16=((i-16:Nat):Int)by omega]
   refine EO (i:=i-16) (by omega) (s.ld (o:=i-16) (.head _) (Cc (l:=Lf w i) (i:=i-16) (by omega)) ?_)
   refine Tb (n:=3) (by decide) ?_
   refine DP (b:=7) ⟨by omega,by omega⟩ ?_
   rw[show(i:Int)-7=((i-7:Nat):Int)by omega]
   refine EO (i:=i-7) (by omega) (s.ld (o:=i-7) (.head _) (Cc (l:=Lf w i) (i:=i-7) (by omega)) ?_)
   refine Tb (n:=10) (by decide) ?_
   have r7:=s.Dw (o:=i-7) (.head _) (Cc (l:=Lf w i) (i:=i-7) (by omega))
   have r16:=s.Dw (o:=i-16) (.head _) (Cc (l:=Lf w i) (i:=i-16) (by omega))
   refine Ed p7 fun _ hx=>?_
   cases hx
   refine⟨⟨r7,r16,trivial⟩,?_⟩
   refine Ed iG fun _ hx=>?_
   cases hx
   refine⟨⟨r7,r16,trivial⟩,?_⟩
   refine EJ (EJ (Df (Df ?_)))
   refine Ed yc fun _ hx=>?_
   cases hx
   refine⟨⟨r7,r16,trivial⟩,?_⟩
   refine Ed yb fun _ hx=>?_
   cases hx
   refine⟨⟨r7,r16,trivial⟩,?_⟩
   refine EJ (EJ (Df (EO (i:=i) (by omega) ?_)))
   have hn:(Lf w i).getD (i-16) 0+low ((Lf w i).getD (i-15) 0)+(Lf w i).getD (i-7) 0+high ((Lf w i).getD (i-2) 0)=Sha.next (Lf w i):=by
    unfold Sha.next
    rw[hil]
   have e1:=gY hwl hi16
   have hps:=KD (l:=Lf w i) (x:=Sha.next (Lf w i)) (by omega)
   rw[hil,<- e1]at hps
   refine s.put (vs:=[wv (Sha.next (Lf w i))]) (by rw[<- hn];rfl) rfl (by rw[KE (by omega)];omega) fun H5 s5=>⟨trivial,?_⟩
   rw[hps]at s5
   exact hJ _ s5
 have hi64:i=64:=by omega
 subst hi64
 have hfin:FQ (Lf w 64)=(ext 48 w).map wv:=by
  have e:Lf w 64=ext 48 w:=rfl
  unfold FQ
  rw[hil,e,HB]
  simp
 rw[hfin]at s
 have hel:(ext 48 w).length=64:=by rw[ME,hwl]
 refine s.Gx (.head _) (by rw[Au,hel]) ?_
 refine s.swap.DZ (vs:=(ext 48 w).map wv) (by rw[Au,hel]) rfl fun H5 s=>s.Gx (.head _) (by rw[Au,hel]) ?_
 exact s.Mo (fun k=>.agg (PE _ k)) rfl
end
end Go.Proofs.YtlmkmpomgdbjhaaGreatDoor
namespace Go.AL
section
open Sha
variable [BQ]
abbrev Bc (o:List (Nat × List AV)) (bs:List UInt8) (v:AV):Prop:=Lv 1 o bs.length (bs.map bv) v
def Src (H0:AH) (L:List (Nat × List AV)) (bs:List UInt8) (v:AV):Prop:=∀H,A2 H0 L H->Ae 1 v H=some (bs.length,bs.map bv)
theorem Src.mono {H0:AH}{L L':List (Nat × List AV)}{bs:List UInt8}{v:AV}(h:Src H0 L bs v) (hs:L.Sublist L'):Src H0 L' bs v:=fun H s=>h H (s.sub hs)
section
variable {H0 H:AH}{L:List (Nat × List AV)}
theorem Lv.src {o:List (Nat × List AV)}{bs:List UInt8}{v:AV}(h:Bc o bs v):Src H0 (o++L) bs v:=fun H s=>by
 have key:∀{o:List (Nat × List AV)} {n:Nat} {cs:List AV},Lv 1 o n cs v->cs.length=n->A2 H0 (o++L) H->Ae 1 v H=some (n,cs):=fun{o n cs} h hn s=>by
  cases h with
  | nil=>rfl
  | ex q=>
   have g3:H.get q=some (.cells []):=(s.l (q,[]) (.head _)).2.2
   simp[Ae,AH.cells?,g3]
  | op hn0=>
   rename_i r
   have g3:H.get r=some (.cells cs):=(s.l (r,cs) (.head _)).2.2
   simp[Ae,AH.cells?,g3,hn]
   exact AX (by omega)
  | exn hn0=>
   rename_i r
   have g3:H.get r=some (.cells cs):=(s.l (r,cs) (.head _)).2.2
   simp[Ae,AH.cells?,g3,hn]
   exact AX (by omega)
 exact key h (by simp) s
theorem Lv.apps {o:List (Nat × List AV)}{bs ys:List UInt8}{v x:AV}{K:AV->AH->Prop}(s:A2 H0 (o++L) H) (h:Bc o bs v) (hx:Ae 1 x H=some (ys.length,ys.map bv)) (hl:bs.length+ys.length<1099511627776)
  (hK:∀o' v' H',A2 H0 (o'++L) H'->Bc o' (bs++ys) v'->K v' H'):AO (.append 1 1 (.cst v) (.cst x)) H K:=by
 by_cases hy:ys=[]
 ·subst hy
  have key:∀{o:List (Nat × List AV)} {n:Nat} {cs:List AV},Lv 1 o n cs v->cs.length=n->A2 H0 (o++L) H->∃o' H',BC (.append 1 1 (.cst v) (.cst x)) emp H=some (v,H')/\A2 H0 (o'++L) H'/\Lv 1 o' n cs v:=fun{o n cs} h hn s=>by
   cases h with
   | nil=>exact⟨[],H,by simp[BC,AE.ev,BO,hx],s,.nil⟩
   | ex q=>
    have g3:H.get q=some (.cells []):=(s.l (q,[]) (.head _)).2.2
    exact⟨[(q,[])],H.set q (.cells []),by simp[BC,AE.ev,BO,hx,AH.cells?,g3];rfl,A2.set s,.ex q⟩
   | op hn0=>
    rename_i r
    have g3:H.get r=some (.cells cs):=(s.l (r,cs) (.head _)).2.2
    exact⟨[(r,cs)],H,by simp[BC,AE.ev,BO,hx,AH.cells?,g3],s,.op hn0⟩
   | exn hn0=>
    rename_i r
    have g3:H.get r=some (.cells cs):=(s.l (r,cs) (.head _)).2.2
    have hsp:Ap cs n []=cs:=by rw[Cu (by simp[hn])];simp
    exact⟨[(r,cs)],H.set r (.cells cs),by simp[BC,AE.ev,BO,hx,AH.cells?,g3,hn,hsp],A2.set s,.exn hn0⟩
  obtain⟨o',H',g1,g2,g3⟩:=key h (by simp) s
  exact Aq g1 (hK o' v H' g2 (by rw[DJ];exact g3))
 ·have hyl:0<ys.length:=Ol.2 hy
  have hy0:¬ys.length=0:=by omega
  have key:∀{o:List (Nat × List AV)} {n:Nat} {cs:List AV},Lv 1 o n cs v->cs.length=n->n+ys.length<1099511627776->A2 H0 (o++L) H->∃o' v' H',BC (.append 1 1 (.cst v) (.cst x)) emp H=some (v',H')/\A2 H0 (o'++L) H'/\Lv 1 o' (n+ys.length) (cs++ys.map bv) v':=fun{o n cs} h hn hnl s=>by
   have hb:ys.length*1<=140737488355328/\ys.length<=9223372036854775807:=by omega
   cases h with
   | nil=>
    refine⟨[(H.next,ys.map bv)],.sl H.next 0 ys.length (.op 1),H.push (.cells (ys.map bv)),?_,A2.push (o:=ys.map bv) s,by simpa using Lv.op (k:=1) (r:=H.next) (cs:=ys.map bv) hyl⟩
    simp only[BC,AE.ev,BO,hx]
    rw[if_neg hy0,if_pos hb]
   | ex q=>
    have g3:H.get q=some (.cells []):=(s.l (q,[]) (.head _)).2.2
    refine⟨[(H.next,ys.map bv)],.sl H.next 0 ys.length (.op 1),H.push (.cells (ys.map bv)),?_,(A2.push (o:=ys.map bv) s).sub (by
     show List.Sublist ((H.next,ys.map bv)::L) ((H.next,ys.map bv)::(q,[])::L)
     exact(List.Sublist.cons _ (DN _)).cons_cons _),by simpa using Lv.op (k:=1) (r:=H.next) (cs:=ys.map bv) hyl⟩
    simp only[BC,AE.ev,BO,hx,AH.cells?,g3]
    simp[hy0]
    omega
   | op hn0=>
    rename_i r
    have g3:H.get r=some (.cells cs):=(s.l (r,cs) (.head _)).2.2
    refine⟨[(H.next,cs++ys.map bv)],.sl H.next 0 (n+ys.length) (.op 1),(H.erase r).push (.cells (cs++ys.map bv)),?_,(A2.erase (L:=L) s).push (o:=cs++ys.map bv),.op (by omega)⟩
    simp only[BC,AE.ev,BO,hx,AH.cells?,g3]
    rw[if_neg hy0,if_pos ⟨trivial,by simp[hn],by omega,by omega⟩]
    simp[AX,hn]
   | exn hn0=>
    rename_i r
    have g3:H.get r=some (.cells cs):=(s.l (r,cs) (.head _)).2.2
    refine⟨[(H.next,cs++ys.map bv)],.sl H.next 0 (n+ys.length) (.op 1),H.push (.cells (cs++ys.map bv)),?_,(A2.push (o:=cs++ys.map bv) s).sub (by
     show List.Sublist ((H.next,_)::L) ((H.next,_)::(r,cs)::L)
     exact(List.Sublist.cons _ (DN _)).cons_cons _),.op (by omega)⟩
    have htk:cs.take n=cs:=AX (by omega)
    have hn2:¬n+ys.length<=n:=by omega
    have hn3:n+ys.length<=140737488355328:=by omega
    have hn4:n+ys.length<=9223372036854775807:=by omega
    have hys:¬ys=[]:=hy
    simp[BC,AE.ev,BO,hx,AH.cells?,g3,hys,hn,htk,hn2,hn3,hn4]
  obtain⟨o',v',H',g1,g2,g3⟩:=key h (by simp) hl s
  refine Aq g1 (hK o' v' H' g2 ?_)
  show Lv 1 o' (bs++ys).length ((bs++ys).map bv) v'
  rw[AW,ET]
  exact g3
theorem Lv.Qv {o:List (Nat × List AV)}{bs:List UInt8}{b:UInt8}{v:AV}{z:List AV}{K:AV->AH->Prop}(s:A2 H0 (o++L) H) (h:Bc o bs v) (hz:z.length=1) (hl:bs.length+1<274877906944)
  (hK:∀o' v' H',A2 H0 (o'++L) H'->Bc o' (bs++[b]) v'->K v' H'):AO (.buildSlice 1 1 z [(0,1,(.cst (bv b)))]) H fun v17 h17=>AO (.append 1 1 (.cst v) (.cst v17)) h17 K:=
 s.app (x:=bv b) h (by simp) rfl rfl hz (by omega) (by omega) fun o' v' H' s' h'=>hK o' v' H' s' (by
  show Lv 1 o' (bs++[b]).length ((bs++[b]).map bv) v'
  rw[AW,ET]
  exact h')
theorem A2.iN {K:AV->AH->Prop}(h:A2 H0 L H) (hK:∀o v H',A2 H0 (o++L) H'->Bc o [] v->K v H'):AO (.buildSlice 1 0 [] []) H K:=h.new fun o v H' s hv=>hK o v H' s hv
end
end
end Go.AL
namespace Go.Proofs.YtlmkmpomgdbjhaaGreatDoor
open Tryz
section
open Go Go.AL Go.AL.Sha
variable [BQ]
set_option maxHeartbeats 4000000 in
theorem C67 {H:AH}{q o:Nat}{lim:Qe}{s0:Sha.S8}{bs:List UInt8}{cs:List AV}(hq:H.get q=some (.cells cs)) (hb:∀i,i<64->cs[o+i]?=some (bv (bs.getD i 0)))
  (hl:bs.length=64) (hqn:q<H.next):CP prog 67 [.agg (s0.l.map wv),.sl q o 64 lim] H fun x=>x=.agg ((compress s0 bs).l.map wv):=CP.of <| by
 have hwl:(words bs).length=16:=Jz 16 bs (by omega)
 refine T67 ?_
 unfold xU
 refine(A2.start H).box (c:=s0.l.map wv) rfl fun q2 H1 s=>s.alloc fun q3 H2 s=>?_
 have hq2:H2.get q=some (.cells cs):=by rw[s.k.get q hqn];exact hq
 refine Ed (vP hq2 hb hl (C6 hqn s.k.nx)) fun _ hx=>?_
 cases hx
 refine Ed vO fun _ hx=>?_
 cases hx
 have hel:(ext 48 (words bs)).length=64:=by rw[ME,hwl]
 refine s.alloc fun q6 H3 s=>s.alloc fun q7 H4 s=>?_
 obtain⟨w64,hw64⟩:∃w64,w64=ext 48 (words bs):=⟨_,rfl⟩
 rw[<- hw64]at hel ⊢
 refine s.swap.DZ (vs:=w64.map wv) (by rw[Au,hel]) rfl fun H5 s=>?_
 refine s.swap.DZ (vs:=K.map wv) rfl rfl fun H6 s=>?_
 refine s.Gx (.tail _ (.tail _ (.tail _ (.head _)))) rfl ?_
 refine s.alloc fun q11 H7 s=>s.DZ (vs:=s0.l.map wv) rfl rfl fun H8 s=>?_
 have s:A2 H [(q11,(rounds (K.take 0) (w64.take 0) s0).l.map wv),(q7,K.map wv),(q6,w64.map wv),(q3,BD 8 (N .u32 0) []),(q2,s0.l.map wv)] H8:=s
 let I1:AV->AV->AV->AV->AV->AV->AH->Prop:=fun e2 e4 e5 e6 e7 e8 H'=>e2=.ptr q2 0/\e4=.ptr q3 0/\e5=.ptr q6 0/\e6=.ptr q7 0/\e7=.ptr q11 0/\∃i:Nat,e8=iv (i:Int)/\i<=64 /\
  A2 H [(q11,(rounds (K.take i) (w64.take i) s0).l.map wv),(q7,K.map wv),(q6,w64.map wv),(q3,BD 8 (N .u32 0) []),(q2,s0.l.map wv)] H'
 let μ1:AV->AV->AV->AV->AV->AV->AH->Nat:=fun _ _ _ _ _ e8 _=>match e8 with
  | .int _ j=>((64:Int)-j).toNat
  | _=>0
 refine⟨I1,μ1,⟨rfl,rfl,rfl,rfl,rfl,0,rfl,by omega,s⟩,?_⟩
 clear s
 intro e H9 hI
 obtain⟨e2,e4,e5,e6,e7,i,e8,hi,s⟩:=(hI:I1 (e 2) (e 4) (e 5) (e 6) (e 7) (e 8) H9)
 have hmu:μ1 (e 2) (e 4) (e 5) (e 6) (e 7) (e 8) H9=((64:Int)-(i:Int)).toNat:=by rw[e8]
 show AB (.bin .lss (.cst (e 8)) (.cst (I 64))) _
 rw[e2,e4,e5,e6,e7,e8]
 refine Cn (b:=64) (fun hlt=>B8 ?_) (fun hlt=>Bu ?_)
 ·have hik:i<64:=by omega
  have L6:(K.map wv)[i]?=some (wv (K.getD i 0)):=by rw[BU,Ac,Ab (by rw[Qf];exact hik)];rfl
  have wget:(w64.map wv)[i]?=some (wv (w64.getD i 0)):=by rw[BU,Ac,Ab (by omega)];rfl
  have hrt:=M9 (ks:=K) (ws:=w64) (i:=i) (k:=K.getD i 0) (w:=w64.getD i 0) s0 (by rw[Ac,Ab (by rw[Qf];exact hik)];rfl) (by rw[Ac,Ab (by omega)];rfl)
  generalize rounds (K.take i) (w64.take i) s0=t at s hrt
  refine EO (i:=4) (by omega) (s.ld (o:=4) (.head _) rfl ?_)
  refine EO (i:=0) (by omega) (s.ld (o:=0) (.head _) rfl ?_)
  refine EO (i:=7) (by omega) (s.ld (o:=7) (.head _) rfl ?_)
  refine EO (i:=5) (by omega) (s.ld (o:=5) (.head _) rfl ?_)
  refine KX (gf ?_)
  refine EO (i:=6) (by omega) (s.ld (o:=6) (.head _) rfl ?_)
  refine KX (EJ ?_)
  refine EO (i:=i) (by omega) (s.ld (o:=i) (.tail _ (.head _)) L6 ?_)
  refine EO (i:=i) (by omega) (s.ld (o:=i) (.tail _ (.tail _ (.head _))) wget ?_)
  refine Ed p6 fun _ hx=>?_
  cases hx
  refine⟨⟨s.Dw (.tail _ (.tail _ (.head _))) wget,s.Dw (.tail _ (.head _)) L6,s.Dw (.head _) rfl,s.Dw (.head _) rfl,s.Dw (.head _) rfl,trivial⟩,?_⟩
  refine Ed ye fun _ hx=>?_
  cases hx
  refine⟨⟨s.Dw (.tail _ (.tail _ (.head _))) wget,s.Dw (.tail _ (.head _)) L6,s.Dw (.head _) rfl,s.Dw (.head _) rfl,s.Dw (.head _) rfl,trivial⟩,?_⟩
  refine EJ ?_
  refine Ed ya fun _ hx=>?_
  cases hx
  refine⟨⟨s.Dw (.tail _ (.tail _ (.head _))) wget,s.Dw (.tail _ (.head _)) L6,s.Dw (.head _) rfl,s.Dw (.head _) rfl,s.Dw (.head _) rfl,trivial⟩,?_⟩
  refine EJ (Df (Df (Df (Df ?_))))
  refine EO (i:=1) (by omega) (s.ld (o:=1) (.head _) rfl (KX ?_))
  refine EO (i:=2) (by omega) (s.ld (o:=2) (.head _) rfl (KX (EJ ?_)))
  refine EO (i:=1) (by omega) (s.ld (o:=1) (.head _) rfl ?_)
  refine EO (i:=2) (by omega) (s.ld (o:=2) (.head _) rfl (KX (EJ ?_)))
  refine Ed p2 fun _ hx=>?_
  cases hx
  refine⟨⟨s.Dw (.head _) rfl,s.Dw (.head _) rfl,s.Dw (.head _) rfl,s.Dw (.head _) rfl,trivial⟩,?_⟩
  refine Ed yd fun _ hx=>?_
  cases hx
  refine⟨⟨s.Dw (.head _) rfl,s.Dw (.head _) rfl,s.Dw (.head _) rfl,s.Dw (.head _) rfl,trivial⟩,EJ ?_⟩
  refine Ed rh fun _ hx=>?_
  cases hx
  refine⟨⟨s.Dw (.head _) rfl,s.Dw (.head _) rfl,s.Dw (.head _) rfl,s.Dw (.head _) rfl,trivial⟩,EJ (Df (Df ?_))⟩
  refine EO (i:=0) (by omega) (s.ld (o:=0) (.head _) rfl ?_)
  refine EO (i:=1) (by omega) (s.ld (o:=1) (.head _) rfl ?_)
  refine EO (i:=2) (by omega) (s.ld (o:=2) (.head _) rfl ?_)
  refine EO (i:=3) (by omega) (s.ld (o:=3) (.head _) rfl (Df ?_))
  refine EO (i:=4) (by omega) (s.ld (o:=4) (.head _) rfl ?_)
  refine EO (i:=5) (by omega) (s.ld (o:=5) (.head _) rfl ?_)
  refine EO (i:=6) (by omega) (s.ld (o:=6) (.head _) rfl ?_)
  refine AA (v:=.agg ((round t (K.getD i 0) (w64.getD i 0)).l.map wv)) rfl ?_
  refine s.DZ (vs:=(round t (K.getD i 0) (w64.getD i 0)).l.map wv) rfl rfl fun H10 s7=>?_
  rw[<- hrt]at s7
  refine CE (b:=1) ⟨by omega,by omega⟩ ⟨⟨rfl,rfl,rfl,rfl,rfl,i+1,rfl,by omega,s7⟩,?_⟩
  show _<μ1 (e 2) (e 4) (e 5) (e 6) (e 7) (e 8) H9
  rw[hmu]
  show((64:Int)-((i:Int)+1)).toNat<_
  omega
 have hi64:i=64:=by omega
 subst hi64
 clear hmu
 rw[AX (by rw[Qf];omega),AX (by omega)]at s
 generalize hfin:rounds K w64 s0=t at s
 have hnew:compress s0 bs=s0.add t:=by unfold compress;rw[<- hw64,hfin]
 rw[hnew]
 have hA:(s0.add t).l.length=t.l.length:=rfl
 have s:A2 H [(q11,(KT (s0.add t).l t.l 0).map wv),(q7,K.map wv),(q6,w64.map wv),(q3,BD 8 (N .u32 0) []),(q2,s0.l.map wv)] H9:=s
 let I2:AV->AV->AV->AV->AH->Prop:=fun e2 e4 e7 e13 H'=>e2=.ptr q2 0/\e4=.ptr q3 0/\e7=.ptr q11 0/\∃i:Nat,e13=iv (i:Int)/\i<=8 /\
  A2 H [(q11,(KT (s0.add t).l t.l i).map wv),(q7,K.map wv),(q6,w64.map wv),(q3,BD 8 (N .u32 0) []),(q2,s0.l.map wv)] H'
 let μ2:AV->AV->AV->AV->AH->Nat:=fun _ _ _ e13 _=>match e13 with
  | .int _ j=>((8:Int)-j).toNat
  | _=>0
 refine⟨I2,μ2,⟨rfl,rfl,rfl,0,rfl,by omega,s⟩,?_⟩
 clear s e2 e4 e5 e6 e7 e8
 intro e H10 hI
 obtain⟨e2,e4,e7,i,e13,hi,s⟩:=(hI:I2 (e 2) (e 4) (e 7) (e 13) H10)
 have hmu:μ2 (e 2) (e 4) (e 7) (e 13) H10=((8:Int)-(i:Int)).toNat:=by rw[e13]
 show AB (.bin .lss (.cst (e 13)) (.cst (I 8))) _
 rw[e2,e4,e7,e13]
 refine Cn (b:=8) (fun hlt=>B8 ?_) (fun hlt=>Bu ?_)
 ·have h8:i<t.l.length:=by show i<8;omega
  refine fY (i:=i) s (.head _) (by omega) (UC h8 hA) ?_
  refine fY (i:=i) (x:=wv (s0.l.getD i 0)) s (.tail _ (.tail _ (.tail _ (.tail _ (.head _))))) (by omega) (by
   have:i<s0.l.length:=by show i<8;omega
   rw[BU,Ac,Ab this];rfl) (Df (EO (i:=i) (by omega) ?_))
  have hsum:t.l.getD i 0+s0.l.getD i 0=(s0.add t).l.getD i 0:=by
   rw[UInt32.add_comm]
   match i,(show i<8 by omega)with
   | 0,_ | 1,_ | 2,_ | 3,_ | 4,_ | 5,_ | 6,_ | 7,_=>rfl
   | n+8,h=>omega
  rw[hsum]
  refine s.put (vs:=[wv ((s0.add t).l.getD i 0)]) rfl rfl (by rw[List.length_map];show i+1<=(KT (s0.add t).l t.l i).length;unfold KT;rw[List.length_append,List.length_take,List.length_drop,hA];omega) fun H11 s3=>?_
  have hms:Ap ((KT (s0.add t).l t.l i).map wv) i [wv ((s0.add t).l.getD i 0)]=(KT (s0.add t).l t.l (i+1)).map wv:=by
   rw[<- UB h8 hA];rfl
  rw[hms]at s3
  refine CE (b:=1) ⟨by omega,by omega⟩ ⟨⟨rfl,rfl,rfl,i+1,rfl,by omega,s3⟩,?_⟩
  show _<μ2 (e 2) (e 4) (e 7) (e 13) H10
  rw[hmu]
  show((8:Int)-((i:Int)+1)).toNat<_
  omega
 have hi8:i=8:=by omega
 subst hi8
 have s:A2 H [(q11,(s0.add t).l.map wv),(q7,K.map wv),(q6,w64.map wv),(q3,BD 8 (N .u32 0) []),(q2,s0.l.map wv)] H10:=s
 refine s.Gx (.head _) rfl ?_
 refine A2.Km (A:=[(q11,_),(q7,_),(q6,_)]) (vs:=(s0.add t).l.map wv) s rfl rfl (by show 0+8<=8;omega) fun H11 s=>?_
 refine A2.Gx (c:=(s0.add t).l.map wv) s (.tail _ (.tail _ (.tail _ (.head _)))) rfl ?_
 exact s.Mo (fun k=>.agg (PE _ k)) rfl
end
end Go.Proofs.YtlmkmpomgdbjhaaGreatDoor
namespace Go.AL
section
open Sha
variable [BQ]
theorem X5 {z n:Nat}{v:AV}{cs:List AV}{H:AH}(h:Ae z v H=some (n,cs)):AJ (.len (.cst v)) emp=some (iv (n:Int)):=by
 cases v<;>simp only[Ae]at h<;>try (cases h;done)
 ·cases h;rfl
 ·split at h
  ·split at h
   ·cases h;rfl
   ·cases h
  ·cases h
 ·split at h
  ·cases h;rfl
  ·cases h
theorem gy {r n i:Nat}{lim:Qe}(hl:lim=.op 1\/lim=.ex n) (h:i+64<=n){K:AV->Prop}(hK:∀lim',K (.sl r i 64 lim')):AB (.sliceS 1 (.cst (.sl r 0 n lim)) (some (.cst (iv (i:Int)))) (some (.cst (iv ((i:Int)+64)))) none) K:=by
 have e1:((i:Int)+64-(i:Int)).toNat=64:=by omega
 rcases hl with rfl | rfl
 ·refine AA (v:=.sl r i 64 (.op 1)) ?_ (hK _)
  show(if 1=1/\(0:Int)<=(i:Int)/\(i:Int)<=(i:Int)+64/\(i:Int)+64<=(n:Int)then some (AV.sl r (0+(i:Int).toNat*1) ((i:Int)+64-(i:Int)).toNat (.op 1))else none)=_
  rw[if_pos ⟨rfl,by omega,by omega,by omega⟩,e1,CL,EU,IG]
 ·refine AA (v:=.sl r i 64 (.ex ((n:Int)-(i:Int)).toNat)) ?_ (hK _)
  show(if (0:Int)<=(i:Int)/\(i:Int)<=(i:Int)+64/\(i:Int)+64<=(n:Int)/\(n:Int)<=(n:Int)then some (AV.sl r (0+(i:Int).toNat*1) ((i:Int)+64-(i:Int)).toNat (.ex ((n:Int)-(i:Int)).toNat))else none)=_
  rw[if_pos ⟨by omega,by omega,by omega,by omega⟩,e1,CL,EU,IG]
theorem dB {a:Nat}{K:AV->Prop}(h:8*a<18446744073709551616) (hK:K (uv (8*a))):AB (.bin .mul (.cst (uv a)) (.cst (N .u64 8))) K:=AA (by
 show some (AV.int .u64 (IntKind.u64.wrap ((a:Int)*(8:Int))))=_
 rw[Ej,show(((a:Int)*(8:Int)) % 18446744073709551616)=((8*a:Nat):Int)by omega]) hK
theorem Lv.row {o:List (Nat × List AV)}{bs:List UInt8}{v:AV}(h:Bc o bs v) (h0:bs≠[]):∃r lim,v=.sl r 0 bs.length lim/\(lim=.op 1\/lim=.ex bs.length)/\o=[(r,bs.map bv)]:=by
 have h1:0<bs.length:=Ol.2 h0
 have h:Lv 1 o bs.length (bs.map bv) v:=h
 generalize hn:bs.length=n at h h1 ⊢
 generalize bs.map bv=cs at h ⊢
 cases h with
 | nil=>omega
 | ex q=>omega
 | op h=>exact⟨_,_,rfl,.inl rfl,rfl⟩
 | exn h=>exact⟨_,_,rfl,.inr rfl,rfl⟩
theorem iF (m:List UInt8):pad m≠[]:=fun h=>by
 have:=OM m
 rw[h]at this
 simp at this
end
end Go.AL
namespace Go.Proofs.YtlmkmpomgdbjhaaGreatDoor
open Tryz
section
open Go Go.AL Go.AL.Sha
variable [BQ]
set_option maxHeartbeats 1000000 in
theorem WZ {H0 H:AH}{L:List (Nat × List AV)}{d:List UInt8}{Kp K:AV->AH->Prop}(s:A2 H0 L H) (hd:d.length=32) (hK:∀o v H',A2 H0 (o++L) H'->Bc o d v->K v H'):AF prog 32 [.agg (d.map bv)] H Kp K:=by
 refine BA (post:=fun out H'=>∃v,out=.ret v/\K v H') ?_ (fun v H' hq=>by obtain⟨_,h1,h2⟩:=hq;cases h1;exact h2) (fun v H' hq=>by obtain⟨_,h1,_⟩:=hq;cases h1)
 refine T32 ?_
 unfold xi
 refine s.box (c:=d.map bv) rfl fun q1 H1 s=>s.iN fun o v H2 s hv=>?_
 let I1:AV->AV->AV->AH->Prop:=fun e1 e3 e4 H'=>e1=.ptr q1 0/\∃(i:Nat) (o:List (Nat × List AV)),e4=iv (i:Int)/\i<=32/\Bc o (d.take i) e3/\A2 H0 (o++(q1,d.map bv)::L) H'
 let μ1:AV->AV->AV->AH->Nat:=fun _ _ e4 _=>match e4 with
  | .int _ j=>((32:Int)-j).toNat
  | _=>0
 refine⟨I1,μ1,⟨rfl,0,o,rfl,by omega,hv,s⟩,?_⟩
 clear s hv
 intro e H3 hI
 obtain⟨e1,i,o,e4,hi,hv,s⟩:=(hI:I1 (e 1) (e 3) (e 4) H3)
 have hmu:μ1 (e 1) (e 3) (e 4) H3=((32:Int)-(i:Int)).toNat:=by rw[e4]
 show AB (.bin .lss (.cst (e 4)) (.cst (I 32))) _
 rw[e1,e4]
 refine Cn (b:=32) (fun hlt=>B8 ?_) (fun hlt=>Bu ?_)
 ·have hx:d[i]?=some (d[i]'(by omega)):=Ab (by omega)
  generalize d[i]'(by omega)=x at hx
  refine EO (i:=i) (by omega) (s.ld (o:=i) (x:=bv x) (BS _ (.head _)) (by rw[BU,hx];rfl) ?_)
  refine hv.Qv s rfl (by rw[BL];omega) fun o' v' H4 s4 hv4=>?_
  rw[show d.take i++[x]=d.take (i+1)by rw[Cr,hx];rfl]at hv4
  refine CE (b:=1) ⟨by omega,by omega⟩ ⟨⟨rfl,i+1,o',rfl,by omega,hv4,s4⟩,?_⟩
  show _<μ1 (e 1) (e 3) (e 4) H3
  rw[hmu]
  show((32:Int)-((i:Int)+1)).toNat<_
  omega
 ·rw[AX (by omega)]at hv
  exact⟨_,rfl,hK o _ _ (s.sub ((E0 _ _).append_left o)) hv⟩
set_option maxHeartbeats 1000000 in
theorem TT {H0 H:AH}{L:List (Nat × List AV)}{key:List UInt8}{m:UInt8}{Kp K:AV->AH->Prop}(s:A2 H0 L H) (hk:key.length=32) (hK:∀o v H',A2 H0 (o++L) H'->Bc o (masked key m) v->K v H'):AF prog 30 [.agg (key.map bv),bv m] H Kp K:=by
 refine BA (post:=fun out H'=>∃v,out=.ret v/\K v H') ?_ (fun v H' hq=>by obtain⟨_,h1,h2⟩:=hq;cases h1;exact h2) (fun v H' hq=>by obtain⟨_,h1,_⟩:=hq;cases h1)
 refine T30 ?_
 unfold xk
 refine s.box (c:=key.map bv) rfl fun q1 H1 s=>s.iN fun o v H2 s hv=>?_
 have tl:∀i,i<=64->((masked key m).take i).length=i:=fun i hi=>by rw[BL,Cz];omega
 let I1:AV->AV->AV->AV->AH->Prop:=fun e1 e2 e5 e6 H'=>e1=bv m/\e2=.ptr q1 0/\∃(i:Nat) (o:List (Nat × List AV)),e6=iv (i:Int)/\i<=64/\Bc o ((masked key m).take i) e5/\A2 H0 (o++(q1,key.map bv)::L) H'
 let μ1:AV->AV->AV->AV->AH->Nat:=fun _ _ _ e6 _=>match e6 with
  | .int _ j=>((64:Int)-j).toNat
  | _=>0
 refine⟨I1,μ1,⟨rfl,rfl,0,o,rfl,by omega,hv,s⟩,?_⟩
 clear s hv
 intro e H3 hI
 obtain⟨e1,e2,i,o,e6,hi,hv,s⟩:=(hI:I1 (e 1) (e 2) (e 5) (e 6) H3)
 have hmu:μ1 (e 1) (e 2) (e 5) (e 6) H3=((64:Int)-(i:Int)).toNat:=by rw[e6]
 show AB (.bin .lss (.cst (e 6)) (.cst (I 64))) _
 rw[e1,e2,e6]
 refine Cn (b:=64) (fun hlt=>B8 ?_) (fun hlt=>Bu ?_)
 ·have hi64:i<64:=by omega
  refine Tm (b:=32) ?_
  refine eP (fun J=>J (bv m) (.ptr q1 0) (e 5) (iv (i:Int)) (bv (key.getD i 0 ^^^ m)) H3) ?_ (fun ht J hJ=>?_) (fun hf J hJ=>?_)
  ·refine hv.Qv s rfl (by rw[tl i hi];omega) fun o' v' H4 s4 hv4=>?_
   rw[<- JW _ _ hi64]at hv4
   refine CE (b:=1) ⟨by omega,by omega⟩ ⟨⟨rfl,rfl,i+1,o',rfl,by omega,hv4,s4⟩,?_⟩
   show _<μ1 (e 1) (e 2) (e 5) (e 6) H3
   rw[hmu]
   show((64:Int)-((i:Int)+1)).toNat<_
   omega
  ·have h32:i<32:=by have:=of_decide_eq_true ht;omega
   refine EO (i:=i) h32 (s.ld (o:=i) (x:=bv (key.getD i 0)) (BS _ (.head _)) ?_ (QG hJ))
   rw[BU,Ac,Ab (by omega)];rfl
  ·have h32:¬i<32:=by have:=of_decide_eq_false hf;omega
   have:key.getD i 0=0:=by rw[Ac,BT (by omega)];rfl
   rw[this,UInt8.zero_xor]at hJ
   exact hJ
 ·rw[AX (by rw[Cz];omega)]at hv
  exact⟨_,rfl,hK o _ _ (s.sub ((E0 _ _).append_left o)) hv⟩
set_option maxHeartbeats 1000000 in
theorem k_ {H0 H:AH}{L:List (Nat × List AV)}{m:List UInt8}{v:AV}{Kp K:AV->AH->Prop}(s:A2 H0 L H) (hv:Src H0 L m v) (hl:m.length<68719470000) (hK:∀o v H',A2 H0 (o++L) H'->Bc o (pad m) v->K v H'):AF prog 66 [v] H Kp K:=by
 refine BA (post:=fun out H'=>∃v,out=.ret v/\K v H') ?_ (fun v H' hq=>by obtain⟨_,h1,h2⟩:=hq;cases h1;exact h2) (fun v H' hq=>by obtain⟨_,h1,_⟩:=hq;cases h1)
 have hvl:=X5 (hv H s)
 refine T66 ?_
 unfold xV
 refine s.iN fun o v1 H1 s hB=>?_
 refine hB.apps (ys:=m) s (hv _ (s.sub (Fm _ _))) (by simp;omega) fun o v2 H2 s hB=>?_
 rw[Bf]at hB
 refine hB.Qv (b:=128) s rfl (by omega) fun o1 v1 H3 s hB=>?_
 have hz:Cy m.length<64:=by unfold Cy;omega
 let I2:AV->AV->AH->Prop:=fun e0 e3 H'=>e0=v/\∃(j:Nat) (o:List (Nat × List AV)),j<=Cy m.length/\Bc o (m++128::List.replicate j 0) e3/\A2 H0 (o++L) H'
 let μ2:AV->AV->AH->Nat:=fun _ e3 _=>match e3 with
  | .sl _ _ n _=>m.length+1+Cy m.length-n
  | _=>0
 refine⟨I2,μ2,⟨rfl,0,o1,by omega,hB,s⟩,?_⟩
 clear s hB
 intro e H4 hIv
 obtain⟨e0,j,o,hj,hB,s⟩:=(hIv:I2 (e 0) (e 3) H4)
 have hlen:∀j,(m++128::List.replicate j (0:UInt8)).length=m.length+1+j:=fun j=>by simp;omega
 have hne:∀j,(m++128::List.replicate j (0:UInt8))≠[]:=fun j h=>by have:=hlen j;rw[h]at this;simp at this;omega
 have hmu:μ2 (e 0) (e 3) H4=Cy m.length-j:=by
  obtain⟨r,lim,h1,_⟩:=hB.row (hne j)
  rw[h1]
  show m.length+1+Cy m.length-_=_
  rw[hlen];omega
 show AB (.len (.cst (e 3))) _
 rw[e0]
 refine Lv.len hB (Tk (b:=64) (by omega) (by omega) (bt (b:=56) (fun hne2=>B8 ?_) (fun he=>Bu ?_)))
 ·rw[hlen]at hne2
  have hjz:j<Cy m.length:=by unfold Cy at hj ⊢;omega
  refine hB.Qv (b:=0) s rfl (by rw[hlen];omega) fun o' v' H5 s5 hB5=>?_
  have e1:m++128::List.replicate j (0:UInt8)++[0]=m++128::List.replicate (j+1) 0:=by rw[List.replicate_succ'];simp
  rw[e1]at hB5
  refine⟨⟨rfl,j+1,o',by omega,hB5,s5⟩,?_⟩
  show μ2 v v' H5<μ2 (e 0) (e 3) H4
  rw[hmu]
  obtain⟨r,lim,h1,_⟩:=hB5.row (hne (j+1))
  rw[h1]
  show m.length+1+Cy m.length-_<_
  rw[hlen];omega
 rw[hlen]at he
 have hjz:j=Cy m.length:=by unfold Cy at hj ⊢;omega
 subst hjz
 clear hmu
 refine AA hvl (lP (by omega) (dB (by omega) ?_))
 let I3:AV->AV->AV->AH->Prop:=fun e3 e4 e5 H'=>e4=uv (8*m.length)/\∃(k:Nat) (o:List (Nat × List AV)),e5=iv (k:Int)/\k<=8/\Bc o ((m++128::List.replicate (Cy m.length) 0)++(Ut (8*m.length)).take k) e3/\A2 H0 (o++L) H'
 let μ3:AV->AV->AV->AH->Nat:=fun _ _ e5 _=>match e5 with
  | .int _ j=>((8:Int)-j).toNat
  | _=>0
 refine⟨I3,μ3,⟨rfl,0,o,rfl,by omega,(by rw[Iz,DJ];exact hB),s⟩,?_⟩
 clear s e0 hB
 intro e H5 hIv
 obtain⟨e4,k,o,e5,hk,hB,s⟩:=(hIv:I3 (e 3) (e 4) (e 5) H5)
 have hmu:μ3 (e 3) (e 4) (e 5) H5=((8:Int)-(k:Int)).toNat:=by rw[e5]
 show AB (.bin .lss (.cst (e 5)) (.cst (Go.AL.I 8))) _
 rw[e4,e5]
 refine Cn (b:=8) (fun hge=>B8 ?_) (fun hge=>Bu ?_)
 ·have hk8:k<8:=by omega
  refine Hd (a:=8) ⟨by omega,by omega⟩ (DP (a:=56) ⟨by omega,by omega⟩ ?_)
  rw[show(56:Int)-8*(k:Int)=((56-8*k:Nat):Int)by omega]
  refine ZL (by omega) (ZK ?_)
  refine hB.Qv s rfl (by simp[Jm];omega) fun o' v' H6 s6 hB6=>?_
  rw[Ar,Rj _ _ hk8]at hB6
  refine CE (b:=1) ⟨by omega,by omega⟩ ⟨⟨rfl,k+1,o',rfl,by omega,hB6,s6⟩,?_⟩
  show _<μ3 (e 3) (e 4) (e 5) H5
  rw[hmu]
  show((8:Int)-((k:Int)+1)).toNat<_
  omega
 have hk8:k=8:=by omega
 subst hk8
 have hpad:(m++128::List.replicate (Cy m.length) 0)++(Ut (8*m.length)).take 8=pad m:=by rw[List.take_of_length_le (by rw[Jm];omega)];unfold pad;simp
 rw[hpad]at hB
 exact⟨_,rfl,hK o _ _ s hB⟩
set_option maxHeartbeats 2000000 in
theorem fQ {H0 H:AH}{L:List (Nat × List AV)}{m:List UInt8}{v:AV}{Kp K:AV->AH->Prop}(s:A2 H0 L H) (hv:Src H0 L m v) (hl:m.length<68719470000) (hK:∀H',A2 H0 L H'->K (.agg ((sum m).map bv)) H'):AF prog 31 [v] H Kp K:=by
 refine BA (post:=fun out H'=>∃v,out=.ret v/\K v H') ?_ (fun v H' hq=>by obtain⟨_,h1,h2⟩:=hq;cases h1;exact h2) (fun v H' hq=>by obtain⟨_,h1,_⟩:=hq;cases h1)
 refine T31 ?_
 unfold xj
 refine s.alloc fun q1 H1 s=>Ed C65 fun _ hx=>?_
 cases hx
 refine k_ s (hv.mono (E0 _ _)) hl fun o v3 H2 s hB=>?_
 obtain⟨r,lim,rfl,hlim,rfl⟩:=hB.row (iF m)
 have hpm:=SZ m
 obtain⟨M,hN⟩:∃M,(pad m).length=64*M:=⟨(pad m).length / 64,by omega⟩
 refine s.alloc fun q4 H3 s=>s.DZ (vs:=init.l.map wv) rfl rfl fun H4 s=>?_
 have hpl:=OM m
 have hz:Cy m.length<64:=by unfold Cy;omega
 have hsum:sum m=(blocks M (pad m) init).l.flatMap Sha.bytes:=by unfold sum;rw[hN,Nat.mul_div_cancel_left _ (by omega)]
 rw[hsum]at hK
 generalize pad m=p at s hlim hN hpl hK ⊢
 have s:A2 H0 ((q4,(blocks 0 p init).l.map wv)::(r,p.map bv)::(q1,BD 32 (N .u8 0) [])::L) H4:=s
 let I1:AV->AV->AV->AV->AH->Prop:=fun e2 e3 e4 e5 H'=>e2=.ptr q1 0/\e3=.ptr q4 0/\e4=.sl r 0 p.length lim/\∃i:Nat,e5=iv ((64*i:Nat):Int)/\i<=M/\A2 H0 ((q4,(blocks i p init).l.map wv)::(r,p.map bv)::(q1,BD 32 (Go.AL.N .u8 0) [])::L) H'
 let μ1:AV->AV->AV->AV->AH->Nat:=fun _ _ _ e5 _=>match e5 with
  | .int _ j=>((p.length:Int)-j).toNat
  | _=>0
 refine⟨I1,μ1,⟨rfl,rfl,rfl,0,rfl,by omega,s⟩,?_⟩
 clear s
 intro e H5 hIv
 obtain⟨e2,e3,e4,i,e5,hi,s⟩:=(hIv:I1 (e 2) (e 3) (e 4) (e 5) H5)
 have hmu:μ1 (e 2) (e 3) (e 4) (e 5) H5=((p.length:Int)-((64*i:Nat):Int)).toNat:=by rw[e5]
 show AB (.len (.cst (e 4))) _
 rw[e2,e3,e4,e5]
 refine AA (v:=iv (p.length:Int)) rfl (Cn (fun hlt=>B8 ?_) (fun hlt=>Bu ?_))
 ·have hiN:i<M:=by omega
  refine s.Gx (.head _) rfl (CE (b:=64) ⟨by omega,by omega⟩ (gy hlim (by omega) fun lim'=>?_))
  have hc:=C67 (H:=H5) (q:=r) (o:=64*i) (lim:=lim') (s0:=blocks i p init) (bs:=(p.drop (64*i)).take 64) (s.at_ (.tail _ (.head _))) (fun j hj=>by
   rw[BU,Ac,D0,if_pos hj,DD,Ab (by omega)];rfl) (by rw[BL,B3];omega) (s.l _ (.tail _ (.head _))).2.1
  rw[<- Jk]at hc
  refine Ed hc fun _ hx=>?_
  subst hx
  refine s.DZ (vs:=(blocks (i+1) p init).l.map wv) rfl rfl fun H6 s6=>?_
  refine CE (b:=64) ⟨by omega,by omega⟩ ⟨⟨rfl,rfl,rfl,i+1,?_,by omega,s6⟩,?_⟩
  ·show iv (((64*i:Nat):Int)+64)=iv ((64*(i+1):Nat):Int)
   rw[show((64*i:Nat):Int)+64=((64*(i+1):Nat):Int)by omega]
  ·show _<μ1 (e 2) (e 3) (e 4) (e 5) H5
   rw[hmu]
   show((p.length:Int)-(((64*i:Nat):Int)+64)).toNat<_
   omega
 have hiN:i=M:=by omega
 subst hiN
 clear hmu
 generalize blocks i p init=t at s hK
 refine AA (v:=.agg (BD 32 (Go.AL.N .u8 0) [])) rfl (s.alloc fun qd H6 s=>s.DZ (vs:=BD 32 (Go.AL.N .u8 0) []) rfl rfl fun H7 s=>?_)
 have s:A2 H0 ((qd,IM 32 ((t.l.flatMap Sha.bytes).take 0))::(q4,t.l.map wv)::(r,p.map bv)::(q1,BD 32 (Go.AL.N .u8 0) [])::L) H7:=s
 let I2:AV->AV->AV->AV->AH->Prop:=fun e2 e3 e6 e7 H'=>e2=.ptr q1 0/\e3=.ptr q4 0/\e6=.ptr qd 0/\∃i:Nat,e7=iv (i:Int)/\i<=32/\A2 H0 ((qd,IM 32 ((t.l.flatMap Sha.bytes).take i))::(q4,t.l.map wv)::(r,p.map bv)::(q1,BD 32 (Go.AL.N .u8 0) [])::L) H'
 let μ2:AV->AV->AV->AV->AH->Nat:=fun _ _ _ e7 _=>match e7 with
  | .int _ j=>((32:Int)-j).toNat
  | _=>0
 refine⟨I2,μ2,⟨rfl,rfl,rfl,0,rfl,by omega,s⟩,?_⟩
 clear s e2 e3 e4 e5 hi hlt
 intro e H8 hIv
 obtain⟨e2,e3,e6,i,e7,hi,s⟩:=(hIv:I2 (e 2) (e 3) (e 6) (e 7) H8)
 have hmu:μ2 (e 2) (e 3) (e 6) (e 7) H8=((32:Int)-(i:Int)).toNat:=by rw[e7]
 show AB (.bin .lss (.cst (e 7)) (.cst (I 32))) _
 rw[e2,e3,e6,e7]
 refine Cn (b:=32) (fun hlt=>B8 ?_) (fun hlt=>Bu ?_)
 ·refine fW (b:=4) (by omega) (by omega) (by omega) ?_
  rw[show(i:Int) / 4=((i / 4:Nat):Int)by omega]
  refine EO (i:=i / 4) (by omega) ?_
  have hi8:i / 4<t.l.length:=by show i / 4<8;omega
  refine s.ld (o:=i / 4) (x:=wv (t.l.getD (i / 4) 0)) (.tail _ (.head _)) (by rw[BU,Ac,Ab hi8];rfl) ?_
  refine Tk (b:=4) (by omega) (by omega) (Hd (a:=8) ⟨by omega,by omega⟩ (DP (a:=24) ⟨by omega,by omega⟩ ?_))
  rw[show(24:Int)-8*((i:Int) % 4)=((24-8*(i % 4):Nat):Int)by omega]
  refine VK (by omega) (fR (EO (i:=i) (by omega) ?_))
  have hget:=P4 t.l (i / 4) (i % 4) (by omega) hi8
  rw[show 4*(i / 4)+i % 4=i by omega]at hget
  generalize (t.l.getD (i / 4) 0 >>> UInt32.ofNat (24-8*(i % 4))).toUInt8=b at hget
  have hti:((t.l.flatMap Sha.bytes).take i).length=i:=by rw[BL,CS];omega
  refine s.put (vs:=[bv b]) rfl rfl (by rw[Lw (by rw[hti];omega)];omega) fun H9 s9=>?_
  have hps:=Lu (n:=32) (l:=(t.l.flatMap Sha.bytes).take i) (x:=b) (by omega)
  rw[hti]at hps
  rw[hps,show(t.l.flatMap Sha.bytes).take i++[b]=(t.l.flatMap Sha.bytes).take (i+1)by rw[Cr,hget];rfl]at s9
  refine CE (b:=1) ⟨by omega,by omega⟩ ⟨⟨rfl,rfl,rfl,i+1,rfl,by omega,s9⟩,?_⟩
  show _<μ2 (e 2) (e 3) (e 6) (e 7) H8
  rw[hmu]
  show((32:Int)-((i:Int)+1)).toNat<_
  omega
 have hi32:i=32:=by omega
 subst hi32
 rw[AX (by rw[CS];omega),KB (CS t)]at s
 refine s.Gx (.head _) (by rw[Au,CS]) ?_
 refine A2.Km (A:=[(qd,_),(q4,_),(r,_)]) (vs:=(t.l.flatMap Sha.bytes).map bv) s rfl (by rw[Au,CS]) (by show 0+32<=32;omega) fun H9 s=>?_
 have hsp:Ap (BD 32 (Go.AL.N .u8 0) []) 0 ((t.l.flatMap Sha.bytes).map bv)=(t.l.flatMap Sha.bytes).map bv:=by
  have hl:((t.l.flatMap Sha.bytes).map bv).length=32:=by rw[Au,CS]
  have hl2:(BD 32 (Go.AL.N .u8 0) []).length=32:=rfl
  rw[Cu (by omega),hl,Bt (by omega)]
  simp
 rw[hsp]at s
 refine s.Gx (.tail _ (.tail _ (.tail _ (.head _)))) (by rw[Au,CS]) ?_
 exact⟨_,rfl,hK _ (s.sub ((((DN L).cons _).cons _).cons _ |>.cons _))⟩
theorem lC {H0 H:AH}{L:List (Nat × List AV)}{key bs:List UInt8}{v:AV}{Kp K:AV->AH->Prop}(s:A2 H0 L H) (hk:key.length=32) (hv:Src H0 L bs v) (hl:bs.length<68719400000) (hK:∀o v H',A2 H0 (o++L) H'->Bc o (key++bs) v->K v H'):AF prog 15 [.agg (key.map bv),v] H Kp K:=by
 refine BA (post:=fun out H'=>∃v,out=.ret v/\K v H') ?_ (fun v H' hq=>by obtain⟨_,h1,h2⟩:=hq;cases h1;exact h2) (fun v H' hq=>by obtain⟨_,h1,_⟩:=hq;cases h1)
 refine T15 ?_
 unfold xp
 refine s.box (c:=key.map bv) rfl fun q H1 s=>s.Gx (.head _) (by rw[Au,hk]) ?_
 refine WZ s hk fun o v1 H2 s hB=>?_
 refine hB.apps (ys:=bs) s (hv _ (s.sub (Ox (E0 _ _) (Fm _ _)))) (by omega) fun o v2 H3 s hB=>?_
 exact⟨_,rfl,hK o _ _ (s.sub ((E0 _ _).append_left o)) hB⟩
theorem cZ {H0 H:AH}{L:List (Nat × List AV)}{key bs:List UInt8}{v:AV}{Kp K:AV->AH->Prop}(s:A2 H0 L H) (hk:key.length=32) (hv:Src H0 L bs v) (hl:bs.length<68719469000) (hK:∀H',A2 H0 L H'->K (.agg ((keyed key bs).map bv)) H'):AF prog 14 [.agg (key.map bv),v] H Kp K:=by
 refine BA (post:=fun out H'=>∃v,out=.ret v/\K v H') ?_ (fun v H' hq=>by obtain⟨_,h1,h2⟩:=hq;cases h1;exact h2) (fun v H' hq=>by obtain⟨_,h1,_⟩:=hq;cases h1)
 refine T14 ?_
 unfold xq
 refine s.box (c:=key.map bv) rfl fun q2 H1 s=>s.alloc fun q3 H2 s=>s.Gx (.tail _ (.head _)) (by rw[Au,hk]) ?_
 have hm36:=Cz key 0x36
 have hm5c:=Cz key 0x5c
 have hkd:keyed key bs=sum (masked key 0x5c++sum (masked key 0x36++bs)):=rfl
 rw[hkd]at hK
 refine TT (m:=0x36) s hk fun o v1 H3 s hB=>?_
 generalize masked key 0x36=A at hB hm36 hK
 have sl:∀{o:List (Nat × List AV)},L.Sublist (o++(q3,BD 32 (N .u8 0) [])::(q2,key.map bv)::L):=fun{o}=>((DN L).cons _).cons _ |>.trans (Fm _ _)
 refine hB.apps (ys:=bs) s (hv _ (s.sub sl)) (by omega) fun o v2 H4 s hB=>?_
 refine fQ s hB.src (by rw[AW];omega) fun H5 s=>?_
 generalize hd:sum (A++bs)=d at hK
 have hdl:d.length=32:=by rw[<- hd];exact OH _
 refine s.alloc fun q8 H6 s=>s.DZ (vs:=d.map bv) (by rw[Au,hdl]) rfl fun H7 s=>?_
 refine s.Gx (.tail _ (BS _ (.tail _ (.head _)))) (by rw[Au,hk]) ?_
 refine TT (m:=0x5c) s hk fun o2 v3 H8 s hB2=>?_
 generalize masked key 0x5c=B at hB2 hm5c hK
 refine s.Gx (BS _ (.head _)) (by rw[Au,hdl]) ?_
 refine WZ s hdl fun o3 v4 H9 s hB3=>?_
 have s1:=s.perm (L':=o2++(o3++((q8,d.map bv)::(o++(q3,BD 32 (N .u8 0) [])::(q2,key.map bv)::L)))) (by
  rw[<- Ar,<- Ar]
  exact List.Perm.append_right _ Jy)
 refine hB2.apps (ys:=d) s1 (hB3.src (L:=(q8,d.map bv)::(o++(q3,BD 32 (N .u8 0) [])::(q2,key.map bv)::L)) _ (s1.sub (Fm _ _))) (by omega) fun o4 v5 H10 s hB4=>?_
 refine fQ s hB4.src (by rw[AW];omega) fun H11 s=>?_
 have hdl2:=OH (B++d)
 generalize sum (B++d)=d2 at hdl2 hK
 have s:A2 H0 ((q3,BD 32 (N .u8 0) [])::(q2,key.map bv)::L) H11:=s.sub (by
  refine Ox ?_ (Fm _ _)
  refine Ox ?_ (Fm _ _)
  exact(Fm _ _).cons _)
 refine s.DZ (vs:=d2.map bv) (by rw[Au,hdl2]) rfl fun H12 s=>s.Gx (.head _) (by rw[Au,hdl2]) ?_
 exact⟨_,rfl,hK _ (s.sub (((DN L).cons _).cons _))⟩
end
end Go.Proofs.YtlmkmpomgdbjhaaGreatDoor
namespace Go.AL
section
open Sha
variable [BQ]
theorem CP.aH {P:Program}{g:FuncId}{al al':List AV}{H:AH}{R:AV}(h:∀H',H'.gl=BQ.G->CP P g al' H' fun x=>∀H,Ir H x R) (hs:Gy 0 al') (ha:B6 H (fun _=>True) al al') (hg:H.gl=BQ.G):CP P g al H fun x=>x=R:=by
 have hC:=h ⟨fun _=>none,0,BQ.G⟩ rfl
 refine AQ.mono (AQ.MI (AQ.mono hC fun o H' hq=>?_) hs ha (fun r=>rfl) hg) fun o H' hq=>⟨hq.2,_,hq.1,rfl⟩
 obtain⟨rfl,x,rfl,hx⟩:=hq
 exact⟨_,rfl,hx _⟩
theorem gz (a:Nat):∃x:UInt8,AJ (.bin .shl (.cst (N .u8 1)) (.cst (.int .u16 ((a % 8:Nat):Int)))) emp=some (bv x):=by
 have h:a % 8<8:=HU _ (by omega)
 generalize a % 8=k at h
 match k,h with
 | 0,_=>exact⟨1,rfl⟩
 | 1,_=>exact⟨2,rfl⟩
 | 2,_=>exact⟨4,rfl⟩
 | 3,_=>exact⟨8,rfl⟩
 | 4,_=>exact⟨16,rfl⟩
 | 5,_=>exact⟨32,rfl⟩
 | 6,_=>exact⟨64,rfl⟩
 | 7,_=>exact⟨128,rfl⟩
 | k+8,h=>omega
theorem jF {a:Nat}{K:AV->Prop}(ha:a<65536) (hK:K (iv (a:Int))):AB (.convI .i64 (.cst (.int .u16 (a:Int)))) K:=AA (by
 show some (AV.int .i64 (IntKind.i64.wrap (a:Int)))=_
 rw[Le ⟨by omega,by omega⟩]) hK
theorem dX {a:Nat}{K:AV->Prop}(ha:a<65536) (hK:K (.int .u16 ((a % 8:Nat):Int))):AB (.bin .rem (.cst (.int .u16 (a:Int))) (.cst (N .u16 8))) K:=AA (by
 have h0:(8:Int)≠0:=by omega
 show(if IntKind.u16=IntKind.u16/\(8:Int)≠0 then some (AV.int .u16 ((a:Int).tmod 8))else none)=_
 rw[if_pos ⟨rfl,h0⟩,JE (by omega),show(a:Int) % 8=((a % 8:Nat):Int)by omega]) hK
theorem dS {a c:List UInt8}{v:AV}{i:Nat}{x:UInt8}(hi:i<a.length):Ap (a.map bv++v::c.map bv) i [bv x]=(a.set i x).map bv++v::c.map bv:=by
 show(a.map bv++v::c.map bv).set i (bv x)=_
 rw[List.set_append_left _ _ (by simpa using hi),<- LX]
theorem dT {a c:List UInt8}{v:AV}{i:Nat}{x:UInt8}(ha:a.length=32):Ap (a.map bv++v::c.map bv) (33+i) [bv x]=a.map bv++v::(c.set i x).map bv:=by
 show(a.map bv++v::c.map bv).set (33+i) (bv x)=_
 rw[G3 _ _ (by simp[ha];omega)]
 simp only[Au,ha]
 rw[show 33+i-32=i+1 by omega,List.set_cons_succ,<- LX]
theorem Wo {a:List UInt8}{i:Nat}{x:UInt8}:Ap (a.map bv) i [bv x]=(a.set i x).map bv:=by
 show(a.map bv).set i (bv x)=_
 rw[<- LX]
theorem XP {a:List UInt8}{i:Nat}(h:i<a.length):(a.map bv)[i]?=some (bv (a.getD i 0)):=by rw[BU,Ac,Ab h];rfl
def iY:List UInt8:=9::List.replicate 31 0
end
end Go.AL
namespace Go.Proofs.YtlmkmpomgdbjhaaGreatDoor
open Tryz
section
open Go Go.AL Go.AL.Sha Go.AL.Co
variable [BQ]
set_option maxHeartbeats 4000000 in
theorem C5L [Bj] {H:AH}{hid:List UInt8}{A B:Int}{pv:AV}{l:List Ad.D}{a:Nat}(hS:∀H:AH,H.gl=BQ.G->CP prog 6 [] H fun x=>x=.bool true) (hg:H.gl=BQ.G) (hh:hid.length=32) (hP:LR Ad l pv)
  (hw:∀d∈l,Ad.wf d) (ha:a<65536) (hl:(Gh A B l).length<68719400000):CP prog 5 [.agg [iv A,iv B,pv],.agg (hid.map bv),.int .u16 (a:Int)] H fun x=>x=.bool true:=CP.of <| by
 refine T5 ?_
 unfold G5
 refine(A2.start H).box (c:=[iv A,iv B,pv]) rfl fun q3 H1 s=>s.box (c:=hid.map bv) rfl fun q4 H2 s=>?_
 refine Ed (hS _ (s.k.gl.trans hg)) fun x hx=>?_
 subst hx
 refine AA (v:=.agg (iY.map bv)) rfl ?_
 have hk:iY.length=32:=rfl
 generalize iY=key at hk
 refine s.Gx (.tail _ (.head _)) rfl (s.Gx (.head _) (by rw[Au,hh]) ?_)
 refine Ed (lW (s.k.gl.trans hg) hk hh hP hw hl) fun x hx=>?_
 obtain⟨y,hy,rfl⟩:=hx
 generalize Gh A B l=bs at hl hy ⊢
 have hsl:(keyed hid (key++bs)).length=32:=rfl
 generalize keyed hid (key++bs)=sg at hsl
 have hcl:(key.map bv++y::sg.map bv).length=65:=by simp[hk,hsl]
 have d0:((key.map bv++y::sg.map bv).drop 0).take 32=key.map bv:=by rw[B5];exact LM (by simp[hk])
 have d33:((key.map bv++y::sg.map bv).drop 33).take 32=sg.map bv:=by
  rw[EZ,G6 (by simp[hk]),Au,hk,Bf]
  exact AX (by simp[hsl])
 have g32:∀{key sg:List UInt8} {y:AV},key.length=32->(key.map bv++y::sg.map bv)[32]?=some y:=fun{key sg y} hk=>by
  rw[C4 (by simp[hk])];simp[hk]
 refine s.alloc fun q10 H4 s=>s.DZ (vs:=key.map bv++y::sg.map bv) hcl rfl fun H5 s=>?_
 refine jF ha (AA (v:=.ptr q10 32) rfl (s.ld (.head _) (g32 hk) (hy.len (CE (b:=96) ⟨by omega,by omega⟩ (Tk (by omega) (by omega) ?_)))))
 obtain⟨x,hx⟩:=gz a
 refine dX ha (AA hx ?_)
 obtain⟨k,hke,hk96⟩:∃k:Nat,(a:Int) % ((bs.length:Int)+96)=(k:Int)/\k<bs.length+96:=by
  refine⟨a % (bs.length+96),by rw[show(bs.length:Int)+96=((bs.length+96:Nat):Int)by omega];omega,HU _ (by omega)⟩
 rw[hke]
 clear hx hke
 refine AA (v:=.ptr q10 0) rfl (s.ki (d:=key.map bv) (.head _) d0 (by rw[hcl];omega) ?_)
 refine OE (c:=[]) (f:=fun r=>.sl r 0 0 (.ex 0)) rfl ?_
 have s:=s.push (o:=[])
 generalize hq22:H5.next=kf at s ⊢
 generalize H5.push (.cells [])=H6 at s
 refine AA (v:=.ptr q10 32) rfl (s.ld (.tail _ (.head _)) (g32 hk) ?_)
 refine AA (v:=.ptr q10 33) rfl (s.ki (d:=sg.map bv) (.tail _ (.head _)) d33 (by rw[hcl];omega) ?_)
 generalize hz:BD 32 (N .u8 0) (.nils::(BD 32 (N .u8 0) []))=z
 have hzl:z.length=65:=by rw[<- hz];rfl
 refine OE (c:=z) (f:=fun r=>.ptr r 0) rfl ?_
 have s:=s.push (o:=z)
 generalize hq27:H6.next=q27 at s ⊢
 generalize H6.push (.cells z)=H7 at s
 have s:A2 H ([(kf,[])]++[(q27,z),(q10,key.map bv++y::sg.map bv),(q4,hid.map bv),(q3,[iv A,iv B,pv])]) H7:=s.swap
 have hB0:Bc [(kf,[])] [] (.sl kf 0 0 (.ex 0)):=.ex kf
 refine hB0.apps (ys:=bs) s (hy.cells _) (by simp;omega) fun o yv H8 s hB=>?_
 rw[Bf]at hB
 have m27:(q27,z)∈o++[(q27,z),(q10,key.map bv++y::sg.map bv),(q4,hid.map bv),(q3,[iv A,iv B,pv])]:=BS _ (.head _)
 have m10:(q10,key.map bv++y::sg.map bv)∈o++[(q27,z),(q10,key.map bv++y::sg.map bv),(q4,hid.map bv),(q3,[iv A,iv B,pv])]:=BS _ (.tail _ (.head _))
 refine⟨⟨⟨z,fun r=>.ptr r 0,rfl,s.at_ m27⟩,s.UH (d:=sg.map bv) m10 d33 (by rw[hcl];omega),s.UH (d:=key.map bv) m10 d0 (by rw[hcl];omega),trivial⟩,?_⟩
 refine AA (v:=.agg (key.map bv++yv::sg.map bv)) (by
  show(Bv emp z [(0,32,.cst (.agg (key.map bv))),(32,1,.cst yv),(33,32,.cst (.agg (sg.map bv)))]).map AV.agg=_
  rw[bV hzl (by rw[Au,hk]) (by rw[Au,hsl]) hB.cell];rfl) ?_
 have hcl2:∀{key sg:List UInt8} {y:AV},key.length=32->sg.length=32->(key.map bv++y::sg.map bv).length=65:=fun h1 h2=>by simp[h1,h2]
 have s:A2 H ((q27,z)::(o++[(q10,key.map bv++y::sg.map bv),(q4,hid.map bv),(q3,[iv A,iv B,pv])])) H8:=s.perm HW.symm
 refine s.DZ (vs:=key.map bv++yv::sg.map bv) (hcl2 hk hsl) hzl fun H9 s=>⟨trivial,?_⟩
 refine s.Gx (.tail _ (BS _ (.tail _ (.head _)))) (by rw[Au,hh]) ?_
 refine s.alloc fun Ye H10 s=>s.DZ (vs:=hid.map bv) (by rw[Au,hh]) rfl fun H11 s=>?_
 have m10:(q10,key.map bv++y::sg.map bv)∈(Ye,hid.map bv)::(q27,key.map bv++yv::sg.map bv)::(o++[(q10,key.map bv++y::sg.map bv),(q4,hid.map bv),(q3,[iv A,iv B,pv])]):=.tail _ (.tail _ (BS _ (.head _)))
 have ly:∀{K:AV->Prop},K (iv (bs.length:Int))->AB (.fieldAddr 32 (.cst (.ptr q10 0))) fun v34=>AG (.load none (.cst v34)) H11 fun v35=>AB (.len (.cst v35)) K:=fun h=>AA (v:=.ptr q10 32) rfl (s.ld m10 (g32 hk) (hy.len h))
 refine ly (Tm ?_)
 refine eP (fun J=>∀(key' bs' sg' oth':List UInt8) (o':List (Nat × List AV)) (yv':AV) (H':AH),key'.length=32->bs'.length=bs.length->sg'.length=32->oth'.length=32->Bc o' bs' yv' ->
  A2 H ((Ye,oth'.map bv)::(q27,key'.map bv++yv'::sg'.map bv)::(o'++[(q10,key.map bv++y::sg.map bv),(q4,hid.map bv),(q3,[iv A,iv B,pv])])) H'->J (.bool true) (.ptr q27 0) (.ptr Ye 0) H') ?_ (fun ht J hJ=>?_) (fun hf J hJ=>?_)
 ·clear s hB ly hB0
  intro key' bs' sg' oth' o' yv' H' hk' hbl' hsl' hh' hB s
  have d0':((key'.map bv++yv'::sg'.map bv).drop 0).take 32=key'.map bv:=by rw[B5];exact LM (by simp[hk'])
  have d33':((key'.map bv++yv'::sg'.map bv).drop 33).take 32=sg'.map bv:=by
   rw[EZ,G6 (by simp[hk']),Au,hk',Bf]
   exact AX (by simp[hsl'])
  have hcl':=hcl2 (y:=yv') hk' hsl'
  refine s.Gx (.tail _ (.head _)) hcl' (s.Gx (.head _) (by rw[Au,hh']) ?_)
  obtain⟨c1,c2,c3,en,hopen,hen⟩:∃c1 c2 c3 en,CP prog 7 [.agg (key'.map bv++yv'::sg'.map bv),.agg (oth'.map bv)] H' (fun x=>x=.tup [.agg [c1,c2,c3],iv en])/\(sg'=keyed oth' (key'++bs')\/en=280):=by
   obtain⟨yf,hyf,hfz⟩:∃yf,It bs' yf/\ES H' (fun _=>True) yv' yf:=by
    by_cases h0:bs'=[]
    ·have hB:Lv 1 o' bs'.length (bs'.map bv) yv':=hB
     subst h0
     cases hB with
     | nil=>exact⟨.nils,.inl ⟨rfl,rfl⟩,.same _⟩
     | ex q=>exact⟨.sim [] 0 true,.inr ⟨true,rfl⟩,ES.row trivial (s.at_ (.tail _ (.tail _ (Cj _ (.head _))))) (EI _) (fun _=>rfl) (fun _=>rfl)⟩
     | op h=>simp at h
     | exn h=>simp at h
    ·obtain⟨r,lim,rfl,_,rfl⟩:=hB.row h0
     exact⟨.sim (bs'.map bv) bs'.length false,.inr ⟨false,rfl⟩,ES.row trivial (s.at_ (.tail _ (.tail _ (Cj _ (.head _))))) (EI _) (fun e=>absurd (GG.1 e) h0) (fun e=>by cases e)⟩
   have hopn:∀H:AH,H.gl=BQ.G->CP prog 7 [.agg (key'.map bv++yf::sg'.map bv),.agg (oth'.map bv)] H (Il key' sg' oth' bs'):=fun H hg=>mL hg hk' hsl' hh' hyf (by omega)
   have hsc:Gy 0 [AV.agg (key'.map bv++yf::sg'.map bv),.agg (oth'.map bv)]:=.cons (.agg (Gy.Kr fun x hx=>by
    rcases BV.1 hx with h | h
    ·exact(Dn key' 0).mem h
    ·cases h with
     | head=>exact hyf.sc 0
     | tail _ h=>exact(Dn sg' 0).mem h)) (.cons (.agg (Dn _ _)) .nil)
   have happ:∀(a:List AV) {b b':List AV},B6 H' (fun _=>True) b b'->B6 H' (fun _=>True) (a++b) (a++b'):=fun a=>by
    induction a with
    | nil=>exact fun h=>h
    | cons x a ih=>exact fun h=>.cons (.same _) (ih h)
   have hfr:B6 H' (fun _=>True) [AV.agg (key'.map bv++yv'::sg'.map bv),.agg (oth'.map bv)] [AV.agg (key'.map bv++yf::sg'.map bv),.agg (oth'.map bv)]:=.cons (.agg (happ _ (.cons hfz (EI _)))) (.cons (.same _) .nil)
   have hg':=s.k.gl.trans hg
   by_cases he:sg'=keyed oth' (key'++bs')
   ·cases ho:Fw bs' with
    | none=>
     refine⟨iv 0,iv 0,.nils,4,CP.aH (fun H h=>(hopn H h).mono fun x hx=>?_) hsc hfr hg',.inl he⟩
     unfold Il at hx
     rw[if_pos he,ho]at hx
     subst hx
     exact fun H=>.pln (.tup (.cons (.agg (.cons (.int _ _) (.cons (.int _ _) (.cons .nils .nil)))) (.cons (.int _ _) .nil)))
    | some t=>
     obtain⟨A',B',l'⟩:=t
     refine⟨iv A',iv B',.unk,0,CP.aH (fun H h=>(hopn H h).mono fun x hx=>?_) hsc hfr hg',.inl he⟩
     unfold Il at hx
     rw[if_pos he,ho]at hx
     obtain⟨p,rfl,_⟩:=hx
     exact fun H=>.tup (.cons (.agg (.cons (.pln (.int _ _)) (.cons (.pln (.int _ _)) (.cons (.unk _) .nil)))) (.cons (.pln (.int _ _)) .nil))
   ·refine⟨iv 0,iv 0,.nils,280,CP.aH (fun H h=>(hopn H h).mono fun x hx=>?_) hsc hfr hg',.inr rfl⟩
    unfold Il at hx
    rw[if_neg he]at hx
    subst hx
    exact fun H=>.pln (.tup (.cons (.agg (.cons (.int _ _) (.cons (.int _ _) (.cons .nils .nil)))) (.cons (.int _ _) .nil)))
  refine Ed hopen fun x hx=>?_
  subst hx
  refine AA (v:=.agg [c1,c2,c3]) rfl (AA (v:=iv en) rfl ?_)
  refine s.alloc fun q47 H12 s=>s.DZ (vs:=[c1,c2,c3]) rfl rfl fun H13 s=>?_
  have m27':(q27,key'.map bv++yv'::sg'.map bv)∈(q47,[c1,c2,c3])::(Ye,oth'.map bv)::(q27,key'.map bv++yv'::sg'.map bv)::(o'++[(q10,key.map bv++y::sg.map bv),(q4,hid.map bv),(q3,[iv A,iv B,pv])]):=.tail _ (.tail _ (.head _))
  have m32':(Ye,oth'.map bv)∈(q47,[c1,c2,c3])::(Ye,oth'.map bv)::(q27,key'.map bv++yv'::sg'.map bv)::(o'++[(q10,key.map bv++y::sg.map bv),(q4,hid.map bv),(q3,[iv A,iv B,pv])]):=.tail _ (.head _)
  refine s.Gx m32' (by rw[Au,hh']) ?_
  refine AA (v:=.ptr q27 0) rfl (s.ki (d:=key'.map bv) m27' d0' (by rw[hcl'];omega) ?_)
  refine AA (v:=.ptr q27 32) rfl (s.ld m27' (g32 hk') ?_)
  refine AA (v:=.ptr q27 33) rfl (s.ki (d:=sg'.map bv) m27' d33' (by rw[hcl'];omega) ?_)
  refine lC s hk' ((hB.src (L:=[(q10,key.map bv++y::sg.map bv),(q4,hid.map bv),(q3,[iv A,iv B,pv])])).mono (((DN _).cons _).cons _ |>.cons _)) (by omega) fun om vm H14 s hM=>?_
  refine⟨⟨s.UH (d:=sg'.map bv) (BS _ m27') d33' (by rw[hcl'];omega),s.UH (d:=oth'.map bv) (BS _ m32') (by rw[B5];exact AX (by rw[Au,hh'];omega)) (by rw[Au,hh'];omega),trivial⟩,?_⟩
  refine cZ s hh' hM.src (by rw[AW];omega) fun H15 s=>?_
  refine⟨⟨s.UH (d:=sg'.map bv) (BS _ m27') d33' (by rw[hcl'];omega),trivial⟩,?_⟩
  have hdl:(keyed oth' (key'++bs')).length=32:=rfl
  generalize keyed oth' (key'++bs')=dg at hdl hen
  refine AA (bX hdl hsl' false) ?_
  refine So (nv (b:=280) (fun h=>?_) (fun h=>?_))
  ·refine Pz (So (AA (v:=.bool true) rfl (AA (v:=.bool true) rfl ?_)))
   exact s.Mo (fun _=>.bool _) rfl
  ·have hd:dg=sg':=by
    rcases hen with h1 | h1
    ·exact h1.symm
    ·exact absurd h1 h
   rw[decide_eq_true hd]
   refine Sp (So (AA (v:=.bool true) rfl (AA (v:=.bool true) rfl ?_)))
   exact s.Mo (fun _=>.bool _) rfl
 ·have hkl:k<bs.length:=by have:=of_decide_eq_true ht;omega
  have hb0:bs≠[]:=fun h=>by rw[h]at hkl;simp at hkl
  obtain⟨r,lim,rfl,hlim,rfl⟩:=hB.row hb0
  have m27:(q27,key.map bv++.sl r 0 bs.length lim::sg.map bv)∈(Ye,hid.map bv)::(q27,key.map bv++.sl r 0 bs.length lim::sg.map bv)::([(r,bs.map bv)]++[(q10,key.map bv++y::sg.map bv),(q4,hid.map bv),(q3,[iv A,iv B,pv])]):=.tail _ (.head _)
  refine AA (v:=.ptr q27 32) rfl (s.ld m27 (g32 hk) (AA (v:=.ptr q27 32) rfl (s.ld m27 (g32 hk) ?_)))
  have hix:∀{K:AV->Prop},K (.ptr r k)->AB (.indexAddrS 1 (.cst (.sl r 0 bs.length lim)) (.cst (iv (k:Int)))) K:=fun h=>AA (v:=.ptr r k) (by
   show(if (0:Int)<=(k:Int)/\(k:Int)<(bs.length:Int)then some (AV.ptr r (0+(k:Int).toNat*1))else none)=_
   rw[if_pos ⟨by omega,by omega⟩,CL,EU,IG]) h
  refine hix (s.ld (o:=k) (x:=bv (bs.getD k 0)) (.tail _ (.tail _ (.head _))) (XP hkl) (QG (hix ?_)))
  refine A2.Km (A:=[(Ye,_),(q27,_)]) (vs:=[bv (bs.getD k 0 ^^^ x)]) s rfl rfl (by rw[Au];omega) fun H12 s=>?_
  rw[Wo]at s
  refine hJ key (bs.set k (bs.getD k 0 ^^^ x)) sg hid [(r,(bs.set k (bs.getD k 0 ^^^ x)).map bv)] (.sl r 0 bs.length lim) H12 hk (by simp) hsl hh ?_ s
  have hB':Lv 1 [(r,(bs.set k (bs.getD k 0 ^^^ x)).map bv)] bs.length ((bs.set k (bs.getD k 0 ^^^ x)).map bv) (.sl r 0 bs.length lim):=by
   rcases hlim with rfl | rfl
   ·exact .op (by omega)
   ·exact .exn (by omega)
  show Lv 1 _ (bs.set k (bs.getD k 0 ^^^ x)).length _ _
  rw[List.length_set]
  exact hB'
 ·have hkl:¬k<bs.length:=by have:=of_decide_eq_false hf;omega
  refine ly (CE (b:=32) ⟨by omega,by omega⟩ (Cn (fun h1=>B8 ?_) (fun h1=>Bu ?_)))
  ·refine ly (DP ⟨by omega,by omega⟩ (ly (DP ⟨by omega,by omega⟩ ?_)))
   obtain⟨i,hi1,hi2⟩:∃i:Nat,(k:Int)-(bs.length:Int)=(i:Int)/\i<32:=⟨k-bs.length,by omega,by omega⟩
   rw[hi1]
   refine AA (v:=.ptr q27 0) rfl (EO (i:=i) hi2 ?_)
   refine s.ld (o:=i) (x:=bv (key.getD i 0)) (.tail _ (.head _)) (by rw[Dr (by simp;omega)];exact XP (by omega)) (QG ?_)
   refine AA (v:=.ptr q27 0) rfl (EO (i:=i) hi2 ?_)
   refine A2.Km (A:=[(Ye,_)]) (vs:=[bv (key.getD i 0 ^^^ x)]) s rfl rfl (by rw[hcl2 hk hsl];omega) fun H12 s=>?_
   rw[dS (by omega)]at s
   exact hJ (key.set i (key.getD i 0 ^^^ x)) bs sg hid o yv H12 (by simp[hk]) rfl hsl hh hB s
  refine ly (CE (b:=64) ⟨by omega,by omega⟩ (Cn (fun h2=>B8 ?_) (fun h2=>Bu ?_)))
  ·refine ly (DP ⟨by omega,by omega⟩ (DP (b:=32) ⟨by omega,by omega⟩ (ly (DP ⟨by omega,by omega⟩ (DP (b:=32) ⟨by omega,by omega⟩ ?_)))))
   obtain⟨i,hi1,hi2⟩:∃i:Nat,(k:Int)-(bs.length:Int)-32=(i:Int)/\i<32:=⟨k-bs.length-32,by omega,by omega⟩
   rw[hi1]
   have hix:∀{K:AV->Prop},K (.ptr q27 (33+i))->AB (.indexAddrA 32 1 (.cst (.ptr q27 33)) (.cst (iv (i:Int)))) K:=fun h=>AA (v:=.ptr q27 (33+i)) (by
    show(if (0:Int)<=(i:Int)/\(i:Int)<((32:Nat):Int)then some (AV.ptr q27 (33+(i:Int).toNat*1))else none)=_
    rw[if_pos ⟨by omega,by omega⟩,CL,EU]) h
   refine AA (v:=.ptr q27 33) rfl (hix ?_)
   refine s.ld (o:=33+i) (x:=bv (sg.getD i 0)) (.tail _ (.head _)) (by
    rw[C4 (by simp[hk];omega)]
    simp only[Au,hk]
    rw[show 33+i-32=i+1 by omega,GH]
    exact XP (by omega)) (QG ?_)
   refine AA (v:=.ptr q27 33) rfl (hix ?_)
   refine A2.Km (A:=[(Ye,_)]) (vs:=[bv (sg.getD i 0 ^^^ x)]) s rfl rfl (by rw[hcl2 hk hsl];omega) fun H12 s=>?_
   rw[dT hk]at s
   exact hJ key bs (sg.set i (sg.getD i 0 ^^^ x)) hid o yv H12 hk rfl (by simp[hsl]) hh hB s
  ·refine ly (DP ⟨by omega,by omega⟩ (DP (b:=64) ⟨by omega,by omega⟩ (ly (DP ⟨by omega,by omega⟩ (DP (b:=64) ⟨by omega,by omega⟩ ?_)))))
   obtain⟨i,hi1,hi2⟩:∃i:Nat,(k:Int)-(bs.length:Int)-64=(i:Int)/\i<32:=⟨k-bs.length-64,by omega,by omega⟩
   rw[hi1]
   refine EO (i:=i) hi2 (s.ld (o:=i) (x:=bv (hid.getD i 0)) (.head _) (XP (by omega)) (QG (EO (i:=i) hi2 ?_)))
   refine A2.Km (A:=[]) (vs:=[bv (hid.getD i 0 ^^^ x)]) s rfl rfl (by rw[Au];omega) fun H12 s=>?_
   rw[Wo]at s
   exact hJ key bs sg (hid.set i (hid.getD i 0 ^^^ x)) o yv H12 hk rfl hsl (by simp[hh]) hB s
end
end Go.Proofs.YtlmkmpomgdbjhaaGreatDoor
namespace Go.Proofs.YtlmkmpomgdbjhaaGreatDoor.San
open Tryz
section
open Go Go.AL
theorem rl:prog.follows .mixedOrders=true:=by kernel_rfl
variable [BQ]
def qg:Hints:=[(2,[(0,0,[],false),(1,1,[],false),(2,0,[],false),(3,4,[],false),(4,12,[],false),(5,28,[],false),(6,63,[],false),(7,127,[],true),(8,255,[],true)])]
theorem A72:∀all H,all.length=3->FO prog 72 all none H fun H'=>H'=H:=by
 intro all H hall
 obtain⟨ac,hac⟩:=E9.1 (show(f72.body.bind (comp prog qg 18)).isSome=true by kernel_rfl)
 have e:EY prog f72 qg 18=ac:=by unfold EY;rw[hac]
 have hsh:EY prog f72 qg 18=.seq (.reg [⟨some 6,.recover,none⟩,⟨some 7,.tass 201 (.agg [.nils,.nils]) (.tmp 6),none⟩,⟨some 5,.move (.tmp 7),none⟩,⟨some 8,.extract 0 (.tmp 5),none⟩,⟨some 9,.extract 1 (.tmp 5),none⟩,⟨some 3,.alloc [.nils,.nils],none⟩,⟨none,.store 2 (.tmp 3) (.tmp 8),none⟩,⟨some 4,.move (.tmp 9),none⟩])
   (.seq (.reg [⟨some 10,.move (.tmp 4),none⟩]) (.cond (.tmp 10) (vt (OI (OI (EY prog f72 qg 18)))) .skip)):=by kernel_rfl
 rw[e]at hsh
 obtain⟨c,hc,hcc⟩:=C5.1 hac
 rw[hsh]at hcc
 refine FO.scope (post:=fun H'=>H'=(H.push (.cells [.nils,.nils])).set H.next (.cells [.nils,.nils])) (YW (e1:=((((((((CH all).set 6 .nili).set 7 (.tup [.agg [.nils,.nils],.bool false])).set 5 (.tup [.agg [.nils,.nils],.bool false])).set 8 (.agg [.nils,.nils])).set 9 (.bool false)).set 3 (.ptr H.next 0)).set 4 (.bool false))) (H1:=(H.push (.cells [.nils,.nils])).set H.next (.cells [.nils,.nils])) rl func72 (by
   have h:(f72.name=="runtime.NumGoroutine")=false:=by kernel_rfl
   simpa using h) hc (by rw[show f72.ntmps=18 from by kernel_rfl];decide) (by rw[show f72.ntmps=18 from by kernel_rfl];omega) (by rw[show f72.ntmps=18 from by kernel_rfl];exact hcc) (by kernel_rfl) ?_ ?_) fun H' h r hr=>?_
 · have hp:(H.push (.cells [.nils,.nils])).cells? H.next=some [.nils,.nils]:=by simp[AH.cells?,AH.push]
   simp[YR,A6,AJ,AY,BC,AE.ev,Env.put,Env.AN,Mv,hp,AV.cellsOf,AV.nu,Ap]
 · refine Dx ?_
   refine ct (v:=(.bool false,(H.push (.cells [.nils,.nils])).set H.next (.cells [.nils,.nils]))) (by simp[A6,AJ,AE.ev,Env.AN]) rfl ?_
   refine Tc (VL (Ji (t:=false) (by simp[AE.ev,Env.put,Env.AN]) (fun h=>by cases h) (fun _=>K7 ?_)))
   exact⟨by simp[Env.put,Env.AN,CH,AM],rfl⟩
 · subst h
   have hne:r≠H.next:=by omega
   rw[AH.Eh _ _ hne,AH.Af _ _ hne]
end
end Go.Proofs.YtlmkmpomgdbjhaaGreatDoor.San
