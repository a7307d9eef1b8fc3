import Derived.Test.YtdcdbabponelcaaGreatDoorZd03
import Derived.Test.YtdcdbabponelcaaGreatDoorZg06
/-
  comparisons; the solver of the reference.
-/
set_option linter.unusedSectionVars false
set_option linter.unusedVariables false
set_option linter.unusedSimpArgs false
namespace Go.AL
variable [BY] {P:Program}
theorem Gi {n:Int}(h:In .int n):(Lit.int .i64 n).wf=true:=by
 have h:UD n:=h
 obtain⟨h1,h2⟩:=h
 show(decide ((-9223372036854775808:Int)≤n)&&decide (n≤9223372036854775807))=true
 rw[decide_eq_true h1,decide_eq_true h2];rfl
theorem NU {n:Nat}(h:In .word n):(Lit.int .u64 (n:Int)).wf=true:=by
 have h:Vd n:=h
 unfold Vd at h
 show(decide ((0:Int)≤(n:Int))&&decide ((n:Int)≤18446744073709551615))=true
 simp;omega
theorem Y3 (x:UInt8):(Lit.int .u8 (x.toNat:Int)).wf=true:=by
 have:=x.toNat_lt
 show(decide ((0:Int)≤(x.toNat:Int))&&decide ((x.toNat:Int)≤255))=true
 simp;omega
theorem Ka {ks:List SK}{c:List AV}{l:List Lit}(h:FD (true,ks) (.agg c)=some l):Ap (.eq true (.wide (true,ks)) (.cst (.agg c)) (.cst (.agg c))) emp=some (.bool false):=by
 have he:En l l=true:=D9.2 rfl
 simp only[Ap,Wa,Ak.ev,h,he];rfl
theorem VZ {ks:List SK}{c:List AV}{l:List Lit}(h:FD (true,ks) (.agg c)=some l):Ap (.eq false (.wide (true,ks)) (.cst (.agg c)) (.cst (.agg c))) emp=some (.bool true):=by
 have he:En l l=true:=D9.2 rfl
 simp only[Ap,Wa,Ak.ev,h,he];rfl
theorem Q3:∀l:List UInt8,Dv (l.map bv)=some l
 | []=>rfl
 | x::l=>by
  show(Dv (l.map bv)).map (UInt8.ofNat ((x.toNat:Int)).toNat::·)=_
  rw[Q3 l,Int.toNat_natCast]
  simp
theorem RS.str {l:(Tw.list .byte).D}{v:AV}(h:RS (.list .byte) l [v]){H:AH}{K:AV→Prop}(hK:K (.str (Pt l))):AP (.strOfBytes (.cst v)) H K:=by
 obtain⟨css,h1,h2,h3⟩:=h.fl.cells
 have e:css.flatten=(Pt l).map bv:=by
  have:css=(Pt l).map fun x=>[bv x]:=by
   refine List.ext_getElem? fun i=>?_
   rw[List.getElem?_map]
   have h1:css.length=(Pt l).length:=h1
   rcases Nat.lt_or_ge i css.length with hi | hi
   ·have a2:css[i]?=some (css[i]'hi):=List.getElem?_eq_getElem hi
    obtain⟨_,_,x,hx,hr⟩:=h3 i _ a2
    have hx:(Pt l)[i]?=some x:=hx
    have hr:css[i]'hi=[bv x]:=hr
    rw[a2,hx,hr];rfl
   ·rw[List.getElem?_eq_none hi,List.getElem?_eq_none (by omega)];rfl
  rw[this,←List.flatMap_def]
  clear this h1 h2 h3 h
  induction (Pt l)with
  | nil=>rfl
  | cons x l ih=>rw[List.flatMap_cons,ih];rfl
 refine Cx (v:=.str (Pt l)) ?_ hK
 have h2:=h2 H
 show(match BM 1 v H with | some (_,xs)=>(Dv xs).map AV.str | none=>none)=_
 have h2:BM 1 v H=some ((DI l).length,css.flatten):=h2
 rw[h2,e]
 show(Dv ((Pt l).map bv)).map AV.str=_
 rw[Q3];rfl
theorem Vz {a b c n:Nat}{e0:Env}{H0:AH}{x y:AV}{body:JP [a,b,c]→JP [a,b,c]}(hab:a≠b) (hac:a≠c) (hbc:b≠c) (ha:e0 a=x) (hb:e0 b=y) (hc:e0 c=iv ((0:Nat):Int))
  (hbody:∀(i:Nat) (J:AV→AV→AV→AH→Prop),i≤n→(i<n→J x y (iv ((i:Int)+1)) H0)→(body J:AV→AV→AV→AH→Prop) x y (iv (i:Int)) H0):A_ [a,b,c] body e0 H0:=by
 let Iv:AV→AV→AV→AH→Prop:=fun u v w H'=>u=x∧v=y∧(∃i:Nat,w=iv (i:Int)∧i≤n)∧H'=H0
 let μ:AV→AV→AV→AH→Nat:=fun _ _ w _=>match w with
  | .int _ j=>(n-j).toNat
  | _=>0
 refine⟨Iv,μ,⟨ha,hb,⟨0,hc,Nat.zero_le _⟩,rfl⟩,?_⟩
 intro e H hI
 obtain⟨e1,e2,⟨i,e3,hi⟩,rfl⟩:=(hI:Iv (e a) (e b) (e c) H)
 show(body _:AV→AV→AV→AH→Prop) (e a) (e b) (e c) H
 rw[e1,e2,e3]
 refine hbody i _ hi fun hlt=>?_
 have g1:(((emp.set a x).set b y).set c (iv ((i:Int)+1))) a=x:=by simp[Env.B4,hab,hac]
 have g2:(((emp.set a x).set b y).set c (iv ((i:Int)+1))) b=y:=by simp[Env.B4,hbc]
 have g3:(((emp.set a x).set b y).set c (iv ((i:Int)+1))) c=iv ((i:Int)+1):=by simp[Env.B4]
 show Iv ((((emp.set a x).set b y).set c (iv ((i:Int)+1))) a) ((((emp.set a x).set b y).set c (iv ((i:Int)+1))) b) ((((emp.set a x).set b y).set c (iv ((i:Int)+1))) c) H∧μ ((((emp.set a x).set b y).set c (iv ((i:Int)+1))) a) ((((emp.set a x).set b y).set c (iv ((i:Int)+1))) b) ((((emp.set a x).set b y).set c (iv ((i:Int)+1))) c) H<μ (e a) (e b) (e c) H
 rw[g1,g2,g3,e3]
 refine⟨⟨rfl,rfl,⟨i+1,rfl,hlt⟩,rfl⟩,?_⟩
 show((n:Int)-((i:Int)+1)).toNat<((n:Int)-(i:Int)).toNat
 omega
theorem pk {a b b' c n:Nat}{e0:Env}{H0:AH}{x y z:AV}{body:JP [a,b,b',c]→JP [a,b,b',c]}(hab:a≠b) (hab':a≠b') (hac:a≠c) (hbb:b≠b') (hbc:b≠c) (hbc':b'≠c) (ha:e0 a=x) (hb:e0 b=y) (hb':e0 b'=z) (hc:e0 c=iv ((0:Nat):Int))
  (hbody:∀(i:Nat) (J:AV→AV→AV→AV→AH→Prop),i≤n→(i<n→J x y z (iv ((i:Int)+1)) H0)→(body J:AV→AV→AV→AV→AH→Prop) x y z (iv (i:Int)) H0):A_ [a,b,b',c] body e0 H0:=by
 let Iv:AV→AV→AV→AV→AH→Prop:=fun u v v' w H'=>u=x∧v=y∧v'=z∧(∃i:Nat,w=iv (i:Int)∧i≤n)∧H'=H0
 let μ:AV→AV→AV→AV→AH→Nat:=fun _ _ _ w _=>match w with
  | .int _ j=>(n-j).toNat
  | _=>0
 refine⟨Iv,μ,⟨ha,hb,hb',⟨0,hc,Nat.zero_le _⟩,rfl⟩,?_⟩
 intro e H hI
 obtain⟨e1,e2,e2',⟨i,e3,hi⟩,rfl⟩:=(hI:Iv (e a) (e b) (e b') (e c) H)
 show(body _:AV→AV→AV→AV→AH→Prop) (e a) (e b) (e b') (e c) H
 rw[e1,e2,e2',e3]
 refine hbody i _ hi fun hlt=>?_
 obtain⟨f,hf⟩:∃f,f=((((emp.set a x).set b y).set b' z).set c (iv ((i:Int)+1))):=⟨_,rfl⟩
 have g1:f a=x:=by simp[hf,Env.B4,hab,hab',hac]
 have g2:f b=y:=by simp[hf,Env.B4,hbb,hbc]
 have g2':f b'=z:=by simp[hf,Env.B4,hbc']
 have g3:f c=iv ((i:Int)+1):=by simp[hf,Env.B4]
 have:Iv (f a) (f b) (f b') (f c) H∧μ (f a) (f b) (f b') (f c) H<μ (e a) (e b) (e b') (e c) H:=by
  rw[g1,g2,g2',g3,e3]
  refine⟨⟨rfl,rfl,rfl,⟨i+1,rfl,hlt⟩,rfl⟩,?_⟩
  show((n:Int)-((i:Int)+1)).toNat<((n:Int)-(i:Int)).toNat
  omega
 rw[hf]at this
 exact this
end Go.AL
namespace Go.Proofs.YtdcdbabponelcaaGreatDoor
open Go Go.AL Tryz
variable [BY]
theorem Zm {x:Nd}(h:In BX x):FD (true,[(.i .i64),(.i .i64),(.i .i64)]) (.agg (nc x))=some [.int .i64 x.1,.int .i64 x.2.1,.int .i64 x.2.2]:=by
 obtain⟨h1,h2,h3⟩:=h
 have h1:=Gi h1
 have h2:=Gi h2
 have h3:=Gi h3
 simp[FD,I6,Nm,nc,h1,h2,h3]
section
variable {H:AH}{a b:AV}
theorem kG {l:(Tw.list .int).D}(ha:RS (.list .int) l [a]) (hb:RS (.list .int) l [b]):CP prog 39 [a,b] H fun x=>x=.bool true:=
 CP.of (tX (Fq (t:=.int) (l:=l) (fetch:=Zv) (ne:=fun x y h K=>AB (.bin .neq (.cst x) (.cst y)) fun v=>K v h) (fun d y=>y=iv d)
  (fun v i K hv hi hK=>Nh rfl v i K hv hi fun d y hd hy=>hK d y hd (by cases (show[y]=[iv d]from hy);rfl))
  (fun d y y' K e e' hK=>by subst e e';exact DB rfl hK) ha hb))
theorem vV {l:(Tw.list BX).D}(ha:RS (.list BX) l [a]) (hb:RS (.list BX) l [b]) (hi:In (.list BX) l):CP prog 42 [a,b] H fun x=>x=.bool true:=
 CP.of (tU (Fq (t:=BX) (l:=l) (fetch:=WK 3) (ne:=fun x y h K=>AB (.eq true (.wide (true,[(.i .i64),(.i .i64),(.i .i64)])) (.cst x) (.cst y)) fun v=>K v h) (fun d y=>y=.agg (nc d)∧In BX d)
  (fun v i K hv hi' hK=>Ng rfl v i K hv hi' fun d y hd hy=>hK d y hd (by
   obtain⟨c,rfl,hr⟩:=hy
   exact⟨by rw[Nt hr],hi d (List.mem_of_getElem? hd)⟩))
  (fun d y y' K e e' hK=>by
   obtain⟨rfl,h⟩:=e
   obtain⟨rfl,_⟩:=e'
   exact AA (Ka (Zm h)) hK) ha hb))
end
theorem K_ {d:GW.D}{c:List AV}(h:RS GW d c):c=[iv d.1,iv d.2.1,iv d.2.2.1,iv d.2.2.2.1,.bool d.2.2.2.2]:=by
 obtain⟨c1,_,rfl,h1,c2,_,rfl,h2,c3,_,rfl,h3,c4,c5,rfl,h4,h5⟩:=h
 have h1:c1=_:=h1
 have h2:c2=_:=h2
 have h3:c3=_:=h3
 have h4:c4=_:=h4
 have h5:c5=_:=h5
 subst h1 h2 h3 h4 h5
 rfl
theorem Tj {d:GW.D}(h:In GW d):FD (true,[(.i .i64),(.i .i64),(.i .i64),(.i .i64),.b]) (.agg [iv d.1,iv d.2.1,iv d.2.2.1,iv d.2.2.2.1,.bool d.2.2.2.2])=some [.int .i64 d.1,.int .i64 d.2.1,.int .i64 d.2.2.1,.int .i64 d.2.2.2.1,.bool d.2.2.2.2]:=by
 obtain⟨h1,h2,h3,h4,_⟩:=h
 have h1:=Gi h1
 have h2:=Gi h2
 have h3:=Gi h3
 have h4:=Gi h4
 simp[FD,I6,Nm,h1,h2,h3,h4]
theorem Su (l:List UInt8):Ap (.bin .neq (.cst (.str l)) (.cst (.str l))) emp=some (.bool false):=by
 show some (AV.bool (l != l))=_
 simp
theorem Pm {d:DK.D}{c:List AV}(h:RS DK d c):c=[iv d.1,bv d.2]:=by
 obtain⟨c1,c2,rfl,h1,h2⟩:=h
 have h1:c1=_:=h1
 have h2:c2=_:=h2
 subst h1 h2
 rfl
theorem Tk {d:DK.D}(h:In DK d):FD (true,[(.i .i64),(.i .u8)]) (.agg [iv d.1,bv d.2])=some [.int .i64 d.1,.int .u8 ((show UInt8 from d.2).toNat:Int)]:=by
 have h1:=Gi h.1
 have h2:=Y3 d.2
 simp[FD,I6,Nm,bv,h1,h2]
theorem Jm {d:Hl.D}{c:List AV}(h:RS Hl d c):c=[.bool d.1,bv d.2]:=by
 obtain⟨c1,c2,rfl,h1,h2⟩:=h
 have h1:c1=_:=h1
 have h2:c2=_:=h2
 subst h1 h2
 rfl
theorem Re (d:Hl.D):FD (true,[.b,(.i .u8)]) (.agg [.bool d.1,bv d.2])=some [.bool d.1,.int .u8 ((show UInt8 from d.2).toNat:Int)]:=by
 have h2:=Y3 d.2
 simp[FD,I6,Nm,bv,h2]
def wd (n:Nat):AV:=.int .u64 (n:Int)
theorem Ou {d:C0.D}{c:List AV}(h:RS C0 d c):c=[wd d.1,wd d.2.1,wd d.2.2.1,wd d.2.2.2]:=by
 obtain⟨c1,_,rfl,h1,c2,_,rfl,h2,c3,c4,rfl,h3,h4⟩:=h
 have h1:c1=_:=h1
 have h2:c2=_:=h2
 have h3:c3=_:=h3
 have h4:c4=_:=h4
 subst h1 h2 h3 h4
 rfl
theorem Rf {d:C0.D}(h:In C0 d):FD (true,[(.i .u64),(.i .u64),(.i .u64),(.i .u64)]) (.agg [wd d.1,wd d.2.1,wd d.2.2.1,wd d.2.2.2])=some [.int .u64 ((show Nat from d.1:Nat):Int),.int .u64 ((show Nat from d.2.1:Nat):Int),.int .u64 ((show Nat from d.2.2.1:Nat):Int),.int .u64 ((show Nat from d.2.2.2:Nat):Int)]:=by
 obtain⟨h1,h2,h3,h4⟩:=h
 have h1:=NU h1
 have h2:=NU h2
 have h3:=NU h3
 have h4:=NU h4
 simp[FD,I6,Nm,wd,h1,h2,h3,h4]
section
variable {H:AH}{a b:AV}
theorem rU {l:(Tw.list DK).D}(ha:RS (.list DK) l [a]) (hb:RS (.list DK) l [b]) (hi:In (.list DK) l):CP prog 84 [a,b] H fun x=>x=.bool true:=by
 refine CP.of (sy (BK (CP.of (lX (Fq (t:=DK) (l:=l) (fetch:=WK 2) (ne:=fun x y h K=>AB (.eq true (.wide (true,[(.i .i64),(.i .u8)])) (.cst x) (.cst y)) fun v=>K v h) (fun d y=>y=.agg [iv d.1,bv d.2]∧In DK d)
  (fun v i K hv hi' hK=>Ng rfl v i K hv hi' fun d y hd hy=>hK d y hd (by
   obtain⟨c,rfl,hr⟩:=hy
   exact⟨by rw[Pm hr],hi d (List.mem_of_getElem? hd)⟩))
  (fun d y y' K e e' hK=>by
   obtain⟨rfl,h⟩:=e
   obtain⟨rfl,_⟩:=e'
   exact AA (Ka (Tk h)) hK) ha hb))) fun x hx=>?_))
 subst hx
 exact .same (fun k=>.bool _) rfl
theorem iW {l:(Tw.list C0).D}(ha:RS (.list C0) l [a]) (hb:RS (.list C0) l [b]) (hi:In (.list C0) l):CP prog 134 [a,b] H fun x=>x=.bool true:=
 CP.of (lW (Fq (t:=C0) (l:=l) (fetch:=WK 4) (ne:=fun x y h K=>AB (.eq true (.wide (true,[(.i .u64),(.i .u64),(.i .u64),(.i .u64)])) (.cst x) (.cst y)) fun v=>K v h) (fun d y=>y=.agg [wd d.1,wd d.2.1,wd d.2.2.1,wd d.2.2.2]∧In C0 d)
  (fun v i K hv hi' hK=>Ng rfl v i K hv hi' fun d y hd hy=>hK d y hd (by
   obtain⟨c,rfl,hr⟩:=hy
   exact⟨by rw[Ou hr],hi d (List.mem_of_getElem? hd)⟩))
  (fun d y y' K e e' hK=>by
   obtain⟨rfl,h⟩:=e
   obtain⟨rfl,_⟩:=e'
   exact AA (Ka (Rf h)) hK) ha hb))
theorem iV {l:(Tw.list .bool).D}(ha:RS (.list .bool) l [a]) (hb:RS (.list .bool) l [b]):CP prog 135 [a,b] H fun x=>x=.bool true:=
 CP.of (lV (Fq (t:=.bool) (l:=l) (fetch:=Zv) (ne:=fun x y h K=>AB (.eq true .bool (.cst x) (.cst y)) fun v=>K v h) (fun d y=>y=.bool d)
  (fun v i K hv hi hK=>Nh rfl v i K hv hi fun d y hd hy=>hK d y hd (by cases (show[y]=[.bool d]from hy);rfl))
  (fun d y y' K e e' hK=>by subst e e';exact AA (v:=.bool false) (by cases d<;>rfl) hK) ha hb))
theorem pI {l:(Tw.list (.list .byte)).D}(ha:RS (.list (.list .byte)) l [a]) (hb:RS (.list (.list .byte)) l [b]):CP prog 136 [a,b] H fun x=>x=.bool true:=
 CP.of (lU (Fq (t:=.list .byte) (l:=l) (fetch:=fun v i h K=>AB (.indexAddrS 1 (.cst v) (.cst i)) fun w=>AP (.load none (.cst w)) h fun x=>AP (.strOfBytes (.cst x)) h K) (ne:=fun x y h K=>AB (.bin .neq (.cst x) (.cst y)) fun v=>K v h) (fun d y=>y=.str d)
  (fun v i K hv hi hK=>Nh (K:=fun x=>AP (.strOfBytes (.cst x)) H K) rfl v i hv hi fun d y hd hy=>RS.str hy (hK d _ hd rfl))
  (fun d y y' K e e' hK=>by subst e e';exact AA (Su _) hK) ha hb))
end
theorem pH {H:AH}{d:D3.D}{c c':List AV}(h:RS D3 d c) (h':RS D3 d c'):CP prog 137 [.agg c,.agg c'] H fun x=>x=.bool true:=by
 obtain⟨c1,c2,rfl,h1,h2⟩:=h
 obtain⟨c1',c2',rfl,h1',h2'⟩:=h'
 obtain⟨v,rfl⟩:=RS.one h2
 obtain⟨v',rfl⟩:=RS.one h2'
 have h1:c1=[iv d.1]:=h1
 have h1':c1'=[iv d.1]:=h1'
 subst h1 h1'
 refine CP.of (lT ?_)
 unfold gO
 try simp only[BU]
 refine(BE.start H).box (c:=[iv d.1,v]) rfl fun q1 H1 s=>s.box (c:=[iv d.1,v']) rfl fun q2 H2 s=>?_
 have m1:(q1,[iv d.1,v])∈[(q2,[iv d.1,v']),(q1,[iv d.1,v])]:=.tail _ (.head _)
 have m2:(q2,[iv d.1,v'])∈[(q2,[iv d.1,v']),(q1,[iv d.1,v])]:=.head _
 refine AA rfl (s.ld (x:=iv d.1) m1 rfl (AA rfl (s.ld (x:=iv d.1) m2 rfl (DB rfl (Af ?_)))))
 refine AA rfl (s.ld (x:=v) m1 rfl (h2.fl.len (AA rfl (s.ld (x:=v') m2 rfl (h2'.fl.len (DB rfl (AA rfl (AZ ?_))))))))
 obtain⟨n,hn⟩:∃n,n=(DI d.2).length:=⟨_,rfl⟩
 have f:=h2.fl
 have g:=h2'.fl
 have le:=h2.le
 rw[←hn]at f g le
 refine Vz (n:=n) (by decide) (by decide) (by decide) rfl rfl rfl fun i J hi hJ=>?_
 refine AA rfl (s.ld (x:=v) m1 rfl (f.len (BT (fun hlt=>Ai ?_) (fun hlt=>AZ (s.B9 (fun k=>.bool _) rfl)))))
 refine AA rfl (s.ld (x:=v) m1 rfl (f.IG (by omega) fun c1 _ _ hc1=>AA rfl (s.ld (x:=v') m2 rfl (g.IG (by omega) fun c2 _ _ hc2=>?_))))
 obtain⟨x,hx,hr⟩:=hc1
 obtain⟨x',hx',hr'⟩:=hc2
 rw[hx]at hx'
 cases hx'
 rw[Jm hr,Jm hr']
 exact AA (Ka (Re x)) (AZ (BA ⟨by omega,by omega⟩ (hJ (by omega))))
theorem vD {H:AH}{d:HS.D}{c c':List AV}(h:RS HS d c) (h':RS HS d c') (hi:In HS d):CP prog 85 [.agg c,.agg c'] H fun x=>x=.bool true:=by
 obtain⟨c1,c2,rfl,h1,c3,c4,rfl,h2,h3⟩:=h
 obtain⟨v1,rfl⟩:=RS.one h1
 obtain⟨v2,rfl⟩:=RS.one h2
 obtain⟨v3,rfl⟩:=RS.one h3
 obtain⟨c1,c2,rfl,h1',c3,c4,rfl,h2',h3'⟩:=h'
 obtain⟨w1,rfl⟩:=RS.one h1'
 obtain⟨w2,rfl⟩:=RS.one h2'
 obtain⟨w3,rfl⟩:=RS.one h3'
 refine CP.of (sx ?_)
 unfold qS
 try simp only[BU]
 refine(BE.start H).box (c:=[v1,v2,v3]) rfl fun q1 H1 s=>s.box (c:=[w1,w2,w3]) rfl fun q2 H2 s=>?_
 have m1:(q1,[v1,v2,v3])∈[(q2,[w1,w2,w3]),(q1,[v1,v2,v3])]:=.tail _ (.head _)
 have m2:(q2,[w1,w2,w3])∈[(q2,[w1,w2,w3]),(q1,[v1,v2,v3])]:=.head _
 refine AA rfl (s.ld (x:=v1) m1 rfl (AA rfl (s.ld (x:=w1) m2 rfl (BK (iW h1 h1' hi.1) fun x hx=>?_))))
 subst hx
 refine AA rfl (Af ?_)
 refine AA rfl (s.ld (x:=v3) m1 rfl (AA rfl (s.ld (x:=w3) m2 rfl (BK (iV h3 h3') fun x hx=>?_))))
 subst hx
 refine AA rfl (AA rfl (Af ?_))
 refine AA rfl (s.ld (x:=v2) m1 rfl (h2.fl.len (AA rfl (s.ld (x:=w2) m2 rfl (h2'.fl.len (DB rfl (AA rfl (AZ ?_))))))))
 obtain⟨n,hn⟩:∃n,n=(DI d.2.1).length:=⟨_,rfl⟩
 have f:=h2.fl
 have g:=h2'.fl
 have le:=h2.le
 rw[←hn]at f g le
 refine Vz (n:=n) (by decide) (by decide) (by decide) rfl rfl rfl fun i J hi hJ=>?_
 refine AA rfl (s.ld (x:=v2) m1 rfl (f.len (BT (fun hlt=>Ai ?_) (fun hlt=>AZ (s.B9 (fun k=>.bool _) rfl)))))
 refine AA rfl (s.ld (x:=v2) m1 rfl (f.Ef (by omega) fun c1 _ hc1=>AA rfl (s.ld (x:=w2) m2 rfl (g.Ef (by omega) fun c2 _ hc2=>?_))))
 obtain⟨x,hx,hr⟩:=hc1
 obtain⟨x',hx',hr'⟩:=hc2
 rw[hx]at hx'
 cases hx'
 refine BK (kG hr hr') fun y hy=>?_
 subst hy
 exact AA rfl (AZ (BA ⟨by omega,by omega⟩ (hJ (by omega))))
set_option maxHeartbeats 1000000 in
theorem vC {H:AH}{d:EW.D}{c c':List AV}(h:RS EW d c) (h':RS EW d c') (hi:In EW d):CP prog 86 [.agg c,.agg c'] H fun x=>x=.bool true:=by
 obtain⟨c1,c2,rfl,h1,c3,c4,rfl,h2,c5,c6,rfl,h3,h4⟩:=h
 obtain⟨v1,rfl⟩:=RS.one h1
 obtain⟨v2,rfl⟩:=RS.one h2
 obtain⟨v3,rfl⟩:=RS.one h3
 obtain⟨v4,rfl⟩:=RS.one h4
 obtain⟨c1,c2,rfl,h1',c3,c4,rfl,h2',c5,c6,rfl,h3',h4'⟩:=h'
 obtain⟨w1,rfl⟩:=RS.one h1'
 obtain⟨w2,rfl⟩:=RS.one h2'
 obtain⟨w3,rfl⟩:=RS.one h3'
 obtain⟨w4,rfl⟩:=RS.one h4'
 refine CP.of (sw ?_)
 unfold qR
 try simp only[BU]
 refine(BE.start H).box (c:=[v1,v2,v3,v4]) rfl fun q1 H1 s=>s.box (c:=[w1,w2,w3,w4]) rfl fun q2 H2 s=>?_
 have m1:(q1,[v1,v2,v3,v4])∈[(q2,[w1,w2,w3,w4]),(q1,[v1,v2,v3,v4])]:=.tail _ (.head _)
 have m2:(q2,[w1,w2,w3,w4])∈[(q2,[w1,w2,w3,w4]),(q1,[v1,v2,v3,v4])]:=.head _
 refine AA rfl (s.ld (x:=v1) m1 rfl (AA rfl (s.ld (x:=w1) m2 rfl (BK (iW h1 h1' hi.1) fun x hx=>?_))))
 subst hx
 refine AA rfl (Af ?_)
 refine AA rfl (s.ld (x:=v3) m1 rfl (AA rfl (s.ld (x:=w3) m2 rfl (BK (iV h3 h3') fun x hx=>?_))))
 subst hx
 refine AA rfl (AA rfl (Af ?_))
 refine AA rfl (s.ld (x:=v4) m1 rfl (AA rfl (s.ld (x:=w4) m2 rfl (BK (pI h4 h4') fun x hx=>?_))))
 subst hx
 refine AA rfl (AA rfl (Af ?_))
 refine AA rfl (s.ld (x:=v2) m1 rfl (h2.fl.len (AA rfl (s.ld (x:=w2) m2 rfl (h2'.fl.len (DB rfl (AA rfl (AZ ?_))))))))
 obtain⟨n,hn⟩:∃n,n=(DI d.2.1).length:=⟨_,rfl⟩
 have f:=h2.fl
 have g:=h2'.fl
 have le:=h2.le
 rw[←hn]at f g le
 refine Vz (n:=n) (by decide) (by decide) (by decide) rfl rfl rfl fun i J hi hJ=>?_
 refine AA rfl (s.ld (x:=v2) m1 rfl (f.len (BT (fun hlt=>Ai ?_) (fun hlt=>AZ (s.B9 (fun k=>.bool _) rfl)))))
 refine AA rfl (s.ld (x:=v2) m1 rfl (f.Ef (by omega) fun c1 _ hc1=>?_))
 obtain⟨x,hx,hr⟩:=hc1
 refine hr.fl.len (AA rfl (s.ld (x:=w2) m2 rfl (g.Ef (by omega) fun c2 _ hc2=>?_)))
 obtain⟨x',hx',hr'⟩:=hc2
 rw[hx]at hx'
 cases hx'
 refine hr'.fl.len (DB rfl (AZ ?_))
 obtain⟨k,hk⟩:∃k,k=(DI x).length:=⟨_,rfl⟩
 have lk:=hr.le
 rw[←hk]at lk
 refine pk (n:=k) (by decide) (by decide) (by decide) (by decide) (by decide) (by decide) rfl rfl rfl rfl fun j K hj hK=>?_
 refine AA rfl (s.ld (x:=v2) m1 rfl (f.Ef (by omega) fun c1 _ hc1=>?_))
 obtain⟨x1,hx1,hr1⟩:=hc1
 rw[hx]at hx1
 cases hx1
 have f1:=hr1.fl
 rw[←hk]at f1
 refine f1.len (BT (fun hlt2=>Ai ?_) (fun hlt2=>AZ (BA ⟨by omega,by omega⟩ (hJ (by omega)))))
 refine AA rfl (s.ld (x:=v2) m1 rfl (f.Ef (by omega) fun c3 _ hc3=>?_))
 obtain⟨x3,hx3,hr3⟩:=hc3
 rw[hx]at hx3
 cases hx3
 have f3:=hr3.fl
 rw[←hk]at f3
 refine f3.IG (by omega) fun c4 _ _ hc4=>AA rfl (s.ld (x:=w2) m2 rfl (g.Ef (by omega) fun c5 _ hc5=>?_))
 obtain⟨x5,hx5,hr5⟩:=hc5
 rw[hx]at hx5
 cases hx5
 have f5:=hr5.fl
 rw[←hk]at f5
 refine f5.IG (by omega) fun c6 _ _ hc6=>?_
 obtain⟨y,hy,hr4⟩:=hc4
 obtain⟨y',hy',hr6⟩:=hc6
 rw[hy]at hy'
 cases hy'
 refine BK (pH hr4 hr6) fun z hz=>?_
 subst hz
 exact AA rfl (AZ (BA ⟨by omega,by omega⟩ (hK (by omega))))
set_option maxHeartbeats 2000000 in
theorem rZ {H:AH}{d:BR.D}{c c':List AV}(h:RS BR d c) (h':RS BR d c') (hi:In BR d):CP prog 41 [.agg c,.agg c'] H fun x=>x=.bool true:=by
 obtain⟨T,U,d1,d2,d3,A,m1,m2,m3,m4,r1,r2,r3,r4,r5,rfl,hT,hU,hD,hA,hM,hQ⟩:=IE h
 obtain⟨T',U',e1,e2,e3,A',n1,n2,n3,n4,t1,t2,t3,t4,t5,rfl,hT',hU',hD',hA',hM',hQ'⟩:=IE h'
 obtain⟨_,iT,iU,iD,_,iM,iQ,_⟩:=hi
 have eq1:=K_ hQ
 have eq2:=K_ hQ'
 refine CP.of (tV ?_)
 unfold qq
 try simp only[BU]
 refine(BE.start H).box rfl fun q H1 s=>s.box rfl fun q2 H2 s=>?_
 refine AA rfl (s.ld (x:=iv d.1) (.tail _ (.head _)) rfl (AA rfl (s.ld (x:=iv d.1) (.head _) rfl (FF rfl (Aj ?_)))))
 refine AA rfl (s.ld (x:=T) (.tail _ (.head _)) rfl (AA rfl (s.ld (x:=T') (.head _) rfl (BK (rU hT hT' iT) fun x hx=>?_))))
 subst hx
 refine AA rfl (Aj ?_)
 refine AA rfl (s.ld (x:=U) (.tail _ (.head _)) rfl (AA rfl (s.ld (x:=U') (.head _) rfl (BK (rU hU hU' iU) fun x hx=>?_))))
 subst hx
 refine AA rfl (Aj ?_)
 refine AA rfl (s.Ch (d:=[d1,d2,d3]) (.tail _ (.head _)) rfl (nb rfl) (AA rfl (s.Ch (d:=[e1,e2,e3]) (.head _) rfl (nb rfl) (BK (vD hD hD' iD) fun x hx=>?_))))
 subst hx
 refine AA rfl (Aj ?_)
 refine AA rfl (AA rfl (s.ld (x:=A) (.tail _ (.head _)) rfl (AA rfl (AA rfl (s.ld (x:=A') (.head _) rfl (BK (kG hA hA') fun x hx=>?_))))))
 subst hx
 refine AA rfl (Aj ?_)
 refine AA rfl (AA rfl (s.ld (x:=iv d.2.2.2.2.1.2) (.tail _ (.head _)) rfl (AA rfl (AA rfl (s.ld (x:=iv d.2.2.2.2.1.2) (.head _) rfl (FF rfl ?_))))))
 refine AA rfl (Aj ?_)
 refine AA rfl (s.Ch (d:=[m1,m2,m3,m4]) (.tail _ (.head _)) rfl (nb rfl) (AA rfl (s.Ch (d:=[n1,n2,n3,n4]) (.head _) rfl (nb rfl) (BK (vC hM hM' iM) fun x hx=>?_))))
 subst hx
 refine AA rfl (Aj ?_)
 refine AA rfl (s.Ch (d:=[r1,r2,r3,r4,r5]) (.tail _ (.head _)) rfl (nb rfl) (AA rfl (s.Ch (d:=[t1,t2,t3,t4,t5]) (.head _) rfl (nb rfl) ?_)))
 rw[eq1,eq2]
 refine AA (VZ (Tj iQ)) ?_
 refine AA rfl (Aj ?_)
 refine AA rfl (s.ld (x:=iv d.2.2.2.2.2.2.2) (.tail _ (.head _)) rfl (AA rfl (s.ld (x:=iv d.2.2.2.2.2.2.2) (.head _) rfl (FF rfl ?_))))
 exact AA rfl (s.B9 (fun k=>.bool _) rfl)
theorem vW {H:AH}{d:F3.D}{c c':List AV}(h:RS F3 d c) (h':RS F3 d c') (hi:In F3 d):CP prog 40 [.agg c,.agg c'] H fun x=>x=.bool true:=by
 obtain⟨ca,cb,rfl,ha,hb⟩:=h
 have hb:cb=[.bool d.2]:=hb
 subst hb
 obtain⟨ca',cb',rfl,ha',hb'⟩:=h'
 have hb':cb'=[.bool d.2]:=hb'
 subst hb'
 have hl:ca.length=18:=CM _ _ _ ha
 have hl':ca'.length=18:=CM _ _ _ ha'
 have g1:∀{c:List AV} {x:AV},c.length=18→(c++[x])[18]?=some x:=fun h=>by rw[List.getElem?_append_right (by omega),h];rfl
 have g2:∀{c:List AV} {x:AV},c.length=18→((c++[x]).drop 0).take 18=c:=fun h=>by rw[List.drop_zero,List.take_append_of_le_length (by omega),List.take_of_length_le (by omega)]
 refine CP.of (tW ?_)
 unfold qt
 try simp only[BU]
 refine(BE.start H).box rfl fun q H1 s=>s.box rfl fun q2 H2 s=>?_
 refine AA rfl (s.ld (x:=.bool d.2) (.tail _ (.head _)) (g1 hl) (AA rfl (s.ld (x:=.bool d.2) (.head _) (g1 hl') (AA (v:=.bool true) (by cases d.2<;>rfl) (Aj ?_)))))
 refine AA rfl (s.Ch (d:=ca) (.tail _ (.head _)) (g2 hl) (by simp[hl]) (AA rfl (s.Ch (d:=ca') (.head _) (g2 hl') (by simp[hl']) (BK (rZ ha ha' hi.1) fun x hx=>?_))))
 subst hx
 exact AA rfl (s.B9 (fun k=>.bool _) rfl)
set_option maxHeartbeats 2000000 in
theorem vn {H:AH}{d:Bh.D}{c c':List AV}(h:RS Bh d c) (h':RS Bh d c') (hi:In Bh d):CP prog 16 [.agg c,.agg c'] H fun x=>x=.bool true:=by
 obtain⟨al,mo,to,li,at_,fo,rfl,h0,h1,h2,h3,h4,h5⟩:=CR h
 obtain⟨al',mo',to',li',at',fo',rfl,h0',h1',h2',h3',h4',h5'⟩:=CR h'
 obtain⟨_,_,_,i3,i4,i5⟩:=hi
 refine CP.of (tm ?_)
 unfold rG
 try simp only[BU]
 refine(BE.start H).box rfl fun q1 H1 s=>s.box rfl fun q2 H2 s=>?_
 have m1:(q1,[al,mo,to,li,at_,fo])∈[(q2,[al',mo',to',li',at',fo']),(q1,[al,mo,to,li,at_,fo])]:=.tail _ (.head _)
 have m2:(q2,[al',mo',to',li',at',fo'])∈[(q2,[al',mo',to',li',at',fo']),(q1,[al,mo,to,li,at_,fo])]:=.head _
 refine AA rfl (s.ld (x:=al) m1 rfl (h0.str ?_))
 refine AA rfl (s.ld (x:=al') m2 rfl (h0'.str (AA (Su _) (Af ?_))))
 refine AA rfl (s.ld (x:=mo) m1 rfl (AA rfl (s.ld (x:=mo') m2 rfl (BK (kG h1 h1') fun x hx=>?_))))
 subst hx
 refine AA rfl (AA rfl (Af ?_))
 refine AA rfl (s.ld (x:=to) m1 rfl (AA rfl (s.ld (x:=to') m2 rfl (BK (kG h2 h2') fun x hx=>?_))))
 subst hx
 refine AA rfl (AA rfl (Af ?_))
 refine AA rfl (s.ld (x:=li) m1 rfl (h3.fl.len (AA rfl (s.ld (x:=li') m2 rfl (h3'.fl.len (DB rfl (AA rfl (Af ?_))))))))
 refine AA rfl (s.ld (x:=at_) m1 rfl (h4.fl.len (AA rfl (s.ld (x:=at') m2 rfl (h4'.fl.len (DB rfl (AA rfl (Af ?_))))))))
 refine AA rfl (s.ld (x:=fo) m1 rfl (h5.fl.len (AA rfl (s.ld (x:=fo') m2 rfl (h5'.fl.len (DB rfl (AA rfl (AZ ?_))))))))
 obtain⟨n0,hn0⟩:∃n,n=(DI d.2.2.2.1).length:=⟨_,rfl⟩
 have f0:=h3.fl
 have g0:=h3'.fl
 have le0:=h3.le
 rw[←hn0]at f0 g0 le0
 refine Vz (n:=n0) (by decide) (by decide) (by decide) rfl rfl rfl fun i J hi hJ=>?_
 refine AA rfl (s.ld (x:=li) m1 rfl (f0.len (BT (fun hlt=>Ai ?_) (fun hlt=>AZ ?_))))
 ·refine AA rfl (s.ld (x:=li) m1 rfl (f0.IG (by omega) fun c1 _ _ hc1=>AA rfl (s.ld (x:=li') m2 rfl (g0.IG (by omega) fun c2 _ _ hc2=>?_))))
  obtain⟨x,hx,hr⟩:=hc1
  obtain⟨x',hx',hr'⟩:=hc2
  rw[hx]at hx'
  cases hx'
  refine BK (vW hr hr' (i3 x (List.mem_of_getElem? hx))) fun y hy=>?_
  subst hy
  exact AA rfl (AZ (BA ⟨by omega,by omega⟩ (hJ (by omega))))
 obtain⟨n1,hn1⟩:∃n,n=(DI d.2.2.2.2.1).length:=⟨_,rfl⟩
 have f1:=h4.fl
 have g1:=h4'.fl
 have le1:=h4.le
 rw[←hn1]at f1 g1 le1
 refine Vz (n:=n1) (by decide) (by decide) (by decide) rfl rfl rfl fun i J hi hJ=>?_
 refine AA rfl (s.ld (x:=at_) m1 rfl (f1.len (BT (fun hlt=>Ai ?_) (fun hlt=>AZ ?_))))
 ·refine AA rfl (s.ld (x:=at_) m1 rfl (f1.IG (by omega) fun c1 _ _ hc1=>AA rfl (s.ld (x:=at') m2 rfl (g1.IG (by omega) fun c2 _ _ hc2=>?_))))
  obtain⟨x,hx,hr⟩:=hc1
  obtain⟨x',hx',hr'⟩:=hc2
  rw[hx]at hx'
  cases hx'
  refine BK (rZ hr hr' (i4 x (List.mem_of_getElem? hx))) fun y hy=>?_
  subst hy
  exact AA rfl (AZ (BA ⟨by omega,by omega⟩ (hJ (by omega))))
 obtain⟨n2,hn2⟩:∃n,n=(DI d.2.2.2.2.2).length:=⟨_,rfl⟩
 have f2:=h5.fl
 have g2:=h5'.fl
 have le2:=h5.le
 rw[←hn2]at f2 g2 le2
 refine Vz (n:=n2) (by decide) (by decide) (by decide) rfl rfl rfl fun i J hi hJ=>?_
 refine AA rfl (s.ld (x:=fo) m1 rfl (f2.len (BT (fun hlt=>Ai ?_) (fun hlt=>AZ ?_))))
 ·refine AA rfl (s.ld (x:=fo) m1 rfl (f2.Ef (by omega) fun c1 _ hc1=>AA rfl (s.ld (x:=fo') m2 rfl (g2.Ef (by omega) fun c2 _ hc2=>?_))))
  obtain⟨x,hx,hr⟩:=hc1
  obtain⟨x',hx',hr'⟩:=hc2
  rw[hx]at hx'
  cases hx'
  refine BK (vV hr hr' (i5 x (List.mem_of_getElem? hx))) fun y hy=>?_
  subst hy
  exact AA rfl (AZ (BA ⟨by omega,by omega⟩ (hJ (by omega))))
 exact s.B9 (fun k=>.bool _) rfl
end Go.Proofs.YtdcdbabponelcaaGreatDoor
namespace Go.Proofs.YtdcdbabponelcaaGreatDoor
open Go Go.AL Tryz
variable [BY]
abbrev GO:Tw:=.pair Bh (.list (.list B5))
theorem HE {d:Bh.D}{ls:List (List As)}{c:List AV}(h:RS GO (d,ls) c):∃al mo to li at_ fo lv,c=[al,mo,to,li,at_,fo,lv]∧RS Bh d [al,mo,to,li,at_,fo]∧RS (.list (.list B5)) ls [lv]:=by
 obtain⟨c1,c2,rfl,h1,h2⟩:=h
 obtain⟨al,mo,to,li,at_,fo,rfl,_⟩:=CR h1
 obtain⟨lv,rfl⟩:=RS.one h2
 exact⟨al,mo,to,li,at_,fo,lv,rfl,h1,h2⟩
theorem NI {d:Bh.D}{ls:List (List As)}{al mo to li at_ fo lv:AV}(h1:RS Bh d [al,mo,to,li,at_,fo]) (h2:RS (.list (.list B5)) ls [lv]):RS GO (d,ls) [al,mo,to,li,at_,fo,lv]:=⟨[al,mo,to,li,at_,fo],[lv],rfl,h1,h2⟩
theorem Wj {t:Tw}{l r:List t.D}{n i:Nat}{c:List AV}(hi:i<n) (h:RE t l i c):RE t (l.take n++r) i c:=by
 obtain⟨x,h1,h2⟩:=h
 have:=(List.getElem?_eq_some_iff.1 h1).1
 exact⟨x,by rw[List.getElem?_append_left (by simp;omega),List.getElem?_take,if_pos hi];exact h1,h2⟩
theorem fX (t:Tw):RS (.list t) (show(Tw.list t).D from[]) [.sim [] 0 true]:=.of (by simp) ⟨.inr ⟨[],true,rfl,fun _=>rfl,rfl,fun i c h=>by simp at h⟩⟩
theorem ou {H:AH}{ls:List (List As)}{l:List As}{lv v:AV}{n:Nat}(hv:RS (.list (.list B5)) ls [lv]) (hn:n≤ls.length) (hl:RS (.list B5) l [v]) (hb:ls.length≤1000) :
  CP prog 32 [lv,iv (n:Int),v] H fun x=>RS (.list (.list B5)) (ls.take n++[l]) [x]:=by
 refine CP.of (tc ?_)
 unfold qz
 try simp only[BU]
 have f:FL 1 (RE (.list B5) ls) ls.length lv:=hv.fl
 refine(BE.start H).new fun o v3 H1 s hl0=>?_
 let Iv:AV→AV→AV→AV→AV→AH→Prop:=fun a b c w e H'=>a=lv∧b=iv (n:Int)∧c=v∧∃(i:Nat) (o:OL) (cs:List AV),e=iv (i:Int)∧i≤n∧BE H (o++[]) H'∧Lv 1 o i cs w∧GX 1 (RE (.list B5) (ls.take n++[l])) i cs
 let μ:AV→AV→AV→AV→AV→AH→Nat:=fun _ _ _ _ f _=>match f with
  | .int _ j=>(n-j).toNat
  | _=>0
 refine⟨Iv,μ,⟨rfl,rfl,rfl,0,o,[],rfl,by omega,s,hl0,.nil⟩,?_⟩
 clear hl0 s
 intro e H2 hI
 obtain⟨e1,e2,e3,i,o,cs,e4,hi,s,hw,hG⟩:=(hI:Iv (e 0) (e 1) (e 2) (e 7) (e 8) H2)
 have hmu:μ (e 0) (e 1) (e 2) (e 7) (e 8) H2=((n:Int)-(i:Int)).toNat:=by rw[e4]
 show AB (.bin .lss (.cst (e 8)) (.cst (e 1))) _
 rw[e1,e2,e3,e4]
 generalize e 7=w at hw
 refine BT (fun hlt=>Ai ?_) (fun hlt=>AZ ?_)
 ·refine f.Ef (by omega) fun x _ hx=>?_
  have hx2:RE (.list B5) (ls.take n++[l]) i [x]:=Wj (by omega) hx
  obtain⟨y,_,hr⟩:=hx
  refine s.app (k:=1) (c:=[x]) hw hG.ln (RS.cell hr) rfl rfl (by omega) (by decide) fun o' v' H3 s hw'=>BA ⟨by omega,by omega⟩ ⟨⟨rfl,rfl,rfl,i+1,o',_,rfl,by omega,s,hw',hG.Dw rfl (fun k=>CC k _ _ _ hr) hx2⟩,?_⟩
  show _<μ (e 0) (e 1) (e 2) (e 7) (e 8) H2
  rw[hmu]
  show((n:Int)-((i:Int)+1)).toNat<((n:Int)-(i:Int)).toNat
  omega
 ·have hin:i=n:=by omega
  subst hin
  have hln:(ls.take i).length=i:=by simp;omega
  have e9:(ls.take i++[l])[i]?=some l:=by rw[List.getElem?_append_right (by omega),hln,Nat.sub_self];rfl
  have e10:(ls.take i++[l]).length=i+1:=by rw[List.length_append,hln];rfl
  refine s.app (k:=1) (c:=[v]) hw hG.ln (RS.cell hl) rfl rfl (by omega) (by decide) fun o' v' H3 s hw'=>?_
  have hG:=hG.Dw (c:=[v]) rfl (fun k=>CC k _ _ _ hl) ⟨l,e9,hl⟩
  obtain⟨y,hy1,hy2⟩:=(hG.gl (R:=[])).Gs hw'
  exact s.fin hy1 (RS.of (t:=.list B5) (l:=ls.take i++[l]) (show(ls.take i++[l]).length≤100000 by omega) (show FL 1 (RE (.list B5) (ls.take i++[l])) (@List.length (List As) (ls.take i++[l])) y by rw[e10];exact hy2))
def MD (ls:List (List As)):Int × List (List As):=if 40<ls.length then(2,ls)else(0,ls++[[]])
def ME (ls:List (List As)):Int × List (List As):=if ls.length≤1 then(7,ls)else(0,ls.dropLast)
theorem vz {H:AH}{d:Bh.D}{ls:List (List As)}{c:List AV}(h:RS GO (d,ls) c) (hb:ls.length≤1000):CP prog 10 [.agg c] H fun x=>∃c',x=.tup [.agg c',iv (MD ls).1]∧RS GO (d,(MD ls).2) c':=by
 obtain⟨al,mo,to,li,at_,fo,lv,rfl,h1,h2⟩:=HE h
 have f:FL 1 (RE (.list B5) ls) ls.length lv:=h2.fl
 refine CP.of (tv ?_)
 unfold rM
 try simp only[BU]
 refine(BE.start H).box rfl fun q1 H1 s=>s.alloc fun q2 H2 s=>?_
 have m1:(q1,[al,mo,to,li,at_,fo,lv])∈[(q2,Av 7 .nils []),(q1,[al,mo,to,li,at_,fo,lv])]:=.tail _ (.head _)
 refine AA rfl (s.ld (x:=lv) m1 rfl (f.len (GM (fun hgt=>Ai ?_) (fun hgt=>AZ ?_))))
 ·rw[show MD ls=(2,ls)from if_pos (by omega)]
  exact s.DN (c:=[al,mo,to,li,at_,fo,lv]) m1 rfl (s.Cr rfl rfl fun H3 s=>s.DN (.head _) rfl (s.B9 (fun k=>.tup (.cons (.agg (CC k GO _ _ h)) (.cons (.int _ _) .nil))) ⟨_,rfl,h⟩))
 rw[show MD ls=(0,ls++[[]])from if_neg (by omega)]
 refine AA rfl (s.ld (x:=lv) m1 rfl (AA rfl (s.ld (x:=lv) m1 rfl (f.len ?_))))
 refine s.bs (out:=[]) rfl fun q3 H3 s=>?_
 obtain⟨_,_,g3⟩:=s.l _ (.head _)
 refine BE.UW (A:=[]) s (ar':=[lv,iv (ls.length:Int),.sim [] 0 true]) (.cons (.same _) (.cons (.same _) (.cons (EU.row rfl g3 .nil (fun _=>rfl) (fun _=>rfl)) .nil))) (fun H' s'=>ou h2 (Nat.le_refl _) (fX B5) hb) fun x H4 s hx=>?_
 rw[List.take_length]at hx
 have hr:=NI h1 hx
 refine AA rfl (s.B6 (A:=[(q2,_)]) (RS.cell hx) rfl (nb rfl) fun H5 s=>?_)
 exact s.DN (c:=[al,mo,to,li,at_,fo,x]) (.tail _ (.head _)) rfl (BE.Cr (q:=q2) s rfl rfl fun H6 s=>s.DN (.head _) rfl (s.B9 (fun k=>.tup (.cons (.agg (CC k GO _ _ hr)) (.cons (.int _ _) .nil))) ⟨_,rfl,hr⟩))
theorem vu {H:AH}{d:Bh.D}{ls:List (List As)}{c:List AV}(h:RS GO (d,ls) c) (hb:ls.length≤1000):CP prog 12 [.agg c] H fun x=>∃c',x=.tup [.agg c',iv (ME ls).1]∧RS GO (d,(ME ls).2) c':=by
 obtain⟨al,mo,to,li,at_,fo,lv,rfl,h1,h2⟩:=HE h
 have f:FL 1 (RE (.list B5) ls) ls.length lv:=h2.fl
 refine CP.of (tt ?_)
 unfold rK
 try simp only[BU]
 refine(BE.start H).box rfl fun q1 H1 s=>s.alloc fun q2 H2 s=>?_
 have m1:(q1,[al,mo,to,li,at_,fo,lv])∈[(q2,Av 7 .nils []),(q1,[al,mo,to,li,at_,fo,lv])]:=.tail _ (.head _)
 refine AA rfl (s.ld (x:=lv) m1 rfl (f.len (Q2 (fun hgt=>Ai ?_) (fun hgt=>AZ ?_))))
 ·rw[show ME ls=(7,ls)from if_pos (by omega)]
  exact s.DN (c:=[al,mo,to,li,at_,fo,lv]) m1 rfl (s.Cr rfl rfl fun H3 s=>s.DN (.head _) rfl (s.B9 (fun k=>.tup (.cons (.agg (CC k GO _ _ h)) (.cons (.int _ _) .nil))) ⟨_,rfl,h⟩))
 rw[show ME ls=(0,ls.dropLast)from if_neg (by omega)]
 obtain⟨m,hm⟩:∃m,ls.length=m+2:=⟨ls.length-2,by omega⟩
 have e1:(ls.length:Int)-1-1=(m:Int):=by omega
 refine AA rfl (s.ld (x:=lv) m1 rfl (f.len (D4 ⟨by omega,by omega⟩ ?_)))
 refine AA rfl (s.ld (x:=lv) m1 rfl (D4 ⟨by omega,by omega⟩ ?_))
 refine AA rfl (s.ld (x:=lv) m1 rfl (D4 ⟨by omega,by omega⟩ ?_))
 rw[e1]
 refine f.Ef (i:=m) (by omega) fun x _ hx=>?_
 obtain⟨l,hl,hr⟩:∃l:List As,ls[m]?=some l∧RS (.list B5) l [x]:=hx
 refine BK (ou h2 (by omega) hr hb) fun x hx=>?_
 have hd:ls.take m++[l]=ls.dropLast:=by
  rw[List.dropLast_eq_take,hm,show m+2-1=m+1 by omega,List.take_add_one,hl];rfl
 rw[hd]at hx
 have hr:=NI h1 hx
 refine AA rfl (s.B6 (A:=[(q2,_)]) (RS.cell hx) rfl (nb rfl) fun H5 s=>?_)
 exact s.DN (c:=[al,mo,to,li,at_,fo,x]) (.tail _ (.head _)) rfl (BE.Cr (q:=q2) s rfl rfl fun H6 s=>s.DN (.head _) rfl (s.B9 (fun k=>.tup (.cons (.agg (CC k GO _ _ hr)) (.cons (.int _ _) .nil))) ⟨_,rfl,hr⟩))
theorem vX {H:AH}{d:Bh.D}{c:List AV}(h:RS Bh d c) (hb:CW (show List (List Nd)from d.2.2.2.2.2)≤1000):CP prog 36 [.agg c] H fun x=>x=iv (CW (show List (List Nd)from d.2.2.2.2.2):Int):=by
 obtain⟨al,mo,to,li,at_,fo,rfl,_,_,_,_,_,h5⟩:=CR h
 obtain⟨F,hF⟩:∃F:List (List Nd),F=d.2.2.2.2.2:=⟨_,rfl⟩
 show CP prog 36 [.agg [al,mo,to,li,at_,fo]] H fun x=>x=iv (CW (d.2.2.2.2.2:List (List Nd)):Int)
 have hb:CW F≤1000:=by rw[hF];exact hb
 rw[←hF]
 have f:FL 1 (RE (.list BX) F) F.length fo:=by rw[hF];exact h5.fl
 have le:F.length≤100000:=by rw[hF];exact h5.le
 refine CP.of (tY ?_)
 unfold qu
 try simp only[BU]
 refine(BE.start H).box rfl fun q1 H1 s=>?_
 let Iv:AV→AV→AV→AH→Prop:=fun a b e H'=>a=.ptr q1 0∧∃i:Nat,b=iv (CW (F.take i):Int)∧e=iv (i:Int)∧i≤F.length∧BE H [(q1,[al,mo,to,li,at_,fo])] H'
 let μ:AV→AV→AV→AH→Nat:=fun _ _ f _=>match f with
  | .int _ j=>(F.length-j).toNat
  | _=>0
 refine⟨Iv,μ,⟨rfl,0,rfl,rfl,by omega,s⟩,?_⟩
 clear s
 intro e H2 hI
 obtain⟨e1,i,e2,e3,hi,s⟩:=(hI:Iv (e 1) (e 3) (e 4) H2)
 have hmu:μ (e 1) (e 3) (e 4) H2=((F.length:Int)-(i:Int)).toNat:=by rw[e3]
 show AB (.fieldAddr 5 (.cst (e 1))) _
 rw[e1,e2,e3]
 refine AA rfl (s.ld (x:=fo) (.head _) rfl (f.len (BT (fun hlt=>Ai ?_) (fun hlt=>AZ ?_))))
 ·refine AA rfl (s.ld (x:=fo) (.head _) rfl (f.Ef (by omega) fun x _ hx=>?_))
  obtain⟨y,hy,hr⟩:=hx
  have hy:F[i]?=some y:=hy
  have hr:RS (.list BX) y [x]:=hr
  have hl1:=Mn F i y hy
  have hl2:=Qi F (i+1)
  refine hr.fl.len ?_
  show AB (.bin .add (.cst (iv (CW (F.take i):Int))) (.cst (iv (List.length (α:=Nd) y:Int)))) _
  refine BA ⟨by omega,by omega⟩ (BA ⟨by omega,by omega⟩ ⟨⟨rfl,i+1,?_,rfl,by omega,s⟩,?_⟩)
  ·show iv ((CW (F.take i):Int)+(List.length (α:=Nd) y:Int))=_
   rw[hl1];congr 1
  ·show _<μ (e 1) (e 3) (e 4) H2
   rw[hmu]
   show((F.length:Int)-((i:Int)+1)).toNat<((F.length:Int)-(i:Int)).toNat
   omega
 ·have hin:i=F.length:=by omega
  subst hin
  rw[List.take_length]
  exact s.B9 (fun k=>.int _ _) rfl
theorem vU {H:AH}{f:List Nd}{fv:AV}{m:Nat}(hf:RS (.list BX) f [fv]) (hq:∀x∈f,Ui x) (hm:m≤1000):CP prog 43 [fv,iv (m:Int)] H fun x=>RS (.list BX) (IU m f) [x]:=by
 have fl:FL 3 (RE BX f) f.length fv:=hf.fl
 have le:f.length≤100000:=hf.le
 refine CP.of (tS ?_)
 unfold qp
 try simp only[BU]
 refine(BE.start H).new fun o v3 H1 s hl0=>?_
 let Iv:AV→AV→AV→AV→AH→Prop:=fun a b w e H'=>a=fv∧b=iv (m:Int)∧∃(i:Nat) (o:OL) (cs:List AV),e=iv (i:Int)∧i≤f.length∧BE H (o++[]) H'∧Lv 3 o i cs w∧GX 3 (RE BX (IU m f)) i cs
 let μ:AV→AV→AV→AV→AH→Nat:=fun _ _ _ e _=>match e with
  | .int _ j=>(f.length-j).toNat
  | _=>0
 refine⟨Iv,μ,⟨rfl,rfl,0,o,[],rfl,by omega,s,hl0,.nil⟩,?_⟩
 clear hl0 s
 intro e H2 hI
 obtain⟨e1,e2,i,o,cs,e4,hi,s,hw,hG⟩:=(hI:Iv (e 0) (e 1) (e 5) (e 6) H2)
 have hmu:μ (e 0) (e 1) (e 5) (e 6) H2=((f.length:Int)-(i:Int)).toNat:=by rw[e4]
 show AB (.len (.cst (e 0))) _
 rw[e1,e2,e4]
 generalize e 5=w at hw
 refine fl.len (BT (fun hlt=>Ai ?_) (fun hlt=>AZ ?_))
 ·refine fl.IG (by omega) fun c hc1 _ hc=>?_
  obtain⟨x,hx,hr⟩:∃x:Nd,f[i]?=some x∧RS BX x c:=hc
  have hc:=Nt hr
  subst hc
  obtain⟨k0,k1,k2,k3,k4,k5⟩:=hq x (List.mem_of_getElem? hx)
  refine s.alloc fun q H3 s=>s.Cr rfl rfl fun H4 s=>?_
  have again:∀(H5:AH) (y:Nd),BE H ((q,nc y)::(o++[])) H5→y=Sw m x→AP (.load (some 3) (.cst (.ptr q 0))) H5 fun v24=>AW (.buildSlice 3 1 [iv 0,iv 0,iv 0] [(0,3,(.cst v24))]) H5 fun v25 h25=>AW (.append 3 24 (.cst w) (.cst v25)) h25 fun v26 h26=>AB (.bin .add (.cst (iv (i:Int))) (.cst (iv 1))) fun v27=>Iv fv (iv (m:Int)) v26 v27 h26∧μ fv (iv (m:Int)) v26 v27 h26<μ (e 0) (e 1) (e 5) (e 6) H2:=fun H5 y s hy=>by
   refine s.DN (.head _) rfl ?_
   have s:BE H (o++[]) H5:=s.sub (List.sublist_cons_self _ _)
   refine s.app (k:=3) (c:=nc y) hw hG.ln rfl rfl rfl (by omega) (by decide) fun o' v' H6 s hw'=>BA ⟨by omega,by omega⟩ ⟨⟨rfl,rfl,i+1,o',_,rfl,by omega,s,hw',hG.Dw rfl (fun k=>CC k _ _ _ (HJ y)) ⟨y,?_,HJ y⟩⟩,?_⟩
   ·show(IU m f)[i]?=some y
    unfold IU
    rw[List.getElem?_map,hx,hy];rfl
   ·rw[hmu]
    show((f.length:Int)-((i:Int)+1)).toNat<((f.length:Int)-(i:Int)).toNat
    omega
  refine AA rfl (s.ld (x:=iv x.1) (.head _) rfl (FM (fun hk=>CK ?_) (fun hk=>CL (again H4 x s ?_))))
  ·refine AA rfl (s.ld (x:=iv x.2.1) (.head _) rfl (BA ⟨by omega,by omega⟩ (AA rfl (s.B6 (A:=[]) rfl rfl (nb rfl) fun H5 s=>?_))))
   refine again H5 (x.1,x.2.1+(m:Int),x.2.2) s ?_
   unfold Sw
   rw[if_pos hk]
  ·unfold Sw
   rw[if_neg hk]
 ·have hin:i=f.length:=by omega
  subst hin
  obtain⟨y,hy1,hy2⟩:=(hG.gl (R:=[])).Gs hw
  have hsl:(IU m f).length=f.length:=by unfold IU;rw[List.length_map]
  exact s.fin hy1 (RS.of (t:=BX) (l:=IU m f) (show(IU m f).length≤100000 by omega) (show FL 3 (RE BX (IU m f)) (@List.length Nd (IU m f)) y by rw[hsl];exact hy2))
end Go.Proofs.YtdcdbabponelcaaGreatDoor
namespace Go.Proofs.YtdcdbabponelcaaGreatDoor
open Go Go.AL Tryz
variable [BY]
structure MB (H:AH) (q1 q2 q3:Nat) (C6 C7:List AV) (X:OL) (A:List BR.D) (F:List (List Nd)) (va vf:AV) (H':AH):Prop where
 ex:∃oa ca of cf,BE H (oa++(of++(X++[(q3,C6),(q2,Av 6 .nils []),(q1,C7)]))) H'∧Lv 18 oa A.length ca va∧GX 18 (RE BR A) A.length ca∧Lv 1 of F.length cf vf∧GX 1 (RE (.list BX) F) F.length cf
section
variable {H H':AH}{q1 q2 q3:Nat}{C6 C7:List AV}{X:OL}{A:List BR.D}{F:List (List Nd)}{va vf:AV}
theorem MB.kx (h:MB H q1 q2 q3 C6 C7 X A F va vf H'){o:Nat}{x:AV}{K:AV→Prop}(hx:C7[o]?=some x) (hK:K x):AP (.load none (.cst (.ptr q1 o))) H' K:=by
 obtain⟨oa,ca,of,cf,s,_⟩:=h.ex
 exact s.ld (c:=C7) (by simp) hx hK
theorem MB.iw (h:MB H q1 q2 q3 C6 C7 X A F va vf H'){o:Nat}{x:AV}{K:AV→Prop}(hx:C6[o]?=some x) (hK:K x):AP (.load none (.cst (.ptr q3 o))) H' K:=by
 obtain⟨oa,ca,of,cf,s,_⟩:=h.ex
 exact s.ld (c:=C6) (by simp) hx hK
theorem MB.Rb (h:MB H q1 q2 q3 C6 C7 X A F va vf H'){K:AV→Prop}(hK:K (iv (A.length:Int))):AB (.len (.cst va)) K:=by
 obtain⟨oa,ca,of,cf,s,la,_⟩:=h.ex
 exact la.len hK
theorem MB.fq (h:MB H q1 q2 q3 C6 C7 X A F va vf H'){a:BR.D}{c:List AV}{zz:List AV}(hr:RS BR a c) (hz:zz.length=18) (hn:A.length≤100000){K:AV→AH→Prop}(hK:∀va' H2,MB H q1 q2 q3 C6 C7 X (A++[a]) F va' vf H2→K va' H2) :
  AW (.buildSlice 18 1 zz [(0,18,(.cst (.agg c)))]) H' fun v23 h23=>AW (.append 18 304 (.cst va) (.cst v23)) h23 K:=by
 obtain⟨oa,ca,of,cf,s,la,ga,lf,gf⟩:=h.ex
 have hc:c.length=18:=CM BR _ _ hr
 refine s.app (k:=18) (c:=c) la ga.ln rfl hc hz (by omega) (by decide) fun oa' va' H2 s la'=>hK va' H2 ⟨oa',ca++c,of,cf,s,?_,?_,lf,gf⟩
 ·rw[List.length_append];exact la'
 ·rw[List.length_append]
  exact(ga.mono fun i c hi h=>Je hi h).Dw hc (fun k=>CC k BR _ _ hr) (Jd hr)
theorem MB.fp (h:MB H q1 q2 q3 C6 C7 X A F va vf H'){f:List Nd}{x:AV}(hr:RS (.list BX) f [x]) (hn:F.length≤100000){K:AV→AH→Prop}(hK:∀vf' H2,MB H q1 q2 q3 C6 C7 X A (F++[f]) va vf' H2→K vf' H2) :
  AW (.buildSlice 1 1 [.nils] [(0,1,(.cst x))]) H' fun v23 h23=>AW (.append 1 24 (.cst vf) (.cst v23)) h23 K:=by
 obtain⟨oa,ca,of,cf,s,la,ga,lf,gf⟩:=h.ex
 refine s.DP.app (k:=1) (c:=[x]) lf gf.ln (RS.cell hr) rfl rfl (by omega) (by decide) fun of' vf' H2 s lf'=>hK vf' H2 ⟨oa,ca,of',cf++[x],s.DP,la,ga,?_,?_⟩
 ·rw[List.length_append];exact lf'
 ·rw[List.length_append]
  exact(gf.mono fun i c hi h=>Je hi h).Dw rfl (fun k=>CC k _ _ _ hr) (Jd hr)
end
set_option maxHeartbeats 4000000 in
theorem rh {H:AH}{d:Bh.D}{ls:List (List As)}{c:List AV}(h:RS GO (d,ls) c) (hb:L9 d ls):CP prog 18 [.agg c] H fun x=>∃c',x=.agg c'∧RS Bh (PR d ls.flatten) c':=by
 obtain⟨al,mo,to,li,at_,fo,lv,rfl,h1,h2⟩:=HE h
 obtain⟨_,_,_,_,_,_,e,p0,p1,p2,p3,p4,p5⟩:=CR h1
 obtain⟨rfl,rfl,rfl,rfl,rfl,rfl⟩:=(by simpa using e:_∧_∧_∧_∧_∧_)
 have f7:FL 1 (RE (.list B5) ls) ls.length lv:=h2.fl
 have b1:=hb.na
 have b2:=hb.run
 have b3:=hb.lv
 have b4:=hb.len
 obtain⟨A0,hA0⟩:∃A0:List BR.D,A0=(MX d).1:=⟨_,rfl⟩
 obtain⟨F0,hF0⟩:∃F0:List (List Nd),F0=(MX d).2:=⟨_,rfl⟩
 have f4:FL 18 (RE BR A0) A0.length at_:=by rw[hA0];exact p4.fl
 have f5:FL 1 (RE (.list BX) F0) F0.length fo:=by rw[hF0];exact p5.fl
 have l4:A0.length≤1000:=by
  have:A0.length≤HV d ls.flatten:=by unfold HV;rw[←hA0];omega
  omega
 have l5:F0.length≤1000:=by have:=hb.fo;rw[←hF0]at this;omega
 refine CP.of (tj ?_)
 unfold rE
 try simp only[BU]
 refine(BE.start H).box rfl fun q1 H1 s=>s.alloc fun q2 H2 s=>?_
 refine AA rfl (s.Ch (d:=[al,mo,to,li,at_,fo]) (.tail _ (.head _)) rfl (nb rfl) ?_)
 refine s.alloc fun q3 H3 s=>s.Cr rfl rfl fun H4 s=>?_
 refine s.bs (out:=[]) rfl fun q4 H5 s=>?_
 have hP:MB H q1 q2 q3 [al,mo,to,li,at_,fo] [al,mo,to,li,at_,fo,lv] [] (A0.take 0) [] (.sl q4 0 0 (.ex 0)) .nils H5:=⟨[(q4,[])],[],[],[],s,.ex _,.nil,.nil,.nil⟩
 clear s
 let I1:AV→AV→AV→AV→AV→AH→Prop:=fun a b c w e H'=>a=.ptr q1 0∧b=.ptr q2 0∧c=.ptr q3 0∧∃i:Nat,e=iv (i:Int)∧i≤A0.length∧MB H q1 q2 q3 [al,mo,to,li,at_,fo] [al,mo,to,li,at_,fo,lv] [] (A0.take i) [] w .nils H'
 let μ1:AV→AV→AV→AV→AV→AH→Nat:=fun _ _ _ _ e _=>match e with
  | .int _ j=>(A0.length-j).toNat
  | _=>0
 refine⟨I1,μ1,⟨rfl,rfl,rfl,0,rfl,by omega,hP⟩,?_⟩
 clear hP
 intro e H6 hI
 obtain⟨e1,e2,e3,i,e4,hi,hP⟩:=(hI:I1 (e 1) (e 2) (e 3) (e 4) (e 5) H6)
 have hmu1:μ1 (e 1) (e 2) (e 3) (e 4) (e 5) H6=((A0.length:Int)-(i:Int)).toNat:=by rw[e4]
 show AB (.fieldAddr 4 (.cst (e 3))) _
 rw[e1,e2,e3,e4]
 generalize e 4=va at hP
 refine AA rfl (hP.iw (x:=at_) rfl (f4.len (BT (fun hlt=>Ai ?_) (fun hlt=>AZ ?_))))
 ·refine AA rfl (hP.iw (x:=at_) rfl (f4.IG (by omega) fun c hcl _ hc=>?_))
  obtain⟨a,ha,hr⟩:=hc
  refine hP.fq hr rfl (by simp;omega) fun va' H7 hP=>BA (a:=(i:Int)) (b:=1) ⟨by omega,by omega⟩ ⟨⟨rfl,rfl,rfl,i+1,rfl,by omega,by rw[List.take_add_one,ha];exact hP⟩,?_⟩
  show _<μ1 (e 1) (e 2) (e 3) (e 4) (e 5) H6
  rw[hmu1]
  show((A0.length:Int)-((i:Int)+1)).toNat<((A0.length:Int)-(i:Int)).toNat
  omega
 have hin:i=A0.length:=by omega
 subst hin
 rw[List.take_length]at hP
 clear e1 e2 e3 e4 hmu1 hi hlt e
 obtain⟨oa,ca,of,cf,s,la,ga,_,_⟩:=hP.ex
 clear hP
 refine s.bs (out:=[]) rfl fun q5 H7 s=>?_
 have hP:MB H q1 q2 q3 [al,mo,to,li,at_,fo] [al,mo,to,li,at_,fo,lv] [] A0 (F0.take 0) va (.sl q5 0 0 (.ex 0)) H7:=by
  refine⟨oa,ca,[(q5,[])],[],?_,la,ga,.ex _,.nil⟩
  have s:BE H ([(q5,[])]++(oa++[(q3,[al,mo,to,li,at_,fo]),(q2,Av 6 .nils []),(q1,[al,mo,to,li,at_,fo,lv])])) H7:=s.sub ((List.Sublist.refl _).append ((List.Sublist.refl _).append (List.sublist_append_right _ _)))
  exact BE.DP (A:=[(q5,[])]) s
 clear s la ga
 let I2:AV→AV→AV→AV→AV→AV→AH→Prop:=fun a b c v w e H'=>a=.ptr q1 0∧b=.ptr q2 0∧c=.ptr q3 0∧v=va∧∃i:Nat,e=iv (i:Int)∧i≤F0.length∧MB H q1 q2 q3 [al,mo,to,li,at_,fo] [al,mo,to,li,at_,fo,lv] [] A0 (F0.take i) va w H'
 let μ2:AV→AV→AV→AV→AV→AV→AH→Nat:=fun _ _ _ _ _ e _=>match e with
  | .int _ j=>(F0.length-j).toNat
  | _=>0
 refine⟨I2,μ2,⟨rfl,rfl,rfl,rfl,0,rfl,by omega,hP⟩,?_⟩
 clear hP
 intro e H8 hI
 obtain⟨e1,e2,e3,e4,i,e5,hi,hP⟩:=(hI:I2 (e 1) (e 2) (e 3) (e 4) (e 6) (e 7) H8)
 have hmu1:μ2 (e 1) (e 2) (e 3) (e 4) (e 6) (e 7) H8=((F0.length:Int)-(i:Int)).toNat:=by rw[e5]
 show AB (.fieldAddr 5 (.cst (e 3))) _
 rw[e1,e2,e3,e4,e5]
 generalize e 6=vf at hP
 refine AA rfl (hP.iw (x:=fo) rfl (f5.len (BT (fun hlt=>Ai ?_) (fun hlt=>AZ ?_))))
 ·refine AA rfl (hP.iw (x:=fo) rfl (f5.Ef (by omega) fun c _ hc=>?_))
  obtain⟨a,ha,hr⟩:=hc
  have ha:F0[i]?=some a:=ha
  refine hP.fp hr (by simp;omega) fun va' H9 hP=>BA (a:=(i:Int)) (b:=1) ⟨by omega,by omega⟩ ⟨⟨rfl,rfl,rfl,rfl,i+1,rfl,by omega,by rw[List.take_add_one,ha];exact hP⟩,?_⟩
  show _<μ2 (e 1) (e 2) (e 3) (e 4) (e 6) (e 7) H8
  rw[hmu1]
  show((F0.length:Int)-((i:Int)+1)).toNat<((F0.length:Int)-(i:Int)).toNat
  omega
 have hin:i=F0.length:=by omega
 subst hin
 rw[List.take_length]at hP
 clear e1 e2 e3 e4 e5 hmu1 hi hlt e
 have hP:MB H q1 q2 q3 [al,mo,to,li,at_,fo] [al,mo,to,li,at_,fo,lv] [] (run d (B_ ls 0 0)).1 (run d (B_ ls 0 0)).2 va vf H8:=by rw[HC];rw[hA0,hF0]at hP;exact hP
 let I3:AV→AV→AV→AV→AV→AV→AH→Prop:=fun a b c v w e H'=>a=.ptr q1 0∧b=.ptr q2 0∧c=.ptr q3 0∧∃i:Nat,e=iv (i:Int)∧i≤ls.length∧MB H q1 q2 q3 [al,mo,to,li,at_,fo] [al,mo,to,li,at_,fo,lv] [] (run d (B_ ls i 0)).1 (run d (B_ ls i 0)).2 v w H'
 let μ3:AV→AV→AV→AV→AV→AV→AH→Nat:=fun _ _ _ _ _ e _=>match e with
  | .int _ j=>(ls.length-j).toNat
  | _=>0
 refine⟨I3,μ3,⟨rfl,rfl,rfl,0,rfl,by omega,hP⟩,?_⟩
 clear hP
 intro e H9 hI
 obtain⟨e1,e2,e3,i,e5,hi,hP⟩:=(hI:I3 (e 1) (e 2) (e 3) (e 4) (e 6) (e 8) H9)
 have hmu3:μ3 (e 1) (e 2) (e 3) (e 4) (e 6) (e 8) H9=((ls.length:Int)-(i:Int)).toNat:=by rw[e5]
 show AB (.fieldAddr 6 (.cst (e 1))) _
 rw[e1,e2,e3,e5]
 generalize e 4=va at hP
 generalize e 6=vf at hP
 refine AA rfl (hP.kx (x:=lv) rfl (f7.len (BT (fun hlt=>Ai ?_) (fun hlt=>AZ ?_))))
 ·obtain⟨l,hl⟩:∃l,ls[i]?=some l:=⟨ls[i]'(by omega),List.getElem?_eq_getElem (by omega)⟩
  have hk1:l.length≤1000:=b4 l (List.mem_of_getElem? hl)
  let I4:AV→AV→AV→AV→AV→AV→AV→AH→Prop:=fun a b c v w e k H'=>a=.ptr q1 0∧b=.ptr q2 0∧c=.ptr q3 0∧e=iv (i:Int)∧∃j:Nat,k=iv (j:Int)∧j≤l.length∧MB H q1 q2 q3 [al,mo,to,li,at_,fo] [al,mo,to,li,at_,fo,lv] [] (run d (B_ ls i j)).1 (run d (B_ ls i j)).2 v w H'
  let μ4:AV→AV→AV→AV→AV→AV→AV→AH→Nat:=fun _ _ _ _ _ _ e _=>match e with
   | .int _ j=>(l.length-j).toNat
   | _=>0
  refine⟨I4,μ4,⟨rfl,rfl,rfl,rfl,0,rfl,by omega,hP⟩,?_⟩
  clear hP
  intro u H10 hI
  obtain⟨u1,u2,u3,u4,k,u5,hk,hP⟩:=(hI:I4 (u 1) (u 2) (u 3) (u 4) (u 6) (u 8) (u 9) H10)
  have hmu4:μ4 (u 1) (u 2) (u 3) (u 4) (u 6) (u 8) (u 9) H10=((l.length:Int)-(k:Int)).toNat:=by rw[u5]
  show AB (.fieldAddr 6 (.cst (u 1))) _
  rw[u1,u2,u3,u4,u5]
  generalize u 4=va at hP
  generalize u 6=vf at hP
  refine AA rfl (hP.kx (x:=lv) rfl (f7.Ef (by omega) fun x _ hx=>?_))
  obtain⟨l',hl',hrl⟩:∃l':List As,ls[i]?=some l'∧RS (.list B5) l' [x]:=hx
  obtain rfl:l'=l:=Option.some.inj (hl'.symm.trans hl)
  have fl:FL 2 (RE B5 l') l'.length x:=hrl.fl
  refine fl.len (BT (fun hlt2=>Ai ?_) (fun hlt2=>AZ ?_))
  ·refine AA rfl (hP.kx (x:=lv) rfl (f7.Ef (by omega) fun y _ hy=>?_))
   obtain⟨l2,hl2,hrl2⟩:∃l':List As,ls[i]?=some l'∧RS (.list B5) l' [y]:=hy
   obtain rfl:l2=l':=Option.some.inj (hl2.symm.trans hl)
   have fl2:FL 2 (RE B5 l2) l2.length y:=hrl2.fl
   refine fl2.IG (i:=k) (by omega) fun c hcl _ hc=>?_
   obtain⟨z,hz,hrz⟩:∃z:As,l2[k]?=some z∧RS B5 z c:=hc
   obtain⟨cf1,Z5,rfl,hf,hll⟩:=hrz
   obtain⟨fv,rfl⟩:=RS.one hf
   obtain⟨wv,rfl⟩:=RS.one hll
   obtain⟨f,lat⟩:=z
   have hf:RS (.list BX) f [fv]:=hf
   have hll:RS (.list BR) lat [wv]:=hll
   have hmem:(f,lat)∈ls.flatten:=List.mem_flatten.2 ⟨l2,List.mem_of_getElem? hl,List.mem_of_getElem? hz⟩
   have hq:=hb.one _ hmem
   obtain⟨rr,hrr⟩:=GZ ls i (k+1)
   have hup:=JC ls i k l2 (f,lat) hl hz
   obtain⟨p,hp⟩:∃p,p=run d (B_ ls i k):=⟨_,rfl⟩
   have hst:run d (B_ ls i (k+1))=iu p (f,lat):=by rw[hup,Fb,hp]
   have hpa:p.1.length+lat.length≤1000:=by
    have h1:=(F_ d (B_ ls i (k+1))).1
    have h2:=Ii d (B_ ls i (k+1)) rr
    rw[←hrr]at h2
    rw[hst]at h1
    have h3:(p.1++lat).length=HV d (B_ ls i (k+1)):=h1
    rw[List.length_append]at h3
    omega
   have hpf:p.2.length≤1000:=by
    obtain⟨rr0,hrr0⟩:=GZ ls i k
    have h1:=PI d (B_ ls i k)
    have h2:=PI d ls.flatten
    have h3:(B_ ls i k).length≤ls.flatten.length:=by rw[hrr0,List.length_append];omega
    rw[←hp]at h1
    omega
   rw[←hp]at hP
   obtain⟨oa,ca,of,cf,s,la,ga,lf,gf⟩:=hP.ex
   clear hP
   refine s.alloc fun q6 H11 s=>s.Cr (vs:=[fv,wv]) rfl rfl fun H12 s=>?_
   have hP:MB H q1 q2 q3 [al,mo,to,li,at_,fo] [al,mo,to,li,at_,fo,lv] [(q6,[fv,wv])] p.1 p.2 va vf H12:=by
    refine⟨oa,ca,of,cf,?_,la,ga,lf,gf⟩
    have s:BE H ((q6,[fv,wv])::((oa++of)++[(q3,[al,mo,to,li,at_,fo]),(q2,Av 6 .nils []),(q1,[al,mo,to,li,at_,fo,lv])])) H12:=by simpa using s
    have s:=s.perm (List.perm_middle (l₁:=oa++of))
    simpa using s
   refine AA rfl (s.ld (x:=fv) (.head _) rfl ?_)
   clear s la ga lf gf
   refine hP.Rb ?_
   refine BK (vU hf hq.f (by omega)) fun x7 hx7=>?_
   refine hP.fp hx7 (by omega) fun vf' H13 hP=>?_
   have fll:FL 18 (RE BR lat) lat.length wv:=hll.fl
   have hP:MB H q1 q2 q3 [al,mo,to,li,at_,fo] [al,mo,to,li,at_,fo,lv] [(q6,[fv,wv])] (p.1++lat.take 0) (p.2++[IU p.1.length f]) va vf' H13:=by rw[List.take_zero,List.append_nil];exact hP
   let I5:AV→AV→AV→AV→AV→AV→AV→AV→AV→AH→Prop:=fun a b c v w e kv x j H'=>a=.ptr q1 0∧b=.ptr q2 0∧c=.ptr q3 0∧e=iv (i:Int)∧kv=iv (k:Int)∧x=.ptr q6 0∧w=vf'∧∃n:Nat,j=iv (n:Int)∧n≤lat.length∧MB H q1 q2 q3 [al,mo,to,li,at_,fo] [al,mo,to,li,at_,fo,lv] [(q6,[fv,wv])] (p.1++lat.take n) (p.2++[IU p.1.length f]) v vf' H'
   let μ5:AV→AV→AV→AV→AV→AV→AV→AV→AV→AH→Nat:=fun _ _ _ _ _ _ _ _ e _=>match e with
    | .int _ j=>(lat.length-j).toNat
    | _=>0
   refine⟨I5,μ5,⟨rfl,rfl,rfl,rfl,rfl,rfl,rfl,0,rfl,by omega,hP⟩,?_⟩
   clear hP
   intro w H14 hI
   obtain⟨w1,w2,w3,w4,w5,w6,w7,j,w8,hj,hP⟩:=(hI:I5 (w 1) (w 2) (w 3) (w 4) (w 6) (w 8) (w 9) (w 10) (w 11) H14)
   have hmu5:μ5 (w 1) (w 2) (w 3) (w 4) (w 6) (w 8) (w 9) (w 10) (w 11) H14=((lat.length:Int)-(j:Int)).toNat:=by rw[w8]
   show AB (.fieldAddr 1 (.cst (w 10))) _
   rw[w1,w2,w3,w4,w5,w6,w7,w8]
   generalize w 4=va at hP
   obtain⟨oa,ca,of,cf,s,la,ga,lf,gf⟩:=hP.ex
   have hm6:(q6,[fv,wv])∈oa++(of++([(q6,[fv,wv])]++[(q3,[al,mo,to,li,at_,fo]),(q2,Av 6 .nils []),(q1,[al,mo,to,li,at_,fo,lv])])):=by simp
   refine AA rfl (s.ld (x:=wv) hm6 rfl (fll.len (BT (fun hlt3=>Ai ?_) (fun hlt3=>AZ ?_))))
   ·refine AA rfl (s.ld (x:=wv) hm6 rfl (fll.IG (i:=j) (by omega) fun c hcl _ hc=>?_))
    obtain⟨a,ha,hra⟩:=hc
    refine hP.fq hra rfl (by simp;omega) fun va' H15 hP=>BA (a:=(j:Int)) (b:=1) ⟨by omega,by omega⟩ ⟨⟨rfl,rfl,rfl,rfl,rfl,rfl,rfl,j+1,rfl,by omega,by rw[List.take_add_one,ha,←List.append_assoc];exact hP⟩,?_⟩
    show _<μ5 (w 1) (w 2) (w 3) (w 4) (w 6) (w 8) (w 9) (w 10) (w 11) H14
    rw[hmu5]
    show((lat.length:Int)-((j:Int)+1)).toNat<((lat.length:Int)-(j:Int)).toNat
    omega
   have hjn:j=lat.length:=by omega
   subst hjn
   rw[List.take_length]at hP
   have hP:MB H q1 q2 q3 [al,mo,to,li,at_,fo] [al,mo,to,li,at_,fo,lv] [] (run d (B_ ls i (k+1))).1 (run d (B_ ls i (k+1))).2 va vf' H14:=by
    rw[hst]
    obtain⟨oa,ca,of,cf,s,la,ga,lf,gf⟩:=hP.ex
    exact⟨oa,ca,of,cf,s.sub ((List.Sublist.refl _).append ((List.Sublist.refl _).append (List.sublist_append_right _ _))),la,ga,lf,gf⟩
   refine BA (a:=(k:Int)) (b:=1) ⟨by omega,by omega⟩ ⟨⟨rfl,rfl,rfl,rfl,k+1,rfl,by omega,hP⟩,?_⟩
   show _<μ4 (u 1) (u 2) (u 3) (u 4) (u 6) (u 8) (u 9) H10
   rw[hmu4]
   show((l2.length:Int)-((k:Int)+1)).toNat<((l2.length:Int)-(k:Int)).toNat
   omega
  ·have hkn:k=l'.length:=by omega
   subst hkn
   rw[Hm ls i l' hl]at hP
   refine BA (a:=(i:Int)) (b:=1) ⟨by omega,by omega⟩ ⟨⟨rfl,rfl,rfl,i+1,rfl,by omega,hP⟩,?_⟩
   show _<μ3 (e 1) (e 2) (e 3) (e 4) (e 6) (e 8) H9
   rw[hmu3]
   show((ls.length:Int)-((i:Int)+1)).toNat<((ls.length:Int)-(i:Int)).toNat
   omega
 have hin:i=ls.length:=by omega
 subst hin
 rw[Ky]at hP
 obtain⟨oa,ca,of,cf,s,la,ga,lf,gf⟩:=hP.ex
 have s:BE H ((oa++of)++(q3,[al,mo,to,li,at_,fo])::[(q2,Av 6 .nils []),(q1,[al,mo,to,li,at_,fo,lv])]) H9:=by simpa using s
 refine AA rfl (s.B6 la.cell rfl (nb rfl) fun H10 s=>?_)
 refine AA rfl (s.B6 lf.cell rfl (nb rfl) fun H11 s=>?_)
 have s:BE H ((oa++of)++(q3,[al,mo,to,li,va,vf])::[(q2,Av 6 .nils []),(q1,[al,mo,to,li,at_,fo,lv])]) H11:=s
 refine s.DN (c:=[al,mo,to,li,va,vf]) (List.mem_append_right _ (.head _)) rfl ?_
 have s:BE H (((oa++of)++[(q3,[al,mo,to,li,va,vf])])++(q2,Av 6 .nils [])::[(q1,[al,mo,to,li,at_,fo,lv])]) H11:=by simpa using s
 refine s.B6 rfl rfl (nb rfl) fun H12 s=>?_
 have s:BE H (((oa++of)++[(q3,[al,mo,to,li,va,vf])])++(q2,[al,mo,to,li,va,vf])::[(q1,[al,mo,to,li,at_,fo,lv])]) H12:=s
 refine s.DN (q:=q2) (c:=[al,mo,to,li,va,vf]) (List.mem_append_right _ (.head _)) rfl ?_
 obtain⟨ya,ya1,ya2⟩:=(ga.gl (R:=[])).Gs la
 obtain⟨yf,yf1,yf2⟩:=(gf.gl (R:=[])).Gs lf
 have hla:(run d ls.flatten).1.length≤100000:=by rw[(F_ d ls.flatten).1];omega
 refine s.fin (y:=.agg [al,mo,to,li,ya,yf]) (.agg (.cons (.low fun k=>RS.Vs p0 k) (.cons (.low fun k=>RS.Vs p1 k) (.cons (.low fun k=>RS.Vs p2 k) (.cons (.low fun k=>RS.Vs p3 k) (.cons (ya1.mono ?_) (.cons (yf1.mono ?_) .nil))))))) ⟨_,rfl,NJ (d:=PR d ls.flatten) p0 p1 p2 p3 (RS.of (t:=BR) (l:=(run d ls.flatten).1) hla ya2) (RS.of (t:=.list BX) (l:=(run d ls.flatten).2) (Nat.le_trans b2 (by decide)) yf2)⟩
 ·intro w hw
  simp only[List.append_nil]at hw
  simp[hw]
 ·intro w hw
  simp only[List.append_nil]at hw
  simp[hw]
end Go.Proofs.YtdcdbabponelcaaGreatDoor
namespace Go.Proofs.YtdcdbabponelcaaGreatDoor
open Go Go.AL Tryz
variable [BY]
def Ji (d:Bh.D) (ls':List (List As)) (l:List As) (fd:List Nd) (ld:List BR.D) (ok:Bool):Int × List (List As):=
 if 40<HV d (ls'++[l]).flatten+ld.length∨40<II d (ls'++[l]).flatten+fd.length then(2,ls'++[l])else if ok=true then(0,ls'++[l++[(fd,ld)]])else(1,ls'++[l])
theorem Yr {H0:AH}{L:OL}{d:Bh.D}{ls':List (List As)}{l:List As}{fd:List Nd}{ld:List BR.D}{ok:Bool}{r:Nat}:SE H0 L d ls' l fd ld ok r=G4 H0 L d (Ji d ls' l fd ld ok).2 r (iv (Ji d ls' l fd ld ok).1):=by
 unfold SE Ji
 split
 ·rfl
 ·split<;>rfl
set_option maxHeartbeats 4000000 in
theorem vo {H:AH}(hg:H.gl=BY.G){d:Bh.D}{ls':List (List As)}{l:List As}{c:List AV}{n k:Nat}(h:RS GO (d,ls'++[l]) c) (hb:L9 d (ls'++[l])) (hd:jH d n k)
  {fd:List Nd} {ld:List BR.D} {fv lv:AV} {FA:Nat→Bool} {okF:Bool} (hf:RS (.list BX) fd [fv]) (hl:RS (.list BR) ld [lv]) (hlA:FL 18 (fun i c=>∀H:AH,H.gl=BY.G→CP prog 38 [.agg c,iv (n:Int),iv (k:Int)] H fun x=>x=.bool (FA i)) ld.length lv)
  (hfF:∀H:AH,H.gl=BY.G→CP prog 37 [fv,iv (ld.length:Int)] H fun x=>x=.bool okF) (ok:Bool) (hok:ok=true↔(∀i,i<ld.length→FA i=true)∧okF=true) :
  CP prog 15 [.agg c,fv,lv] H fun x=>∃c',x=.tup [.agg c',iv (Ji d ls' l fd ld ok).1]∧RS GO (d,(Ji d ls' l fd ld ok).2) c':=by
 have hld:ld.length≤100000:=hl.le
 have hfd:fd.length≤100000:=hf.le
 obtain⟨al,mo,to,li,at_,fo,vl,rfl,h1,h2⟩:=HE h
 have f7:FL 1 (RE (.list B5) (ls'++[l])) (ls'.length+1) vl:=(@List.length_append (List As) ls' [l])▸h2.fl
 have f2:FL 18 (RE BR ld) ld.length lv:=hl.fl
 have b40:=hb.na
 have n40:=hb.nn
 have hlv41:=hb.lv
 have hlv42:ls'.length+1≤41:=(@List.length_append (List As) ls' [l])▸hlv41
 have hll:l.length≤1000:=hb.len l (by simp)
 refine CP.of (tp ?_)
 unfold rH
 try simp only[BU]
 refine(BE.start H).box rfl fun q3 H1 s=>s.alloc fun q4 H2 s=>s.DN (c:=[al,mo,to,li,at_,fo,vl]) (.tail _ (.head _)) rfl ?_
 refine BK (rh h hb) fun x hx=>?_
 obtain⟨c6,rfl,h6⟩:=hx
 obtain⟨al',mo',to',li',at',fo',rfl,_,p1,p2,_,p4,p5⟩:=CR h6
 refine s.alloc fun q7 H3 s=>s.Cr rfl rfl fun H4 s=>?_
 have hg4:H4.gl=BY.G:=s.k.gl.trans hg
 obtain⟨A,hA⟩:∃A,A=HV d (ls'++[l]).flatten:=⟨_,rfl⟩
 obtain⟨N,hN⟩:∃N,N=II d (ls'++[l]).flatten:=⟨_,rfl⟩
 have hR:Ji d ls' l fd ld ok=if 40<A+ld.length∨40<N+fd.length then(2,ls'++[l])else if ok=true then(0,ls'++[l++[(fd,ld)]])else(1,ls'++[l]):=by rw[hA,hN];rfl
 rw[←hA]at b40
 rw[←hN]at n40
 have a4:FL 18 (RE BR (run d (ls'++[l]).flatten).1) A at':=by
  have:=p4.fl
  have e:(DI (PR d (ls'++[l]).flatten).2.2.2.2.1).length=A:=(F_ d (ls'++[l]).flatten).1.trans hA.symm
  rw[e]at this;exact this
 have e5:CW (show List (List Nd)from(PR d (ls'++[l]).flatten).2.2.2.2.2)=N:=(F_ d (ls'++[l]).flatten).2.trans hN.symm
 have fm:FL 1 (RE .int (DI d.2.1)) (DI d.2.1).length mo':=p1.fl
 have ft:FL 1 (RE .int (DI d.2.2.1)) (DI d.2.2.1).length to':=p2.fl
 rw[hd.hn]at fm
 rw[hd.hk]at ft
 have hm3:(q3,[al,mo,to,li,at_,fo,vl])∈[(q7,[al',mo',to',li',at',fo']),(q4,Av 7 .nils []),(q3,[al,mo,to,li,at_,fo,vl])]:=.tail _ (.tail _ (.head _))
 have hm7:(q7,[al',mo',to',li',at',fo'])∈[(q7,[al',mo',to',li',at',fo']),(q4,Av 7 .nils []),(q3,[al,mo,to,li,at_,fo,vl])]:=.head _
 have back:∀e:Int,Ji d ls' l fd ld ok=(e,ls'++[l])→AP (.load (some 7) (.cst (.ptr q3 0))) H4 fun v33=>AW (.store 7 (.cst (.ptr q4 0)) (.cst v33)) H4 fun _ h34=>AP (.load (some 7) (.cst (.ptr q4 0))) h34 fun v35=>
   MP H (fun x=>∃c',x=.tup [.agg c',iv (Ji d ls' l fd ld ok).1]∧RS GO (d,(Ji d ls' l fd ld ok).2) c') (.ret (.tup [v35,iv e])) h34:=fun e he=>by
  rw[he]
  exact s.DN (c:=[al,mo,to,li,at_,fo,vl]) hm3 rfl (s.B6 (A:=[(q7,_)]) rfl rfl (nb rfl) fun H5 s=>s.DN (q:=q4) (c:=[al,mo,to,li,at_,fo,vl]) (.tail _ (.head _)) rfl (s.B9 (fun k=>.tup (.cons (.agg (CC k GO _ _ h)) (.cons (.int _ _) .nil))) ⟨_,rfl,h⟩))
 refine f2.len (GM (fun hbig=>BB ?_) (fun hs1=>Af ?_))
 ·exact AA rfl (BB (AA rfl (BB (AA rfl (Ai (back 2 (by rw[hR,if_pos (.inl (by omega))])))))))
 refine(show FL 3 (RE BX fd) fd.length fv from hf.fl).len (GM (fun hbig=>?_) (fun hs2=>?_))
 ·exact AA rfl (BB (AA rfl (BB (AA rfl (Ai (back 2 (by rw[hR,if_pos (.inr (by omega))])))))))
 refine AA rfl (Af ?_)
 refine AA rfl (s.ld (x:=at') hm7 rfl (a4.len (f2.len (BA ⟨by omega,by omega⟩ (GM (fun hbig=>?_) (fun hs3=>?_))))))
 ·exact AA rfl (BB (AA rfl (Ai (back 2 (by rw[hR,if_pos (.inl (by omega))])))))
 refine AA rfl (Af ?_)
 refine s.DN (c:=[al',mo',to',li',at',fo']) hm7 rfl (BK (vX h6 (by rw[e5];omega)) fun x hx=>?_)
 rw[e5]at hx
 subst hx
 refine(show FL 3 (RE BX fd) fd.length fv from hf.fl).len (BA ⟨by omega,by omega⟩ (GM (fun hbig=>?_) (fun hs4=>?_)))
 ·exact AA rfl (Ai (back 2 (by rw[hR,if_pos (.inr (by omega))])))
 have hnb:¬(40<A+ld.length∨40<N+fd.length):=by omega
 rw[if_neg hnb]at hR
 refine AA rfl (AZ (f2.len (BK (hfF H4 hg4) fun x hx=>?_)))
 subst hx
 let I1:AV→AV→AV→AV→AV→AV→AV→AH→Prop:=fun a b c e f g i H'=>a=fv∧b=lv∧c=.ptr q3 0∧e=.ptr q4 0∧f=.ptr q7 0∧∃(j:Nat) (t:Bool),g=.bool t∧i=iv (j:Int)∧j≤ld.length∧(t=true↔okF=true∧∀m,m<j→FA m=true)∧H'=H4
 let μ1:AV→AV→AV→AV→AV→AV→AV→AH→Nat:=fun _ _ _ _ _ _ e _=>match e with
  | .int _ j=>(ld.length-j).toNat
  | _=>0
 refine⟨I1,μ1,⟨rfl,rfl,rfl,rfl,rfl,0,okF,rfl,rfl,by omega,⟨fun h=>⟨h,fun m hm=>absurd hm (Nat.not_lt_zero m)⟩,fun h=>h.1⟩,rfl⟩,?_⟩
 intro e H5 hI
 obtain⟨e1,e2,e3,e4,e5',j,t,e6,e7,hj,ht,rfl⟩:=(hI:I1 (e 1) (e 2) (e 3) (e 6) (e 8) (e 9) (e 10) H5)
 have hmu1:μ1 (e 1) (e 2) (e 3) (e 6) (e 8) (e 9) (e 10) H5=((ld.length:Int)-(j:Int)).toNat:=by rw[e7]
 show AB (.len (.cst (e 2))) _
 rw[e1,e2,e3,e4,e5',e6,e7]
 refine f2.len (BT (fun hlt=>Ai ?_) (fun hlt=>AZ ?_))
 ·have go:∀t':Bool,(t'=true↔okF=true∧∀m,m<j+1→FA m=true)→AB (.bin .add (.cst (iv (j:Int))) (.cst (iv 1))) fun v59=>I1 fv lv (.ptr q3 0) (.ptr q4 0) (.ptr q7 0) (.bool t') v59 H5∧μ1 fv lv (.ptr q3 0) (.ptr q4 0) (.ptr q7 0) (.bool t') v59 H5<μ1 (e 1) (e 2) (e 3) (e 6) (e 8) (e 9) (e 10) H5:=fun t' ht'=>by
   refine BA ⟨by omega,by omega⟩ ⟨⟨rfl,rfl,rfl,rfl,rfl,j+1,t',rfl,rfl,by omega,ht',rfl⟩,?_⟩
   rw[hmu1]
   show((ld.length:Int)-((j:Int)+1)).toNat<((ld.length:Int)-(j:Int)).toNat
   omega
  cases t with
  | true=>
   refine Aj ?_
   refine hlA.IG (i:=j) (by omega) fun c hcl _ hc=>?_
   refine AA rfl (s.ld (x:=mo') hm7 rfl (fm.len ?_))
   refine AA rfl (s.ld (x:=to') hm7 rfl (ft.len ?_))
   refine BK (hc H5 hg4) fun x hx=>?_
   subst hx
   refine AA rfl (go _ ?_)
   have h0:=ht.1 rfl
   exact⟨fun h=>⟨h0.1,fun m hm=>by
    by_cases e:m=j
    ·subst e;exact h
    ·exact h0.2 m (by omega)⟩,fun h=>h.2 j (by omega)⟩
  | false=>
   refine Au (AA rfl (go false ⟨fun h=>(by cases h),fun h=>?_⟩))
   exact ht.2 ⟨h.1,fun m hm=>h.2 m (by omega)⟩
 have hjn:j=ld.length:=by omega
 subst hjn
 have htk:t=ok:=by
  have h1:t=true↔ok=true:=ht.trans (and_comm.trans hok.symm)
  cases t<;>cases ok<;>simp at h1 ⊢
 subst htk
 cases t with
 | false=>exact AA rfl (Ai (back 1 (by rw[hR];rfl)))
 | true=>
 have hR:Ji d ls' l fd ld true=(0,ls'++[l++[(fd,ld)]]):=hR
 refine AA rfl (AZ ?_)
 refine AA rfl (s.ld (x:=vl) hm3 rfl (f7.len (D4 (a:=((ls'.length+1:Nat):Int)) (b:=1) ⟨by omega,by omega⟩ ?_)))
 have em:((ls'.length+1:Nat):Int)-1=(ls'.length:Int):=by omega
 rw[em]
 refine s.new fun o v51 H6 s hl0=>?_
 have lastE:(ls'++[l])[ls'.length]?=some l:=by simp
 let I2:AV→AV→AV→AV→AV→AV→AV→AH→Prop:=fun a b c e f w i H'=>a=fv∧b=lv∧c=.ptr q3 0∧e=.ptr q4 0∧f=iv (ls'.length:Int)∧∃(j:Nat) (o:OL) (cs:List AV),i=iv (j:Int)∧j≤l.length∧BE H (o++[(q7,[al',mo',to',li',at',fo']),(q4,Av 7 .nils []),(q3,[al,mo,to,li,at_,fo,vl])]) H'∧Lv 2 o j cs w∧GX 2 (RE B5 l) j cs
 let μ2:AV→AV→AV→AV→AV→AV→AV→AH→Nat:=fun _ _ _ _ _ _ e _=>match e with
  | .int _ j=>(l.length-j).toNat
  | _=>0
 refine⟨I2,μ2,⟨rfl,rfl,rfl,rfl,rfl,0,o,[],rfl,by omega,s,hl0,.nil⟩,?_⟩
 clear hl0 s e1 e2 e3 e4 e5' e6 e7 hmu1
 intro u H7 hI
 obtain⟨u1,u2,u3,u4,u5,j,o,cs,u6,hj,s,hw,hG⟩:=(hI:I2 (u 1) (u 2) (u 3) (u 6) (u 11) (u 12) (u 13) H7)
 have hmu2:μ2 (u 1) (u 2) (u 3) (u 6) (u 11) (u 12) (u 13) H7=((l.length:Int)-(j:Int)).toNat:=by rw[u6]
 show AB (.fieldAddr 6 (.cst (u 3))) _
 rw[u1,u2,u3,u4,u5,u6]
 generalize u 12=w at hw
 have hm3:(q3,[al,mo,to,li,at_,fo,vl])∈o++[(q7,[al',mo',to',li',at',fo']),(q4,Av 7 .nils []),(q3,[al,mo,to,li,at_,fo,vl])]:=by simp
 refine AA rfl (s.ld (x:=vl) hm3 rfl (f7.Ef (i:=ls'.length) (by omega) fun x _ hx=>?_))
 obtain⟨l1,hl1,hr1⟩:∃l1:List As,(ls'++[l])[ls'.length]?=some l1∧RS (.list B5) l1 [x]:=hx
 obtain rfl:l1=l:=Option.some.inj (hl1.symm.trans lastE)
 have fl:FL 2 (RE B5 l1) l1.length x:=hr1.fl
 refine fl.len (BT (fun hlt2=>Ai ?_) (fun hlt2=>AZ ?_))
 ·refine AA rfl (s.ld (x:=vl) hm3 rfl (f7.Ef (i:=ls'.length) (by omega) fun y _ hy=>?_))
  obtain⟨l2,hl2,hr2⟩:∃l2:List As,(ls'++[l1])[ls'.length]?=some l2∧RS (.list B5) l2 [y]:=hy
  obtain rfl:l2=l1:=Option.some.inj (hl2.symm.trans lastE)
  have fl2:FL 2 (RE B5 l2) l2.length y:=hr2.fl
  refine fl2.IG (i:=j) (by omega) fun c hcl _ hc=>?_
  have hc0:=hc
  obtain⟨z,hz,hrz⟩:=hc0
  refine s.app (k:=2) (c:=c) hw hG.ln rfl hcl rfl (by omega) (by decide) fun o' v' H8 s hw'=>BA (a:=(j:Int)) (b:=1) ⟨by omega,by omega⟩ ⟨⟨rfl,rfl,rfl,rfl,rfl,j+1,o',_,rfl,by omega,s,hw',hG.Dw hcl (fun k=>CC k B5 _ _ hrz) hc⟩,?_⟩
  show _<μ2 (u 1) (u 2) (u 3) (u 6) (u 11) (u 12) (u 13) H7
  rw[hmu2]
  show((l2.length:Int)-((j:Int)+1)).toNat<((l2.length:Int)-(j:Int)).toNat
  omega
 have hjn:j=l1.length:=by omega
 subst hjn
 refine AA rfl (s.ld (x:=vl) hm3 rfl ?_)
 have hrA:RS B5 (fd,ld) [fv,lv]:=⟨[fv],[lv],rfl,hf,hl⟩
 refine AA (v:=.agg [fv,lv]) (by
  have x0:=RS.cell hf
  have x1:=RS.cell hl
  simp[Ap,B2,Ak.ev,x0,x1]) ?_
 refine Hb (s.app (k:=2) (c:=[fv,lv]) hw hG.ln rfl rfl rfl (by omega) (by decide) fun o' v' H8 s hw'=>⟨⟨s.Ei (c:=[al,mo,to,li,at_,fo,vl]) (by simp) rfl,trivial⟩,?_⟩)
 have hG:GX 2 (RE B5 (l1++[(fd,ld)])) (@List.length As (l1++[(fd,ld)])) (cs++[fv,lv]):=by
  rw[List.length_append]
  exact(hG.mono fun i c hi h=>Je hi h).Dw rfl (fun k=>CC k B5 _ _ hrA) (Jd hrA)
 have hw':Lv 2 o' (@List.length As (l1++[(fd,ld)])) (cs++[fv,lv]) v':=by rw[List.length_append];exact hw'
 obtain⟨qv,rfl,_,_⟩:=hw'.idx (i:=0) (by simp)
 obtain⟨_,_,gv⟩:=s.l _ (.head _)
 obtain⟨y,hy1,hy2⟩:=hw'.fQ gv hG
 have hry:RS (.list B5) (l1++[(fd,ld)]) [y]:=RS.of (t:=B5) (l:=l1++[(fd,ld)]) (show @List.length As (l1++[(fd,ld)])≤100000 by rw[List.length_append];show l1.length+1≤100000;omega) hy2
 refine BE.UW (A:=[]) s (ar':=[vl,iv (ls'.length:Int),y]) (.cons (.same _) (.cons (.same _) (.cons hy1 .nil))) (fun H' s'=>ou (n:=ls'.length) h2 (by simp) hry (by omega)) fun x H9 s hx=>⟨trivial,?_⟩
 have ee:(ls'++[l1]).take ls'.length++[l1++[(fd,ld)]]=ls'++[l1++[(fd,ld)]]:=by rw[List.take_left]
 rw[ee]at hx
 have hr:=NI h1 hx
 refine AA rfl (s.B6 (A:=[(q7,_),(q4,_)]) (RS.cell hx) rfl (nb rfl) fun H10 s=>⟨trivial,?_⟩)
 have s:BE H ([(q7,[al',mo',to',li',at',fo'])]++(q4,Av 7 .nils [])::[(q3,[al,mo,to,li,at_,fo,x])]) H10:=s
 refine s.DN (q:=q3) (c:=[al,mo,to,li,at_,fo,x]) (.tail _ (.tail _ (.head _))) rfl (s.B6 rfl rfl (nb rfl) fun H11 s=>?_)
 have s:BE H ([(q7,[al',mo',to',li',at',fo'])]++(q4,[al,mo,to,li,at_,fo,x])::[(q3,[al,mo,to,li,at_,fo,x])]) H11:=s
 refine s.DN (q:=q4) (c:=[al,mo,to,li,at_,fo,x]) (.tail _ (.head _)) rfl ?_
 rw[hR]
 exact s.B9 (fun k=>.tup (.cons (.agg (CC k GO _ _ hr)) (.cons (.int _ _) .nil))) ⟨_,rfl,hr⟩
end Go.Proofs.YtdcdbabponelcaaGreatDoor
