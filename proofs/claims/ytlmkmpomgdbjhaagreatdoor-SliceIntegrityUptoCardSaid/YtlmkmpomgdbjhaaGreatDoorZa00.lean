import Derived.Calls
import Derived.Laws.World
import Derived.Laws.NewBlocks
import Derived.Laws.AppendOwn
import Derived.Laws.IdiomCopy
import GoSem.ClaimKeys
import Derived.ChangeKeysEq
import Derived.Maps.Keyed
import Derived.DeepKeys3
/-
  a part of the proof.
-/
set_option linter.unusedSectionVars false
set_option linter.unusedVariables false
set_option linter.unusedSimpArgs false
set_option linter.defProp false
def Aj:=@Array.getElem?_eq_some_iff
def A4:=@Nat.le_refl
def AD:=@Option.some.injEq
def Of:=@Nat.beq_refl
def Cp:=@Nat.eq_of_beq_eq_true
def IE:=@Array.eq_empty_of_size_eq_zero
def DF:=@List.mem_cons
def AP:=@Option.map_eq_some_iff
def Fi:=@List.cons_append
def By:=@List.eq_nil_of_length_eq_zero
def OA:=@List.replicate_succ
def Oa:=@List.flatten_cons
def De:=@List.drop_drop
def EC:=@Nat.add_mul
def GY:=@Nat.one_mul
def Ov:=@List.range'_succ
def I0:=@List.mapM_cons
def FA:=@Option.map_some
def AS:=@Bool.and_eq_true
def GX:=@Option.some.inj
def I6:=@Option.getD_some
def E8:=@Bool.false_eq_true
def Fl:=@List.drop_take
def Ea:=@List.take_take
def BL:=@List.length_take
def B3:=@List.length_drop
def ED:=@List.mem_of_mem_drop
def Dq:=@List.mem_of_mem_take
def Fg:=@Nat.add_assoc
def CL:=@Int.toNat_natCast
def DY:=@Nat.mul_le_mul_right
def G_:=@Nat.zero_mul
def Iz:=@List.take_zero
def TO:=@Option.map_none
def TQ:=@List.foldl_cons
def Be:=@List.length_cons
def SA:=@Array.toList_setIfInBounds
def Nx:=@List.take_succ_eq_append_getElem
def G3:=@List.set_append_right
def GS:=@Nat.add_zero
def Fe:=@Array.length_toList
def BV:=@List.mem_append
def B1:=@List.map_cons
def LU:=@Option.bind_some
def Cx:=@List.mem_cons_of_mem
def BY:=@List.mem_cons_self
def Oq:=@Array.mapM_eq_mapM_toList
def DE:=@Array.ext'
def CW:=@List.all_eq_true
def E9:=@Option.isSome_iff_exists
def GV:=@Array.toList_map
def C5:=@Option.bind_eq_some_iff
def CJ:=@List.getElem?_eq_some_iff
def GZ:=@List.getElem?_take_of_lt
def DD:=@List.getElem?_drop
def B7:=@Nat.min_eq_left
def B5:=@List.drop_zero
def GU:=@List.take_length
def Ao:=@Prod.mk.injEq
def EU:=@Nat.mul_one
def D0:=@List.getElem?_take
def G9:=@List.length_nil
def LI:=@Array.getElem?_modify
def Fo:=@List.take_append_drop
def AX:=@List.take_of_length_le
def EZ:=@List.drop_append
def Bt:=@List.drop_of_length_le
def Ar:=@List.append_assoc
def AW:=@List.length_append
def BU:=@List.getElem?_map
def HU:=@Nat.mod_lt
def Ab:=@List.getElem?_eq_getElem
def Bk:=@List.mem_map
def TK:=@Array.size_append
def I5:=@List.size_toArray
def EA:=@List.take_append_of_le_length
def TM:=@Nat.zero_le
def DJ:=@List.append_nil
def E6:=@List.getElem?_cons_zero
def CK:=@List.mem_of_getElem?
def HX:=@Array.getElem?_setIfInBounds
def ID:=@Int.natCast_mul
def CT:=@Nat.lt_or_ge
def Og:=@List.filter_cons
def OD:=@Array.empty_append
def LQ:=@Array.getElem?_eq_getElem
def OC:=@List.contains_cons
def B9:=@List.mem_singleton
def SC:=@List.map_map
def Cq:=@Nat.le_trans
def Eb:=@Array.getD_eq_getD_getElem?
def Dz:=@List.all_cons
def Gb:=@List.flatMap_cons
def BS:=@List.mem_append_right
def Cj:=@List.mem_append_left
def Ec:=@Bool.or_eq_true
def Oj:=@Nat.testBit_two_pow
def E5:=@Bool.not_eq_true'
def Rz:=@Bool.not_eq_true
def GW:=@List.any_eq_true
def LJ:=@List.mem_range
def E7:=@List.mem_map_of_mem
def GD:=@List.pairwise_append
def IF:=@List.pairwise_cons
def TP:=@List.mem_filter
def DN:=@List.Sublist.refl
def E0:=@List.sublist_cons_self
def ET:=@List.map_append
def Ou:=@List.Sublist.append
def Au:=@List.length_map
def Nv:=@List.map_nil
def Bf:=@List.nil_append
def Ac:=@List.getD_eq_getElem?_getD
def BT:=@List.getElem?_eq_none
def DC:=@List.getElem?_of_mem
def Aa:=@Nat.le_of_ble_eq_true
def Ny:=@List.cons.injEq
def Iu:=@Nat.pow_succ
def LW:=@Nat.ble_eq_true_of_le
def EE:=@List.getElem?_range
def Ix:=@Nat.div_div_eq_div_mul
def GH:=@List.getElem?_cons_succ
def IG:=@Nat.zero_add
def I_:=@List.ext_getElem?
def WX:=@Int.negSucc_eq
def VE:=@BitVec.toNat_or
def E4:=@Int.fdiv_eq_ediv_of_nonneg
def Jv:=@Int.natCast_nonneg
def SE:=@Int.ofNat_lt
def Dr:=@List.getElem?_append_left
def C4:=@List.getElem?_append_right
def DB:=@Nat.eq_zero_or_pos
def E_:=@Nat.beq_eq
def Iy:=@List.getElem?_append
def B4:=@Nat.mod_eq_of_lt
def HZ:=@Option.isNone_iff_eq_none
def Om:=@List.all_append
def Gc:=@List.drop_eq_getElem_cons
def WV:=@List.nodup_nil
def GC:=@List.nodup_cons
def C6:=@Nat.lt_of_lt_of_le
def Oe:=@Nat.mul_le_mul
def JB:=@Nat.succ_pos
def JE:=@Int.tmod_eq_emod_of_nonneg
def Oh:=@Int.tdiv_eq_ediv_of_nonneg
def TL:=@List.mem_flatten
def G4:=@List.flatten_append
def HB:=@Nat.sub_self
def HY:=@Array.getElem?_toList
def N_:=@Nat.two_pow_add_eq_or_of_lt
def Cr:=@List.take_add_one
def Ot:=@List.flatMap_append
def G8:=@List.not_mem_nil
def HS:=@Nat.mul_comm
def Bz:=@Nat.lt_of_le_of_lt
def GG:=@List.length_eq_zero_iff
def JC:=@Nat.pow_le_pow_right
def LV:=@Nat.and_two_pow_sub_one_eq_mod
def On:=@Nat.mul_add
def OZ:=@List.drop_append_of_le_length
def Jy:=@List.perm_append_comm
def HW:=@List.perm_middle
def HV:=@BitVec.ofInt_natCast
def Jw:=@BitVec.toNat_ofNat
def R_:=@BitVec.isLt
def Od:=@UInt32.toNat_shiftLeft
def Fh:=@Nat.shiftLeft_eq
def LO:=@Nat.shiftRight_eq_div_pow
def WW:=@Int.pow_nonneg
def Ok:=@List.length_singleton
def LX:=@List.map_set
def Oo:=@List.set_cons_zero
def Ol:=@List.length_pos_iff
def LS:=@UInt32.toNat_ofNat'
def Nz:=@List.filter_eq_nil_iff
def SD:=@List.length_range
def Ga:=@Nat.shiftLeft_add_eq_or_of_lt
def LM:=@List.take_left'
def G6:=@List.drop_eq_nil_of_le
def Oc:=@Nat.testBit_two_pow_mul_add
def SB:=@Nat.two_pow_pos
def Ff:=@Nat.le_mul_of_pos_right
def EB:=@Nat.pow_lt_pow_iff_right
def Ow:=@List.filter_append
def LK:=@Nat.and_le_left
def I9:=@Array.replicate_succ
def I8:=@Array.replicate_zero
def LN:=@List.push_toArray
def JA:=@List.append_toArray
def OB:=@Nat.and_le_right
def Fm:=@List.sublist_append_right
def Ox:=@List.Sublist.trans
def Ob:=@Nat.mul_le_mul_left
def Oi:=@List.getElem?_eq_none_iff
def I7:=@List.any_cons
def JD:=@List.any_nil
namespace Go.AL
section
inductive Qe where
 | ex (m:Nat)
 | op (esz:Nat)
inductive AV where
 | unk
 | bool (b:Bool)
 | int (k:IntKind) (n:Int)
 | str (l:List UInt8)
 | nilp
 | ptr (r o:Nat)
 | pim (l:List AV) (o:Nat)
 | nils
 | sl (r o n:Nat) (lim:Qe)
 | sim (l:List AV) (n:Nat) (ex:Bool)
 | nilm
 | mp (r:Nat)
 | nilf
 | fn (f:Fn) (first cap:List AV)
 | nili
 | ifc (t:TypeId) (v:AV)
 | agg (l:List AV)
 | tup (l:List AV)
 deriving Inhabited
inductive Cw where
 | cells (l:List AV)
 | map (es:List (AV × AV × Nat)) (clock:Nat)
 | iter (m:Option Nat) (clock:Nat) (seen:List Nat) (cur:Option Nat)
structure AH where
 get:Nat->Option Cw
 next:Nat
 gl:Nat->Option Obj
namespace AH
def set (H:AH) (r:Nat) (o:Cw):AH:=⟨fun x=>if x=r then some o else H.get x,H.next,H.gl⟩
def erase (H:AH) (r:Nat):AH:=⟨fun x=>if x=r then none else H.get x,H.next,H.gl⟩
def push (H:AH) (o:Cw):AH:=⟨fun x=>if x=H.next then some o else H.get x,H.next+1,H.gl⟩
def empty:AH:=⟨fun _=>none,0,fun _=>none⟩
 @[simp] theorem UA (H:AH) (r o):(H.set r o).next=H.next:=rfl
 @[simp] theorem Vi (H:AH) (r):(H.erase r).next=H.next:=rfl
 @[simp] theorem GP (H:AH) (o):(H.push o).next=H.next+1:=rfl
theorem AU (H:AH) (r o x):(H.set r o).get x=if x=r then some o else H.get x:=rfl
theorem Ai (H:AH) (o x):(H.push o).get x=if x=H.next then some o else H.get x:=rfl
theorem get_erase (H:AH) (r x):(H.erase r).get x=if x=r then none else H.get x:=rfl
 @[simp] theorem MA (H:AH) (r o):(H.set r o).get r=some o:=by simp[AU]
 @[simp] theorem DL (H:AH) (o):(H.push o).get H.next=some o:=by simp[Ai]
theorem Eh (H:AH) {r x}(o) (h:x≠r):(H.set r o).get x=H.get x:=by simp[AU,h]
theorem Af (H:AH) {x}(o) (h:x≠H.next):(H.push o).get x=H.get x:=by simp[Ai,h]
theorem ext {H H':AH}(h:∀x,H.get x=H'.get x) (hn:H.next=H'.next) (hg:H.gl=H'.gl:=by rfl):H=H':=by
 cases H;cases H';simp at hn hg;subst hn;subst hg;congr 1;exact funext h
end AH
structure Zt where
 blk:Nat->Option Obj
 os:Os
 out:Array (Nat × ByteArray)
 P3:Addr->Bool
 old:Nat->Prop
instance:CoeFun Zt (fun _=>Nat->Option Obj):=⟨Zt.blk⟩
structure Ip where
 b:Nat
 base:Nat
 size:Nat
abbrev Sg:=Nat->Option Ip
mutual
inductive VR (Z:Zt) (σ:Sg):AV->Value->Prop
 | unk (v:Value):VR Z σ .unk v
 | bool (b:Bool):VR Z σ (.bool b) (.bool b)
 | int (k:IntKind) (n:Int):VR Z σ (.int k n) (.int k n)
 | str (l:List UInt8):VR Z σ (.str l) (.string ⟨l.toArray⟩)
 | nilp:VR Z σ .nilp (.pointer none)
 | ptr {r o:Nat} {p:Ip} (h:σ r=some p):VR Z σ (.ptr r o) (.pointer (some ⟨p.b,p.base+o,none⟩))
 | pim {l:List AV} {o b base:Nat} {c:Array Value} {e:TypeId} {fr:Nat × Nat} (hz:Z b=some (.cells c e fr))
   (h1:∀v∈(c.toList.drop base).take l.length,v.oneCell'=true) (hv:CC Z σ l ((c.toList.drop base).take l.length)):VR Z σ (.pim l o) (.pointer (some ⟨b,base+o,none⟩))
 | nils:VR Z σ .nils (.slice none 0 0)
 | slx {r o n m:Nat} {p:Ip} (h:σ r=some p) (hn:n<=m):VR Z σ (.sl r o n (.ex m)) (.slice (some ⟨p.b,p.base+o,none⟩) n m)
 | slxz {r o:Nat} {p:Ip} (h:σ r=some p) (a:Addr):VR Z σ (.sl r o 0 (.ex 0)) (.slice (some a) 0 0)
 | slo {r o n esz cap:Nat} {p:Ip} (h:σ r=some p) (hn:n<=cap) (hs:p.base+o+cap*esz<=p.size) :
   VR Z σ (.sl r o n (.op esz)) (.slice (some ⟨p.b,p.base+o,none⟩) n cap)
 | sloz {r o esz:Nat} {p:Ip} (h:σ r=some p) (a:Addr):VR Z σ (.sl r o 0 (.op esz)) (.slice (some a) 0 0)
 | sim {l:List AV} {n cap:Nat} {ex:Bool} {a:Addr} {c:Array Value} {e:TypeId} {fr:Nat × Nat} (hn:n<=cap) (hx:ex=true->cap=n) (hs:a.spot=none)
   (hz:Z a.block=some (.cells c e fr))
   (h1:∀v∈(c.toList.drop a.off).take l.length,v.oneCell'=true) (hv:CC Z σ l ((c.toList.drop a.off).take l.length)) :
   VR Z σ (.sim l n ex) (.slice (some a) n cap)
 | simz {cap:Nat} {ex:Bool} (a:Addr) (hx:ex=true->cap=0):VR Z σ (.sim [] 0 ex) (.slice (some a) 0 cap)
 | simn:VR Z σ (.sim [] 0 false) (.slice none 0 0)
 | nilm:VR Z σ .nilm (.map none)
 | mp {r:Nat} {p:Ip} (h:σ r=some p):VR Z σ (.mp r) (.map (some p.b))
 | nilf:VR Z σ .nilf .nilFunc
 | fn {f:Fn} {first cap:List AV} {vf vc:Array Value} (h1:CC Z σ first vf.toList) (h2:CC Z σ cap vc.toList):VR Z σ (.fn f first cap) (.func f vf vc)
 | nili:VR Z σ .nili .nilIface
 | ifc {t:TypeId} {x:AV} {v:Value} (h:VR Z σ x v):VR Z σ (.ifc t x) (.iface t v)
 | agg {l:List AV} {vs:Array Value} (h1:∀v∈vs.toList,v.oneCell'=true) (h:CC Z σ l vs.toList):VR Z σ (.agg l) (.agg vs)
 | tup {l:List AV} {vs:Array Value} (h:CC Z σ l vs.toList):VR Z σ (.tup l) (.tuple vs)
inductive CC (Z:Zt) (σ:Sg):List AV->List Value->Prop
 | nil:CC Z σ [] []
 | cons {x:AV} {v:Value} {l:List AV} {vs:List Value} (h:VR Z σ x v) (t:CC Z σ l vs):CC Z σ (x::l) (v::vs)
end
structure CO (Z Z':Zt):Prop where
 le:∀b o,Z b=some o->Z' b=some o
 os:Z'.os=Z.os
 out:Z'.out=Z.out
 P3:Z'.P3=Z.P3
 old:Z'.old=Z.old
def HM (Z:Zt):Prop:=∀b,Z.old b->∃o,Z b=some o
theorem HM.le {Z Z':Zt}(h:HM Z) (hl:CO Z Z'):HM Z':=fun b hb=>by
 rw[hl.old]at hb
 obtain⟨o,ho⟩:=h b hb
 exact⟨o,hl.le b o ho⟩
def LH (σ σ':Sg):Prop:=∀r p,σ r=some p->σ' r=some p
theorem CO.refl (Z:Zt):CO Z Z:=⟨fun _ _ h=>h,rfl,rfl,rfl,rfl⟩
theorem CO.trans {Z Z' Z'':Zt}(h:CO Z Z') (h':CO Z' Z''):CO Z Z'':=⟨fun _ _ x=>h'.le _ _ (h.le _ _ x),h'.os.trans h.os,h'.out.trans h.out,h'.P3.trans h.P3,h'.old.trans h.old⟩
theorem LH.refl (σ:Sg):LH σ σ:=fun _ _ h=>h
theorem LH.trans {σ σ' σ'':Sg}(h:LH σ σ') (h':LH σ' σ''):LH σ σ'':=fun _ _ x=>h' _ _ (h _ _ x)
def Zc (Z Z':Zt):Prop:=∀b c e fr,Z b=some (.cells c e fr)->Z' b=some (.cells c e fr)
theorem CO.c {Z Z':Zt}(h:CO Z Z'):Zc Z Z':=fun b _ _ _ hb=>h.le b _ hb
section
variable {Z Z':Zt}{σ σ':Sg}(hZ:Zc Z Z') (hS:LH σ σ')
 include hZ hS
theorem VR.FF {x:AV}{v:Value}(h:VR Z σ x v):VR Z' σ' x v:=by
 refine VR.rec (motive_1:=fun x v _=>VR Z' σ' x v) (motive_2:=fun l vs _=>CC Z' σ' l vs) ?_ ?_ ?_ ?_ ?_ ?_ ?_ ?_ ?_ ?_ ?_ ?_ ?_ ?_ ?_ ?_ ?_ ?_ ?_ ?_ ?_ ?_ ?_ ?_ ?_ h
 case refine_1=>exact fun v=>.unk v
 case refine_2=>exact fun v=>.bool v
 case refine_3=>exact fun k n=>.int k n
 case refine_4=>exact fun l=>.str l
 case refine_5=>exact .nilp
 case refine_6=>exact fun h=>.ptr (hS _ _ h)
 case refine_7=>exact fun hz h1 _ ih=>.pim (hZ _ _ _ _ hz) h1 ih
 case refine_8=>exact .nils
 case refine_9=>exact fun h hn=>.slx (hS _ _ h) hn
 case refine_10=>exact fun h a=>.slxz (hS _ _ h) a
 case refine_11=>exact fun h hn hs=>.slo (hS _ _ h) hn hs
 case refine_12=>exact fun h a=>.sloz (hS _ _ h) a
 case refine_13=>exact fun hn hx hs hz h1 _ ih=>.sim hn hx hs (hZ _ _ _ _ hz) h1 ih
 case refine_14=>exact fun a hx=>.simz a hx
 case refine_15=>exact .simn
 case refine_16=>exact .nilm
 case refine_17=>exact fun h=>.mp (hS _ _ h)
 case refine_18=>exact .nilf
 case refine_19=>exact fun _ _ i1 i2=>.fn i1 i2
 case refine_20=>exact .nili
 case refine_21=>exact fun _ ih=>.ifc ih
 case refine_22=>exact fun h1 _ ih=>.agg h1 ih
 case refine_23=>exact fun _ ih=>.tup ih
 case refine_24=>exact .nil
 case refine_25=>exact fun _ _ i1 i2=>.cons i1 i2
theorem CC.FF {l:List AV}{vs:List Value}(h:CC Z σ l vs):CC Z' σ' l vs:=by
 induction l generalizing vs with
 | nil=>cases h;exact .nil
 | cons x l ih=>cases h with | cons h t=>exact .cons (h.FF hZ hS) (ih t)
end
theorem VR.mono {Z Z':Zt}{σ σ':Sg}(hZ:CO Z Z') (hS:LH σ σ'){x:AV}{v:Value}(h:VR Z σ x v):VR Z' σ' x v:=h.FF hZ.c hS
theorem CC.mono {Z Z':Zt}{σ σ':Sg}(hZ:CO Z Z') (hS:LH σ σ'){l:List AV}{vs:List Value}(h:CC Z σ l vs):CC Z' σ' l vs:=h.FF hZ.c hS
theorem CC.length {Z:Zt}{σ:Sg}{l:List AV}{vs:List Value}(h:CC Z σ l vs):l.length=vs.length:=by
 induction l generalizing vs with
 | nil=>cases h;rfl
 | cons x l ih=>cases h with | cons h t=>simp[ih t]
theorem CC.get {Z:Zt}{σ:Sg}{l:List AV}{vs:List Value}(h:CC Z σ l vs){i:Nat}{x:AV}(hx:l[i]?=some x):∃v,vs[i]?=some v/\VR Z σ x v:=by
 induction l generalizing vs i with
 | nil=>simp at hx
 | cons y l ih=>
  cases h with
  | cons h t=>
   cases i with
   | zero=>simp at hx;subst hx;exact⟨_,rfl,h⟩
   | succ i=>simpa using ih t (by simpa using hx)
theorem CC.append {Z:Zt}{σ:Sg}{l l':List AV}{vs vs':List Value}(h:CC Z σ l vs) (h':CC Z σ l' vs'):CC Z σ (l++l') (vs++vs'):=by
 induction l generalizing vs with
 | nil=>cases h;exact h'
 | cons x l ih=>cases h with | cons h t=>exact .cons h (ih t)
theorem CC.take {Z:Zt}{σ:Sg}{l:List AV}{vs:List Value}(h:CC Z σ l vs) (n:Nat):CC Z σ (l.take n) (vs.take n):=by
 induction l generalizing vs n with
 | nil=>cases h;simp;exact .nil
 | cons x l ih=>cases h with | cons h t=>cases n with
  | zero=>simp;exact .nil
  | succ n=>simp;exact .cons h (ih t n)
theorem CC.drop {Z:Zt}{σ:Sg}{l:List AV}{vs:List Value}(h:CC Z σ l vs) (n:Nat):CC Z σ (l.drop n) (vs.drop n):=by
 induction l generalizing vs n with
 | nil=>cases h;simp;exact .nil
 | cons x l ih=>cases h with | cons h t=>cases n with
  | zero=>simp;exact .cons h t
  | succ n=>simp;exact ih t n
theorem CC.set {Z:Zt}{σ:Sg}{l:List AV}{vs:List Value}(h:CC Z σ l vs) (n:Nat){x:AV}{v:Value}(hx:VR Z σ x v):CC Z σ (l.set n x) (vs.set n v):=by
 induction l generalizing vs n with
 | nil=>cases h;simp;exact .nil
 | cons y l ih=>cases h with | cons h t=>cases n with
  | zero=>simp;exact .cons hx t
  | succ n=>simp;exact .cons h (ih t n)
theorem CC.iL {Z:Zt}{σ:Sg}{l:List AV}{vs:List Value}(hl:l.length=vs.length) (h:∀(i:Nat) (x:AV) (v:Value),l[i]?=some x->vs[i]?=some v->VR Z σ x v):CC Z σ l vs:=by
 induction l generalizing vs with
 | nil=>cases vs with | nil=>exact .nil | cons _ _=>simp at hl
 | cons x l ih=>cases vs with
  | nil=>simp at hl
  | cons v vs=>exact .cons (h 0 x v rfl rfl) (ih (by simpa using hl) fun i y w hy hw=>h (i+1) y w (by simpa using hy) (by simpa using hw))
def pH (fr:Nat × Nat) (n:Nat):Prop:=fr=(0,0)\/fr=(n,n+1)
theorem pH.not {fr:Nat × Nat}{n:Nat}(h:pH fr n) (i:Nat) (hi:i<n):¬(fr.1<=i/\i<fr.2):=by
 rcases h with rfl | rfl<;>simp<;>omega
inductive IZ (Z:Zt) (σ:Sg) (w:World) (p:Ip):Cw->Prop
 | cells {l:List AV} {c:Array Value} {e:TypeId} {fr:Nat × Nat} (hb:w.heap[p.b]?=some (.cells c e fr)) (hs:c.size=p.size) (hf:pH fr c.size)
   (hl:p.base+l.length<=c.size) (hv:CC Z σ l ((c.toList.drop p.base).take l.length)) (h1:∀v∈(c.toList.drop p.base).take l.length,v.oneCell'=true):IZ Z σ w p (.cells l)
 | map {es:List (AV × AV × Nat)} {clock:Nat} {ms:Array MapEntry} (hb:w.heap[p.b]?=some (.map ms clock)) (hn:ms.size=es.length)
   (he:∀(i:Nat) (k x:AV) (n:Nat),es[i]?=some (k,x,n)->∃m,ms[i]?=some m/\VR Z σ k m.key/\VR Z σ x m.val/\m.born=n):IZ Z σ w p (.map es clock)
 | iter {m:Option Nat} {clock:Nat} {seen:List Nat} {cur:Option Nat} {mb:Option Nat} {sn:Array Nat} (hb:w.heap[p.b]?=some (.mapIter mb clock sn clock)) (h0:p.base=0) (hm:(m=none/\mb=none)\/∃r q,m=some r/\σ r=some q/\mb=some q.b)
   (hs:∀x,sn.contains x=seen.contains x) (hc:∀c,cur=some c->sn.back?=some c):IZ Z σ w p (.iter m clock seen cur)
def fp (o:Obj):Prop:=∃c e fr,o=.cells c e fr
def Nh (g:Nat->Option Obj) (Z:Zt) (w:World):Prop:=w.os=Z.os/\w.output=Z.out/\∀b o,g b=some o->Z b=some o/\fp o
def Rest (w w':World):Prop:=w'.os=w.os/\w'.output=w.output
theorem Rest.refl (w:World):Rest w w:=⟨rfl,rfl⟩
theorem Nh.to {g:Nat->Option Obj}{Z:Zt}{w w':World}(h:Nh g Z w) (hr:Rest w w'):Nh g Z w':=⟨hr.1.trans h.1,hr.2.trans h.2.1,h.2.2⟩
theorem Nh.le {g:Nat->Option Obj}{Z Z':Zt}{w:World}(h:Nh g Z w) (hl:CO Z Z'):Nh g Z' w:=⟨h.1.trans hl.os.symm,h.2.1.trans hl.out.symm,fun b o hb=>⟨hl.le _ _ (h.2.2 b o hb).1,(h.2.2 b o hb).2⟩⟩
theorem Rest.alloc (w:World) (c:Array Value) (t:TypeId):Rest w (w.alloc (.cells c t)):=⟨rfl,rfl⟩
theorem Rest.WG (w:World) (o:Obj):Rest w (w.alloc o):=⟨rfl,rfl⟩
structure WR (Z:Zt) (σ:Sg) (H:AH) (w:World):Prop where
 z:∀b o,Z b=some o->w.heap[b]?=some o
 h:∀r o p,H.get r=some o->σ r=some p->Z p.b=none/\IZ Z σ w p o
 inj:∀r r' o o' p p',H.get r=some o->H.get r'=some o'->σ r=some p->σ r'=some p'->p.b=p'.b->r=r'
 fresh:∀r,H.next<=r->σ r=none
 top:∀r,H.next<=r->H.get r=none
 rest:Nh H.gl Z w
theorem WR.congr {Z:Zt}{σ:Sg}{H:AH}{w w':World}(h:WR Z σ H w) (hh:w'.heap=w.heap) (ho:w'.os=w.os) (hu:w'.output=w.output):WR Z σ H w':=by
 refine⟨fun b o hz=>by rw[hh];exact h.z b o hz,fun r o p hr hp=>?_,h.inj,h.fresh,h.top,h.rest.to ⟨ho,hu⟩⟩
 obtain⟨h1,h2⟩:=h.h r o p hr hp
 refine⟨h1,?_⟩
 cases h2 with
 | cells hb hs hf hl hv h1=>exact .cells (by rw[hh];exact hb) hs hf hl hv h1
 | map hb hn he=>exact .map (by rw[hh];exact hb) hn he
 | iter hb h0 hm hs hc=>exact .iter (by rw[hh];exact hb) h0 hm hs hc
theorem IZ.mono {Z Z':Zt}{σ σ':Sg}(hZ:CO Z Z') (hS:LH σ σ') {w w':World}{p:Ip}{o:Cw}(hh:w'.heap[p.b]?=w.heap[p.b]?) (h:IZ Z σ w p o):IZ Z' σ' w' p o:=by
 cases h with
 | cells hb hs hf hl hv h1=>exact .cells (by rw[hh];exact hb) hs hf hl (hv.mono hZ hS) h1
 | map hb hn he=>
  refine .map (by rw[hh];exact hb) hn fun i k x n hi=>?_
  obtain⟨m,h1,h2,h3,h4⟩:=he i k x n hi
  exact⟨m,h1,h2.mono hZ hS,h3.mono hZ hS,h4⟩
 | iter hb h0 hm hs hc=>exact .iter (by rw[hh];exact hb) h0 (hm.imp_right fun⟨r,q,h1,h2,h3⟩=>⟨r,q,h1,hS _ _ h2,h3⟩) hs hc
theorem IZ.lt {Z:Zt}{σ:Sg}{w:World}{p:Ip}{o:Cw}(h:IZ Z σ w p o):p.b<w.heap.size:=by
 cases h with
 | cells hb=>exact(Aj.1 hb).1
 | map hb=>exact(Aj.1 hb).1
 | iter hb=>exact(Aj.1 hb).1
def Sg.add (σ:Sg) (r:Nat) (p:Ip):Sg:=fun x=>if x=r then some p else σ x
theorem Sg.F9 {σ:Sg}{r:Nat}{p:Ip}(h:σ r=none):LH σ (σ.add r p):=fun x q hx=>by
 unfold Sg.add;split
 ·rename_i e;subst e;rw[h]at hx;cases hx
 ·exact hx
theorem Sg.add_same (σ:Sg) (r:Nat) (p:Ip):σ.add r p r=some p:=by simp[Sg.add]
theorem EV (w:World) (o:Obj){b:Nat}(h:b<w.heap.size):(w.alloc o).heap[b]?=w.heap[b]?:=by
 simp only[World.alloc,Array.getElem?_push];rw[if_neg (by omega)]
theorem Dk (w:World) (o:Obj):(w.alloc o).heap[w.heap.size]?=some o:=by show(w.heap.push o)[w.heap.size]?=some o;simp
theorem WR.push {Z:Zt}{σ:Sg}{H:AH}{w:World}(h:WR Z σ H w){o:Obj}{ao:Cw}{p:Ip}(hp:p.b=w.heap.size) (ho:IZ Z (σ.add H.next p) (w.alloc o) p ao) (hfz:Rest w (w.alloc o)) :
  WR Z (σ.add H.next p) (H.push ao) (w.alloc o):=by
 have hf:σ H.next=none:=h.fresh _ (A4 _)
 have hlt:∀r o' p',H.get r=some o'->σ r=some p'->p'.b<w.heap.size:=fun r o' p' h1 h2=>(h.h r o' p' h1 h2).2.lt
 have hne:∀r q,σ r=some q->r≠H.next:=fun r q hq e=>by subst e;rw[hf]at hq;cases hq
 refine⟨fun b o' hz=>?_,fun r o' p' hr hp'=>?_,fun r r' o1 o2 p1 p2 h1 h2 h3 h4 he=>?_,fun r hr=>?_,fun r hr=>?_,h.rest.to hfz⟩
 ·have:=h.z b o' hz
  rw[EV w o (Aj.1 this).1];exact this
 ·by_cases e:r=H.next
  ·subst e
   simp only[AH.DL,AD]at hr
   simp only[Sg.add_same,AD]at hp'
   subst hr;subst hp'
   refine⟨?_,ho⟩
   cases hz:Z p.b with
   | none=>rfl
   | some x=>have:=(Aj.1 (h.z _ _ hz)).1;omega
  ·rw[AH.Af _ _ e]at hr
   have hp'':σ r=some p':=by simpa[Sg.add,e]using hp'
   obtain⟨h1,h2⟩:=h.h r o' p' hr hp''
   exact⟨h1,h2.mono (CO.refl _) (Sg.F9 hf) (EV w o h2.lt)⟩
 ·by_cases e1:r=H.next<;>by_cases e2:r'=H.next
  ·rw[e1,e2]
  ·rw[AH.Af _ _ e2]at h2
   have h4':σ r'=some p2:=by simpa[Sg.add,e2]using h4
   subst e1
   simp only[Sg.add_same,AD]at h3
   subst h3
   have:=hlt _ _ _ h2 h4'
   omega
  ·rw[AH.Af _ _ e1]at h1
   have h3':σ r=some p1:=by simpa[Sg.add,e1]using h3
   subst e2
   simp only[Sg.add_same,AD]at h4
   subst h4
   have:=hlt _ _ _ h1 h3'
   omega
  ·rw[AH.Af _ _ e1]at h1
   rw[AH.Af _ _ e2]at h2
   exact h.inj r r' o1 o2 p1 p2 h1 h2 (by simpa[Sg.add,e1]using h3) (by simpa[Sg.add,e2]using h4) he
 ·simp only[AH.GP]at hr
  have:r≠H.next:=by omega
  simp only[Sg.add,this,if_false]
  exact h.fresh r (by omega)
 ·simp only[AH.GP]at hr
  rw[AH.Af _ _ (by omega)];exact h.top r (by omega)
theorem WR.update {Z:Zt}{σ:Sg}{H:AH}{w w':World}(h:WR Z σ H w){r:Nat}{o o':Cw}{p:Ip}(hr:H.get r=some o) (hp:σ r=some p)
  (hother:∀b,b≠p.b->w'.heap[b]?=w.heap[b]?) (hrest:Rest w w') (ho:IZ Z σ w' p o'):WR Z σ (H.set r o') w':=by
 have hz0:=(h.h r o p hr hp).1
 refine⟨fun b x hz=>?_,fun q x p' hq hp'=>?_,fun r1 r2 o1 o2 p1 p2 h1 h2 h3 h4 he=>?_,h.fresh,fun q hq=>?_,h.rest.to hrest⟩
 ·rw[hother b (fun e=>by subst e;rw[hz0]at hz;cases hz)];exact h.z b x hz
 ·by_cases e:q=r
  ·subst e
   simp only[AH.MA,AD]at hq
   rw[hp]at hp';cases hp'
   subst hq
   exact⟨hz0,ho⟩
  ·rw[AH.Eh _ _ e]at hq
   obtain⟨h1,h2⟩:=h.h q x p' hq hp'
   exact⟨h1,h2.mono (CO.refl _) (LH.refl _) (hother _ fun e'=>e (h.inj q r x o p' p hq hr hp' hp e'))⟩
 ·have g1:∃o,H.get r1=some o:=by
   by_cases e:r1=r
   ·subst e;exact⟨_,hr⟩
   ·rw[AH.Eh _ _ e]at h1;exact⟨_,h1⟩
  have g2:∃o,H.get r2=some o:=by
   by_cases e:r2=r
   ·subst e;exact⟨_,hr⟩
   ·rw[AH.Eh _ _ e]at h2;exact⟨_,h2⟩
  obtain⟨x1,g1⟩:=g1
  obtain⟨x2,g2⟩:=g2
  exact h.inj r1 r2 x1 x2 p1 p2 g1 g2 h3 h4 he
 ·have hne:q≠r:=fun e=>by subst e;rw[h.top q hq]at hr;cases hr
  rw[AH.Eh _ _ hne];exact h.top q hq
theorem WR.sub {Z:Zt}{σ:Sg}{H H':AH}{w:World}(h:WR Z σ H w) (hn:H'.next=H.next) (hs:∀r o,H'.get r=some o->H.get r=some o) (hg:H'.gl=H.gl:=by rfl):WR Z σ H' w:=
 ⟨h.z,fun r o p hr hp=>h.h r o p (hs r o hr) hp,fun r r' o o' p p' h1 h2=>h.inj r r' o o' p p' (hs _ _ h1) (hs _ _ h2),fun r hr=>h.fresh r (by omega),fun r hr=>(by
  cases hh:H'.get r with
  | none=>rfl
  | some o=>have:=hs r o hh;rw[h.top r (by omega)]at this;cases this),by rw[hg];exact h.rest⟩
def Zt.add (Z:Zt) (b:Nat) (o:Obj):Zt:={ Z with blk:=fun x=>if x=b then some o else Z x }
theorem Zt.F9 {Z:Zt}{b:Nat}{o:Obj}(h:∀x,Z b=some x->x=o):CO Z (Z.add b o):=⟨fun x y hx=>(by
 simp only[Zt.add];split
 ·rename_i e;subst e;rw[h y hx]
 ·exact hx),rfl,rfl,rfl,rfl⟩
theorem Zt.add_same (Z:Zt) (b:Nat) (o:Obj):Z.add b o b=some o:=by simp[Zt.add]
theorem WR.freeze {Z:Zt}{σ:Sg}{H:AH}{w:World}(h:WR Z σ H w){r:Nat}{o:Cw}{p:Ip}{ob:Obj}(hr:H.get r=some o) (hp:σ r=some p) (hb:w.heap[p.b]?=some ob) :
  WR (Z.add p.b ob) σ (H.erase r) w/\CO Z (Z.add p.b ob):=by
 have hz0:=(h.h r o p hr hp).1
 have hle:CO Z (Z.add p.b ob):=Zt.F9 (fun x hx=>by rw[hz0]at hx;cases hx)
 refine⟨⟨fun b x hz=>?_,fun q x p' hq hp'=>?_,fun r1 r2 o1 o2 p1 p2 h1 h2=>?_,h.fresh,fun q hq=>?_,h.rest.le hle⟩,hle⟩
 ·simp only[Zt.add]at hz;split at hz
  ·rename_i e;subst e;cases hz;exact hb
  ·exact h.z b x hz
 ·have hne:q≠r:=fun e=>by subst e;simp[AH.get_erase]at hq
  have hq':H.get q=some x:=by simpa[AH.get_erase,hne]using hq
  obtain⟨h1,h2⟩:=h.h q x p' hq' hp'
  refine⟨?_,h2.mono hle (LH.refl _) rfl⟩
  simp only[Zt.add];split
  ·rename_i e;exact absurd (h.inj q r x o p' p hq' hr hp' hp e) hne
  ·exact h1
 ·have n1:r1≠r:=fun e=>by subst e;simp[AH.get_erase]at h1
  have n2:r2≠r:=fun e=>by subst e;simp[AH.get_erase]at h2
  exact h.inj r1 r2 o1 o2 p1 p2 (by simpa[AH.get_erase,n1]using h1) (by simpa[AH.get_erase,n2]using h2)
 ·simp only[AH.get_erase]
  split
  ·rfl
  ·exact h.top q hq
end
abbrev Env:=Nat->AV
def Env.set (e:Env) (d:Nat) (v:AV):Env:=fun x=>bif Nat.beq x d then v else e x
theorem Env.AN (e:Env) (d x:Nat) (v:AV):e.set d v x=if x=d then v else e x:=by
 unfold Env.set
 by_cases h:x=d
 ·subst h;rw[Of,if_pos rfl];rfl
 ·have:Nat.beq x d=false:=by
   cases hb:Nat.beq x d with
   | false=>rfl
   | true=>exact absurd (Cp hb) h
  rw[this,if_neg h];rfl
 @[simp] theorem Env.Fu (e:Env) (d:Nat) (v:AV):e.set d v d=v:=by rw[Env.AN,if_pos rfl]
theorem Env.Gf (e:Env) {d x:Nat}(v:AV) (h:x≠d):e.set d v x=e x:=by rw[Env.AN,if_neg h]
inductive AE where
 | tmp (t:Nat)
 | cst (v:AV)
 | fnc (f:FuncId)
def AE.ev (e:Env):AE->AV
 | .tmp t=>e t
 | .cst v=>v
 | .fnc f=>.fn (.func f) [] []
inductive SK where
 | b
 | i (q:IntKind)
 | s
 deriving DecidableEq
def YT:SK->AV->Option Lit
 | .b,.bool b=>some (.bool b)
 | .i q,.int q' n=>if q'=q/\(Lit.int q n).wf=true then some (.int q n)else none
 | .s,.str l=>if l.length<=maxLen then some (.string l)else none
 | _,_=>none
def Rp:List SK->List AV->Option (List Lit)
 | [],[]=>some []
 | k::ks,v::vs=>match YT k v,Rp ks vs with
  | some l,some ls=>some (l::ls)
  | _,_=>none
 | _,_=>none
def MM (ty:Bool × List SK) (x:AV):Option (List Lit):=match ty.1,ty.2,x with
 | true,ks,.agg l=>Rp ks l
 | false,[k],x=>(YT k x).map fun l=>[l]
 | _,_,_=>none
def XB:Lit->Lit->Bool
 | .bool a,.bool b=>a==b
 | .int k n,.int k' n'=>decide (k=k')&&decide (n=n')
 | .float k n,.float k' n'=>decide (k=k')&&decide (n=n')
 | .string a,.string b=>decide (a=b)
 | .nil,.nil=>true
 | _,_=>false
theorem X4 {a b:Lit}:XB a b=true↔a=b:=by cases a<;>cases b<;>simp[XB]
def FH:List Lit->List Lit->Bool
 | [],[]=>true
 | a::l,b::r=>XB a b&&FH l r
 | _,_=>false
theorem Eg:∀{a b:List Lit},FH a b=true↔a=b
 | [],[]=>by simp[FH]
 | [],_::_=>by simp[FH]
 | _::_,[]=>by simp[FH]
 | a::l,b::r=>by simp[FH,X4,Eg (a:=l) (b:=r)]
inductive ky where
 | bool
 | slice
 | iface
 | ptr
 | wide (ty:Bool × List SK)
def Yg (t:ky) (x y:AV):Option Bool:=
 match t with
 | .bool=>match x,y with
  | .bool a,.bool b=>some (a==b)
  | _,_=>none
 | .slice=>match x,y with
  | .nils,.nils=>some true
  | .nils,.sl _ _ _ _=>some false
  | .sl _ _ _ _,.nils=>some false
  | .nils,.sim _ n ex=>if 0<n\/ex=true then some false else none
  | .sim _ n ex,.nils=>if 0<n\/ex=true then some false else none
  | _,_=>none
 | .iface=>match x,y with
  | .nili,.nili=>some true
  | .nili,.ifc _ _=>some false
  | .ifc _ _,.nili=>some false
  | _,_=>none
 | .ptr=>match x,y with
  | .nilp,.nilp=>some true
  | .nilp,.ptr _ _=>some false
  | .ptr _ _,.nilp=>some false
  | .nilp,.pim _ _=>some false
  | .pim _ _,.nilp=>some false
  | _,_=>none
 | .wide ty=>match MM ty x,MM ty y with
  | some a,some b=>some (FH a b)
  | _,_=>none
inductive AK where
 | move (x:AE)
 | pick (c a b:AE)
 | build (z:List AV) (parts:List (Nat × Nat × AE))
 | nilCheck (x:AE)
 | bin (op:BinOp) (x y:AE)
 | un (op:UnOp) (x:AE)
 | convI (k:IntKind) (x:AE)
 | convS (x:AE)
 | mkIface (t:TypeId) (x:AE)
 | mkFunc (fn:Fn) (first cap:List AE)
 | fieldAddr (off:Nat) (x:AE)
 | field (agg:Option Nat) (off:Nat) (x:AE)
 | indexAddrA (n esz:Nat) (x i:AE)
 | indexAddrS (esz:Nat) (x i:AE)
 | indexA (n esz:Nat) (agg:Option Nat) (x i:AE)
 | indexStr (x i:AE)
 | extract (i:Nat) (x:AE)
 | sliceStr (x:AE) (lo hi:Option AE)
 | sliceS (esz:Nat) (x:AE) (lo hi mx:Option AE)
 | sliceA (n esz:Nat) (x:AE) (lo hi mx:Option AE)
 | len (x:AE)
 | lenStr (x:AE)
 | lenA (n:Nat)
 | minmax (isMax:Bool) (x y:AE)
 | load (agg:Option Nat) (x:AE)
 | strOfBytes (x:AE)
 | alloc (z:List AV)
 | box (x:AE)
 | buildSlice (esz len:Nat) (z:List AV) (parts:List (Nat × Nat × AE))
 | mkSlice (esz bytes:Nat) (z:List AV) (l c:AE)
 | store (n:Nat) (x v:AE)
 | append (esz bytes:Nat) (s x:AE)
 | call (f:AE) (args:List AE)
 | defer (f:AE) (args:List AE)
 | panic (x:AE)
 | recover
 | eq (neg:Bool) (t:ky) (x y:AE)
 | minmax3 (isMax:Bool) (x y z:AE)
 | cap (x:AE)
 | mark (x:AE)
 | appendZ (esz bytes:Nat) (z:List AV) (s n:AE)
 | makeMap
 | lookup (ty:Bool × List SK) (z:AV) (ok:Bool) (m k:AE)
 | mapUpd (ty:Bool × List SK) (m k v:AE)
 | lenMap (m:AE)
 | tass (t:TypeId) (z:AV) (x:AE)
 | bytesOf (x:AE)
 | Is (esz:Nat) (z:List AV) (x:AE)
 | ext (c:Bool) (x y:AE)
 | copy (esz:Nat) (x y:AE)
 | rangeM (x:AE)
 | nextM (x:AE)
 | entryM (x:AE)
 | gld (agg:Option Nat) (g:Nat)
def AV.nu:AV->Bool
 | .unk | .agg _ | .tup _=>false
 | _=>true
def AV.cellsOf:AV->Option (List AV)
 | .agg l=>some l
 | .unk | .tup _=>none
 | v=>some [v]
def AH.cells? (H:AH) (r:Nat):Option (List AV):=match H.get r with | some (.cells l)=>some l | _=>none
def AV.pick (p:Bool) (x y:AV):AV:=
 match x,y with
 | .bool u,.bool v=>.bool (bif p then u else v)
 | x,y=>bif p then x else y
def Dj (op:BinOp) (x y:AV):Option AV:=
 match x,y with
 | .int k a,.int k' b=>
  match op with
  | .shl=>if 0<=b then some (.int k (k.wrap (a*2 ^ (min b.toNat k.bits))))else none
  | .shr=>if 0<=b then some (.int k (a.fdiv (2 ^ (min b.toNat k.bits))))else none
  | .add=>if k=k' then some (.int k (k.wrap (a+b)))else none
  | .sub=>if k=k' then some (.int k (k.wrap (a-b)))else none
  | .mul=>if k=k' then some (.int k (k.wrap (a*b)))else none
  | .quo=>if k=k'/\b≠0 then some (.int k (k.wrap (a.tdiv b)))else none
  | .rem=>if k=k'/\b≠0 then some (.int k (a.tmod b))else none
  | .and=>if k=k' then some (.int k (k.wrap (BitVec.ofInt k.bits a &&& BitVec.ofInt k.bits b).toNat))else none
  | .or=>if k=k' then some (.int k (k.wrap (BitVec.ofInt k.bits a ||| BitVec.ofInt k.bits b).toNat))else none
  | .xor=>if k=k' then some (.int k (k.wrap (BitVec.ofInt k.bits a ^^^ BitVec.ofInt k.bits b).toNat))else none
  | .andNot=>if k=k' then some (.int k (k.wrap (BitVec.ofInt k.bits a &&& ~~~ BitVec.ofInt k.bits b).toNat))else none
  | .eql=>if k=k' then some (.bool (a==b))else none
  | .neq=>if k=k' then some (.bool (a != b))else none
  | .lss=>if k=k' then some (.bool (decide (a<b)))else none
  | .leq=>if k=k' then some (.bool (decide (a<=b)))else none
  | .gtr=>if k=k' then some (.bool (decide (a>b)))else none
  | .geq=>if k=k' then some (.bool (decide (a>=b)))else none
 | .str a,.str b=>
  match op with
  | .add=>if a.length+b.length<=9223372036854775807 then some (.str (a++b))else none
  | .eql=>some (.bool (a==b))
  | .neq=>some (.bool (!(a==b)))
  | _=>none
 | _,_=>none
def km (op:UnOp) (x:AV):Option AV:=
 match op,x with
 | .neg,.int k n=>some (.int k (k.wrap (0-n)))
 | .xor,.int k n=>some (.int k (k.wrap (BitVec.ofInt k.bits (if k.signed then -1 else k.max) ^^^ BitVec.ofInt k.bits n).toNat))
 | .not,.bool b=>some (.bool !b)
 | _,_=>none
def Bv (e:Env) (cells:List AV):List (Nat × Nat × AE)->Option (List AV)
 | []=>some cells
 | (off,n,x)::rest=>
  match (x.ev e).cellsOf with
  | none=>none
  | some l=>if l.length=n/\off+n<=cells.length then Bv e (cells.take off++l++cells.drop (off+n)) rest else none
def AE.ints (e:Env) (o:Option AE):Option (Option Int):=
 match o with
 | none=>some none
 | some x=>match x.ev e with
  | .int _ n=>some (some n)
  | _=>none
def Mu (esz:Nat) (x:AV) (lo hi mx:Option Int):Option AV:=
 match x with
 | .nils=>if lo.getD 0=0/\hi.getD 0=0/\mx.getD 0=0 then some .nils else none
 | .sl r o n (.ex m)=>
  if 0<=lo.getD 0/\lo.getD 0<=hi.getD n/\hi.getD n<=mx.getD m/\mx.getD m<=m then some (.sl r (o+(lo.getD 0).toNat*esz) (hi.getD n-lo.getD 0).toNat (.ex (mx.getD m-lo.getD 0).toNat))else none
 | .sl r o n (.op es)=>
  match mx with
  | none=>if es=esz/\0<=lo.getD 0/\lo.getD 0<=hi.getD n/\hi.getD n<=n then some (.sl r (o+(lo.getD 0).toNat*esz) (hi.getD n-lo.getD 0).toNat (.op esz))else none
  | some q=>if 0<=lo.getD 0/\lo.getD 0<=hi.getD n/\hi.getD n<=q/\q<=n then some (.sl r (o+(lo.getD 0).toNat*esz) (hi.getD n-lo.getD 0).toNat (.ex (q-lo.getD 0).toNat))else none
 | .sim c n ex=>
  match mx with
  | none=>if 0<=lo.getD 0/\lo.getD 0<=hi.getD n/\hi.getD n<=n then some (.sim ((c.drop ((lo.getD 0).toNat*esz)).take ((hi.getD n-lo.getD 0).toNat*esz)) (hi.getD n-lo.getD 0).toNat (ex&&decide (hi.getD n=n)))else none
  | some q=>if 0<=lo.getD 0/\lo.getD 0<=hi.getD n/\hi.getD n<=q/\q<=n then some (.sim ((c.drop ((lo.getD 0).toNat*esz)).take ((hi.getD n-lo.getD 0).toNat*esz)) (hi.getD n-lo.getD 0).toNat (decide (hi.getD n=q)&&(decide (0<n)||ex)))else none
 | _=>none
def YU:AV->Option Nat
 | .sl _ _ n _=>some n
 | .sim _ n _=>some n
 | .nils=>some 0
 | _=>none
def Ik:AV->Option AV
 | .ptr r o=>some (.ptr r o)
 | .pim l o=>some (.pim l o)
 | .fn (.func f) a b=>some (.fn (.func f) a b)
 | _=>none
def Fc (off:Nat):AV->Option AV
 | .ptr r o=>some (.ptr r (o+off))
 | .pim l o=>some (.pim l (o+off))
 | _=>none
def Ke (n esz:Nat) (x i:AV):Option AV:=
 match x,i with
 | .ptr r o,.int _ j=>if 0<=j/\j<n then some (.ptr r (o+j.toNat*esz))else none
 | .pim l o,.int _ j=>if 0<=j/\j<n then some (.pim l (o+j.toNat*esz))else none
 | _,_=>none
def Ey (esz:Nat) (x i:AV):Option AV:=
 match x,i with
 | .sl r o n _,.int _ j=>if 0<=j/\j<n then some (.ptr r (o+j.toNat*esz))else none
 | .sim l n _,.int _ j=>if 0<=j/\j<n then some (.pim l (j.toNat*esz))else none
 | _,_=>none
def apart (agg:Option Nat) (l:List AV) (off:Nat):Option AV:=
 match agg with
 | some n=>if off+n<=l.length then some (.agg ((l.drop off).take n))else none
 | none=>l[off]?
def qW (isMax:Bool) (a b:Int):Int:=if isMax then(if b>a then b else a)else(if b<a then b else a)
def AJ (k:AK) (e:Env):Option AV:=
 match k with
 | .move x=>some (x.ev e)
 | .pick c a b=>match c.ev e with
  | .bool p=>some (.pick p (a.ev e) (b.ev e))
  | _=>none
 | .build z ps=>(Bv e z ps).map .agg
 | .nilCheck x=>Ik (x.ev e)
 | .bin op x y=>Dj op (x.ev e) (y.ev e)
 | .un op x=>km op (x.ev e)
 | .convI k x=>match x.ev e with
  | .int _ n=>some (.int k (k.wrap n))
  | _=>none
 | .convS x=>match x.ev e with
  | .str l=>some (.str l)
  | _=>none
 | .mkIface t x=>some (.ifc t (x.ev e))
 | .mkFunc fn first cap=>some (.fn fn (first.map (·.ev e)) (cap.map (·.ev e)))
 | .fieldAddr off x=>Fc off (x.ev e)
 | .field agg off x=>match x.ev e with
  | .agg l=>apart agg l off
  | _=>none
 | .indexAddrA n esz x i=>Ke n esz (x.ev e) (i.ev e)
 | .indexAddrS esz x i=>Ey esz (x.ev e) (i.ev e)
 | .indexA n esz agg x i=>match x.ev e,i.ev e with
  | .agg l,.int _ j=>if 0<=j/\j<n then apart agg l (j.toNat*esz)else none
  | _,_=>none
 | .indexStr x i=>match x.ev e,i.ev e with
  | .str l,.int _ j=>if 0<=j then(l[j.toNat]?).map fun b=>.int .u8 b.toNat else none
  | _,_=>none
 | .extract i x=>match x.ev e with
  | .tup l=>l[i]?
  | _=>none
 | .sliceStr x lo hi=>match x.ev e with
  | .str s=>match AE.ints e lo,AE.ints e hi with
   | some l,some h=>if 0<=l.getD 0/\l.getD 0<=h.getD s.length/\h.getD s.length<=s.length then some (.str ((s.drop (l.getD 0).toNat).take (h.getD s.length-l.getD 0).toNat))else none
   | _,_=>none
  | _=>none
 | .sliceS esz x lo hi mx=>
  match AE.ints e lo,AE.ints e hi,AE.ints e mx with
  | some l,some h,some q=>if q.isSome=true->h.isSome=true then Mu esz (x.ev e) l h q else none
  | _,_,_=>none
 | .sliceA n esz x lo hi mx=>
  match x.ev e with
  | .ptr r o=>match AE.ints e lo,AE.ints e hi,AE.ints e mx with
   | some l,some h,some q=>if (q.isSome=true->h.isSome=true)/\0<=l.getD 0/\l.getD 0<=h.getD n/\h.getD n<=q.getD n/\q.getD n<=n then
     some (.sl r (o+(l.getD 0).toNat*esz) (h.getD n-l.getD 0).toNat (.ex (q.getD n-l.getD 0).toNat))else none
   | _,_,_=>none
  | _=>none
 | .len x=>match YU (x.ev e)with
  | some n=>some (.int .i64 (n:Int))
  | none=>none
 | .lenStr x=>match x.ev e with
  | .str l=>some (.int .i64 l.length)
  | _=>none
 | .lenA n=>some (.int .i64 n)
 | .minmax isMax x y=>match x.ev e,y.ev e with
  | .int k a,.int k' b=>if k=k' then some (.int k (if isMax then(if b>a then b else a)else(if b<a then b else a)))else none
  | _,_=>none
 | .eq neg t x y=>(Yg t (x.ev e) (y.ev e)).map fun b=>.bool (bif neg then !b else b)
 | .minmax3 isMax x y z=>match x.ev e,y.ev e,z.ev e with
  | .int k a,.int k' b,.int k'' c=>if k=k'/\k=k'' then some (.int k (qW isMax (qW isMax a b) c))else none
  | _,_,_=>none
 | .tass t z x=>match x.ev e with
  | .ifc t' v=>some (if t'=t then .tup [v,.bool true]else .tup [z,.bool false])
  | .nili=>some (.tup [z,.bool false])
  | _=>none
 | .cap x=>match x.ev e with
  | .nils=>some (.int .i64 0)
  | .sl _ _ _ (.ex m)=>some (.int .i64 m)
  | _=>none
 | _=>none
def BJ (agg:Option Nat) (x:AV) (H:AH):Option AV:=
 match x with
 | .ptr r o=>match H.cells? r with
  | some l=>apart agg l o
  | none=>none
 | .pim l o=>apart agg l o
 | _=>none
def Ae (esz:Nat) (x:AV) (H:AH):Option (Nat × List AV):=
 match x with
 | .nils=>some (0,[])
 | .sim l n _=>if l.length=n*esz then some (n,l)else none
 | .sl r o n _=>match H.cells? r with
  | some l=>if o+n*esz<=l.length then some (n,(l.drop o).take (n*esz))else none
  | none=>none
 | _=>none
def IX:List AV->Option (List UInt8)
 | []=>some []
 | .int .u8 n::l=>(IX l).map (UInt8.ofNat n.toNat::·)
 | _=>none
def QO (x:AV) (H:AH):Option (List (AV × AV × Nat)):=match x with
 | .nilm=>some []
 | .mp r=>match H.get r with
  | some (.map es _)=>some es
  | _=>none
 | _=>none
def HK (ty:Bool × List SK) (L:List Lit):List (AV × AV × Nat)->Option (Option (Nat × AV))
 | []=>some none
 | (k,v,_)::es=>match MM ty k,HK ty L es with
  | some L',some r=>bif FH L' L then(match r with | none=>some (some (0,v)) | some _=>none)else some (r.map fun p=>(p.1+1,p.2))
  | _,_=>none
def qV (r:Option (Nat × AV)) (z:AV):AV:=match r with | some p=>p.2 | none=>z
def bE:List UInt8->UInt8->Int
 | [],_=>-1
 | b::l,c=>if b==c then 0 else if bE l c==-1 then -1 else bE l c+1
def e_:List UInt8->List UInt8->Int
 | [],[]=>0
 | [],_::_=>-1
 | _::_,[]=>1
 | a::x,b::y=>if a<b then -1 else if b<a then 1 else e_ x y
def WM (x:AV) (H:AH):Option (List UInt8):=match Ae 1 x H with
 | some (_,xs)=>IX xs
 | none=>none
def XZ (c:Bool) (l:List UInt8) (y:AV) (H:AH):Option AV:=match c with
 | true=>(WM y H).map fun m=>.int .i64 (e_ l m)
 | false=>match y with
  | .int .u8 n=>some (.int .i64 (bE l (UInt8.ofNat n.toNat)))
  | _=>none
def rp (es:List (AV × AV × Nat)) (clock:Nat):Bool:=es.all fun x=>decide (x.2.2<clock)
def MJ (x:AV) (H:AH):Option Cw:=match x with
 | .nilm=>some (.iter none 0 [] none)
 | .mp r=>match H.get r with
  | some (.map _ clock)=>some (.iter (some r) clock [] none)
  | _=>none
 | _=>none
def K_ (x:AV) (H:AH):Option AV:=match x with
 | .ptr q 0=>match H.get q with
  | some (.iter (some r) clock _ (some c))=>match H.get r with
   | some (.map es clock')=>if clock'=clock then(es.find? (fun x=>x.2.2==c)).map fun x=>.tup [x.1,x.2.1]else none
   | _=>none
  | _=>none
 | _=>none
def KU (n:Nat):List Nat->List Nat
 | []=>[n]
 | m::l=>if n<m then n::m::l else m::KU n l
def jM (x:AV) (H:AH):Option (Option (Nat × List (AV × Cw))):=match x with
 | .ptr q 0=>match H.get q with
  | some (.iter none _ _ _)=>some none
  | some (.iter (some r) clock seen _)=>match H.get r with
   | some (.map es clock')=>if clock'=clock/\rp es clock=true then
     some (some (q,match es.filter (fun x=>!seen.contains x.2.2)with
     | []=>[(.tup [.bool false],.iter (some r) clock seen none)]
     | y::l=>(y::l).map fun x=>(.tup [.bool true,x.1,x.2.1],.iter (some r) clock (KU x.2.2 seen) (some x.2.2))))else none
   | _=>none
  | _=>none
 | _=>none
def Jr (x:AV) (H:AH):Option (List (AV × AH)):=match jM x H with
 | none=>none
 | some none=>some [(.tup [.bool false],H)]
 | some (some (q,l))=>some (l.map fun p=>(p.1,H.set q p.2))
def P0:List Value->Option (List AV)
 | []=>some []
 | .int k n::l=>(P0 l).map (.int k n::·)
 | _=>none
def XO (agg:Option Nat) (g:Nat) (H:AH):Option AV:=match H.gl g with
 | some (.cells c _ _)=>(P0 c.toList).bind fun l=>apart agg l 0
 | _=>none
def AY (k:AK) (e:Env) (H:AH):Option AV:=
 match k with
 | .load agg x=>BJ agg (x.ev e) H
 | .strOfBytes x=>match Ae 1 (x.ev e) H with
  | some (_,xs)=>(IX xs).map .str
  | none=>none
 | .lookup ty z ok m k=>match MM ty (k.ev e),QO (m.ev e) H with
  | some L,some es=>match HK ty L es with
   | some r=>some (bif ok then .tup [qV r z,.bool r.isSome]else qV r z)
   | none=>none
  | _,_=>none
 | .lenMap m=>match QO (m.ev e) H with
  | some es=>some (.int .i64 es.length)
  | none=>none
 | .ext c x y=>match WM (x.ev e) H with
  | some l=>XZ c l (y.ev e) H
  | none=>none
 | .entryM x=>K_ (x.ev e) H
 | .gld agg g=>XO agg g H
 | _=>none
section
def Lz:Value->Option AV
 | .bool b=>some (.bool b)
 | .int k n=>some (.int k n)
 | .string s=>some (.str s.data.toList)
 | .pointer none=>some .nilp
 | .slice none 0 0=>some .nils
 | .map none=>some .nilm
 | .nilFunc=>some .nilf
 | .nilIface=>some .nili
 | .func (.func f) first cap=>if first.size=0/\cap.size=0 then some (.fn (.func f) [] [])else none
 | _=>none
def Hk:List Value->Option (List AV)
 | []=>some []
 | v::l=>match Lz v,Hk l with
  | some x,some xs=>some (x::xs)
  | _,_=>none
def ofConst:Value->Option AV
 | .agg cs=>(Hk cs.toList).map .agg
 | v=>Lz v
theorem gw (s:ByteArray):(⟨s.data.toList.toArray⟩:ByteArray)=s:=by cases s;simp
theorem JU {Z:Zt}{σ:Sg}{v:Value}{x:AV}(h:Lz v=some x):VR Z σ x v/\v.oneCell'=true:=by
 unfold Lz at h
 split at h<;>(try simp only[AD,reduceCtorEq]at h)<;>(try subst h)
 ·exact⟨.bool _,rfl⟩
 ·exact⟨.int _ _,rfl⟩
 ·rename_i s
  refine⟨?_,rfl⟩
  have:=VR.str (Z:=Z) (σ:=σ) s.data.toList
  rwa [gw]at this
 ·exact⟨.nilp,rfl⟩
 ·exact⟨.nils,rfl⟩
 ·exact⟨.nilm,rfl⟩
 ·exact⟨.nilf,rfl⟩
 ·exact⟨.nili,rfl⟩
 ·rename_i f first cap
  split at h
  ·rename_i hs
   simp only[AD]at h
   subst h
   have e1:first=#[]:=IE hs.1
   have e2:cap=#[]:=IE hs.2
   subst e1;subst e2
   exact⟨.fn .nil .nil,rfl⟩
  ·cases h
theorem Gj {Z:Zt}{σ:Sg}:∀{l:List Value}{xs:List AV},Hk l=some xs->CC Z σ xs l/\∀v∈l,v.oneCell'=true
 | [],xs,h=>by simp[Hk]at h;subst h;exact⟨.nil,by simp⟩
 | v::l,xs,h=>by
  simp only[Hk]at h
  split at h
  ·rename_i x ys h1 h2
   simp only[AD]at h;subst h
   obtain⟨a,b⟩:=JU (Z:=Z) (σ:=σ) h1
   obtain⟨c,d⟩:=Gj (Z:=Z) (σ:=σ) h2
   refine⟨.cons a c,fun u hu=>?_⟩
   rcases DF.1 hu with rfl | hu
   ·exact b
   ·exact d u hu
  ·cases h
theorem Ka {Z:Zt}{σ:Sg}{v:Value}{x:AV}(h:ofConst v=some x):VR Z σ x v:=by
 unfold ofConst at h
 split at h
 ·rename_i cs
  simp only[AP]at h
  obtain⟨l,hl,rfl⟩:=h
  obtain⟨h1,h2⟩:=Gj (Z:=Z) (σ:=σ) hl
  exact .agg h2 h1
 ·exact(JU h).1
def AM:Nat:=1000000
def A9:Operand->Option AE
 | .tmp t=>if t<AM then some (.tmp t)else none
 | .const v=>(ofConst v).map .cst
 | .func f=>some (.fnc f)
 | .global _=>none
def Gu:List Operand->Option (List AE)
 | []=>some []
 | x::l=>match A9 x,Gu l with
  | some y,some ys=>some (y::ys)
  | _,_=>none
def V8:Option Operand->Option (Option AE)
 | none=>some none
 | some x=>(A9 x).map some
def ER (Z:Zt) (σ:Sg) (e:Env) (a:Act):Prop:=∀t,t<AM->VR Z σ (e t) (a.tmps.getD t undef)
theorem ER.mono {Z Z':Zt}{σ σ':Sg}(hZ:CO Z Z') (hS:LH σ σ'){e:Env}{a:Act}(h:ER Z σ e a):ER Z' σ' e a:=fun t ht=>(h t ht).mono hZ hS
theorem ER.put {Z:Zt}{σ:Sg}{e:Env}{a:Act}(h:ER Z σ e a){d:Nat}{x:AV}{v:Value}(hd:d<a.tmps.size) (hx:VR Z σ x v):ER Z σ (e.set d x) (a.put (some d) v):=by
 intro t hlt
 by_cases ht:t=d
 ·subst ht
  simp only[Env.Fu,Act.put]
  simp[hd];exact hx
 ·rw[Env.Gf _ _ ht]
  simp only[Act.put]
  have:=h t hlt
  simpa[Array.getElem?_setIfInBounds_ne (Ne.symm ht)]using this
theorem AI {Z:Zt}{σ:Sg}{e:Env}{a:Act}(h:ER Z σ e a){x:Operand}{y:AE}(hx:A9 x=some y):VR Z σ (y.ev e) (a.eval x):=by
 cases x with
 | tmp t=>
  simp only[A9]at hx
  split at hx<;>simp only[AD,reduceCtorEq]at hx
  rename_i ht
  subst hx;exact h t ht
 | const v=>
  simp only[A9,AP]at hx
  obtain⟨c,hc,rfl⟩:=hx
  exact Ka hc
 | func f=>simp only[A9,AD]at hx;subst hx;exact .fn .nil .nil
 | global g=>simp[A9]at hx
theorem Ev {Z:Zt}{σ:Sg}{e:Env}{a:Act}(h:ER Z σ e a):∀{l:List Operand}{ys:List AE},Gu l=some ys->CC Z σ (ys.map (·.ev e)) (l.map a.eval)
 | [],ys,hx=>by simp[Gu]at hx;subst hx;exact .nil
 | x::l,ys,hx=>by
  simp only[Gu]at hx
  split at hx
  ·rename_i y zs h1 h2
   simp only[AD]at hx;subst hx
   exact .cons (AI h h1) (Ev h h2)
  ·cases hx
section
variable {Z:Zt}{σ:Sg}{v:Value}
theorem VR.EX {b:Bool}(h:VR Z σ (.bool b) v):v=.bool b:=by cases h;rfl
theorem VR.Bh {k:IntKind}{n:Int}(h:VR Z σ (.int k n) v):v=.int k n:=by cases h;rfl
theorem VR.HD {l:List UInt8}(h:VR Z σ (.str l) v):v=.string ⟨l.toArray⟩:=by cases h;rfl
theorem VR.DQ (h:VR Z σ .nils v):v=.slice none 0 0:=by cases h;rfl
theorem VR.HF {r o:Nat}(h:VR Z σ (.ptr r o) v):∃p,σ r=some p/\v=.pointer (some ⟨p.b,p.base+o,none⟩):=by cases h with | ptr h=>exact⟨_,h,rfl⟩
theorem VR.SX {l:List AV}{o:Nat}(h:VR Z σ (.pim l o) v):∃b base c e fr,Z b=some (.cells c e fr) /\
  (∀v∈(c.toList.drop base).take l.length,v.oneCell'=true)/\CC Z σ l ((c.toList.drop base).take l.length)/\v=.pointer (some ⟨b,base+o,none⟩):=by
 cases h with | pim hz h1 hv=>exact⟨_,_,_,_,_,hz,h1,hv,rfl⟩
theorem VR.TA {l:List AV}(h:VR Z σ (.agg l) v):∃vs,v=.agg vs/\(∀v∈vs.toList,v.oneCell'=true)/\CC Z σ l vs.toList:=by cases h with | agg h1 h=>exact⟨_,rfl,h1,h⟩
theorem VR.Wl {l:List AV}(h:VR Z σ (.tup l) v):∃vs,v=.tuple vs/\CC Z σ l vs.toList:=by cases h with | tup h=>exact⟨_,rfl,h⟩
theorem VR.Mn {f:Fn}{x y:List AV}(h:VR Z σ (.fn f x y) v):∃vf vc,v=.func f vf vc/\CC Z σ x vf.toList/\CC Z σ y vc.toList:=by cases h with | fn h1 h2=>exact⟨_,_,rfl,h1,h2⟩
theorem AV.Fk {x:AV}{l:List AV}(hx:x.cellsOf=some l) (h:VR Z σ x v):CC Z σ l v.cells.toList/\∀u∈v.cells.toList,u.oneCell'=true:=by
 have h':=h
 cases h<;>simp only[AV.cellsOf,AD,reduceCtorEq]at hx<;>subst hx
 case agg vs h1 h=>exact⟨h,h1⟩
 all_goals exact⟨.cons h' .nil,by simp[Value.cells,Value.oneCell']⟩
end
end
section
def Tg (f:TypeId->Option (List SK)) (P:Program):Nat->List Field->Option (List SK)
 | _,[]=>some []
 | o,x::l=>if x.offset=o then match f x.type with
   | some ks=>if P.cellsOf x.type=ks.length then(Tg f P (o+ks.length) l).map (ks++·)else none
   | none=>none
  else none
def Th (P:Program):Nat->TypeId->Option (List SK)
 | 0,_=>none
 | d+1,t=>match P.underlying t with
  | some .bool=>some [.b]
  | some (.int q)=>some [.i q]
  | some .string=>some [.s]
  | some (.array n e)=>match Th P d e with
   | some ks=>if P.cellsOf e=ks.length/\P.cellsOf t=n*ks.length then some (List.replicate n ks).flatten else none
   | none=>none
  | some (.struct fs)=>match Tg (Th P d) P 0 fs.toList with
   | some ks=>if P.cellsOf t=ks.length/\fs.all (·.name != "_")=true then some ks else none
   | none=>none
  | _=>none
def SJ:SK->Value->Option Lit
 | .b,.bool b=>some (.bool b)
 | .i q,.int q' n=>if q'=q/\(Lit.int q n).wf=true then some (.int q n)else none
 | .s,.string s=>if s.size<=maxLen then some (.string s.data.toList)else none
 | _,_=>none
def EL:List SK->List Value->Option (List Lit)
 | [],[]=>some []
 | k::ks,v::vs=>match SJ k v,EL ks vs with
  | some l,some ls=>some (l::ls)
  | _,_=>none
 | _,_=>none
theorem Ek:∀{ks:List SK}{vs:List Value}{L:List Lit},EL ks vs=some L->vs.length=ks.length
 | [],[],_,_=>rfl
 | [],_::_,_,h=>by cases h
 | _::_,[],_,h=>by cases h
 | k::ks,v::vs,L,h=>by
  simp only[EL]at h
  split at h
  ·rename_i l ls h1 h2;simp[Ek h2]
  ·cases h
theorem II:∀{a b:List SK}{vs:List Value}{L:List Lit},EL (a++b) vs=some L ->
  ∃L1 L2,EL a (vs.take a.length)=some L1/\EL b (vs.drop a.length)=some L2/\L=L1++L2
 | [],b,vs,L,h=>⟨[],L,by simp[EL],by simpa using h,rfl⟩
 | k::a,b,[],L,h=>by cases h
 | k::a,b,v::vs,L,h=>by
  simp only[Fi,EL]at h
  split at h
  ·rename_i l ls h1 h2
   simp only[AD]at h;subst h
   obtain⟨L1,L2,g1,g2,rfl⟩:=II h2
   exact⟨l::L1,L2,by simp[EL,h1,g1],by simpa using g2,rfl⟩
  ·cases h
section
variable {P:Program}
theorem Kb {d:Nat}{e:TypeId}{ks:List SK}{m:Nat}(hm:m=ks.length) (ih:∀vs L,EL ks vs=some L->P.keyLits d e vs=some L) (vs0:List Value) :
  ∀(n s:Nat) (L:List Lit),EL (List.replicate n ks).flatten (vs0.drop (s*m))=some L ->
   ∃LL,(List.range' s n).mapM (fun i=>P.keyLits d e ((vs0.drop (i*m)).take m))=some LL/\LL.flatten=L
 | 0,s,L,h=>by
  have:vs0.drop (s*m)=[]:=By (by simpa using Ek h)
  rw[this]at h
  simp[EL]at h
  exact⟨[],by simp,by simp[h]⟩
 | n+1,s,L,h=>by
  rw[OA,Oa]at h
  obtain⟨L1,L2,h1,h2,rfl⟩:=II h
  rw[<- hm,De]at h2
  have e1:s*m+m=(s+1)*m:=by rw[EC,GY]
  rw[e1]at h2
  obtain⟨LL,g1,g2⟩:=Kb hm ih vs0 n (s+1) L2 h2
  refine⟨L1::LL,?_,by simp[g2]⟩
  rw[<- hm]at h1
  rw[Ov,I0,ih _ _ h1]
  simp[g1]
theorem JX {d:Nat}(ih:∀t ks vs L,Th P d t=some ks->EL ks vs=some L->P.keyLits d t vs=some L) (vs0:List Value) :
  ∀(fs:List Field) (o:Nat) (ks:List SK) (L:List Lit),Tg (Th P d) P o fs=some ks->EL ks (vs0.drop o)=some L ->
   ∃LL,fs.mapM (fun f=>P.keyLits d f.type ((vs0.drop f.offset).take (P.cellsOf f.type)))=some LL/\LL.flatten=L
 | [],o,ks,L,h,hv=>by
  simp only[Tg,AD]at h;subst h
  have:vs0.drop o=[]:=By (by simpa using Ek hv)
  rw[this]at hv
  simp[EL]at hv
  exact⟨[],by simp,by simp[hv]⟩
 | f::fs,o,ks,L,h,hv=>by
  simp only[Tg]at h
  split at h<;>(try (cases h;done))
  rename_i ho
  split at h<;>(try (cases h;done))
  rename_i k1 hk1
  split at h<;>(try (cases h;done))
  rename_i hc
  simp only[AP]at h
  obtain⟨k2,hk2,rfl⟩:=h
  obtain⟨L1,L2,h1,h2,rfl⟩:=II hv
  rw[De]at h2
  obtain⟨LL,g1,g2⟩:=JX ih vs0 fs _ k2 L2 hk2 h2
  refine⟨L1::LL,?_,by simp[g2]⟩
  rw[I0,ho,hc,ih _ _ _ _ hk1 h1]
  simp[g1]
theorem Ii:∀(d:Nat) (t:TypeId) (ks:List SK) (vs:List Value) (L:List Lit),Th P d t=some ks->EL ks vs=some L->P.keyLits d t vs=some L
 | 0,_,_,_,_,h,_=>by cases h
 | d+1,t,ks,vs,L,h,hv=>by
  have ih:=fun t ks vs L=>Ii d t ks vs L
  simp only[Th]at h
  split at h
  ·rename_i hu
   simp only[AD]at h;subst h
   have hl:=Ek hv
   obtain⟨v,rfl⟩:∃v,vs=[v]:=by
    cases vs with | nil=>simp at hl | cons v l=>cases l with | nil=>exact⟨v,rfl⟩ | cons _ _=>simp at hl
   cases v<;>simp[EL,SJ]at hv
   subst hv
   simp[Program.keyLits,hu]
  ·rename_i q hu
   simp only[AD]at h;subst h
   have hl:=Ek hv
   obtain⟨v,rfl⟩:∃v,vs=[v]:=by
    cases vs with | nil=>simp at hl | cons v l=>cases l with | nil=>exact⟨v,rfl⟩ | cons _ _=>simp at hl
   cases v<;>simp only[EL,SJ]at hv<;>(try (cases hv;done))
   rename_i q' n
   split at hv<;>simp only[AD,reduceCtorEq]at hv
   rename_i l ls h1 h2
   split at h1<;>simp only[AD,reduceCtorEq]at h1
   rename_i hc
   cases h2;subst h1 hv
   simp[Program.keyLits,hu,hc.1,hc.2]
  ·rename_i hu
   simp only[AD]at h;subst h
   have hl:=Ek hv
   obtain⟨v,rfl⟩:∃v,vs=[v]:=by
    cases vs with | nil=>simp at hl | cons v l=>cases l with | nil=>exact⟨v,rfl⟩ | cons _ _=>simp at hl
   cases v<;>simp only[EL,SJ]at hv<;>(try (cases hv;done))
   split at hv<;>simp only[AD,reduceCtorEq]at hv
   rename_i l ls h1 h2
   split at h1<;>simp only[AD,reduceCtorEq]at h1
   rename_i hc
   cases h2;subst h1 hv
   simp[Program.keyLits,hu,hc]
  ·rename_i n e hu
   split at h<;>(try (cases h;done))
   rename_i k1 hk1
   split at h<;>simp only[AD,reduceCtorEq]at h
   rename_i hc
   subst h
   have hl:=Ek hv
   have hl':vs.length=P.cellsOf t:=by rw[hl,hc.2];simp
   obtain⟨LL,g1,g2⟩:=Kb (P:=P) (d:=d) (e:=e) (m:=P.cellsOf e) hc.1 (fun vs L=>ih e k1 vs L hk1) vs n 0 L (by simpa using hv)
   rw[<- List.range_eq_range']at g1
   unfold Program.keyLits
   simp only[hu,hl',if_true,g1,FA,g2]
  ·rename_i fs hu
   split at h<;>(try (cases h;done))
   rename_i k1 hk1
   split at h<;>simp only[AD,reduceCtorEq]at h
   rename_i hc
   subst h
   have hl:=Ek hv
   have hl':vs.length=P.cellsOf t:=by rw[hl,hc.1]
   obtain⟨LL,g1,g2⟩:=JX (P:=P) (d:=d) ih vs fs.toList 0 k1 L hk1 (by simpa using hv)
   unfold Program.keyLits
   simp only[hu,hl',hc.2,and_self,if_true,g1,FA,g2]
  ·cases h
end
theorem QS {Z:Zt}{σ:Sg}{k:SK}{x:AV}{v:Value}{l:Lit}(hx:VR Z σ x v) (h:YT k x=some l):SJ k v=some l:=by
 unfold YT at h
 split at h
 ·rw[hx.EX];exact h
 ·rw[hx.Bh];exact h
 ·rw[hx.HD];simpa[SJ,ByteArray.size]using h
 ·cases h
theorem Nd {Z:Zt}{σ:Sg}:∀{ks:List SK}{xs:List AV}{vs:List Value}{L:List Lit},CC Z σ xs vs->Rp ks xs=some L->EL ks vs=some L
 | [],[],vs,L,hx,h=>by cases hx;exact h
 | [],_::_,_,_,_,h=>by cases h
 | _::_,[],_,_,_,h=>by cases h
 | k::ks,x::xs,vs,L,hx,h=>by
  cases hx with
  | cons h1 h2=>
   simp only[Rp]at h
   split at h
   ·rename_i l ls g1 g2
    simp only[EL,QS h1 g1,Nd h2 g2];exact h
   ·cases h
def UI (P:Program) (k:TypeId):Option (Bool × List SK):=match P.underlying k with
 | some (.int q)=>some (false,[.i q])
 | some .string=>some (false,[.s])
 | some (.array _ _) | some (.struct _)=>
  if (P.keyTypeAt (P.types.size+1) k&&P.tiled (P.types.size+1) k&&decide (P.types.size+2<=10000))=true then(Th P (P.types.size+1) k).map (true,·)else none
 | _=>none
def d_ (ty:Bool × List SK) (L:List Lit):Lit:=match ty.1,L with
 | false,[l]=>l
 | _,L=>.string (keyBytes L)
section
variable {P:Program}{k:TypeId}{ty:Bool × List SK}
theorem Ho (h:UI P k=some ty):Maps.Keyed P k:=by
 unfold UI at h
 split at h
 ·rename_i hu;exact Maps.int_keyed hu
 ·rename_i hu;exact .of_law (WideMaps.string_law hu)
 ·rename_i hu
  split at h<;>(try (cases h;done))
  rename_i hc
  simp only[AS,decide_eq_true_eq]at hc
  exact .of_law (deep_law hc.2 hc.1.1 hc.1.2 (by rw[hu]))
 ·rename_i hu
  split at h<;>(try (cases h;done))
  rename_i hc
  simp only[AS,decide_eq_true_eq]at hc
  exact .of_law (deep_law hc.2 hc.1.1 hc.1.2 (by rw[hu]))
 ·cases h
def KP (ty:Bool × List SK) (v:Value):Option (List Lit):=match ty.1,ty.2,v with
 | true,ks,.agg l=>EL ks l.toList
 | false,[k],v=>(SJ k v).map fun l=>[l]
 | _,_,_=>none
theorem H_ {Z:Zt}{σ:Sg}{x:AV}{v:Value}{L:List Lit}(hx:VR Z σ x v) (h:MM ty x=some L):KP ty v=some L:=by
 obtain⟨b,ks⟩:=ty
 unfold MM at h
 split at h
 ·rename_i l hb
  simp only at hb;subst hb
  obtain⟨vs,rfl,_,hv⟩:=hx.TA
  simp only[KP];exact Nd hv h
 ·rename_i k' hb hk
  simp only at hb hk;subst hb hk
  simp only[AP]at h
  obtain⟨l,hl,rfl⟩:=h
  simp only[KP,QS hx hl,FA]
 ·cases h
theorem D4 {v:Value}{L:List Lit}(hk:UI P k=some ty) (h:KP ty v=some L):keyOf P k v=some (d_ ty L):=by
 unfold UI at hk
 have wide:(match P.underlying k with | some (.array _ _) | some (.struct _)=>true | _=>false)=true ->
   (if (P.keyTypeAt (P.types.size+1) k&&P.tiled (P.types.size+1) k&&decide (P.types.size+2<=10000))=true then(Th P (P.types.size+1) k).map (true,·)else none)=some ty->keyOf P k v=some (d_ ty L):=by
  intro hw hk
  split at hk<;>(try (cases hk;done))
  rename_i hc
  simp only[AS,decide_eq_true_eq]at hc
  simp only[AP]at hk
  obtain⟨ks,hks,rfl⟩:=hk
  cases v<;>simp only[KP]at h<;>(try (cases h;done))
  rename_i cs
  have hkl:=Ii _ _ _ _ _ hks h
  have hlen:cs.size=P.cellsOf k:=by
   have h2:=hkl
   unfold Program.keyLits at h2
   split at hw
   ·rename_i n e hu
    simp only[hu]at h2
    split at h2<;>(try (cases h2;done))
    rename_i hh;simpa using hh
   ·rename_i fs hu
    simp only[hu]at h2
    split at h2<;>(try (cases h2;done))
    rename_i hh;simpa using hh.1
   ·cases hw
  have hform:(Value.agg cs).formed P k=true:=by
   unfold Value.formed
   split at hw
   ·rename_i hu;simp[hu,hlen]
   ·rename_i hu;simp[hu,hlen]
   ·cases hw
  have:keyOf P k (.agg cs)=(P.keyLits (P.types.size+1) k cs.toList).map fun ls=>.string (keyBytes ls):=by
   unfold keyOf
   split at hw
   ·rename_i hu;simp only[hu];rw[if_pos (by simp[Program.keyType,hc.1.1,hform])];rfl
   ·rename_i hu;simp only[hu];rw[if_pos (by simp[Program.keyType,hc.1.1,hform])];rfl
   ·cases hw
  rw[this,hkl];rfl
 split at hk
 ·rename_i q hu
  simp only[AD]at hk;subst hk
  simp only[KP,AP]at h
  obtain⟨l,hl,rfl⟩:=h
  unfold keyOf;simp only[hu]
  unfold mapKey;simp only[hu]
  cases v<;>simp only[SJ]at hl<;>(try (cases hl;done))
  split at hl<;>simp only[AD,reduceCtorEq]at hl
  rename_i hc;subst hl
  simp[d_,hc.1,hc.2]
 ·rename_i hu
  simp only[AD]at hk;subst hk
  simp only[KP,AP]at h
  obtain⟨l,hl,rfl⟩:=h
  unfold keyOf;simp only[hu]
  unfold mapKey;simp only[hu]
  cases v<;>simp only[SJ]at hl<;>(try (cases hl;done))
  split at hl<;>simp only[AD,reduceCtorEq]at hl
  rename_i hc;subst hl
  simp[d_,hc]
 ·rename_i hu;exact wide (by rw[hu]) hk
 ·rename_i hu;exact wide (by rw[hu]) hk
 ·cases hk
theorem Wi {u v:Value}{L L':List Lit}(hk:UI P k=some ty) (h:KP ty u=some L) (h':KP ty v=some L'):u=v↔L=L':=by
 constructor
 ·intro e;subst e;rw[h]at h';exact GX h'
 ·intro e;subst e;exact(Ho hk).inj (D4 hk h) (D4 hk h')
end
end
section
def Ct (P:Program) (t:TypeId):Option Nat:=(P.info? t).map (·.size)
def ZR (P:Program) (t:TypeId):Option Bool:=
 match P.underlying t with
 | some (.struct _)=>some true
 | some (.array _ _)=>some true
 | some _=>some false
 | none=>none
def Ic (P:Program) (t:TypeId):Option (Option Nat):=
 match ZR P t,Ct P t with
 | some true,some n=>some (some n)
 | some false,some _=>some none
 | _,_=>none
def EM (P:Program) (t:TypeId):Option (List AV):=((P.info? t).bind (·.zero)).bind fun z=>Hk z.cells.toList
def Gt (place:Nat->Option (Nat × Nat)):List (Nat × Operand)->Option (List (Nat × Nat × AE))
 | []=>some []
 | (i,x)::l=>
  match place i,A9 x,Gt place l with
  | some (off,n),some y,some ys=>some ((off,n,y)::ys)
  | _,_,_=>none
def D6 (n:Nat) (z:List AV):List AV:=(List.range (n*z.length)).map fun i=>z[i % z.length]?.getD .unk
def Ui (P:Program) (t:TypeId):Option ky:=match P.underlying t with
 | some .bool=>some .bool
 | some (.slice _)=>some .slice
 | some (.interface ms)=>if ms.isEmpty then some .iface else none
 | some (.struct _) | some (.array _ _)=>if P.eqGuardType P.depth t=false then(UI P t).map .wide else none
 | some (.pointer _)=>some .ptr
 | _=>none
def ka (P:Program) (t:TypeId):Option AV:=((P.info? t).bind (·.zero)).bind ofConst
def jB (P:Program):AE->Option Bool
 | .fnc g=>match P.funcs[g]? with
  | some fn=>bif fn.body.isNone then(bif (Extern.allNextRows.lookup fn.origin).isNone then(bif fn.name=="internal/bytealg.IndexByte" then some false else bif fn.name=="internal/bytealg.Compare" then some true else none)else none)else none
  | none=>none
 | _=>none
def TW (P:Program) (f:AE) (l:List AE):AK:=match jB P f with
 | some c=>(match l with
  | [x,y]=>.ext c x y
  | _=>.call f l)
 | none=>.call f l
theorem TV (P:Program) (f:AE) (l:List AE):(∃c x y,TW P f l=.ext c x y)\/TW P f l=.call f l:=by
 unfold TW
 split
 ·split
  ·exact .inl ⟨_,_,_,rfl⟩
  ·exact .inr rfl
 ·exact .inr rfl
def GM (P:Program) (o:Oper):Option AK:=
 match o.op with
 | .move x | .assign x=>(A9 x).map .move
 | .pick c a b=>match A9 c,A9 a,A9 b with
  | some c,some a,some b=>some (.pick c a b)
  | _,_,_=>none
 | .build t ps=>
  match P.underlying t,EM P t with
  | some (.struct fs),some z=>if fs.toList.all (fun f=>(Ct P f.type).isSome)then(Gt (fun i=>(fs[i]?).map fun f=>(f.offset,(Ct P f.type).getD 0)) ps.toList).map (.build z)else none
  | some (.array _ e),some z=>match Ct P e with
   | some n=>(Gt (fun i=>some (i*n,n)) ps.toList).map (.build z)
   | none=>none
  | _,_=>none
 | .nilCheck x=>(A9 x).map .nilCheck
 | .binOp op t x y _=>match A9 x,A9 y with
  | some x,some y=>match op,Ui P t with
   | .eql,some ty=>some (.eq false ty x y)
   | .neq,some ty=>some (.eq true ty x y)
   | op,_=>some (.bin op x y)
  | _,_=>none
 | .unOp op _ x=>(A9 x).map (.un op)
 | .convert s d x=>match P.underlying s,P.underlying d,A9 x with
  | some (.int _),some (.int k),some x=>some (.convI k x)
  | some .string,some .string,some x=>some (.convS x)
  | some (.slice e),some .string,some x=>match P.underlying e with
   | some (.int .u8)=>some (.strOfBytes x)
   | _=>none
  | some .string,some (.slice e),some x=>match P.underlying e with
   | some (.int .u8)=>some (.bytesOf x)
   | _=>none
  | some (.slice _),some (.slice e),some x=>match P.underlying e with
   | some (.int .u8)=>if s=d then some (.mark x)else none
   | _=>none
  | _,_,_=>none
 | .makeInterface t x=>match P.underlying t with
  | some (.interface _)=>none
  | some _=>(A9 x).map (.mkIface t)
  | none=>none
 | .makeFunc fn first cap=>match Gu first.toList,Gu cap.toList with
  | some a,some b=>some (.mkFunc fn a b)
  | _,_=>none
 | .fieldAddr t x i=>match P.underlying t,A9 x with
  | some (.struct fs),some x=>(fs[i]?).bind fun f=>match Ct P f.type with
   | some (_+1)=>some (.fieldAddr f.offset x)
   | _=>none
  | _,_=>none
 | .field t x i=>match P.underlying t,A9 x with
  | some (.struct fs),some x=>(fs[i]?).bind fun f=>(Ic P f.type).map fun g=>.field g f.offset x
  | _,_=>none
 | .indexAddr t x i=>match P.underlying t,A9 x,A9 i with
  | some (.array n e),some x,some i=>(Ct P e).map fun k=>.indexAddrA n k x i
  | some (.slice e),some x,some i=>(Ct P e).map fun k=>.indexAddrS k x i
  | _,_,_=>none
 | .index t x i=>match P.underlying t,A9 x,A9 i with
  | some (.array n e),some x,some i=>match Ct P e,Ic P e with
   | some k,some g=>some (.indexA n k g x i)
   | _,_=>none
  | some .string,some x,some i=>some (.indexStr x i)
  | _,_,_=>none
 | .extract x i=>(A9 x).map (.extract i)
 | .slice t x lo hi mx=>match P.underlying t,A9 x,V8 lo,V8 hi,V8 mx with
  | some (.slice e),some x,some lo,some hi,some mx=>(Ct P e).map fun k=>.sliceS k x lo hi mx
  | some (.array n e),some x,some lo,some hi,some mx=>(Ct P e).map fun k=>.sliceA n k x lo hi mx
  | some .string,some x,some lo,some hi,some none=>some (.sliceStr x lo hi)
  | _,_,_,_,_=>none
 | .load t x=>match Ic P t,A9 x with
  | some g,some x=>some (.load g x)
  | some g,none=>match x with
   | .global v=>some (.gld g v)
   | _=>none
  | _,_=>none
 | .store t x v=>match Ct P t,A9 x,A9 v with
  | some n,some x,some v=>some (.store n x v)
  | _,_,_=>none
 | .alloc t=>(EM P t).map .alloc
 | .box _ x=>(A9 x).map .box
 | .buildSlice t len ps=>match P.underlying t with
  | some (.slice e)=>match Ct P e,EM P e with
   | some n,some z=>if n=z.length/\0<n/\len*n<=2 ^ 24 then(Gt (fun i=>some (i*n,n)) ps.toList).map (.buildSlice n len (D6 len z))else none
   | _,_=>none
  | _=>none
 | .makeSlice t l c=>match P.underlying t,A9 l,A9 c with
  | some (.slice e),some l,some c=>match P.info? e,EM P e with
   | some i,some z=>if i.size=z.length/\0<i.size then some (.mkSlice i.size i.bytes z l c)else none
   | _,_=>none
  | _,_,_=>none
 | .call { callee:=.builtin .len,args,argTypes }=>match args.toList,argTypes.toList with
  | [x],[t]=>match P.underlying t,A9 x with
   | some (.slice _),some x=>some (.len x)
   | some .string,some x=>some (.lenStr x)
   | some (.array n _),some _=>some (.lenA n)
   | some (.map _ _),some x=>some (.lenMap x)
   | _,_=>none
  | _,_=>none
 | .call { callee:=.builtin .append,args,argTypes }=>match args.toList,argTypes.toList with
  | [s,x],[t,u]=>match P.underlying t,A9 s,A9 x with
   | some (.slice e),some s,some x=>match P.info? e,EM P e,P.underlying u with
    | some i,some z,some (.slice _)=>if i.size=z.length/\0<i.size then some (.append i.size i.bytes s x)else none
    | some i,some z,some (.int _)=>if i.size=z.length/\0<i.size then some (.appendZ i.size i.bytes z s x)else none
    | _,_,_=>none
   | _,_,_=>none
  | _,_=>none
 | .call { callee:=.builtin .clear,args,argTypes }=>match args.toList,argTypes.toList with
  | [s],[t]=>match P.underlying t,A9 s with
   | some (.slice e),some s=>match P.info? e,EM P e with
    | some i,some z=>if i.size=z.length/\0<i.size then some (.Is i.size z s)else none
    | _,_=>none
   | _,_=>none
  | _,_=>none
 | .call { callee:=.builtin .copy,args,argTypes }=>match args.toList,argTypes.toList with
  | [d,s],[t,_]=>match P.underlying t,A9 d,A9 s with
   | some (.slice e),some d,some s=>match P.info? e with
    | some i=>some (.copy i.size d s)
    | _=>none
   | _,_,_=>none
  | _,_=>none
 | .call { callee:=.builtin .min,args,.. }=>match args.toList with
  | [x,y]=>match A9 x,A9 y with
   | some x,some y=>some (.minmax false x y)
   | _,_=>none
  | [x,y,z]=>match A9 x,A9 y,A9 z with
   | some x,some y,some z=>some (.minmax3 false x y z)
   | _,_,_=>none
  | _=>none
 | .call { callee:=.builtin .max,args,.. }=>match args.toList with
  | [x,y]=>match A9 x,A9 y with
   | some x,some y=>some (.minmax true x y)
   | _,_=>none
  | [x,y,z]=>match A9 x,A9 y,A9 z with
   | some x,some y,some z=>some (.minmax3 true x y z)
   | _,_,_=>none
  | _=>none
 | .call { callee:=.builtin .cap,args,argTypes }=>match args.toList,argTypes.toList with
  | [x],[t]=>match P.underlying t,A9 x with
   | some (.slice _),some x=>some (.cap x)
   | _,_=>none
  | _,_=>none
 | .call { callee:=.builtin .recover,.. }=>some .recover
 | .call { callee:=.value f,args,.. }=>match A9 f,Gu args.toList with
  | some f,some l=>some (TW P f l)
  | _,_=>none
 | .defer { callee:=.value f,args,.. }=>match A9 f,Gu args.toList with
  | some f,some l=>some (.defer f l)
  | _,_=>none
 | .panic x=>(A9 x).map .panic
 | .typeAssert x _ t true=>match P.underlying t with
  | some (.interface _)=>none
  | some _=>match A9 x,ka P t with
   | some x,some z=>some (.tass t z x)
   | _,_=>none
  | none=>none
 | .makeMap _ none=>some .makeMap
 | .range t x=>match P.underlying t with
  | some (.map _ _)=>(A9 x).map .rangeM
  | _=>none
 | .next x false=>(A9 x).map .nextM
 | .entry x=>(A9 x).map .entryM
 | .lookup t m k ok=>match P.underlying t,A9 m,A9 k with
  | some (.map kt el),some m,some k=>match UI P kt,ka P el with
   | some ty,some z=>some (.lookup ty z ok m k)
   | _,_=>none
  | _,_,_=>none
 | .mapUpdate t m k v | .insert t m k v=>match P.underlying t,A9 m,A9 k,A9 v with
  | some (.map kt _),some m,some k,some v=>(UI P kt).map fun ty=>.mapUpd ty m k v
  | _,_,_,_=>none
 | _=>none
def Dp (P:Program) (o:Oper):Option AK:=some ((GM P o).getD (.panic (.cst .unk)))
theorem C3 (b o n:Nat):(⟨b,o,none⟩:Addr).add n=⟨b,o+n,none⟩:=by unfold Addr.add;split<;>simp_all
section
variable {P:Program}{Z:Zt}{σ:Sg}{e:Env}{a:Act}(w:World)
theorem g_ {c x y:Operand}{c' x' y':AE}(he:ER Z σ e a) (hc:A9 c=some c') (hx:A9 x=some x') (hy:A9 y=some y'){p:Bool}(hp:c'.ev e=.bool p) :
  a.eval c=.bool p/\VR Z σ (.pick p (x'.ev e) (y'.ev e)) (if p then a.eval x else a.eval y):=by
 have h1:=AI he hc
 rw[hp]at h1
 have h2:=AI he hx
 have h3:=AI he hy
 refine⟨h1.EX,?_⟩
 generalize x'.ev e=ax at *
 generalize y'.ev e=ay at *
 generalize a.eval x=vx at *
 generalize a.eval y=vy at *
 unfold AV.pick
 split
 ·rw[h2.EX,h3.EX];cases p<;>exact .bool _
 ·cases p
  ·exact h3
  ·exact h2
theorem lb {op:BinOp}{x y:AV}{t:TypeId}{vx vy:Value}(hx:VR Z σ x vx) (hy:VR Z σ y vy){v:AV}(h:Dj op x y=some v) (ox oy:Operand) :
  ∃cv,((eqGuard op t ox oy vx vy) >>= fun _=>binOp op t vx vy).run P w=.ok cv w/\VR Z σ v cv:=by
 unfold Dj at h
 split at h
 ·rename_i k n k' m
  rw[hx.Bh,hy.Bh]
  have hg:(eqGuard op t ox oy (.int k n) (.int k' m)).run P w=.ok () w:=by
   unfold eqGuard;split<;>simp
  split at h
  case h_1=>
   split at h
   ·rename_i h0;simp only[AD]at h;subst h
    refine⟨_,?_,.int _ _⟩
    simp[hg,binOp,Op.shift,Int.not_lt.2 h0]
   ·cases h
  case h_2=>
   split at h
   ·rename_i h0;simp only[AD]at h;subst h
    refine⟨_,?_,.int _ _⟩
    simp[hg,binOp,Op.shift,Int.not_lt.2 h0]
   ·cases h
  all_goals
   split at h
   ·rename_i h0
    simp only[AD]at h;subst h
    refine⟨_,?_,by constructor⟩
    rw[Sem.run_bind,hg,Result.andThen_ok]
    simp[binOp,Op.intArith,Op.intDiv,Op.intBits,Op.intCmp,h0]
   ·cases h
 ·rename_i l m
  rw[hx.HD,hy.HD]
  have hg:(eqGuard op t ox oy (.string ⟨l.toArray⟩) (.string ⟨m.toArray⟩)).run P w=.ok () w:=by
   unfold eqGuard;split<;>simp
  split at h
  ·split at h
   ·rename_i h0
    simp only[AD]at h;subst h
    refine⟨.string (⟨l.toArray⟩++⟨m.toArray⟩),?_,?_⟩
    ·have h1:¬((9223372036854775807:Int)<((l.length+m.length:Nat):Int)):=by omega
     have h2:(⟨l.toArray⟩:ByteArray).size+(⟨m.toArray⟩:ByteArray).size=l.length+m.length:=rfl
     have h3:IntKind.i64.max=9223372036854775807:=by decide
     simp only[Sem.run_bind,hg,Result.andThen_ok,binOp,Op.stringOp,h2,h3,gt_iff_lt,h1,if_false,Sem.run_pure]
    ·have e:(⟨l.toArray⟩++⟨m.toArray⟩:ByteArray)=⟨(l++m).toArray⟩:=by
      apply ByteArray.ext
      simp[ByteArray.data_append]
     rw[e];exact .str _
   ·cases h
  ·simp only[AD]at h;subst h
   refine⟨.bool (l==m),?_,.bool _⟩
   simp[hg,binOp,Op.stringOp]
  ·simp only[AD]at h;subst h
   refine⟨.bool (!(l==m)),?_,.bool _⟩
   simp[hg,binOp,Op.stringOp]
  ·cases h
 ·cases h
theorem rA {op:UnOp}{x:AV}{vx:Value}(hx:VR Z σ x vx){v:AV}(h:km op x=some v):∃cv,(Op.unary op vx).run P w=.ok cv w/\VR Z σ v cv:=by
 unfold km at h
 split at h<;>(try cases h)
 ·rw[hx.Bh];exact⟨_,by simp[Op.unary,Op.intArith],.int _ _⟩
 ·rw[hx.Bh];exact⟨_,by simp[Op.unary,Op.intBits],.int _ _⟩
 ·rw[hx.EX];exact⟨_,by simp[Op.unary],.bool _⟩
end
end
section
def LG (l:Option Int) (v:Option Value):Prop:=
 match l,v with
 | none,none=>True
 | some n,some v=>∃k,v=.int k n
 | _,_=>False
section
variable {P:Program}{Z:Zt}{σ:Sg}{e:Env}{a:Act}(w:World)
theorem Dv (k:IntKind){i:Int}{y:Nat}(code:BoundsCode) (h0:0<=i) (h1:i<=y):(Instr.sliceBound (.int k i) y code).run P w=.ok i.toNat w:=by
 simp[Instr.sliceBound,asIntOf,h0,h1]
theorem Ee (isS:Bool) (len cap:Nat) {l h q:Option Int}{lo hi mx:Option Value}(hl:LG l lo) (hh:LG h hi) (hq:LG q mx) (hs:q.isSome=true->h.isSome=true)
  (h0:0<=l.getD 0) (h1:l.getD 0<=h.getD len) (h2:h.getD len<=q.getD cap) (h3:q.getD cap<=cap) :
  (Instr.sliceBounds isS len cap lo hi mx).run P w=.ok ((l.getD 0).toNat,(h.getD len).toNat,(q.getD cap).toNat) w:=by
 have key:∀(y:Nat) (c:BoundsCode),(h.getD len)<=y->(match lo with | some v=>Instr.sliceBound v y c | none=>pure 0:Sem Nat).run P w=.ok (l.getD 0).toNat w\/(h.getD len).toNat≠y:=by
  intro y c hy
  by_cases e1:(h.getD len).toNat=y
  ·refine .inl ?_
   cases l<;>cases lo<;>simp only[LG]at hl
   ·rfl
   ·obtain⟨k,rfl⟩:=hl
    simp only[I6]at h0 h1 ⊢
    exact Dv w k c h0 (by omega)
  ·exact .inr e1
 cases q<;>cases mx<;>simp only[LG]at hq
 ·cases h<;>cases hi<;>simp only[LG]at hh
  ·simp only[Option.getD_none]at *
   have:=(key len .sliceB (by omega)).resolve_right (by simp)
   unfold Instr.sliceBounds
   simp only[Option.isSome_none,E8,if_false,Sem.run_bind,Sem.run_pure,Result.andThen_ok]
   cases lo<;>simp at this ⊢<;>simp[this]
  ·obtain⟨k,rfl⟩:=hh
   simp only[I6,Option.getD_none]at *
   have hb:=fun c=>Dv (P:=P) w k (y:=cap) c (by omega:(0:Int)<=_) h2
   have:=(key _ .sliceB (by omega)).resolve_right (fun e=>e rfl)
   unfold Instr.sliceBounds
   simp only[Option.isSome_none,E8,if_false,Sem.run_bind,Sem.run_pure,Result.andThen_ok,hb]
   cases lo<;>simp at this ⊢<;>simp[this]
 ·obtain⟨k,rfl⟩:=hq
  cases h<;>cases hi<;>simp only[LG]at hh
  ·simp at hs
  ·obtain⟨k',rfl⟩:=hh
   simp only[I6]at *
   have hb1:=fun c=>Dv (P:=P) w k (y:=cap) c (by omega:(0:Int)<=_) h3
   have:=(key _ .slice3C (by omega)).resolve_right (fun e=>e rfl)
   unfold Instr.sliceBounds
   simp only[Option.isSome_some,if_true,Sem.run_bind,Result.andThen_ok,hb1]
   rw[Dv (P:=P) w k' _ (by omega) (by omega)]
   simp only[Result.andThen_ok]
   cases lo<;>simp at this ⊢<;>simp[this]
theorem D_ {x:Option Operand}{y:Option AE}{l:Option Int}(he:ER Z σ e a) (hx:V8 x=some y) (hl:AE.ints e y=some l):LG l (x.map a.eval):=by
 cases x with
 | none=>simp only[V8,AD]at hx;subst hx;simp[AE.ints]at hl;subst hl;trivial
 | some x=>
  simp only[V8,AP]at hx
  obtain⟨z,hz,rfl⟩:=hx
  simp only[AE.ints]at hl
  have:=AI he hz
  split at hl
  ·rename_i k n hv
   simp only[AD]at hl;subst hl
   rw[hv]at this
   exact⟨k,this.Bh⟩
  ·cases hl
theorem dP {c:List AV}{vs:List Value}{off i m:Nat}(hv:CC Z σ c ((vs.drop off).take c.length)) :
  CC Z σ ((c.drop i).take m) ((vs.drop (off+i)).take ((c.drop i).take m).length):=by
 have h:=(hv.drop i).take m
 have hl:=hv.length
 rw[Fl,De,Ea]at h
 rwa [BL,B3]
theorem dQ {c:List AV}{vs:List Value}{off i m:Nat}{u:Value}(hu:u∈(vs.drop (off+i)).take ((c.drop i).take m).length):u∈(vs.drop off).take c.length:=by
 rw[BL,B3]at hu
 have e:(vs.drop (off+i)).take (min m (c.length-i))=(((vs.drop off).take c.length).drop i).take m:=by
  rw[Fl,De,Ea]
 rw[e]at hu
 exact ED (Dq hu)
theorem dU {t el:TypeId}{esz:Nat}(ht:P.underlying t=some (.slice el)) (hz:Ct P el=some esz){x:AV}{vx:Value}(hx:VR Z σ x vx) {l h q:Option Int}{lo hi mx:Option Value}
  (hl:LG l lo) (hh:LG h hi) (hq:LG q mx) (hs:q.isSome=true->h.isSome=true) {v:AV} (hv:Mu esz x l h q=some v) :
  ∃cv,(Instr.sliceAt t vx lo hi mx).run P w=.ok cv w/\VR Z σ v cv:=by
 have hsz:∃i,P.info? el=some i/\i.size=esz:=by
  unfold Ct at hz
  simp only[AP]at hz
  obtain⟨i,h1,h2⟩:=hz
  exact⟨i,h1,h2⟩
 obtain⟨i,hi0,hie⟩:=hsz
 have run:∀(ad:Option Addr) (len cap:Nat) (L H Q:Int),l.getD 0=L->h.getD len=H->q.getD cap=Q->0<=L->L<=H->H<=Q->Q<=cap ->
   (Instr.sliceAt t (.slice ad len cap) lo hi mx).run P w=.ok (.slice (if Q.toNat=L.toNat then ad else ad.map (·.add (L.toNat*esz))) (H.toNat-L.toNat) (Q.toNat-L.toNat)) w:=by
  intro ad len cap L H Q e1 e2 e3 h0 h1 h2 h3
  subst e1;subst e2;subst e3
  have hb:=Ee (P:=P) w true len cap hl hh hq hs h0 h1 h2 h3
  simp[Instr.sliceAt,Instr.slice,run_underlying ht,hb,sizeOf,typeInfo,hi0,hie]
 unfold Mu at hv
 split at hv
 ·rw[hx.DQ]
  split at hv<;>simp only[AD,reduceCtorEq]at hv
  rename_i hc
  subst hv
  obtain⟨c1,c2,c3⟩:=hc
  exact⟨_,run none 0 0 0 0 0 c1 c2 c3 (by omega) (by omega) (by omega) (by omega),.nils⟩
 ·rename_i r o n m
  split at hv<;>simp only[AD,reduceCtorEq]at hv
  rename_i hc
  subst hv
  obtain⟨c1,c2,c3,c4⟩:=hc
  generalize hL:l.getD 0=L at *
  generalize hH:h.getD (n:Int)=H at *
  generalize hQ:q.getD (m:Int)=Q at *
  cases hx with
  | slx hp hn=>
   rename_i p
   refine⟨_,run (some ⟨p.b,p.base+o,none⟩) n m L H Q rfl hH hQ c1 c2 c3 c4,?_⟩
   have e1:(H-L).toNat=H.toNat-L.toNat:=by omega
   have e2:(Q-L).toNat=Q.toNat-L.toNat:=by omega
   rw[e1,e2]
   split
   ·rename_i heq
    have a1:H.toNat-L.toNat=0:=by omega
    have a2:Q.toNat-L.toNat=0:=by omega
    rw[a1,a2];exact .slxz hp _
   ·simp only[FA,C3]
    rw[Fg]
    exact .slx hp (by omega)
  | slxz hp ad=>
   refine⟨_,run (some ad) 0 0 L H Q rfl hH hQ c1 c2 c3 c4,?_⟩
   have a0:L=0:=by omega
   have a1:H=0:=by omega
   have a2:Q=0:=by omega
   subst a0;subst a1;subst a2
   exact .slxz hp _
 ·rename_i r o n es
  split at hv
  ·split at hv<;>simp only[AD,reduceCtorEq]at hv
   rename_i hc
   subst hv
   obtain⟨c0,c1,c2,c3⟩:=hc
   subst c0
   generalize hL:l.getD 0=L at *
   generalize hH:h.getD (n:Int)=H at *
   have e1:(H-L).toNat=H.toNat-L.toNat:=by omega
   rw[e1]
   cases hx with
   | slo hp hn hsz=>
    rename_i cap p
    refine⟨_,run (some ⟨p.b,p.base+o,none⟩) n cap L H cap rfl hH rfl c1 c2 (by omega) (by omega),?_⟩
    simp only[CL]
    split
    ·rename_i heq
     have a1:H.toNat-L.toNat=0:=by omega
     have a2:cap-L.toNat=0:=by omega
     rw[a1,a2];exact .sloz hp _
    ·simp only[FA,C3]
     rw[Fg]
     refine .slo hp (by omega) ?_
     rw[Nat.sub_mul]
     have:L.toNat*es<=cap*es:=DY _ (by omega)
     omega
   | sloz hp ad=>
    refine⟨_,run (some ad) 0 0 L H 0 rfl hH rfl c1 c2 (by omega) (by omega),?_⟩
    have a0:L=0:=by omega
    have a1:H=0:=by omega
    subst a0;subst a1
    exact .sloz hp _
  ·rename_i q'
   split at hv<;>simp only[AD,reduceCtorEq]at hv
   rename_i hc
   subst hv
   obtain⟨c1,c2,c3,c4⟩:=hc
   generalize hL:l.getD 0=L at *
   generalize hH:h.getD (n:Int)=H at *
   have e1:(H-L).toNat=H.toNat-L.toNat:=by omega
   have e2:(q'-L).toNat=q'.toNat-L.toNat:=by omega
   rw[e1,e2]
   cases hx with
   | slo hp hn hsz=>
    rename_i cap p
    refine⟨_,run (some ⟨p.b,p.base+o,none⟩) n cap L H q' rfl hH rfl c1 c2 c3 (by omega),?_⟩
    split
    ·rename_i heq
     have a1:H.toNat-L.toNat=0:=by omega
     have a2:q'.toNat-L.toNat=0:=by omega
     rw[a1,a2];exact .slxz hp _
    ·simp only[FA,C3]
     rw[Fg]
     exact .slx hp (by omega)
   | sloz hp ad=>
    refine⟨_,run (some ad) 0 0 L H q' rfl hH rfl c1 c2 c3 (by omega),?_⟩
    have a0:L=0:=by omega
    have a1:H=0:=by omega
    have a2:q'=0:=by omega
    subst a0;subst a1;subst a2
    exact .slxz hp _
 ·rename_i c n ex
  have fin:∀(H Q L:Int) (ad:Option Addr) (cap:Nat) (ex':Bool),0<=L->L<=H->H<=n->H<=Q->Q<=cap->(ex'=true->Q=H)->(ad=none->ex'=false)->VR Z σ (.sim c n ex) (.slice ad n cap) ->
    VR Z σ (.sim ((c.drop (L.toNat*esz)).take ((H-L).toNat*esz)) (H-L).toNat ex')
     (.slice (if Q.toNat=L.toNat then ad else ad.map (·.add (L.toNat*esz))) (H.toNat-L.toNat) (Q.toNat-L.toNat)):=by
   intro H Q L ad cap ex' c1 c2 c3 c4 c5 c6 c7 hx
   have e1:(H-L).toNat=H.toNat-L.toNat:=by omega
   rw[e1]
   by_cases hz0:H.toNat-L.toNat=0
   ·rw[hz0]
    simp only[G_,Iz]
    cases ad with
    | none=>cases hx with
     | simn=>
      have:Q.toNat-L.toNat=0:=by omega
      rw[this,c7 rfl];simp only[TO,ite_self];exact .simn
    | some ad=>
     split
     ·exact .simz _ (fun hx'=>by have:=c6 hx';omega)
     ·exact .simz _ (fun hx'=>by have:=c6 hx';omega)
   ·cases hx with
    | simz=>omega
    | simn=>omega
    | sim hn hx hs hz h1 hv=>
     rename_i ad c' e' fr'
     rw[if_neg (by omega)]
     have hadd:ad.add (L.toNat*esz)=⟨ad.block,ad.off+L.toNat*esz,none⟩:=by
      obtain⟨b0,o0,s0⟩:=ad
      simp only at hs;subst hs;exact C3 _ _ _
     simp only[FA,hadd]
     refine .sim (by omega) (fun hx'=>by have:=c6 hx';omega) rfl hz ?_ ?_
     ·intro u hu
      exact h1 u (dQ hu)
     ·exact dP hv
  split at hv
  ·split at hv<;>simp only[AD,reduceCtorEq]at hv
   rename_i hc
   subst hv
   obtain⟨c1,c2,c3⟩:=hc
   generalize hL:l.getD 0=L at *
   generalize hH:h.getD (n:Int)=H at *
   cases hx with
   | simz ad hx0=>
    rename_i cap
    refine⟨_,run (some ad) 0 cap L H cap rfl hH rfl c1 c2 (by omega) (by omega),?_⟩
    refine fin _ _ _ _ cap _ c1 c2 c3 (by omega) (by omega) ?_ (fun h=>by cases h) (.simz ad hx0)
    intro hb
    simp only[AS,decide_eq_true_eq]at hb
    have:=hx0 hb.1
    omega
   | simn=>
    refine⟨_,run none 0 0 L H 0 rfl hH rfl c1 c2 (by omega) (by omega),?_⟩
    exact fin _ _ _ _ 0 _ c1 c2 c3 (by omega) (by omega) (fun _=>by omega) (fun _=>rfl) .simn
   | sim hn hx hs hz h1 hv=>
    rename_i cap ad c' e' fr'
    refine⟨_,run (some ad) n cap L H cap rfl hH rfl c1 c2 (by omega) (by omega),?_⟩
    refine fin _ _ _ _ cap _ c1 c2 c3 (by omega) (by omega) ?_ (fun h=>by cases h) (.sim hn hx hs hz h1 hv)
    intro hb
    simp only[AS,decide_eq_true_eq]at hb
    have:=hx hb.1
    omega
  ·rename_i q'
   split at hv<;>simp only[AD,reduceCtorEq]at hv
   rename_i hc
   subst hv
   obtain⟨c1,c2,c3,c4⟩:=hc
   generalize hL:l.getD 0=L at *
   generalize hH:h.getD (n:Int)=H at *
   cases hx with
   | simz ad hx0=>
    rename_i cap
    refine⟨_,run (some ad) 0 cap L H q' rfl hH rfl c1 c2 c3 (by omega),?_⟩
    exact fin _ _ _ _ cap _ c1 c2 (by omega) c3 (by omega) (fun hb=>by simp only[AS,decide_eq_true_eq]at hb;exact hb.1.symm) (fun h=>by cases h) (.simz ad hx0)
   | simn=>
    refine⟨_,run none 0 0 L H q' rfl hH rfl c1 c2 c3 (by omega),?_⟩
    exact fin _ _ _ _ 0 _ c1 c2 (by omega) c3 (by omega) (fun hb=>by simp at hb) (fun _=>by simp) .simn
   | sim hn hx hs hz h1 hv=>
    rename_i cap ad c' e' fr'
    refine⟨_,run (some ad) n cap L H q' rfl hH rfl c1 c2 c3 (by omega),?_⟩
    exact fin _ _ _ _ cap _ c1 c2 (by omega) c3 (by omega) (fun hb=>by simp only[AS,decide_eq_true_eq]at hb;exact hb.1.symm) (fun h=>by cases h) (.sim hn hx hs hz h1 hv)
 ·cases hv
end
end
section
theorem Kc (off:Nat):∀(l:List Value) (k:Nat) (cs:Array Value),off+k+l.length<=cs.size ->
  (((l.zipIdx k).foldl (fun cs (c,j)=>cs.setIfInBounds (off+j) c) cs)).toList=cs.toList.take (off+k)++l++cs.toList.drop (off+k+l.length)
 | [],k,cs,_=>by simp
 | v::l,k,cs,h=>by
  simp only[List.zipIdx_cons,TQ]
  simp only[Be]at h
  rw[Kc off l (k+1) (cs.setIfInBounds (off+k) v) (by simp;omega)]
  have hs:off+k<cs.toList.length:=by simp;omega
  rw[SA]
  have h1:(cs.toList.set (off+k) v).take (off+(k+1))=cs.toList.take (off+k)++[v]:=by
   rw[show off+(k+1)=off+k+1 by omega,List.take_set]
   rw[Nx hs,G3 _ _ (by rw[BL];omega)]
   have e:off+k-(cs.toList.take (off+k)).length=0:=by rw[BL];omega
   rw[e];rfl
  have h2:(cs.toList.set (off+k) v).drop (off+(k+1)+l.length)=cs.toList.drop (off+k+(l.length+1)):=by
   rw[List.drop_set_of_lt (by omega),show off+(k+1)+l.length=off+k+(l.length+1)by omega]
  rw[h1,h2]
  simp
theorem YI (off:Nat) (l cs:Array Value) (h:off+l.size<=cs.size) :
  (l.zipIdx.foldl (fun cs (c,j)=>cs.setIfInBounds (off+j) c) cs).toList=cs.toList.take off++l.toList++cs.toList.drop (off+l.size):=by
 have:=Kc off l.toList 0 cs (by simpa using h)
 simp only[GS,Fe]at this
 rw[<- this,<- Array.foldl_toList]
 simp[Array.toList_zipIdx]
section
variable {P:Program}{Z:Zt}{σ:Sg}{e:Env}{a:Act}(w:World)
theorem Gq (he:ER Z σ e a){place:Nat->Option (Nat × Nat)}:∀{ps:List (Nat × Operand)}{qs:List (Nat × Nat × AE)}{cells:List AV}{vs:Array Value}{out:List AV},
  Gt place ps=some qs->CC Z σ cells vs.toList->(∀v∈vs.toList,v.oneCell'=true)->Bv e cells qs=some out ->
  ∃vs',Instr.fill place vs (ps.map fun(i,x)=>(i,a.eval x))=some vs'/\CC Z σ out vs'.toList/\∀v∈vs'.toList,v.oneCell'=true
 | [],qs,cells,vs,out,hc,hv,h1,hf=>by
  simp only[Gt,AD]at hc;subst hc
  simp only[Bv,AD]at hf;subst hf
  exact⟨vs,rfl,hv,h1⟩
 | (i,x)::ps,qs,cells,vs,out,hc,hv,h1,hf=>by
  simp only[Gt]at hc
  split at hc
  ·rename_i off n y ys hp hx hys
   simp only[AD]at hc;subst hc
   simp only[Bv]at hf
   split at hf
   ·cases hf
   ·rename_i l hl
    split at hf
    ·rename_i hcond
     obtain⟨c1,c2⟩:=hcond
     obtain⟨g1,g2⟩:=AV.Fk hl (AI he hx)
     have hlen:(a.eval x).cells.size=n:=by have:=g1.length;simp at this;omega
     have hlv:cells.length=vs.size:=by have:=hv.length;simpa using this
     have hfold:=YI off (a.eval x).cells vs (by omega)
     obtain⟨vs',r1,r2,r3⟩:=Gq he hys (cells:=cells.take off++l++cells.drop (off+n)) (vs:=((a.eval x).cells.zipIdx.foldl (fun cs (c,j)=>cs.setIfInBounds (off+j) c) vs))
      (by rw[hfold,hlen];exact((hv.take off).append g1).append (hv.drop _))
      (by
       rw[hfold];intro v hv'
       rcases BV.1 hv' with hv' | hv'
       ·rcases BV.1 hv' with hv' | hv'
        ·exact h1 v (Dq hv')
        ·exact g2 v hv'
       ·exact h1 v (ED hv')) hf
     refine⟨vs',?_,r2,r3⟩
     simp only[B1,Instr.fill,hp]
     rw[if_neg (by simp[hlen];omega)]
     exact r1
    ·cases hf
  ·cases hc
theorem CX {t:TypeId}{z:List AV}(h:EM P t=some z):∃i v,P.info? t=some i/\i.zero=some v/\CC Z σ z v.cells.toList/\∀u∈v.cells.toList,u.oneCell'=true:=by
 unfold EM at h
 cases hi:P.info? t with
 | none=>simp[hi]at h
 | some i=>
  cases hz:i.zero with
  | none=>simp[hi,hz]at h
  | some v=>
   simp only[hi,hz,LU]at h
   obtain⟨h1,h2⟩:=Gj (Z:=Z) (σ:=σ) h
   exact⟨i,v,rfl,hz,h1,h2⟩
theorem BX {t:TypeId}{n:Nat}(h:Ct P t=some n) (w:World):(sizeOf t).run P w=.ok n w:=by
 unfold Ct at h
 simp only[AP]at h
 obtain⟨i,h1,h2⟩:=h
 simp[sizeOf,typeInfo,h1,h2]
theorem IJ {t:TypeId}{b:Bool}(h:ZR P t=some b) (w:World):(isAgg t).run P w=.ok b w:=by
 unfold ZR at h
 unfold isAgg
 cases hu:P.underlying t with
 | none=>simp[hu]at h
 | some d=>cases d<;>simp[hu]at h<;>subst h<;>simp[run_underlying hu]
theorem PS {t:TypeId}{g:Option Nat}(h:Ic P t=some g){l:List AV}{vs:Array Value}(hv:CC Z σ l vs.toList) (h1:∀v∈vs.toList,v.oneCell'=true){off:Nat}{v:AV}
  (hp:apart g l off=some v) :
  ∃cv,(part t vs off).run P w=.ok cv w/\VR Z σ v cv:=by
 unfold Ic at h
 cases ha:ZR P t with
 | none=>simp[ha]at h
 | some b=>
  cases hs:Ct P t with
  | none=>simp[ha,hs]at h
  | some n=>
   cases b
   ·simp[ha,hs]at h;subst h
    simp only[apart]at hp
    obtain⟨cv,g1,g2⟩:=hv.get hp
    refine⟨cv,?_,g2⟩
    have g1':vs[off]?=some cv:=by simpa using g1
    simp[part,IJ ha,g1']
   ·simp[ha,hs]at h;subst h
    simp only[apart]at hp
    split at hp
    ·simp only[AD]at hp;subst hp
     refine⟨.agg (vs.extract off (off+n)),by simp[part,IJ ha,BX hs],?_⟩
     have e:(vs.extract off (off+n)).toList=(vs.toList.drop off).take n:=by simp[Array.toList_extract]
     refine .agg ?_ ?_
     ·rw[e];intro u hu;exact h1 u (ED (Dq hu))
     ·rw[e];exact(hv.drop _).take _
    ·cases hp
end
end
section
section
variable {P:Program}{Z:Zt}{σ:Sg}
theorem Q7 {w:World}{t:TypeId}{z:AV}(h:ka P t=some z):∃zv,(zeroValue t).run P w=.ok zv w/\VR Z σ z zv:=by
 unfold ka at h
 cases hi:P.info? t with
 | none=>simp[hi]at h
 | some i=>
  cases hz:i.zero with
  | none=>simp[hi,hz]at h
  | some v=>
   simp only[hi,hz,LU]at h
   exact⟨v,by simp[zeroValue,typeInfo,hi,hz],Ka h⟩
theorem YK {t:TypeId}{ty:Bool × List SK}(h:Ui P t=some (.wide ty)):P.eqGuardType P.depth t=false/\UI P t=some ty/\(match P.underlying t with | some (.array _ _) | some (.struct _)=>true | _=>false)=true:=by
 unfold Ui at h
 split at h<;>(try (cases h;done))
 ·split at h<;>cases h
 ·rename_i hu
  split at h<;>(try (cases h;done))
  rename_i hg
  simp only[AP,ky.wide.injEq]at h
  obtain⟨ty',h1,rfl⟩:=h
  exact⟨hg,h1,by rw[hu]⟩
 ·rename_i hu
  split at h<;>(try (cases h;done))
  rename_i hg
  simp only[AP,ky.wide.injEq]at h
  obtain⟨ty',h1,rfl⟩:=h
  exact⟨hg,h1,by rw[hu]⟩
theorem aM {t:TypeId}{ty:Bool × List SK}(h:UI P t=some ty) (hw:(match P.underlying t with | some (.array _ _) | some (.struct _)=>true | _=>false)=true):P.keyTypeAt (P.types.size+1) t=true/\P.types.size+2<=10000:=by
 unfold UI at h
 split at h
 ·rename_i hu;rw[hu]at hw;cases hw
 ·rename_i hu;rw[hu]at hw;cases hw
 ·split at h<;>(try (cases h;done))
  rename_i hc
  simp only[AS,decide_eq_true_eq]at hc
  exact⟨hc.1.1,hc.2⟩
 ·split at h<;>(try (cases h;done))
  rename_i hc
  simp only[AS,decide_eq_true_eq]at hc
  exact⟨hc.1.1,hc.2⟩
 ·cases h
theorem mJ (w:World){t:TypeId}{et:ky}(ht:Ui P t=some et) {x y:AV}{vx vy:Value}(hx:VR Z σ x vx) (hy:VR Z σ y vy){b:Bool}(hb:Yg et x y=some b) (ox oy:Operand) (neg:Bool) :
  (eqGuard (bif neg then .neq else .eql) t ox oy vx vy >>= fun _=>binOp (bif neg then .neq else .eql) t vx vy).run P w=.ok (.bool (bif neg then !b else b)) w:=by
 have main:(eqGuard (bif neg then .neq else .eql) t ox oy vx vy).run P w=.ok () w->(Op.equal t vx vy).run P w=.ok b w->(binOp .eql t vx vy=(do pure (.bool (<- Op.equal t vx vy)))/\binOp .neq t vx vy=(do pure (.bool (!(<- Op.equal t vx vy))))) ->
   (eqGuard (bif neg then .neq else .eql) t ox oy vx vy >>= fun _=>binOp (bif neg then .neq else .eql) t vx vy).run P w=.ok (.bool (bif neg then !b else b)) w:=by
  intro h1 h2 h3
  rw[Sem.run_bind,h1,Result.andThen_ok]
  cases neg
  ·rw[cond_false,h3.1];simp[h2]
  ·rw[cond_true,h3.2];simp[h2]
 cases et with
 | bool=>
  have hu:P.underlying t=some .bool:=by
   unfold Ui at ht
   split at ht<;>(try (cases ht;done))
   ·assumption
   ·split at ht<;>cases ht
   ·split at ht
    ·simp at ht
    ·cases ht
   ·split at ht
    ·simp at ht
    ·cases ht
  cases x<;>simp only[Yg]at hb<;>(try (cases hb;done))
  cases y<;>simp only[]at hb<;>(try (cases hb;done))
  simp only[AD]at hb;subst hb
  rw[hx.EX,hy.EX]at *
  refine main ?_ ?_ ?_
  ·unfold eqGuard;cases neg<;>simp
  ·exact run_equal_bool w t _ _ hu
  ·constructor<;>simp only[binOp]
 | slice=>
  have hu:∃el,P.underlying t=some (.slice el):=by
   unfold Ui at ht
   split at ht<;>(try (cases ht;done))
   ·exact⟨_,by assumption⟩
   ·split at ht<;>cases ht
   ·split at ht
    ·simp at ht
    ·cases ht
   ·split at ht
    ·simp at ht
    ·cases ht
  obtain⟨el,hu⟩:=hu
  have key:∀(a a':Option Addr) (n c n' c':Nat),vx=.slice a n c->vy=.slice a' n' c'->(a=none\/a'=none)->b=(a.isNone&&a'.isNone) ->
    (eqGuard (bif neg then .neq else .eql) t ox oy vx vy >>= fun _=>binOp (bif neg then .neq else .eql) t vx vy).run P w=.ok (.bool (bif neg then !b else b)) w:=by
   intro a a' n c n' c' e1 e2 hn hbb
   subst e1 e2
   refine main ?_ ?_ ?_
   ·unfold eqGuard;cases neg<;>simp
   ·have q:∀d,(Op.equalIn (d+1) t (.slice a n c) (.slice a' n' c')).run P w=.ok b w:=by
     intro d
     rcases hn with rfl | rfl
     ·cases a'<;>simp[Op.equalIn,run_underlying hu,hbb]
     ·cases a<;>simp[Op.equalIn,run_underlying hu,hbb]
    exact q 9999
   ·constructor<;>simp only[binOp]
  have slsome:∀{r o n:Nat} {l:Qe} {v:Value},VR Z σ (.sl r o n l) v->∃a n c,v=.slice (some a) n c:=by
   intro r o n l v h;cases h<;>exact⟨_,_,_,rfl⟩
  have simsome:∀{l:List AV} {n:Nat} {ex:Bool} {v:Value},VR Z σ (.sim l n ex) v->(0<n\/ex=true)->∃a n c,v=.slice (some a) n c:=by
   intro l n ex v h h0;cases h<;>first | exact⟨_,_,_,rfl⟩ | (rcases h0 with h0 | h0<;>first | omega | cases h0)
  cases x<;>simp only[Yg]at hb<;>(try (cases hb;done))<;>cases y<;>simp only[]at hb<;>(try (cases hb;done))<;>(try simp only[AD]at hb)
  ·exact key none none 0 0 0 0 hx.DQ hy.DQ (.inl rfl) (by simp[hb])
  ·obtain⟨a,n,c,e⟩:=slsome hy
   exact key none (some a) 0 0 n c hx.DQ e (.inl rfl) (by simp[<- hb])
  ·split at hb<;>(try (cases hb;done))
   rename_i h0
   simp only[AD]at hb
   obtain⟨a,n,c,e⟩:=simsome hy h0
   exact key none (some a) 0 0 n c hx.DQ e (.inl rfl) (by simp[<- hb])
  ·obtain⟨a,n,c,e⟩:=slsome hx
   exact key (some a) none n c 0 0 e hy.DQ (.inr rfl) (by simp[<- hb])
  ·split at hb<;>(try (cases hb;done))
   rename_i h0
   simp only[AD]at hb
   obtain⟨a,n,c,e⟩:=simsome hx h0
   exact key (some a) none n c 0 0 e hy.DQ (.inr rfl) (by simp[<- hb])
 | ptr=>
  have hu:∃el,P.underlying t=some (.pointer el):=by
   unfold Ui at ht
   split at ht<;>(try (cases ht;done))
   ·split at ht<;>cases ht
   ·split at ht
    ·simp at ht
    ·cases ht
   ·split at ht
    ·simp at ht
    ·cases ht
   ·exact⟨_,by assumption⟩
  obtain⟨el,hu⟩:=hu
  have key:∀(a a':Option Addr),vx=.pointer a->vy=.pointer a'->(a=none\/a'=none)->b=(a.isNone&&a'.isNone) ->
    (eqGuard (bif neg then .neq else .eql) t ox oy vx vy >>= fun _=>binOp (bif neg then .neq else .eql) t vx vy).run P w=.ok (.bool (bif neg then !b else b)) w:=by
   intro a a' e1 e2 hn hbb
   subst e1 e2
   refine main ?_ ?_ ?_
   ·unfold eqGuard;cases neg<;>simp
   ·have q:∀d,(Op.equalIn (d+1) t (.pointer a) (.pointer a')).run P w=.ok b w:=by
     intro d
     rcases hn with rfl | rfl
     ·cases a'<;>simp[Op.equalIn,run_underlying hu,hbb]
     ·cases a<;>simp[Op.equalIn,run_underlying hu,hbb]
    exact q 9999
   ·constructor<;>simp only[binOp]
  have nin:∀{v:Value},VR Z σ .nilp v->v=.pointer none:=by intro v h;cases h;rfl
  have pin:∀{r o:Nat} {v:Value},VR Z σ (.ptr r o) v->∃a,v=.pointer (some a):=by intro r o v h;cases h;exact⟨_,rfl⟩
  have qin:∀{l:List AV} {o:Nat} {v:Value},VR Z σ (.pim l o) v->∃a,v=.pointer (some a):=by intro l o v h;cases h;exact⟨_,rfl⟩
  cases x<;>simp only[Yg]at hb<;>(try (cases hb;done))<;>cases y<;>simp only[]at hb<;>(try (cases hb;done))<;>simp only[AD]at hb<;>subst hb <;>
   first
    | exact key none none (nin hx) (nin hy) (.inl rfl) rfl
    | exact(pin hy).elim fun a e=>key none (some a) (nin hx) e (.inl rfl) rfl
    | exact(qin hy).elim fun a e=>key none (some a) (nin hx) e (.inl rfl) rfl
    | exact(pin hx).elim fun a e=>key (some a) none e (nin hy) (.inr rfl) rfl
    | exact(qin hx).elim fun a e=>key (some a) none e (nin hy) (.inr rfl) rfl
 | iface=>
  have hu:∃ms,P.underlying t=some (.interface ms)/\ms.isEmpty=true:=by
   unfold Ui at ht
   split at ht<;>(try (cases ht;done))
   ·rename_i ms hu
    split at ht
    ·exact⟨ms,hu,by assumption⟩
    ·cases ht
   ·split at ht
    ·simp at ht
    ·cases ht
   ·split at ht
    ·simp at ht
    ·cases ht
  obtain⟨ms,hu,hms⟩:=hu
  have ifin:∀{u:TypeId} {z:AV} {v:Value},VR Z σ (.ifc u z) v->∃q,v=.iface u q:=by
   intro u z v h;cases h;exact⟨_,rfl⟩
  have nin:∀{v:Value},VR Z σ .nili v->v=.nilIface:=by intro v h;cases h;rfl
  cases x<;>simp only[Yg]at hb<;>(try (cases hb;done))<;>cases y<;>simp only[]at hb<;>(try (cases hb;done))<;>simp only[AD]at hb<;>subst hb
  ·have e1:=nin hx
   have e2:=nin hy
   subst e1 e2
   refine main ?_ ?_ ?_
   ·have q:∀d,(Op.eqGuardIn (d+1) t .nilIface .nilIface).run P w=.ok false w:=fun d=>by simp[Op.eqGuardIn,run_underlying hu,hms]
    have q':(Op.eqGuardIn Op.maxDepth t .nilIface .nilIface).run P w=.ok false w:=q 9999
    unfold eqGuard
    cases neg<;>(simp only[cond_true,cond_false];simp only[Sem.run_bind,Bool.not_true,Bool.not_false];simp[q'])
   ·have q:∀d,(Op.equalIn (d+1) t .nilIface .nilIface).run P w=.ok true w:=fun d=>by simp[Op.equalIn,run_underlying hu]
    exact q 9999
   ·constructor<;>simp only[binOp]
  ·have e1:=nin hx
   obtain⟨q,e2⟩:=ifin hy
   subst e1 e2
   refine main ?_ ?_ ?_
   ·unfold eqGuard;cases neg<;>simp
   ·have q:∀d u,(Op.equalIn (d+1) t .nilIface (.iface u q)).run P w=.ok false w:=fun d u=>by simp[Op.equalIn,run_underlying hu]
    exact q 9999 _
   ·constructor<;>simp only[binOp]
  ·have e1:=nin hy
   obtain⟨q,e2⟩:=ifin hx
   subst e1 e2
   refine main ?_ ?_ ?_
   ·unfold eqGuard;cases neg<;>simp
   ·have q:∀d u,(Op.equalIn (d+1) t (.iface u q) .nilIface).run P w=.ok false w:=fun d u=>by simp[Op.equalIn,run_underlying hu]
    exact q 9999 _
   ·constructor<;>simp only[binOp]
 | wide ty=>
  obtain⟨hg,hk,hw⟩:=YK ht
  obtain⟨hkt,hsz⟩:=aM hk hw
  simp only[Yg]at hb
  split at hb<;>simp only[AD,reduceCtorEq]at hb
  rename_i L L' h1 h2
  have v1:=H_ hx h1
  have v2:=H_ hy h2
  have k1:=D4 hk v1
  have k2:=D4 hk v2
  obtain⟨r,hr,hiff⟩:=run_equal_deep w (m:=P.types.size+1) (by omega) hkt hw k1 k2
  have hagg:∃cs cs',vx=.agg cs/\vy=.agg cs':=by
   have wd:ty.1=true:=by
    unfold UI at hk
    split at hk
    ·rename_i hu;rw[hu]at hw;cases hw
    ·rename_i hu;rw[hu]at hw;cases hw
    ·split at hk<;>(try (cases hk;done))
     simp only[AP]at hk
     obtain⟨ks,_,rfl⟩:=hk;rfl
    ·split at hk<;>(try (cases hk;done))
     simp only[AP]at hk
     obtain⟨ks,_,rfl⟩:=hk;rfl
    ·cases hk
   obtain⟨tb,ks⟩:=ty
   simp only at wd;subst wd
   cases vx<;>simp only[KP]at v1<;>(try (cases v1;done))
   cases vy<;>simp only[KP]at v2<;>(try (cases v2;done))
   exact⟨_,_,rfl,rfl⟩
  obtain⟨cs,cs',rfl,rfl⟩:=hagg
  refine main ?_ ?_ ?_
  ·unfold eqGuard
   cases neg<;>simp[hg]
  ·have:r=b:=by
    have e1:r=true↔L=L':=by
     rw[hiff]
     constructor
     ·intro e
      exact(Wi hk v1 v2).1 ((Ho hk).inj k1 (by rw[e];exact k2))
     ·intro e;rw[e]
    have e2:b=true↔L=L':=by rw[<- hb];exact Eg
    cases r<;>cases b<;>simp_all
   rw[<- this];exact hr
  ·constructor<;>simp only[binOp]
end
end
section
section
variable {P:Program}{Z:Zt}{σ:Sg}{e:Env}{a:Act}(w:World)
theorem BF {s:Sem Value}{cv:Value}(h:s.run P w=.ok cv w):((do pure (.value (<- s)):Sem Next)).run P w=.ok (.value cv) w:=by simp[h]
def cK (P:Program) (Z:Zt) (σ:Sg) (o:Oper) (a:Act) (v:AV):Prop:=∀w,∃cv,(execOp a.eval o).run P w=.ok (.value cv) w/\VR Z σ v cv
theorem Tn {α β:Type}(f:α->Sem β) (g:α->β):∀(l:List α),(∀x∈l,∀w,(f x).run P w=.ok (g x) w)->∀w,(l.mapM f).run P w=.ok (l.map g) w
 | [],_,w=>by simp
 | x::l,h,w=>by
  have ih:=Tn f g l (fun y hy=>h y (Cx _ hy)) w
  simp[I0,h x (BY ..) w,ih]
theorem PF {α β:Type}(f:α->Sem β) (g:α->β) (l:Array α) (h:∀x∈l.toList,∀w,(f x).run P w=.ok (g x) w) (w:World):(l.mapM f).run P w=.ok (l.map g) w:=by
 rw[Oq]
 have:=Tn f g l.toList h w
 simp only[Sem.run_map,this,Result.andThen_ok]
 congr 1
 exact DE (by simp)
theorem Z4 {t:TypeId}{fs:Array Field}{ps:Array (Nat × Operand)}(hu:P.underlying t=some (.struct fs)) (hall:fs.toList.all (fun f=>(Ct P f.type).isSome)=true){z:List AV}{qs:List (Nat × Nat × AE)}
  (he:ER Z σ e a) (hz:EM P t=some z) (hq:Gt (fun i=>(fs[i]?).map fun f=>(f.offset,(Ct P f.type).getD 0)) ps.toList=some qs) {out:List AV} (hf:Bv e z qs=some out) :
  ∃cv,(Instr.build t (ps.map fun(i,x)=>(i,a.eval x))).run P w=.ok cv w/\VR Z σ (.agg out) cv:=by
 obtain⟨i,zv,h1,h2,h3,h4⟩:=CX (Z:=Z) (σ:=σ) hz
 obtain⟨vs',r1,r2,r3⟩:=Gq he hq h3 h4 hf
 refine⟨.agg vs',?_,.agg r3 r2⟩
 have hm:=PF (P:=P) (fun f:Field=>do pure (f.offset,<- sizeOf f.type)) (fun f=>(f.offset,(Ct P f.type).getD 0)) fs (by
  intro x hx w
  have:=CW.1 hall x hx
  obtain⟨n,hn⟩:=E9.1 this
  simp[BX hn,hn]) w
 have hpl:(fun x:Nat=>(fs.map fun(f:Field)=>(f.offset,(Ct P f.type).getD 0))[x]?)=(fun i=>(fs[i]?).map fun f=>(f.offset,(Ct P f.type).getD 0)):=by funext i;simp
 rw[<- hpl]at r1
 have hz':(zeroValue t).run P w=.ok zv w:=by simp[zeroValue,typeInfo,h1,h2]
 simp only[Instr.build,Sem.run_bind,hz',Result.andThen_ok,run_underlying hu,hm,GV,r1]
 rfl
theorem Z5 {t el:TypeId}{n len:Nat}{ps:Array (Nat × Operand)}(hu:P.underlying t=some (.array len el)) (hn:Ct P el=some n){z:List AV}{qs:List (Nat × Nat × AE)}
  (he:ER Z σ e a) (hz:EM P t=some z) (hq:Gt (fun i=>some (i*n,n)) ps.toList=some qs) {out:List AV} (hf:Bv e z qs=some out) :
  ∃cv,(Instr.build t (ps.map fun(i,x)=>(i,a.eval x))).run P w=.ok cv w/\VR Z σ (.agg out) cv:=by
 obtain⟨i,zv,h1,h2,h3,h4⟩:=CX (Z:=Z) (σ:=σ) hz
 obtain⟨vs',r1,r2,r3⟩:=Gq he hq h3 h4 hf
 refine⟨.agg vs',?_,.agg r3 r2⟩
 have hz':(zeroValue t).run P w=.ok zv w:=by simp[zeroValue,typeInfo,h1,h2]
 simp only[Instr.build,Sem.run_bind,hz',Result.andThen_ok,run_underlying hu,BX hn,GV,r1]
 rfl
theorem Vb {x:AV}{vx:Value}(hx:VR Z σ x vx){v:AV}(hv:Ik x=some v) :
  ∃cv,(match vx with
   | .pointer none | .nilIface | .nilFunc=>runtimePanic .nilDeref
   | .func (.method name) first captured=>
    match (first[0]?:Option Value)with
    | some .nilIface=>runtimePanic .nilDeref
    | some (.iface t w)=>do
     if (<- nilAhead ((<- program).types.size+Made.depth) t w name) != some false then
      unsupported (.noEntry "op/nilCheck.the method's receiver behind this interface value is a nil pointer, or cannot be seen to be none, and the arguments act or may panic (ledger 612)")
     pure (.value (.func (.method name) first captured))
    | _=>pure (.value (.func (.method name) first captured))
   | x=>pure (.value x):Sem Next).run P w=.ok (.value cv) w/\VR Z σ v cv:=by
 unfold Ik at hv
 split at hv<;>(try cases hv)
 ·have h:=hx;cases hx;exact⟨_,rfl,h⟩
 ·have h:=hx;cases hx;exact⟨_,rfl,h⟩
 ·have h:=hx;cases hx;exact⟨_,rfl,h⟩
theorem T2 {t:TypeId}{fs:Array Field}{i:Nat}{f:Field}{n:Nat}(hu:P.underlying t=some (.struct fs)) (hf:fs[i]?=some f) (hn:Ct P f.type=some (n+1)){x:AV}{vx:Value}(hx:VR Z σ x vx){v:AV}
  (hv:Fc f.offset x=some v):∃cv,(Instr.fieldAt t vx i).run P w=.ok cv w/\VR Z σ v cv:=by
 unfold Fc at hv
 split at hv<;>simp only[AD,reduceCtorEq]at hv<;>subst hv
 ·rename_i r o
  obtain⟨p,hp,rfl⟩:=hx.HF
  refine⟨.pointer (some ⟨p.b,p.base+o+f.offset,none⟩),?_,?_⟩
  ·simp[Instr.fieldAt,run_underlying hu,hf,Instr.sureAddr,fieldPlace,BX hn,C3]
  ·rw[Fg];exact .ptr hp
 ·rename_i l o
  obtain⟨b,base,c,el,fr,hz,h1,hv,rfl⟩:=hx.SX
  refine⟨.pointer (some ⟨b,base+o+f.offset,none⟩),?_,?_⟩
  ·simp[Instr.fieldAt,run_underlying hu,hf,Instr.sureAddr,fieldPlace,BX hn,C3]
  ·rw[Fg];exact .pim hz h1 hv
theorem Sb {t el:TypeId}{n k:Nat}(hu:P.underlying t=some (.array n el)) (hk:Ct P el=some k) {x i:AV}{vx vi:Value}(hx:VR Z σ x vx) (hi:VR Z σ i vi){v:AV}
  (hv:Ke n k x i=some v):∃cv,(Instr.indexAt t vx vi).run P w=.ok cv w/\VR Z σ v cv:=by
 unfold Ke at hv
 split at hv<;>(try cases hv;done)
 ·split at hv<;>simp only[AD,reduceCtorEq]at hv
  rename_i r o k' j hc;subst hv
  obtain⟨p,hp,rfl⟩:=hx.HF
  rw[hi.Bh]
  refine⟨.pointer (some ⟨p.b,p.base+o+j.toNat*k,none⟩),?_,?_⟩
  ·simp[Instr.indexAt,asIntOf,run_underlying hu,Instr.sureAddr,hc,BX hk,C3]
  ·rw[Fg];exact .ptr hp
 ·split at hv<;>simp only[AD,reduceCtorEq]at hv
  rename_i l o k' j hc;subst hv
  obtain⟨b,base,c,el,fr,hz,h1,hv,rfl⟩:=hx.SX
  rw[hi.Bh]
  refine⟨.pointer (some ⟨b,base+o+j.toNat*k,none⟩),?_,?_⟩
  ·simp[Instr.indexAt,asIntOf,run_underlying hu,Instr.sureAddr,hc,BX hk,C3]
  ·rw[Fg];exact .pim hz h1 hv
theorem Sa {t el:TypeId}{k:Nat}(hu:P.underlying t=some (.slice el)) (hk:Ct P el=some k) {x i:AV}{vx vi:Value}(hx:VR Z σ x vx) (hi:VR Z σ i vi){v:AV}
  (hv:Ey k x i=some v):∃cv,(Instr.indexAt t vx vi).run P w=.ok cv w/\VR Z σ v cv:=by
 unfold Ey at hv
 split at hv<;>(try cases hv;done)
 ·split at hv<;>simp only[AD,reduceCtorEq]at hv
  rename_i r o n lim k' j hc;subst hv
  rw[hi.Bh]
  have main:∀(p:Ip) (cap:Nat),σ r=some p->∃cv,(Instr.indexAt t (.slice (some ⟨p.b,p.base+o,none⟩) n cap) (.int k' j)).run P w=.ok cv w/\VR Z σ (.ptr r (o+j.toNat*k)) cv:=by
   intro p cap hp
   refine⟨.pointer (some ⟨p.b,p.base+o+j.toNat*k,none⟩),?_,?_⟩
   ·simp[Instr.indexAt,asIntOf,run_underlying hu,hc,BX hk,C3]
   ·rw[Fg];exact .ptr hp
  cases hx with
  | slx hp hn=>exact main _ _ hp
  | slxz=>omega
  | slo hp hn hs=>exact main _ _ hp
  | sloz=>omega
 ·split at hv<;>simp only[AD,reduceCtorEq]at hv
  rename_i l n ex k' j hc;subst hv
  rw[hi.Bh]
  cases hx with
  | sim hn hx hs hz h1 hv=>
   rename_i cap ad c e' fr
   obtain⟨b0,o0,s0⟩:=ad
   simp only at hs;subst hs
   refine⟨.pointer (some ⟨b0,o0+j.toNat*k,none⟩),?_,.pim hz h1 hv⟩
   simp[Instr.indexAt,asIntOf,run_underlying hu,hc,BX hk,C3]
  | simz=>omega
  | simn=>omega
theorem Zf {t el:TypeId}{n esz:Nat}(ht:P.underlying t=some (.array n el)) (hz:Ct P el=some esz){x:AV}{vx:Value}(hx:VR Z σ x vx) {l h q:Option Int}{lo hi mx:Option Value}
  (hl:LG l lo) (hh:LG h hi) (hq:LG q mx) (hs:q.isSome=true->h.isSome=true) {r o:Nat} (hxe:x=.ptr r o) (h0:0<=l.getD 0) (h1:l.getD 0<=h.getD n) (h2:h.getD n<=q.getD n) (h3:q.getD n<=n) :
  ∃cv,(Instr.sliceAt t vx lo hi mx).run P w=.ok cv w/\VR Z σ (.sl r (o+(l.getD 0).toNat*esz) (h.getD n-l.getD 0).toNat (.ex (q.getD n-l.getD 0).toNat)) cv:=by
 subst hxe
 obtain⟨p,hp,rfl⟩:=hx.HF
 have hb:=Ee (P:=P) w false n n hl hh hq hs h0 h1 h2 h3
 refine⟨.slice (some (if (q.getD (n:Int)).toNat=(l.getD 0).toNat then⟨p.b,p.base+o,none⟩else(⟨p.b,p.base+o,none⟩:Addr).add ((l.getD 0).toNat*esz))) ((h.getD (n:Int)).toNat-(l.getD 0).toNat) ((q.getD (n:Int)).toNat-(l.getD 0).toNat),by simp[Instr.sliceAt,run_underlying ht,Instr.sureAddr,hb,BX hz],?_⟩
 have e1:(h.getD (n:Int)-l.getD 0).toNat=(h.getD (n:Int)).toNat-(l.getD 0).toNat:=by omega
 have e2:(q.getD (n:Int)-l.getD 0).toNat=(q.getD (n:Int)).toNat-(l.getD 0).toNat:=by omega
 rw[e1,e2]
 split
 ·have a1:(h.getD (n:Int)).toNat-(l.getD 0).toNat=0:=by omega
  have a2:(q.getD (n:Int)).toNat-(l.getD 0).toNat=0:=by omega
  rw[a1,a2];exact .slxz hp _
 ·rw[C3,Fg];exact .slx hp (by omega)
theorem mI {t el:TypeId}{x:AV}{vx:Value}(hel:P.underlying t=some (.slice el)) (hx:VR Z σ x vx){n:Nat}(hv:YU x=some n) (ty:TypeId) :
  (Builtin.len_ #[t] ty #[vx]).run P w=.ok (.int .i64 n) w:=by
 unfold YU at hv
 split at hv<;>simp only[AD,reduceCtorEq]at hv<;>subst hv
 all_goals cases hx<;>simp[Builtin.len_,run_underlying hel,goInt]
theorem Tf (s:List UInt8) (i j:Nat):(⟨s.toArray⟩:ByteArray).extract i j=⟨((s.drop i).take (j-i)).toArray⟩:=by
 apply ByteArray.ext
 rw[ByteArray.data_extract]
 exact DE (by simp)
theorem Db {ρ:Operand->Value}{o:Oper}{b:Builtin}{args:Array Operand}{ats:Array TypeId}(ho:o.op=.call { callee:=.builtin b,args,argTypes:=ats }) (w:World) :
  (execOp ρ o).run P w=(builtin b ats o.type (args.map fun | .const _=>true | _=>false) (args.map ρ)).run P w:=by
 unfold execOp
 simp only[ho,resolve,Sem.run_bind,Sem.run_pure,Result.andThen_ok]
 rfl
theorem S_ {o:Oper}{k:AK}(hk:GM P o=some k) (he:ER Z σ e a){v:AV}(hv:AJ k e=some v):cK P Z σ o a v:=by
 obtain⟨dst,op,ty,pos,after,guard⟩:=o
 unfold GM at hk
 cases op<;>simp only[]at hk<;>(try (cases hk;done))
 case move x=>
  simp only[AP]at hk
  obtain⟨y,hy,rfl⟩:=hk
  simp only[AJ,AD]at hv;subst hv
  exact fun w=>⟨a.eval x,rfl,AI he hy⟩
 case assign x=>
  simp only[AP]at hk
  obtain⟨y,hy,rfl⟩:=hk
  simp only[AJ,AD]at hv;subst hv
  exact fun w=>⟨a.eval x,rfl,AI he hy⟩
 case pick c x y=>
  split at hk
  ·rename_i c' x' y' h1 h2 h3
   simp only[AD]at hk;subst hk
   simp only[AJ]at hv
   split at hv
   ·rename_i p hp
    simp only[AD]at hv;subst hv
    obtain⟨g1,g2⟩:=g_ he h1 h2 h3 hp
    exact fun w=>⟨_,by simp[execOp,g1,asBool],g2⟩
   ·cases hv
  ·cases hk
 case build t ps=>
  split at hk
  ·rename_i fs z hu hz
   split at hk
   ·rename_i hall
    simp only[AP]at hk
    obtain⟨qs,hq,rfl⟩:=hk
    simp only[AJ,AP]at hv
    obtain⟨out,hf,rfl⟩:=hv
    intro w
    obtain⟨cv,r1,r2⟩:=Z4 w hu hall he hz hq hf
    exact⟨cv,BF w r1,r2⟩
   ·cases hk
  ·rename_i n el z hu hz
   split at hk
   ·rename_i sz hn
    simp only[AP]at hk
    obtain⟨qs,hq,rfl⟩:=hk
    simp only[AJ,AP]at hv
    obtain⟨out,hf,rfl⟩:=hv
    intro w
    obtain⟨cv,r1,r2⟩:=Z5 w hu hn he hz hq hf
    exact⟨cv,BF w r1,r2⟩
   ·cases hk
  ·cases hk
 case nilCheck x=>
  simp only[AP]at hk
  obtain⟨y,hy,rfl⟩:=hk
  simp only[AJ]at hv
  exact fun w=>Vb w (AI he hy) hv
 case binOp op t x y ty'=>
  split at hk
  ·rename_i x' y' h1 h2
   split at hk
   ·rename_i et het
    simp only[AD]at hk;subst hk
    simp only[AJ,AP]at hv
    obtain⟨b,hb,rfl⟩:=hv
    intro w
    exact⟨_,BF w (mJ w het (AI he h1) (AI he h2) hb x y false),.bool _⟩
   ·rename_i et het
    simp only[AD]at hk;subst hk
    simp only[AJ,AP]at hv
    obtain⟨b,hb,rfl⟩:=hv
    intro w
    exact⟨_,BF w (mJ w het (AI he h1) (AI he h2) hb x y true),.bool _⟩
   ·simp only[AD]at hk;subst hk
    intro w
    obtain⟨cv,r1,r2⟩:=lb w (t:=t) (AI he h1) (AI he h2) hv x y
    exact⟨cv,BF w r1,r2⟩
  ·cases hk
 case unOp op t x=>
  simp only[AP]at hk
  obtain⟨y,hy,rfl⟩:=hk
  intro w
  obtain⟨cv,r1,r2⟩:=rA w (AI he hy) hv
  exact⟨cv,BF w r1,r2⟩
 case convert s d x=>
  split at hk
  ·rename_i k0 k1 y h1 h2 h3
   simp only[AD]at hk;subst hk
   simp only[AJ]at hv
   split at hv<;>simp only[AD,reduceCtorEq]at hv
   rename_i k2 n hn;subst hv
   have hx:=AI he h3
   rw[hn]at hx
   exact fun w=>⟨_,BF w (by rw[hx.Bh];simp[convert,run_underlying h1,run_underlying h2,Conv.intToInt]),.int _ _⟩
  ·rename_i y h1 h2 h3
   simp only[AD]at hk;subst hk
   simp only[AJ]at hv
   split at hv<;>simp only[AD,reduceCtorEq]at hv
   rename_i l hn;subst hv
   have hx:=AI he h3
   rw[hn]at hx
   exact fun w=>⟨_,BF w (by rw[hx.HD];simp[convert,run_underlying h1,run_underlying h2]),.str _⟩
  ·split at hk<;>simp only[AD,reduceCtorEq]at hk
   subst hk;simp[AJ]at hv
  ·split at hk<;>simp only[AD,reduceCtorEq]at hk
   subst hk;simp[AJ]at hv
  ·split at hk<;>(try (cases hk;done))
   split at hk<;>simp only[AD,reduceCtorEq]at hk
   subst hk;simp[AJ]at hv
  ·cases hk
 case makeInterface t x=>
  split at hk
  ·cases hk
  ·rename_i d hd hn
   simp only[AP]at hk
   obtain⟨y,hy,rfl⟩:=hk
   simp only[AJ,AD]at hv;subst hv
   refine fun w=>⟨.iface t (a.eval x),BF w ?_,.ifc (AI he hy)⟩
   simp only[Instr.makeInterface,Sem.run_bind,run_underlying hn,Result.andThen_ok]
   cases d<;>first | rfl | exact absurd rfl (hd _)
  ·cases hk
 case makeFunc fn first cap=>
  split at hk
  ·rename_i x y h1 h2
   simp only[AD]at hk;subst hk
   simp only[AJ,AD]at hv;subst hv
   exact fun w=>⟨_,rfl,.fn (by simpa using Ev he h1) (by simpa using Ev he h2)⟩
  ·cases hk
 case fieldAddr t x i=>
  split at hk
  ·rename_i fs y hu hy
   simp only[C5]at hk
   obtain⟨f,hf,hk⟩:=hk
   split at hk<;>simp only[AD,reduceCtorEq]at hk
   rename_i n hn;subst hk
   intro w
   obtain⟨cv,r1,r2⟩:=T2 w hu hf hn (AI he hy) hv
   exact⟨cv,BF w r1,r2⟩
  ·cases hk
 case field t x i=>
  split at hk
  ·rename_i fs y hu hy
   simp only[C5,AP]at hk
   obtain⟨f,hf,g,hg,rfl⟩:=hk
   simp only[AJ]at hv
   split at hv
   ·rename_i l hl
    have hx:=AI he hy
    rw[hl]at hx
    obtain⟨vs,e1,h1,h2⟩:=hx.TA
    intro w
    obtain⟨cv,r1,r2⟩:=PS w hg h2 h1 hv
    exact⟨cv,BF w (by simp[Instr.field,run_underlying hu,hf,e1,asAgg,r1]),r2⟩
   ·cases hv
  ·cases hk
 case indexAddr t x i=>
  split at hk
  ·rename_i n el x' i' hu h1 h2
   simp only[AP]at hk
   obtain⟨k,hk,rfl⟩:=hk
   intro w
   obtain⟨cv,r1,r2⟩:=Sb w hu hk (AI he h1) (AI he h2) hv
   exact⟨cv,BF w r1,r2⟩
  ·rename_i el x' i' hu h1 h2
   simp only[AP]at hk
   obtain⟨k,hk,rfl⟩:=hk
   intro w
   obtain⟨cv,r1,r2⟩:=Sa w hu hk (AI he h1) (AI he h2) hv
   exact⟨cv,BF w r1,r2⟩
  ·cases hk
 case index t x i=>
  split at hk
  ·rename_i n el x' i' hu h1 h2
   split at hk<;>simp only[AD,reduceCtorEq]at hk
   rename_i k g hk1 hg;subst hk
   simp only[AJ]at hv
   split at hv<;>(try cases hv;done)
   rename_i l k' j hl hj
   split at hv<;>(try cases hv;done)
   rename_i hc
   have hx:=AI he h1
   rw[hl]at hx
   have hi:=AI he h2
   rw[hj]at hi
   obtain⟨vs,e1,g1,g2⟩:=hx.TA
   intro w
   obtain⟨cv,r1,r2⟩:=PS w hg g2 g1 hv
   exact⟨cv,BF w (by simp[Instr.index,asIntOf,hi.Bh,run_underlying hu,e1,hc,BX hk1,r1]),r2⟩
  ·rename_i x' i' hu h1 h2
   simp only[AD]at hk;subst hk
   simp only[AJ]at hv
   split at hv<;>(try cases hv;done)
   rename_i l k' j hl hj
   split at hv<;>(try cases hv;done)
   rename_i hc
   simp only[AP]at hv
   obtain⟨b,hb,rfl⟩:=hv
   have hx:=AI he h1
   rw[hl]at hx
   have hi:=AI he h2
   rw[hj]at hi
   refine fun w=>⟨.int .u8 b.toNat,BF w ?_,.int _ _⟩
   rw[hx.HD,hi.Bh]
   have hb':(⟨l.toArray⟩:ByteArray)[j.toNat]?=some b:=by
    obtain⟨hlt,hge⟩:=CJ.1 hb
    have hs:j.toNat<(⟨l.toArray⟩:ByteArray).size:=by simpa[ByteArray.size]using hlt
    rw[getElem?_pos (⟨l.toArray⟩:ByteArray) j.toNat hs]
    simp only[AD]
    rw[<- hge];rfl
   simp[Instr.index,asIntOf,run_underlying hu,hc,hb']
  ·cases hk
 case extract x ix=>
  simp only[AP]at hk
  obtain⟨y,hy,rfl⟩:=hk
  simp only[AJ]at hv
  split at hv
  ·rename_i l hl
   have hx:=AI he hy
   rw[hl]at hx
   obtain⟨vs,e1,h2⟩:=hx.Wl
   obtain⟨cv,g1,g2⟩:=h2.get hv
   have g1':vs[ix]?=some cv:=by simpa using g1
   exact fun w=>⟨cv,BF w (by simp[Instr.extract,e1,g1']),g2⟩
  ·cases hv
 case slice t x lo hi mx=>
  split at hk
  ·rename_i el x' lo' hi' mx' hu h1 h2 h3 h4
   simp only[AP]at hk
   obtain⟨k,hk,rfl⟩:=hk
   simp only[AJ]at hv
   split at hv<;>(try cases hv;done)
   rename_i l h q e1 e2 e3
   split at hv<;>(try cases hv;done)
   rename_i hs
   intro w
   obtain⟨cv,r1,r2⟩:=dU w hu hk (AI he h1) (D_ he h2 e1) (D_ he h3 e2) (D_ he h4 e3) hs hv
   exact⟨cv,BF w r1,r2⟩
  ·rename_i n el x' lo' hi' mx' hu h1 h2 h3 h4
   simp only[AP]at hk
   obtain⟨k,hk,rfl⟩:=hk
   simp only[AJ]at hv
   split at hv<;>(try cases hv;done)
   rename_i r o hx
   split at hv<;>(try cases hv;done)
   rename_i l h q e1 e2 e3
   split at hv<;>(try cases hv;done)
   rename_i hc
   obtain⟨hs,c1,c2,c3,c4⟩:=hc
   simp only[AD]at hv;subst hv
   intro w
   obtain⟨cv,r1,r2⟩:=Zf w hu hk (AI he h1) (D_ he h2 e1) (D_ he h3 e2) (D_ he h4 e3) hs hx c1 c2 c3 c4
   exact⟨cv,BF w r1,r2⟩
  ·rename_i x' lo' hi' hu h1 h2 h3 h4
   simp only[AD]at hk;subst hk
   simp only[AJ]at hv
   split at hv<;>(try cases hv;done)
   rename_i s hx
   split at hv<;>(try cases hv;done)
   rename_i l h e1 e2
   split at hv<;>(try cases hv;done)
   rename_i hc
   obtain⟨c1,c2,c3⟩:=hc
   simp only[AD]at hv;subst hv
   have hxx:=AI he h1
   rw[hx]at hxx
   have hmx:mx=none:=by
    cases mx with
    | none=>rfl
    | some m=>simp[V8]at h4
   subst hmx
   intro w
   have hsz:(⟨s.toArray⟩:ByteArray).size=s.length:=by simp[<- ByteArray.size_data]
   have hb:=Ee (P:=P) w false (⟨s.toArray⟩:ByteArray).size (⟨s.toArray⟩:ByteArray).size (D_ he h2 e1) (D_ he h3 e2) (show LG none none from trivial) (by simp) c1 (by rw[hsz];exact c2) (by rw[hsz];simpa using c3) (by simp)
   refine⟨_,BF w (by simp[Instr.sliceAt,Instr.slice,run_underlying hu,hxx.HD,hb];rfl),?_⟩
   rw[hsz,Tf]
   have e3:(h.getD (s.length:Int)-l.getD 0).toNat=(h.getD (s.length:Int)).toNat-(l.getD 0).toNat:=by omega
   rw[e3]
   exact .str _
  ·cases hk
 case call c=>
  obtain⟨callee,args,ats⟩:=c
  cases callee with
  | value f=>
   simp only[]at hk
   split at hk<;>simp only[AD,reduceCtorEq]at hk
   subst hk
   rename_i f' l _ _
   rcases TV P f' l with⟨c,x,y,hx⟩ | hx<;>rw[hx]at hv<;>simp[AJ]at hv
  | invoke r m=>simp at hk
  | builtin b=>
   have exec:=fun w=>Db (P:=P) (ρ:=a.eval) (o:={ dst,op:=.call { callee:=.builtin b,args,argTypes:=ats },type:=ty,pos,after,guard }) rfl w
   cases b<;>simp only[]at hk<;>(try (simp only[reduceCtorEq]at hk;done))<;>(try (cases hk;done))
   case clear=>
    split at hk<;>(try cases hk;done)
    split at hk<;>(try cases hk;done)
    split at hk<;>(try cases hk;done)
    split at hk<;>simp only[AD,reduceCtorEq]at hk
    subst hk;simp[AJ]at hv
   case copy=>
    split at hk<;>(try cases hk;done)
    split at hk<;>(try cases hk;done)
    split at hk<;>simp only[AD,reduceCtorEq]at hk
    subst hk;simp[AJ]at hv
   case append=>
    split at hk<;>(try cases hk;done)
    split at hk<;>(try cases hk;done)
    split at hk<;>(try cases hk;done)
    ·split at hk<;>simp only[AD,reduceCtorEq]at hk
     subst hk;simp[AJ]at hv
    ·split at hk<;>simp only[AD,reduceCtorEq]at hk
     subst hk;simp[AJ]at hv
   case cap=>
    split at hk<;>(try cases hk;done)
    rename_i x t hargs hats
    have ea:args=#[x]:=by cases args;simp_all
    have et:ats=#[t]:=by cases ats;simp_all
    subst ea;subst et
    split at hk<;>simp only[AD,reduceCtorEq]at hk<;>subst hk
    rename_i el y hu hy
    simp only[AJ]at hv
    have hx:=AI he hy
    split at hv<;>simp only[AD,reduceCtorEq]at hv<;>subst hv
    ·rename_i hn
     rw[hn]at hx
     refine fun w=>⟨_,?_,.int _ _⟩
     rw[exec]
     simp[builtin,Builtin.cap_,run_underlying hu,hx.DQ,goInt]
    ·rename_i r o n m hn
     rw[hn]at hx
     refine fun w=>⟨.int .i64 m,?_,.int _ _⟩
     rw[exec]
     have hxx:∃ad n',a.eval x=.slice ad n' m:=by
      generalize a.eval x=vx at hx
      cases hx<;>exact⟨_,_,rfl⟩
     obtain⟨ad,n',hxx⟩:=hxx
     simp[builtin,Builtin.cap_,run_underlying hu,goInt,hxx]
   case len=>
    split at hk<;>(try cases hk;done)
    rename_i x t hargs hats
    have ea:args=#[x]:=by cases args;simp_all
    have et:ats=#[t]:=by cases ats;simp_all
    subst ea;subst et
    split at hk<;>simp only[AD,reduceCtorEq]at hk<;>subst hk<;>simp only[AJ,AP,AD]at hv
    ·rename_i el y hu hy
     split at hv<;>simp only[AD,reduceCtorEq]at hv
     rename_i n hn
     subst hv
     refine fun w=>⟨.int .i64 n,?_,.int _ _⟩
     rw[exec]
     simp[builtin,mI w hu (AI he hy) hn ty]
    ·rename_i y hu hy
     split at hv<;>simp only[AD,reduceCtorEq]at hv
     rename_i l hl
     subst hv
     refine fun w=>⟨.int .i64 l.length,?_,.int _ _⟩
     rw[exec]
     have hx:=AI he hy
     rw[hl]at hx
     simp[builtin,Builtin.len_,run_underlying hu,hx.HD,goInt,<- ByteArray.size_data]
    ·rename_i n el y hu hy
     subst hv
     refine fun w=>⟨.int .i64 n,?_,.int _ _⟩
     rw[exec]
     simp[builtin,Builtin.len_,run_underlying hu,goInt]
    ·cases hv
   case min=>
    split at hk<;>(try cases hk;done)
    ·rename_i x y hargs
     have ea:args=#[x,y]:=by cases args;simp_all
     subst ea
     split at hk<;>simp only[AD,reduceCtorEq]at hk
     rename_i x' y' h1 h2
     subst hk
     simp only[AJ]at hv
     split at hv<;>(try cases hv;done)
     rename_i k1 n1 k2 n2 e1 e2
     split at hv<;>simp only[AD,reduceCtorEq]at hv
     rename_i hkk;subst hkk;subst hv
     have hx:=AI he h1
     have hy:=AI he h2
     rw[e1]at hx;rw[e2]at hy
     refine fun w=>⟨_,?_,.int _ _⟩
     rw[exec]
     simp[builtin,Builtin.min_,Builtin.min2,hx.Bh,hy.Bh]
    ·rename_i x y z hargs
     have ea:args=#[x,y,z]:=by cases args;simp_all
     subst ea
     split at hk<;>simp only[AD,reduceCtorEq]at hk
     rename_i x' y' z' h1 h2 h3
     subst hk
     simp only[AJ]at hv
     split at hv<;>(try cases hv;done)
     rename_i k1 n1 k2 n2 k3 n3 e1 e2 e3
     split at hv<;>simp only[AD,reduceCtorEq]at hv
     rename_i hkk;obtain⟨rfl,rfl⟩:=hkk;subst hv
     have hx:=AI he h1
     have hy:=AI he h2
     have hz:=AI he h3
     rw[e1]at hx;rw[e2]at hy;rw[e3]at hz
     refine fun w=>⟨_,?_,.int _ _⟩
     rw[exec]
     simp[builtin,Builtin.min_,Builtin.min2,hx.Bh,hy.Bh,hz.Bh,qW]
   case max=>
    split at hk<;>(try cases hk;done)
    ·rename_i x y hargs
     have ea:args=#[x,y]:=by cases args;simp_all
     subst ea
     split at hk<;>simp only[AD,reduceCtorEq]at hk
     rename_i x' y' h1 h2
     subst hk
     simp only[AJ]at hv
     split at hv<;>(try cases hv;done)
     rename_i k1 n1 k2 n2 e1 e2
     split at hv<;>simp only[AD,reduceCtorEq]at hv
     rename_i hkk;subst hkk;subst hv
     have hx:=AI he h1
     have hy:=AI he h2
     rw[e1]at hx;rw[e2]at hy
     refine fun w=>⟨_,?_,.int _ _⟩
     rw[exec]
     simp[builtin,Builtin.max_,Builtin.max2,hx.Bh,hy.Bh]
    ·rename_i x y z hargs
     have ea:args=#[x,y,z]:=by cases args;simp_all
     subst ea
     split at hk<;>simp only[AD,reduceCtorEq]at hk
     rename_i x' y' z' h1 h2 h3
     subst hk
     simp only[AJ]at hv
     split at hv<;>(try cases hv;done)
     rename_i k1 n1 k2 n2 k3 n3 e1 e2 e3
     split at hv<;>simp only[AD,reduceCtorEq]at hv
     rename_i hkk;obtain⟨rfl,rfl⟩:=hkk;subst hv
     have hx:=AI he h1
     have hy:=AI he h2
     have hz:=AI he h3
     rw[e1]at hx;rw[e2]at hy;rw[e3]at hz
     refine fun w=>⟨_,?_,.int _ _⟩
     rw[exec]
     simp[builtin,Builtin.max_,Builtin.max2,hx.Bh,hy.Bh,hz.Bh,qW]
   case recover=>
    simp only[AD]at hk
    subst hk;simp[AJ]at hv
 case load t x=>
  split at hk
  ·simp only[AD]at hk
   subst hk;simp[AJ]at hv
  ·split at hk
   ·simp only[AD]at hk
    subst hk;simp[AJ]at hv
   ·cases hk
  ·cases hk
 case store t x y=>
  split at hk<;>simp only[AD,reduceCtorEq]at hk
  subst hk;simp[AJ]at hv
 case alloc t=>
  simp only[AP]at hk
  obtain⟨y,hy,rfl⟩:=hk
  simp[AJ]at hv
 case box t x=>
  simp only[AP]at hk
  obtain⟨y,hy,rfl⟩:=hk
  simp[AJ]at hv
 case buildSlice t n ps=>
  split at hk<;>(try cases hk;done)
  split at hk<;>(try cases hk;done)
  split at hk<;>(try cases hk;done)
  simp only[AP]at hk
  obtain⟨y,hy,rfl⟩:=hk
  simp[AJ]at hv
 case makeSlice t l c=>
  split at hk<;>(try cases hk;done)
  split at hk<;>(try cases hk;done)
  split at hk<;>(try cases hk;done)
  simp only[AD]at hk;subst hk
  simp[AJ]at hv
 case defer c=>
  obtain⟨callee,args,ats⟩:=c
  cases callee with
  | value f=>
   simp only[]at hk
   split at hk<;>simp only[AD,reduceCtorEq]at hk
   subst hk;simp[AJ]at hv
  | invoke r m=>simp at hk
  | builtin b=>simp at hk
 case panic x=>
  simp only[AP]at hk
  obtain⟨y,hy,rfl⟩:=hk
  simp[AJ]at hv
 case typeAssert x xt t ok=>
  cases ok<;>simp only[]at hk<;>(try (cases hk;done))
  split at hk<;>(try (cases hk;done))
  rename_i d hni hu
  split at hk<;>simp only[AD,reduceCtorEq]at hk
  rename_i x' z h1 h2
  subst hk
  have hx:=AI he h1
  simp only[AJ]at hv
  intro w
  obtain⟨zv,hz1,hz2⟩:=Q7 (Z:=Z) (σ:=σ) (w:=w) h2
  split at hv<;>simp only[AD,reduceCtorEq]at hv
  ·rename_i t' v' hx'
   subst hv
   rw[hx']at hx
   have hif:∃vv,a.eval x=.iface t' vv/\VR Z σ v' vv:=by
    generalize a.eval x=vx at hx
    cases hx with
    | ifc hv'=>exact⟨_,rfl,hv'⟩
   obtain⟨vv,hif,hv'⟩:=hif
   ·by_cases ht:t'=t
    ·refine⟨.tuple #[vv,.bool true],?_,by rw[if_pos ht];exact .tup (.cons hv' (.cons (.bool _) .nil))⟩
     refine BF w ?_
     unfold Instr.typeAssert
     cases d<;>first | exact absurd rfl (hni _) | simp[run_underlying hu,ht,hif]
    ·refine⟨.tuple #[zv,.bool false],?_,by rw[if_neg ht];exact .tup (.cons hz2 (.cons (.bool _) .nil))⟩
     refine BF w ?_
     unfold Instr.typeAssert
     cases d<;>first | exact absurd rfl (hni _) | simp[run_underlying hu,ht,hz1,hif]
  ·rename_i hx'
   subst hv
   rw[hx']at hx
   have hnil:a.eval x=.nilIface:=by generalize a.eval x=vx at hx;cases hx;rfl
   refine⟨.tuple #[zv,.bool false],?_,.tup (.cons hz2 (.cons (.bool _) .nil))⟩
   refine BF w ?_
   rw[hnil]
   unfold Instr.typeAssert
   cases d<;>first | exact absurd rfl (hni _) | simp[run_underlying hu,hz1]
 case range t x=>
  split at hk<;>(try cases hk;done)
  simp only[AP]at hk
  obtain⟨y,hy,rfl⟩:=hk
  simp[AJ]at hv
 case next x s=>
  cases s<;>simp only[reduceCtorEq]at hk
  simp only[AP]at hk
  obtain⟨y,hy,rfl⟩:=hk
  simp[AJ]at hv
 case entry x=>
  simp only[AP]at hk
  obtain⟨y,hy,rfl⟩:=hk
  simp[AJ]at hv
 case makeMap t r=>
  cases r<;>simp only[AD,reduceCtorEq]at hk
  subst hk;simp[AJ]at hv
 case lookup t m k' ok=>
  split at hk<;>(try cases hk;done)
  split at hk<;>simp only[AD,reduceCtorEq]at hk
  subst hk;simp[AJ]at hv
 case mapUpdate t m k' v'=>
  split at hk<;>(try cases hk;done)
  simp only[AP]at hk
  obtain⟨y,hy,rfl⟩:=hk
  simp[AJ]at hv
 case insert t m k' v'=>
  split at hk<;>(try cases hk;done)
  simp only[AP]at hk
  obtain⟨y,hy,rfl⟩:=hk
  simp[AJ]at hv
theorem Na {o:Oper}{k:AK}(hk:Dp P o=some k) (he:ER Z σ e a){v:AV}(hv:AJ k e=some v):cK P Z σ o a v:=by
 unfold Dp at hk
 cases h:GM P o with
 | none=>rw[h]at hk;cases hk;cases hv
 | some k'=>rw[h]at hk;cases hk;exact S_ h he hv
end
end
end Go.AL
