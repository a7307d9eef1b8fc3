import Derived.Calls
import Derived.Laws.World
import Derived.Laws.NewBlocks
import Derived.Laws.AppendOwn
import Derived.Laws.IdiomCopy
import GoSem.ClaimKeys
import Derived.ChangeKeysEq
import Derived.Maps.Keyed
import Derived.DeepKeys3
/-
  abstract values and heaps; pure operations are sound.
-/
set_option linter.unusedSectionVars false
set_option linter.unusedVariables false
set_option linter.unusedSimpArgs false
namespace Go.AL
inductive Lim where
  | ex (m : Nat)
  | op (esz : Nat)
inductive AV where
  | unk
  | bool (b : Bool)
  | int (k : IntKind) (n : Int)
  | str (l : List UInt8)
  | nilp
  | ptr (r o : Nat)
  | pim (l : List AV) (o : Nat)
  | nils
  | sl (r o n : Nat) (lim : Lim)
  | sim (l : List AV) (n : Nat) (ex : Bool)
  | nilm
  | mp (r : Nat)
  | nilf
  | fn (f : Fn) (first cap : List AV)
  | nili
  | ifc (t : TypeId) (v : AV)
  | agg (l : List AV)
  | tup (l : List AV)
  deriving Inhabited
inductive AObj where
  | cells (l : List AV)
  | map (es : List (AV × AV × Nat)) (clock : Nat)
structure AH where
  get : Nat → Option AObj
  next : Nat
  gl : Nat → Option Obj
namespace AH
def set (H : AH) (r : Nat) (o : AObj) : AH := ⟨fun x => if x = r then some o else H.get x, H.next, H.gl⟩
def erase (H : AH) (r : Nat) : AH := ⟨fun x => if x = r then none else H.get x, H.next, H.gl⟩
def push (H : AH) (o : AObj) : AH := ⟨fun x => if x = H.next then some o else H.get x, H.next + 1, H.gl⟩
def empty : AH := ⟨fun _ => none, 0, fun _ => none⟩
 @[simp] theorem next_set (H : AH) (r o) : (H.set r o).next = H.next := rfl
 @[simp] theorem next_erase (H : AH) (r) : (H.erase r).next = H.next := rfl
 @[simp] theorem next_push (H : AH) (o) : (H.push o).next = H.next + 1 := rfl
theorem get_set (H : AH) (r o x) : (H.set r o).get x = if x = r then some o else H.get x := rfl
theorem get_push (H : AH) (o x) : (H.push o).get x = if x = H.next then some o else H.get x := rfl
theorem get_erase (H : AH) (r x) : (H.erase r).get x = if x = r then none else H.get x := rfl
 @[simp] theorem get_set_same (H : AH) (r o) : (H.set r o).get r = some o := by simp [get_set]
 @[simp] theorem get_push_same (H : AH) (o) : (H.push o).get H.next = some o := by simp [get_push]
theorem get_set_ne (H : AH) {r x} (o) (h : x ≠ r) : (H.set r o).get x = H.get x := by simp [get_set, h]
theorem get_push_ne (H : AH) {x} (o) (h : x ≠ H.next) : (H.push o).get x = H.get x := by simp [get_push, h]
theorem ext {H H' : AH} (h : ∀ x, H.get x = H'.get x) (hn : H.next = H'.next) (hg : H.gl = H'.gl := by rfl) : H = H' := by
  cases H; cases H'; simp at hn hg; subst hn; subst hg; congr 1; exact funext h
end AH
structure Zt where
  blk : Nat → Option Obj
  os : Os
  out : Array (Nat × ByteArray)
  frz : Addr → Bool
  old : Nat → Prop
instance : CoeFun Zt (fun _ => Nat → Option Obj) := ⟨Zt.blk⟩
structure Plc where
  b : Nat
  base : Nat
  size : Nat
abbrev Sg := Nat → Option Plc
mutual
inductive VR (Z : Zt) (σ : Sg) : AV → Value → Prop
  | unk (v : Value) : VR Z σ .unk v
  | bool (b : Bool) : VR Z σ (.bool b) (.bool b)
  | int (k : IntKind) (n : Int) : VR Z σ (.int k n) (.int k n)
  | str (l : List UInt8) : VR Z σ (.str l) (.string ⟨l.toArray⟩)
  | nilp : VR Z σ .nilp (.pointer none)
  | ptr {r o : Nat} {p : Plc} (h : σ r = some p) : VR Z σ (.ptr r o) (.pointer (some ⟨p.b, p.base + o, none⟩))
  | pim {l : List AV} {o b base : Nat} {c : Array Value} {e : TypeId} {fr : Nat × Nat} (hz : Z b = some (.cells c e fr))
      (h1 : ∀ v ∈ (c.toList.drop base).take l.length, v.oneCell' = true) (hv : VRs Z σ l ((c.toList.drop base).take l.length)) : VR Z σ (.pim l o) (.pointer (some ⟨b, base + o, none⟩))
  | nils : VR Z σ .nils (.slice none 0 0)
  | slx {r o n m : Nat} {p : Plc} (h : σ r = some p) (hn : n ≤ m) : VR Z σ (.sl r o n (.ex m)) (.slice (some ⟨p.b, p.base + o, none⟩) n m)
  | slxz {r o : Nat} {p : Plc} (h : σ r = some p) (a : Addr) : VR Z σ (.sl r o 0 (.ex 0)) (.slice (some a) 0 0)
  | slo {r o n esz cap : Nat} {p : Plc} (h : σ r = some p) (hn : n ≤ cap) (hs : p.base + o + cap * esz ≤ p.size) :
      VR Z σ (.sl r o n (.op esz)) (.slice (some ⟨p.b, p.base + o, none⟩) n cap)
  | sloz {r o esz : Nat} {p : Plc} (h : σ r = some p) (a : Addr) : VR Z σ (.sl r o 0 (.op esz)) (.slice (some a) 0 0)
  | sim {l : List AV} {n cap : Nat} {ex : Bool} {a : Addr} {c : Array Value} {e : TypeId} {fr : Nat × Nat} (hn : n ≤ cap) (hx : ex = true → cap = n) (hs : a.spot = none)
      (hz : Z a.block = some (.cells c e fr))
      (h1 : ∀ v ∈ (c.toList.drop a.off).take l.length, v.oneCell' = true) (hv : VRs Z σ l ((c.toList.drop a.off).take l.length)) :
      VR Z σ (.sim l n ex) (.slice (some a) n cap)
  | simz {cap : Nat} {ex : Bool} (a : Addr) (hx : ex = true → cap = 0) : VR Z σ (.sim [] 0 ex) (.slice (some a) 0 cap)
  | simn : VR Z σ (.sim [] 0 false) (.slice none 0 0)
  | nilm : VR Z σ .nilm (.map none)
  | mp {r : Nat} {p : Plc} (h : σ r = some p) : VR Z σ (.mp r) (.map (some p.b))
  | nilf : VR Z σ .nilf .nilFunc
  | fn {f : Fn} {first cap : List AV} {vf vc : Array Value} (h1 : VRs Z σ first vf.toList) (h2 : VRs Z σ cap vc.toList) : VR Z σ (.fn f first cap) (.func f vf vc)
  | nili : VR Z σ .nili .nilIface
  | ifc {t : TypeId} {x : AV} {v : Value} (h : VR Z σ x v) : VR Z σ (.ifc t x) (.iface t v)
  | agg {l : List AV} {vs : Array Value} (h1 : ∀ v ∈ vs.toList, v.oneCell' = true) (h : VRs Z σ l vs.toList) : VR Z σ (.agg l) (.agg vs)
  | tup {l : List AV} {vs : Array Value} (h : VRs Z σ l vs.toList) : VR Z σ (.tup l) (.tuple vs)
inductive VRs (Z : Zt) (σ : Sg) : List AV → List Value → Prop
  | nil : VRs Z σ [] []
  | cons {x : AV} {v : Value} {l : List AV} {vs : List Value} (h : VR Z σ x v) (t : VRs Z σ l vs) : VRs Z σ (x :: l) (v :: vs)
end
structure Zle (Z Z' : Zt) : Prop where
  le : ∀ b o, Z b = some o → Z' b = some o
  os : Z'.os = Z.os
  out : Z'.out = Z.out
  frz : Z'.frz = Z.frz
  old : Z'.old = Z.old
def OldOk (Z : Zt) : Prop := ∀ b, Z.old b → ∃ o, Z b = some o
theorem OldOk.le {Z Z' : Zt} (h : OldOk Z) (hl : Zle Z Z') : OldOk Z' := fun b hb => by
  rw [hl.old] at hb
  obtain ⟨o, ho⟩ := h b hb
  exact ⟨o, hl.le b o ho⟩
def Sle (σ σ' : Sg) : Prop := ∀ r p, σ r = some p → σ' r = some p
theorem Zle.refl (Z : Zt) : Zle Z Z := ⟨fun _ _ h => h, rfl, rfl, rfl, rfl⟩
theorem Zle.trans {Z Z' Z'' : Zt} (h : Zle Z Z') (h' : Zle Z' Z'') : Zle Z Z'' := ⟨fun _ _ x => h'.le _ _ (h.le _ _ x), h'.os.trans h.os, h'.out.trans h.out, h'.frz.trans h.frz, h'.old.trans h.old⟩
theorem Sle.refl (σ : Sg) : Sle σ σ := fun _ _ h => h
theorem Sle.trans {σ σ' σ'' : Sg} (h : Sle σ σ') (h' : Sle σ' σ'') : Sle σ σ'' := fun _ _ x => h' _ _ (h _ _ x)
def Zc (Z Z' : Zt) : Prop := ∀ b c e fr, Z b = some (.cells c e fr) → Z' b = some (.cells c e fr)
theorem Zle.c {Z Z' : Zt} (h : Zle Z Z') : Zc Z Z' := fun b _ _ _ hb => h.le b _ hb
section
variable {Z Z' : Zt} {σ σ' : Sg} (hZ : Zc Z Z') (hS : Sle σ σ')
 include hZ hS
theorem VR.monoC {x : AV} {v : Value} (h : VR Z σ x v) : VR Z' σ' x v := by
  refine VR.rec (motive_1 := fun x v _ => VR Z' σ' x v) (motive_2 := fun l vs _ => VRs Z' σ' l vs) ?_ ?_ ?_ ?_ ?_ ?_ ?_ ?_ ?_ ?_ ?_ ?_ ?_ ?_ ?_ ?_ ?_ ?_ ?_ ?_ ?_ ?_ ?_ ?_ ?_ h
  case refine_1 => exact fun v => .unk v
  case refine_2 => exact fun v => .bool v
  case refine_3 => exact fun k n => .int k n
  case refine_4 => exact fun l => .str l
  case refine_5 => exact .nilp
  case refine_6 => exact fun h => .ptr (hS _ _ h)
  case refine_7 => exact fun hz h1 _ ih => .pim (hZ _ _ _ _ hz) h1 ih
  case refine_8 => exact .nils
  case refine_9 => exact fun h hn => .slx (hS _ _ h) hn
  case refine_10 => exact fun h a => .slxz (hS _ _ h) a
  case refine_11 => exact fun h hn hs => .slo (hS _ _ h) hn hs
  case refine_12 => exact fun h a => .sloz (hS _ _ h) a
  case refine_13 => exact fun hn hx hs hz h1 _ ih => .sim hn hx hs (hZ _ _ _ _ hz) h1 ih
  case refine_14 => exact fun a hx => .simz a hx
  case refine_15 => exact .simn
  case refine_16 => exact .nilm
  case refine_17 => exact fun h => .mp (hS _ _ h)
  case refine_18 => exact .nilf
  case refine_19 => exact fun _ _ i1 i2 => .fn i1 i2
  case refine_20 => exact .nili
  case refine_21 => exact fun _ ih => .ifc ih
  case refine_22 => exact fun h1 _ ih => .agg h1 ih
  case refine_23 => exact fun _ ih => .tup ih
  case refine_24 => exact .nil
  case refine_25 => exact fun _ _ i1 i2 => .cons i1 i2
theorem VRs.monoC {l : List AV} {vs : List Value} (h : VRs Z σ l vs) : VRs Z' σ' l vs := by
  induction l generalizing vs with
  | nil => cases h; exact .nil
  | cons x l ih => cases h with | cons h t => exact .cons (h.monoC hZ hS) (ih t)
end
theorem VR.mono {Z Z' : Zt} {σ σ' : Sg} (hZ : Zle Z Z') (hS : Sle σ σ') {x : AV} {v : Value} (h : VR Z σ x v) : VR Z' σ' x v := h.monoC hZ.c hS
theorem VRs.mono {Z Z' : Zt} {σ σ' : Sg} (hZ : Zle Z Z') (hS : Sle σ σ') {l : List AV} {vs : List Value} (h : VRs Z σ l vs) : VRs Z' σ' l vs := h.monoC hZ.c hS
theorem VRs.length {Z : Zt} {σ : Sg} {l : List AV} {vs : List Value} (h : VRs Z σ l vs) : l.length = vs.length := by
  induction l generalizing vs with
  | nil => cases h; rfl
  | cons x l ih => cases h with | cons h t => simp [ih t]
theorem VRs.get {Z : Zt} {σ : Sg} {l : List AV} {vs : List Value} (h : VRs Z σ l vs) {i : Nat} {x : AV} (hx : l[i]? = some x) : ∃ v, vs[i]? = some v ∧ VR Z σ x v := by
  induction l generalizing vs i with
  | nil => simp at hx
  | cons y l ih =>
    cases h with
    | cons h t =>
      cases i with
      | zero => simp at hx; subst hx; exact ⟨_, rfl, h⟩
      | succ i => simpa using ih t (by simpa using hx)
theorem VRs.append {Z : Zt} {σ : Sg} {l l' : List AV} {vs vs' : List Value} (h : VRs Z σ l vs) (h' : VRs Z σ l' vs') : VRs Z σ (l ++ l') (vs ++ vs') := by
  induction l generalizing vs with
  | nil => cases h; exact h'
  | cons x l ih => cases h with | cons h t => exact .cons h (ih t)
theorem VRs.take {Z : Zt} {σ : Sg} {l : List AV} {vs : List Value} (h : VRs Z σ l vs) (n : Nat) : VRs Z σ (l.take n) (vs.take n) := by
  induction l generalizing vs n with
  | nil => cases h; simp; exact .nil
  | cons x l ih => cases h with | cons h t => cases n with
    | zero => simp; exact .nil
    | succ n => simp; exact .cons h (ih t n)
theorem VRs.drop {Z : Zt} {σ : Sg} {l : List AV} {vs : List Value} (h : VRs Z σ l vs) (n : Nat) : VRs Z σ (l.drop n) (vs.drop n) := by
  induction l generalizing vs n with
  | nil => cases h; simp; exact .nil
  | cons x l ih => cases h with | cons h t => cases n with
    | zero => simp; exact .cons h t
    | succ n => simp; exact ih t n
theorem VRs.set {Z : Zt} {σ : Sg} {l : List AV} {vs : List Value} (h : VRs Z σ l vs) (n : Nat) {x : AV} {v : Value} (hx : VR Z σ x v) : VRs Z σ (l.set n x) (vs.set n v) := by
  induction l generalizing vs n with
  | nil => cases h; simp; exact .nil
  | cons y l ih => cases h with | cons h t => cases n with
    | zero => simp; exact .cons hx t
    | succ n => simp; exact .cons h (ih t n)
theorem VRs.of_get {Z : Zt} {σ : Sg} {l : List AV} {vs : List Value} (hl : l.length = vs.length) (h : ∀ (i : Nat) (x : AV) (v : Value), l[i]? = some x → vs[i]? = some v → VR Z σ x v) : VRs Z σ l vs := by
  induction l generalizing vs with
  | nil => cases vs with | nil => exact .nil | cons _ _ => simp at hl
  | cons x l ih => cases vs with
    | nil => simp at hl
    | cons v vs => exact .cons (h 0 x v rfl rfl) (ih (by simpa using hl) fun i y w hy hw => h (i + 1) y w (by simpa using hy) (by simpa using hw))
def Frn (fr : Nat × Nat) (n : Nat) : Prop := fr = (0, 0) ∨ fr = (n, n + 1)
theorem Frn.not {fr : Nat × Nat} {n : Nat} (h : Frn fr n) (i : Nat) (hi : i < n) : ¬ (fr.1 ≤ i ∧ i < fr.2) := by
  rcases h with rfl | rfl <;> simp <;> omega
inductive ObjR (Z : Zt) (σ : Sg) (w : World) (p : Plc) : AObj → Prop
  | cells {l : List AV} {c : Array Value} {e : TypeId} {fr : Nat × Nat} (hb : w.heap[p.b]? = some (.cells c e fr)) (hs : c.size = p.size) (hf : Frn fr c.size)
      (hl : p.base + l.length ≤ c.size) (hv : VRs Z σ l ((c.toList.drop p.base).take l.length)) (h1 : ∀ v ∈ (c.toList.drop p.base).take l.length, v.oneCell' = true) : ObjR Z σ w p (.cells l)
  | map {es : List (AV × AV × Nat)} {clock : Nat} {ms : Array MapEntry} (hb : w.heap[p.b]? = some (.map ms clock)) (hn : ms.size = es.length)
      (he : ∀ (i : Nat) (k x : AV) (n : Nat), es[i]? = some (k, x, n) → ∃ m, ms[i]? = some m ∧ VR Z σ k m.key ∧ VR Z σ x m.val ∧ m.born = n) : ObjR Z σ w p (.map es clock)
def isC (o : Obj) : Prop := ∃ c e fr, o = .cells c e fr
def RestZ (g : Nat → Option Obj) (Z : Zt) (w : World) : Prop := w.os = Z.os ∧ w.output = Z.out ∧ ∀ b o, g b = some o → Z b = some o ∧ isC o
def Rest (w w' : World) : Prop := w'.os = w.os ∧ w'.output = w.output
theorem Rest.refl (w : World) : Rest w w := ⟨rfl, rfl⟩
theorem RestZ.to {g : Nat → Option Obj} {Z : Zt} {w w' : World} (h : RestZ g Z w) (hr : Rest w w') : RestZ g Z w' := ⟨hr.1.trans h.1, hr.2.trans h.2.1, h.2.2⟩
theorem RestZ.le {g : Nat → Option Obj} {Z Z' : Zt} {w : World} (h : RestZ g Z w) (hl : Zle Z Z') : RestZ g Z' w := ⟨h.1.trans hl.os.symm, h.2.1.trans hl.out.symm, fun b o hb => ⟨hl.le _ _ (h.2.2 b o hb).1, (h.2.2 b o hb).2⟩⟩
theorem Rest.alloc (w : World) (c : Array Value) (t : TypeId) : Rest w (w.alloc (.cells c t)) := ⟨rfl, rfl⟩
theorem Rest.allocO (w : World) (o : Obj) : Rest w (w.alloc o) := ⟨rfl, rfl⟩
structure WR (Z : Zt) (σ : Sg) (H : AH) (w : World) : Prop where
  z : ∀ b o, Z b = some o → w.heap[b]? = some o
  h : ∀ r o p, H.get r = some o → σ r = some p → Z p.b = none ∧ ObjR Z σ w p o
  inj : ∀ r r' o o' p p', H.get r = some o → H.get r' = some o' → σ r = some p → σ r' = some p' → p.b = p'.b → r = r'
  fresh : ∀ r, H.next ≤ r → σ r = none
  top : ∀ r, H.next ≤ r → H.get r = none
  rest : RestZ H.gl Z w
theorem WR.congr {Z : Zt} {σ : Sg} {H : AH} {w w' : World} (h : WR Z σ H w) (hh : w'.heap = w.heap) (ho : w'.os = w.os) (hu : w'.output = w.output) : WR Z σ H w' := by
  refine ⟨fun b o hz => by rw [hh]; exact h.z b o hz, fun r o p hr hp => ?_, h.inj, h.fresh, h.top, h.rest.to ⟨ho, hu⟩⟩
  obtain ⟨h1, h2⟩ := h.h r o p hr hp
  refine ⟨h1, ?_⟩
  cases h2 with
  | cells hb hs hf hl hv h1 => exact .cells (by rw [hh]; exact hb) hs hf hl hv h1
  | map hb hn he => exact .map (by rw [hh]; exact hb) hn he
theorem ObjR.mono {Z Z' : Zt} {σ σ' : Sg} (hZ : Zle Z Z') (hS : Sle σ σ') {w w' : World} {p : Plc} {o : AObj} (hh : w'.heap[p.b]? = w.heap[p.b]?) (h : ObjR Z σ w p o) : ObjR Z' σ' w' p o := by
  cases h with
  | cells hb hs hf hl hv h1 => exact .cells (by rw [hh]; exact hb) hs hf hl (hv.mono hZ hS) h1
  | map hb hn he =>
    refine .map (by rw [hh]; exact hb) hn fun i k x n hi => ?_
    obtain ⟨m, h1, h2, h3, h4⟩ := he i k x n hi
    exact ⟨m, h1, h2.mono hZ hS, h3.mono hZ hS, h4⟩
theorem ObjR.lt {Z : Zt} {σ : Sg} {w : World} {p : Plc} {o : AObj} (h : ObjR Z σ w p o) : p.b < w.heap.size := by
  cases h with
  | cells hb => exact (Array.getElem?_eq_some_iff.1 hb).1
  | map hb => exact (Array.getElem?_eq_some_iff.1 hb).1
def Sg.add (σ : Sg) (r : Nat) (p : Plc) : Sg := fun x => if x = r then some p else σ x
theorem Sg.add_le {σ : Sg} {r : Nat} {p : Plc} (h : σ r = none) : Sle σ (σ.add r p) := fun x q hx => by
  unfold Sg.add; split
  · rename_i e; subst e; rw [h] at hx; cases hx
  · exact hx
theorem Sg.add_same (σ : Sg) (r : Nat) (p : Plc) : σ.add r p r = some p := by simp [Sg.add]
theorem heap_alloc_lt (w : World) (o : Obj) {b : Nat} (h : b < w.heap.size) : (w.alloc o).heap[b]? = w.heap[b]? := by
  simp only [World.alloc, Array.getElem?_push]; rw [if_neg (by omega)]
theorem heap_alloc_eq (w : World) (o : Obj) : (w.alloc o).heap[w.heap.size]? = some o := by show (w.heap.push o)[w.heap.size]? = some o; simp
theorem WR.push {Z : Zt} {σ : Sg} {H : AH} {w : World} (h : WR Z σ H w) {o : Obj} {ao : AObj} {p : Plc} (hp : p.b = w.heap.size) (ho : ObjR Z (σ.add H.next p) (w.alloc o) p ao) (hfz : Rest w (w.alloc o)) :
    WR Z (σ.add H.next p) (H.push ao) (w.alloc o) := by
  have hf : σ H.next = none := h.fresh _ (Nat.le_refl _)
  have hlt : ∀ r o' p', H.get r = some o' → σ r = some p' → p'.b < w.heap.size := fun r o' p' h1 h2 => (h.h r o' p' h1 h2).2.lt
  have hne : ∀ r q, σ r = some q → r ≠ H.next := fun r q hq e => by subst e; rw [hf] at hq; cases hq
  refine ⟨fun b o' hz => ?_, fun r o' p' hr hp' => ?_, fun r r' o1 o2 p1 p2 h1 h2 h3 h4 he => ?_, fun r hr => ?_, fun r hr => ?_, h.rest.to hfz⟩
  · have := h.z b o' hz
    rw [heap_alloc_lt w o (Array.getElem?_eq_some_iff.1 this).1]; exact this
  · by_cases e : r = H.next
    · subst e
      simp only [AH.get_push_same, Option.some.injEq] at hr
      simp only [Sg.add_same, Option.some.injEq] at hp'
      subst hr; subst hp'
      refine ⟨?_, ho⟩
      cases hz : Z p.b with
      | none => rfl
      | some x => have := (Array.getElem?_eq_some_iff.1 (h.z _ _ hz)).1; omega
    · rw [AH.get_push_ne _ _ e] at hr
      have hp'' : σ r = some p' := by simpa [Sg.add, e] using hp'
      obtain ⟨h1, h2⟩ := h.h r o' p' hr hp''
      exact ⟨h1, h2.mono (Zle.refl _) (Sg.add_le hf) (heap_alloc_lt w o h2.lt)⟩
  · by_cases e1 : r = H.next <;> by_cases e2 : r' = H.next
    · rw [e1, e2]
    · rw [AH.get_push_ne _ _ e2] at h2
      have h4' : σ r' = some p2 := by simpa [Sg.add, e2] using h4
      subst e1
      simp only [Sg.add_same, Option.some.injEq] at h3
      subst h3
      have := hlt _ _ _ h2 h4'
      omega
    · rw [AH.get_push_ne _ _ e1] at h1
      have h3' : σ r = some p1 := by simpa [Sg.add, e1] using h3
      subst e2
      simp only [Sg.add_same, Option.some.injEq] at h4
      subst h4
      have := hlt _ _ _ h1 h3'
      omega
    · rw [AH.get_push_ne _ _ e1] at h1
      rw [AH.get_push_ne _ _ e2] at h2
      exact h.inj r r' o1 o2 p1 p2 h1 h2 (by simpa [Sg.add, e1] using h3) (by simpa [Sg.add, e2] using h4) he
  · simp only [AH.next_push] at hr
    have : r ≠ H.next := by omega
    simp only [Sg.add, this, if_false]
    exact h.fresh r (by omega)
  · simp only [AH.next_push] at hr
    rw [AH.get_push_ne _ _ (by omega)]; exact h.top r (by omega)
theorem WR.update {Z : Zt} {σ : Sg} {H : AH} {w w' : World} (h : WR Z σ H w) {r : Nat} {o o' : AObj} {p : Plc} (hr : H.get r = some o) (hp : σ r = some p)
    (hother : ∀ b, b ≠ p.b → w'.heap[b]? = w.heap[b]?) (hrest : Rest w w') (ho : ObjR Z σ w' p o') : WR Z σ (H.set r o') w' := by
  have hz0 := (h.h r o p hr hp).1
  refine ⟨fun b x hz => ?_, fun q x p' hq hp' => ?_, fun r1 r2 o1 o2 p1 p2 h1 h2 h3 h4 he => ?_, h.fresh, fun q hq => ?_, h.rest.to hrest⟩
  · rw [hother b (fun e => by subst e; rw [hz0] at hz; cases hz)]; exact h.z b x hz
  · by_cases e : q = r
    · subst e
      simp only [AH.get_set_same, Option.some.injEq] at hq
      rw [hp] at hp'; cases hp'
      subst hq
      exact ⟨hz0, ho⟩
    · rw [AH.get_set_ne _ _ e] at hq
      obtain ⟨h1, h2⟩ := h.h q x p' hq hp'
      exact ⟨h1, h2.mono (Zle.refl _) (Sle.refl _) (hother _ fun e' => e (h.inj q r x o p' p hq hr hp' hp e'))⟩
  · have g1 : ∃ o, H.get r1 = some o := by
      by_cases e : r1 = r
      · subst e; exact ⟨_, hr⟩
      · rw [AH.get_set_ne _ _ e] at h1; exact ⟨_, h1⟩
    have g2 : ∃ o, H.get r2 = some o := by
      by_cases e : r2 = r
      · subst e; exact ⟨_, hr⟩
      · rw [AH.get_set_ne _ _ e] at h2; exact ⟨_, h2⟩
    obtain ⟨x1, g1⟩ := g1
    obtain ⟨x2, g2⟩ := g2
    exact h.inj r1 r2 x1 x2 p1 p2 g1 g2 h3 h4 he
  · have hne : q ≠ r := fun e => by subst e; rw [h.top q hq] at hr; cases hr
    rw [AH.get_set_ne _ _ hne]; exact h.top q hq
theorem WR.sub {Z : Zt} {σ : Sg} {H H' : AH} {w : World} (h : WR Z σ H w) (hn : H'.next = H.next) (hs : ∀ r o, H'.get r = some o → H.get r = some o) (hg : H'.gl = H.gl := by rfl) : WR Z σ H' w :=
  ⟨h.z, fun r o p hr hp => h.h r o p (hs r o hr) hp, fun r r' o o' p p' h1 h2 => h.inj r r' o o' p p' (hs _ _ h1) (hs _ _ h2), fun r hr => h.fresh r (by omega), fun r hr => (by
    cases hh : H'.get r with
    | none => rfl
    | some o => have := hs r o hh; rw [h.top r (by omega)] at this; cases this), by rw [hg]; exact h.rest⟩
def Zt.add (Z : Zt) (b : Nat) (o : Obj) : Zt := { Z with blk := fun x => if x = b then some o else Z x }
theorem Zt.add_le {Z : Zt} {b : Nat} {o : Obj} (h : ∀ x, Z b = some x → x = o) : Zle Z (Z.add b o) := ⟨fun x y hx => (by
  simp only [Zt.add]; split
  · rename_i e; subst e; rw [h y hx]
  · exact hx), rfl, rfl, rfl, rfl⟩
theorem Zt.add_same (Z : Zt) (b : Nat) (o : Obj) : Z.add b o b = some o := by simp [Zt.add]
theorem WR.freeze {Z : Zt} {σ : Sg} {H : AH} {w : World} (h : WR Z σ H w) {r : Nat} {o : AObj} {p : Plc} {ob : Obj} (hr : H.get r = some o) (hp : σ r = some p) (hb : w.heap[p.b]? = some ob) :
    WR (Z.add p.b ob) σ (H.erase r) w ∧ Zle Z (Z.add p.b ob) := by
  have hz0 := (h.h r o p hr hp).1
  have hle : Zle Z (Z.add p.b ob) := Zt.add_le (fun x hx => by rw [hz0] at hx; cases hx)
  refine ⟨⟨fun b x hz => ?_, fun q x p' hq hp' => ?_, fun r1 r2 o1 o2 p1 p2 h1 h2 => ?_, h.fresh, fun q hq => ?_, h.rest.le hle⟩, hle⟩
  · simp only [Zt.add] at hz; split at hz
    · rename_i e; subst e; cases hz; exact hb
    · exact h.z b x hz
  · have hne : q ≠ r := fun e => by subst e; simp [AH.get_erase] at hq
    have hq' : H.get q = some x := by simpa [AH.get_erase, hne] using hq
    obtain ⟨h1, h2⟩ := h.h q x p' hq' hp'
    refine ⟨?_, h2.mono hle (Sle.refl _) rfl⟩
    simp only [Zt.add]; split
    · rename_i e; exact absurd (h.inj q r x o p' p hq' hr hp' hp e) hne
    · exact h1
  · have n1 : r1 ≠ r := fun e => by subst e; simp [AH.get_erase] at h1
    have n2 : r2 ≠ r := fun e => by subst e; simp [AH.get_erase] at h2
    exact h.inj r1 r2 o1 o2 p1 p2 (by simpa [AH.get_erase, n1] using h1) (by simpa [AH.get_erase, n2] using h2)
  · simp only [AH.get_erase]
    split
    · rfl
    · exact h.top q hq
theorem WR.pushZ {Z : Zt} {σ : Sg} {H : AH} {w : World} (h : WR Z σ H w) (o : Obj) (hfz : Rest w (w.alloc o)) : WR (Z.add w.heap.size o) σ H (w.alloc o) ∧ Zle Z (Z.add w.heap.size o) := by
  have hz0 : Z w.heap.size = none := by
    cases hz : Z w.heap.size with
    | none => rfl
    | some x => have := (Array.getElem?_eq_some_iff.1 (h.z _ _ hz)).1; omega
  have hle : Zle Z (Z.add w.heap.size o) := Zt.add_le (fun x hx => by rw [hz0] at hx; cases hx)
  refine ⟨⟨fun b x hz => ?_, fun q x p' hq hp' => ?_, h.inj, h.fresh, h.top, (h.rest.to hfz).le hle⟩, hle⟩
  · simp only [Zt.add] at hz; split at hz
    · rename_i e; subst e; cases hz; exact heap_alloc_eq w o
    · have := h.z b x hz
      rw [heap_alloc_lt w o (Array.getElem?_eq_some_iff.1 this).1]; exact this
  · obtain ⟨h1, h2⟩ := h.h q x p' hq hp'
    refine ⟨?_, h2.mono hle (Sle.refl _) (heap_alloc_lt w o h2.lt)⟩
    simp only [Zt.add]; split
    · rename_i e; have := h2.lt; omega
    · exact h1
end Go.AL
namespace Go.AL
abbrev Env := Nat → AV
def Env.set (e : Env) (d : Nat) (v : AV) : Env := fun x => bif Nat.beq x d then v else e x
theorem Env.set_get (e : Env) (d x : Nat) (v : AV) : e.set d v x = if x = d then v else e x := by
  unfold Env.set
  by_cases h : x = d
  · subst h; rw [Nat.beq_refl, if_pos rfl]; rfl
  · have : Nat.beq x d = false := by
      cases hb : Nat.beq x d with
      | false => rfl
      | true => exact absurd (Nat.eq_of_beq_eq_true hb) h
    rw [this, if_neg h]; rfl
 @[simp] theorem Env.set_same (e : Env) (d : Nat) (v : AV) : e.set d v d = v := by rw [Env.set_get, if_pos rfl]
theorem Env.set_ne (e : Env) {d x : Nat} (v : AV) (h : x ≠ d) : e.set d v x = e x := by rw [Env.set_get, if_neg h]
inductive AOpd where
  | tmp (t : Nat)
  | cst (v : AV)
  | fnc (f : FuncId)
def AOpd.ev (e : Env) : AOpd → AV
  | .tmp t => e t
  | .cst v => v
  | .fnc f => .fn (.func f) [] []
inductive SK where
  | b
  | i (q : IntKind)
  | s
  deriving DecidableEq
def alit : SK → AV → Option Lit
  | .b, .bool b => some (.bool b)
  | .i q, .int q' n => if q' = q ∧ (Lit.int q n).wf = true then some (.int q n) else none
  | .s, .str l => if l.length ≤ maxLen then some (.string l) else none
  | _, _ => none
def alits : List SK → List AV → Option (List Lit)
  | [], [] => some []
  | k :: ks, v :: vs => match alit k v, alits ks vs with
    | some l, some ls => some (l :: ls)
    | _, _ => none
  | _, _ => none
def akey (ty : Bool × List SK) (x : AV) : Option (List Lit) := match ty.1, ty.2, x with
  | true, ks, .agg l => alits ks l
  | false, [k], x => (alit k x).map fun l => [l]
  | _, _, _ => none
def litEq : Lit → Lit → Bool
  | .bool a, .bool b => a == b
  | .int k n, .int k' n' => decide (k = k') && decide (n = n')
  | .float k n, .float k' n' => decide (k = k') && decide (n = n')
  | .string a, .string b => decide (a = b)
  | .nil, .nil => true
  | _, _ => false
theorem litEq_iff {a b : Lit} : litEq a b = true ↔ a = b := by cases a <;> cases b <;> simp [litEq]
def litsEq : List Lit → List Lit → Bool
  | [], [] => true
  | a :: l, b :: r => litEq a b && litsEq l r
  | _, _ => false
theorem litsEq_iff : ∀ {a b : List Lit}, litsEq a b = true ↔ a = b
  | [], [] => by simp [litsEq]
  | [], _ :: _ => by simp [litsEq]
  | _ :: _, [] => by simp [litsEq]
  | a :: l, b :: r => by simp [litsEq, litEq_iff, litsEq_iff (a := l) (b := r)]
inductive EqT where
  | bool
  | slice
  | iface
  | ptr
  | wide (ty : Bool × List SK)
def aeq (t : EqT) (x y : AV) : Option Bool :=
  match t with
  | .bool => match x, y with
    | .bool a, .bool b => some (a == b)
    | _, _ => none
  | .slice => match x, y with
    | .nils, .nils => some true
    | .nils, .sl _ _ _ _ => some false
    | .sl _ _ _ _, .nils => some false
    | .nils, .sim _ n ex => if 0 < n ∨ ex = true then some false else none
    | .sim _ n ex, .nils => if 0 < n ∨ ex = true then some false else none
    | _, _ => none
  | .iface => match x, y with
    | .nili, .nili => some true
    | .nili, .ifc _ _ => some false
    | .ifc _ _, .nili => some false
    | _, _ => none
  | .ptr => match x, y with
    | .nilp, .nilp => some true
    | .nilp, .ptr _ _ => some false
    | .ptr _ _, .nilp => some false
    | .nilp, .pim _ _ => some false
    | .pim _ _, .nilp => some false
    | _, _ => none
  | .wide ty => match akey ty x, akey ty y with
    | some a, some b => some (litsEq a b)
    | _, _ => none
inductive AK where
  | move (x : AOpd)
  | pick (c a b : AOpd)
  | build (z : List AV) (parts : List (Nat × Nat × AOpd))
  | nilCheck (x : AOpd)
  | bin (op : BinOp) (x y : AOpd)
  | un (op : UnOp) (x : AOpd)
  | convI (k : IntKind) (x : AOpd)
  | convS (x : AOpd)
  | mkIface (t : TypeId) (x : AOpd)
  | mkFunc (fn : Fn) (first cap : List AOpd)
  | fieldAddr (off : Nat) (x : AOpd)
  | field (agg : Option Nat) (off : Nat) (x : AOpd)
  | indexAddrA (n esz : Nat) (x i : AOpd)
  | indexAddrS (esz : Nat) (x i : AOpd)
  | indexA (n esz : Nat) (agg : Option Nat) (x i : AOpd)
  | indexStr (x i : AOpd)
  | extract (i : Nat) (x : AOpd)
  | sliceStr (x : AOpd) (lo hi : Option AOpd)
  | sliceS (esz : Nat) (x : AOpd) (lo hi mx : Option AOpd)
  | sliceA (n esz : Nat) (x : AOpd) (lo hi mx : Option AOpd)
  | len (x : AOpd)
  | lenStr (x : AOpd)
  | lenA (n : Nat)
  | minmax (isMax : Bool) (x y : AOpd)
  | load (agg : Option Nat) (x : AOpd)
  | strOfBytes (x : AOpd)
  | alloc (z : List AV)
  | box (x : AOpd)
  | buildSlice (esz len : Nat) (z : List AV) (parts : List (Nat × Nat × AOpd))
  | mkSlice (esz bytes : Nat) (z : List AV) (l c : AOpd)
  | store (n : Nat) (x v : AOpd)
  | append (esz bytes : Nat) (s x : AOpd)
  | call (f : AOpd) (args : List AOpd)
  | defer (f : AOpd) (args : List AOpd)
  | panic (x : AOpd)
  | recover
  | eq (neg : Bool) (t : EqT) (x y : AOpd)
  | minmax3 (isMax : Bool) (x y z : AOpd)
  | cap (x : AOpd)
  | mark (x : AOpd)
  | appendZ (esz bytes : Nat) (z : List AV) (s n : AOpd)
  | makeMap
  | lookup (ty : Bool × List SK) (z : AV) (ok : Bool) (m k : AOpd)
  | mapUpd (ty : Bool × List SK) (m k v : AOpd)
  | lenMap (m : AOpd)
  | tass (t : TypeId) (z : AV) (x : AOpd)
  | bytesOf (x : AOpd)
  | clr (esz : Nat) (z : List AV) (x : AOpd)
  | ext (c : Bool) (x y : AOpd)
  | copy (esz : Nat) (x y : AOpd)
def AV.cell1 : AV → Bool
  | .unk | .agg _ | .tup _ => false
  | _ => true
def AV.cellsOf : AV → Option (List AV)
  | .agg l => some l
  | .unk | .tup _ => none
  | v => some [v]
def AH.cells? (H : AH) (r : Nat) : Option (List AV) := match H.get r with | some (.cells l) => some l | _ => none
def AV.pick (p : Bool) (x y : AV) : AV :=
  match x, y with
  | .bool u, .bool v => .bool (bif p then u else v)
  | x, y => bif p then x else y
def abin (op : BinOp) (x y : AV) : Option AV :=
  match x, y with
  | .int k a, .int k' b =>
    match op with
    | .shl => if 0 ≤ b then some (.int k (k.wrap (a * 2 ^ (min b.toNat k.bits)))) else none
    | .shr => if 0 ≤ b then some (.int k (a.fdiv (2 ^ (min b.toNat k.bits)))) else none
    | .add => if k = k' then some (.int k (k.wrap (a + b))) else none
    | .sub => if k = k' then some (.int k (k.wrap (a - b))) else none
    | .mul => if k = k' then some (.int k (k.wrap (a * b))) else none
    | .quo => if k = k' ∧ b ≠ 0 then some (.int k (k.wrap (a.tdiv b))) else none
    | .rem => if k = k' ∧ b ≠ 0 then some (.int k (a.tmod b)) else none
    | .and => if k = k' then some (.int k (k.wrap (BitVec.ofInt k.bits a &&& BitVec.ofInt k.bits b).toNat)) else none
    | .or => if k = k' then some (.int k (k.wrap (BitVec.ofInt k.bits a ||| BitVec.ofInt k.bits b).toNat)) else none
    | .xor => if k = k' then some (.int k (k.wrap (BitVec.ofInt k.bits a ^^^ BitVec.ofInt k.bits b).toNat)) else none
    | .andNot => if k = k' then some (.int k (k.wrap (BitVec.ofInt k.bits a &&& ~~~ BitVec.ofInt k.bits b).toNat)) else none
    | .eql => if k = k' then some (.bool (a == b)) else none
    | .neq => if k = k' then some (.bool (a != b)) else none
    | .lss => if k = k' then some (.bool (decide (a < b))) else none
    | .leq => if k = k' then some (.bool (decide (a ≤ b))) else none
    | .gtr => if k = k' then some (.bool (decide (a > b))) else none
    | .geq => if k = k' then some (.bool (decide (a ≥ b))) else none
  | .str a, .str b =>
    match op with
    | .add => if a.length + b.length ≤ 9223372036854775807 then some (.str (a ++ b)) else none
    | .eql => some (.bool (a == b))
    | .neq => some (.bool (!(a == b)))
    | _ => none
  | _, _ => none
def aun (op : UnOp) (x : AV) : Option AV :=
  match op, x with
  | .neg, .int k n => some (.int k (k.wrap (0 - n)))
  | .xor, .int k n => some (.int k (k.wrap (BitVec.ofInt k.bits (if k.signed then -1 else k.max) ^^^ BitVec.ofInt k.bits n).toNat))
  | .not, .bool b => some (.bool !b)
  | _, _ => none
def afill (e : Env) (cells : List AV) : List (Nat × Nat × AOpd) → Option (List AV)
  | [] => some cells
  | (off, n, x) :: rest =>
    match (x.ev e).cellsOf with
    | none => none
    | some l => if l.length = n ∧ off + n ≤ cells.length then afill e (cells.take off ++ l ++ cells.drop (off + n)) rest else none
def AOpd.ints (e : Env) (o : Option AOpd) : Option (Option Int) :=
  match o with
  | none => some none
  | some x => match x.ev e with
    | .int _ n => some (some n)
    | _ => none
def aslice (esz : Nat) (x : AV) (lo hi mx : Option Int) : Option AV :=
  match x with
  | .nils => if lo.getD 0 = 0 ∧ hi.getD 0 = 0 ∧ mx.getD 0 = 0 then some .nils else none
  | .sl r o n (.ex m) =>
    if 0 ≤ lo.getD 0 ∧ lo.getD 0 ≤ hi.getD n ∧ hi.getD n ≤ mx.getD m ∧ mx.getD m ≤ m then some (.sl r (o + (lo.getD 0).toNat * esz) (hi.getD n - lo.getD 0).toNat (.ex (mx.getD m - lo.getD 0).toNat)) else none
  | .sl r o n (.op es) =>
    match mx with
    | none => if es = esz ∧ 0 ≤ lo.getD 0 ∧ lo.getD 0 ≤ hi.getD n ∧ hi.getD n ≤ n then some (.sl r (o + (lo.getD 0).toNat * esz) (hi.getD n - lo.getD 0).toNat (.op esz)) else none
    | some q => if 0 ≤ lo.getD 0 ∧ lo.getD 0 ≤ hi.getD n ∧ hi.getD n ≤ q ∧ q ≤ n then some (.sl r (o + (lo.getD 0).toNat * esz) (hi.getD n - lo.getD 0).toNat (.ex (q - lo.getD 0).toNat)) else none
  | .sim c n ex =>
    match mx with
    | none => if 0 ≤ lo.getD 0 ∧ lo.getD 0 ≤ hi.getD n ∧ hi.getD n ≤ n then some (.sim ((c.drop ((lo.getD 0).toNat * esz)).take ((hi.getD n - lo.getD 0).toNat * esz)) (hi.getD n - lo.getD 0).toNat (ex && decide (hi.getD n = n))) else none
    | some q => if 0 ≤ lo.getD 0 ∧ lo.getD 0 ≤ hi.getD n ∧ hi.getD n ≤ q ∧ q ≤ n then some (.sim ((c.drop ((lo.getD 0).toNat * esz)).take ((hi.getD n - lo.getD 0).toNat * esz)) (hi.getD n - lo.getD 0).toNat (decide (hi.getD n = q) && (decide (0 < n) || ex))) else none
  | _ => none
def alen : AV → Option Nat
  | .sl _ _ n _ => some n
  | .sim _ n _ => some n
  | .nils => some 0
  | _ => none
def anilc : AV → Option AV
  | .ptr r o => some (.ptr r o)
  | .pim l o => some (.pim l o)
  | .fn (.func f) a b => some (.fn (.func f) a b)
  | _ => none
def afaddr (off : Nat) : AV → Option AV
  | .ptr r o => some (.ptr r (o + off))
  | .pim l o => some (.pim l (o + off))
  | _ => none
def aidxA (n esz : Nat) (x i : AV) : Option AV :=
  match x, i with
  | .ptr r o, .int _ j => if 0 ≤ j ∧ j < n then some (.ptr r (o + j.toNat * esz)) else none
  | .pim l o, .int _ j => if 0 ≤ j ∧ j < n then some (.pim l (o + j.toNat * esz)) else none
  | _, _ => none
def aidxS (esz : Nat) (x i : AV) : Option AV :=
  match x, i with
  | .sl r o n _, .int _ j => if 0 ≤ j ∧ j < n then some (.ptr r (o + j.toNat * esz)) else none
  | .sim l n _, .int _ j => if 0 ≤ j ∧ j < n then some (.pim l (j.toNat * esz)) else none
  | _, _ => none
def apart (agg : Option Nat) (l : List AV) (off : Nat) : Option AV :=
  match agg with
  | some n => if off + n ≤ l.length then some (.agg ((l.drop off).take n)) else none
  | none => l[off]?
def amm (isMax : Bool) (a b : Int) : Int := if isMax then (if b > a then b else a) else (if b < a then b else a)
def apure (k : AK) (e : Env) : Option AV :=
  match k with
  | .move x => some (x.ev e)
  | .pick c a b => match c.ev e with
    | .bool p => some (.pick p (a.ev e) (b.ev e))
    | _ => none
  | .build z ps => (afill e z ps).map .agg
  | .nilCheck x => anilc (x.ev e)
  | .bin op x y => abin op (x.ev e) (y.ev e)
  | .un op x => aun op (x.ev e)
  | .convI k x => match x.ev e with
    | .int _ n => some (.int k (k.wrap n))
    | _ => none
  | .convS x => match x.ev e with
    | .str l => some (.str l)
    | _ => none
  | .mkIface t x => some (.ifc t (x.ev e))
  | .mkFunc fn first cap => some (.fn fn (first.map (·.ev e)) (cap.map (·.ev e)))
  | .fieldAddr off x => afaddr off (x.ev e)
  | .field agg off x => match x.ev e with
    | .agg l => apart agg l off
    | _ => none
  | .indexAddrA n esz x i => aidxA n esz (x.ev e) (i.ev e)
  | .indexAddrS esz x i => aidxS esz (x.ev e) (i.ev e)
  | .indexA n esz agg x i => match x.ev e, i.ev e with
    | .agg l, .int _ j => if 0 ≤ j ∧ j < n then apart agg l (j.toNat * esz) else none
    | _, _ => none
  | .indexStr x i => match x.ev e, i.ev e with
    | .str l, .int _ j => if 0 ≤ j then (l[j.toNat]?).map fun b => .int .u8 b.toNat else none
    | _, _ => none
  | .extract i x => match x.ev e with
    | .tup l => l[i]?
    | _ => none
  | .sliceStr x lo hi => match x.ev e with
    | .str s => match AOpd.ints e lo, AOpd.ints e hi with
      | some l, some h => if 0 ≤ l.getD 0 ∧ l.getD 0 ≤ h.getD s.length ∧ h.getD s.length ≤ s.length then some (.str ((s.drop (l.getD 0).toNat).take (h.getD s.length - l.getD 0).toNat)) else none
      | _, _ => none
    | _ => none
  | .sliceS esz x lo hi mx =>
    match AOpd.ints e lo, AOpd.ints e hi, AOpd.ints e mx with
    | some l, some h, some q => if q.isSome = true → h.isSome = true then aslice esz (x.ev e) l h q else none
    | _, _, _ => none
  | .sliceA n esz x lo hi mx =>
    match x.ev e with
    | .ptr r o => match AOpd.ints e lo, AOpd.ints e hi, AOpd.ints e mx with
      | some l, some h, some q => if (q.isSome = true → h.isSome = true) ∧ 0 ≤ l.getD 0 ∧ l.getD 0 ≤ h.getD n ∧ h.getD n ≤ q.getD n ∧ q.getD n ≤ n then
          some (.sl r (o + (l.getD 0).toNat * esz) (h.getD n - l.getD 0).toNat (.ex (q.getD n - l.getD 0).toNat)) else none
      | _, _, _ => none
    | _ => none
  | .len x => match alen (x.ev e) with
    | some n => some (.int .i64 (n : Int))
    | none => none
  | .lenStr x => match x.ev e with
    | .str l => some (.int .i64 l.length)
    | _ => none
  | .lenA n => some (.int .i64 n)
  | .minmax isMax x y => match x.ev e, y.ev e with
    | .int k a, .int k' b => if k = k' then some (.int k (if isMax then (if b > a then b else a) else (if b < a then b else a))) else none
    | _, _ => none
  | .eq neg t x y => (aeq t (x.ev e) (y.ev e)).map fun b => .bool (bif neg then !b else b)
  | .minmax3 isMax x y z => match x.ev e, y.ev e, z.ev e with
    | .int k a, .int k' b, .int k'' c => if k = k' ∧ k = k'' then some (.int k (amm isMax (amm isMax a b) c)) else none
    | _, _, _ => none
  | .tass t z x => match x.ev e with
    | .ifc t' v => some (if t' = t then .tup [v, .bool true] else .tup [z, .bool false])
    | .nili => some (.tup [z, .bool false])
    | _ => none
  | .cap x => match x.ev e with
    | .nils => some (.int .i64 0)
    | .sl _ _ _ (.ex m) => some (.int .i64 m)
    | _ => none
  | _ => none
def aload (agg : Option Nat) (x : AV) (H : AH) : Option AV :=
  match x with
  | .ptr r o => match H.cells? r with
    | some l => apart agg l o
    | none => none
  | .pim l o => apart agg l o
  | _ => none
def aslcells (esz : Nat) (x : AV) (H : AH) : Option (Nat × List AV) :=
  match x with
  | .nils => some (0, [])
  | .sim l n _ => if l.length = n * esz then some (n, l) else none
  | .sl r o n _ => match H.cells? r with
    | some l => if o + n * esz ≤ l.length then some (n, (l.drop o).take (n * esz)) else none
    | none => none
  | _ => none
def avbytes : List AV → Option (List UInt8)
  | [] => some []
  | .int .u8 n :: l => (avbytes l).map (UInt8.ofNat n.toNat :: ·)
  | _ => none
def ames (x : AV) (H : AH) : Option (List (AV × AV × Nat)) := match x with
  | .nilm => some []
  | .mp r => match H.get r with
    | some (.map es _) => some es
    | _ => none
  | _ => none
def afind (ty : Bool × List SK) (L : List Lit) : List (AV × AV × Nat) → Option (Option (Nat × AV))
  | [] => some none
  | (k, v, _) :: es => match akey ty k, afind ty L es with
    | some L', some r => bif litsEq L' L then (match r with | none => some (some (0, v)) | some _ => none) else some (r.map fun p => (p.1 + 1, p.2))
    | _, _ => none
def arv (r : Option (Nat × AV)) (z : AV) : AV := match r with | some p => p.2 | none => z
def idxB : List UInt8 → UInt8 → Int
  | [], _ => -1
  | b :: l, c => if b == c then 0 else if idxB l c == -1 then -1 else idxB l c + 1
def cmpB : List UInt8 → List UInt8 → Int
  | [], [] => 0
  | [], _ :: _ => -1
  | _ :: _, [] => 1
  | a :: x, b :: y => if a < b then -1 else if b < a then 1 else cmpB x y
def abys (x : AV) (H : AH) : Option (List UInt8) := match aslcells 1 x H with
  | some (_, xs) => avbytes xs
  | none => none
def aextv (c : Bool) (l : List UInt8) (y : AV) (H : AH) : Option AV := match c with
  | true => (abys y H).map fun m => .int .i64 (cmpB l m)
  | false => match y with
    | .int .u8 n => some (.int .i64 (idxB l (UInt8.ofNat n.toNat)))
    | _ => none
def aread (k : AK) (e : Env) (H : AH) : Option AV :=
  match k with
  | .load agg x => aload agg (x.ev e) H
  | .strOfBytes x => match aslcells 1 (x.ev e) H with
    | some (_, xs) => (avbytes xs).map .str
    | none => none
  | .lookup ty z ok m k => match akey ty (k.ev e), ames (m.ev e) H with
    | some L, some es => match afind ty L es with
      | some r => some (bif ok then .tup [arv r z, .bool r.isSome] else arv r z)
      | none => none
    | _, _ => none
  | .lenMap m => match ames (m.ev e) H with
    | some es => some (.int .i64 es.length)
    | none => none
  | .ext c x y => match abys (x.ev e) H with
    | some l => aextv c l (y.ev e) H
    | none => none
  | _ => none
end Go.AL
namespace Go.AL
def ofConst1 : Value → Option AV
  | .bool b => some (.bool b)
  | .int k n => some (.int k n)
  | .string s => some (.str s.data.toList)
  | .pointer none => some .nilp
  | .slice none 0 0 => some .nils
  | .map none => some .nilm
  | .nilFunc => some .nilf
  | .nilIface => some .nili
  | .func (.func f) first cap => if first.size = 0 ∧ cap.size = 0 then some (.fn (.func f) [] []) else none
  | _ => none
def ofConsts : List Value → Option (List AV)
  | [] => some []
  | v :: l => match ofConst1 v, ofConsts l with
    | some x, some xs => some (x :: xs)
    | _, _ => none
def ofConst : Value → Option AV
  | .agg cs => (ofConsts cs.toList).map .agg
  | v => ofConst1 v
theorem str_of (s : ByteArray) : (⟨s.data.toList.toArray⟩ : ByteArray) = s := by cases s; simp
theorem ofConst1_sound {Z : Zt} {σ : Sg} {v : Value} {x : AV} (h : ofConst1 v = some x) : VR Z σ x v ∧ v.oneCell' = true := by
  unfold ofConst1 at h
  split at h <;> (try simp only [Option.some.injEq, reduceCtorEq] at h) <;> (try subst h)
  · exact ⟨.bool _, rfl⟩
  · exact ⟨.int _ _, rfl⟩
  · rename_i s
    refine ⟨?_, rfl⟩
    have := VR.str (Z := Z) (σ := σ) s.data.toList
    rwa [str_of] at this
  · exact ⟨.nilp, rfl⟩
  · exact ⟨.nils, rfl⟩
  · exact ⟨.nilm, rfl⟩
  · exact ⟨.nilf, rfl⟩
  · exact ⟨.nili, rfl⟩
  · rename_i f first cap
    split at h
    · rename_i hs
      simp only [Option.some.injEq] at h
      subst h
      have e1 : first = #[] := Array.eq_empty_of_size_eq_zero hs.1
      have e2 : cap = #[] := Array.eq_empty_of_size_eq_zero hs.2
      subst e1; subst e2
      exact ⟨.fn .nil .nil, rfl⟩
    · cases h
theorem ofConsts_sound {Z : Zt} {σ : Sg} : ∀ {l : List Value} {xs : List AV}, ofConsts l = some xs → VRs Z σ xs l ∧ ∀ v ∈ l, v.oneCell' = true
  | [], xs, h => by simp [ofConsts] at h; subst h; exact ⟨.nil, by simp⟩
  | v :: l, xs, h => by
    simp only [ofConsts] at h
    split at h
    · rename_i x ys h1 h2
      simp only [Option.some.injEq] at h; subst h
      obtain ⟨a, b⟩ := ofConst1_sound (Z := Z) (σ := σ) h1
      obtain ⟨c, d⟩ := ofConsts_sound (Z := Z) (σ := σ) h2
      refine ⟨.cons a c, fun u hu => ?_⟩
      rcases List.mem_cons.1 hu with rfl | hu
      · exact b
      · exact d u hu
    · cases h
theorem ofConst_sound {Z : Zt} {σ : Sg} {v : Value} {x : AV} (h : ofConst v = some x) : VR Z σ x v := by
  unfold ofConst at h
  split at h
  · rename_i cs
    simp only [Option.map_eq_some_iff] at h
    obtain ⟨l, hl, rfl⟩ := h
    obtain ⟨h1, h2⟩ := ofConsts_sound (Z := Z) (σ := σ) hl
    exact .agg h2 h1
  · exact (ofConst1_sound h).1
def dslot : Nat := 1000000
def cOpd : Operand → Option AOpd
  | .tmp t => if t < dslot then some (.tmp t) else none
  | .const v => (ofConst v).map .cst
  | .func f => some (.fnc f)
  | .global _ => none
def cOpds : List Operand → Option (List AOpd)
  | [] => some []
  | x :: l => match cOpd x, cOpds l with
    | some y, some ys => some (y :: ys)
    | _, _ => none
def cOpt : Option Operand → Option (Option AOpd)
  | none => some none
  | some x => (cOpd x).map some
def ER (Z : Zt) (σ : Sg) (e : Env) (a : Act) : Prop := ∀ t, t < dslot → VR Z σ (e t) (a.tmps.getD t undef)
theorem ER.mono {Z Z' : Zt} {σ σ' : Sg} (hZ : Zle Z Z') (hS : Sle σ σ') {e : Env} {a : Act} (h : ER Z σ e a) : ER Z' σ' e a := fun t ht => (h t ht).mono hZ hS
theorem ER.put {Z : Zt} {σ : Sg} {e : Env} {a : Act} (h : ER Z σ e a) {d : Nat} {x : AV} {v : Value} (hd : d < a.tmps.size) (hx : VR Z σ x v) : ER Z σ (e.set d x) (a.put (some d) v) := by
  intro t hlt
  by_cases ht : t = d
  · subst ht
    simp only [Env.set_same, Act.put]
    simp [hd]; exact hx
  · rw [Env.set_ne _ _ ht]
    simp only [Act.put]
    have := h t hlt
    simpa [Array.getElem?_setIfInBounds_ne (Ne.symm ht)] using this
theorem cOpd_sound {Z : Zt} {σ : Sg} {e : Env} {a : Act} (h : ER Z σ e a) {x : Operand} {y : AOpd} (hx : cOpd x = some y) : VR Z σ (y.ev e) (a.eval x) := by
  cases x with
  | tmp t =>
    simp only [cOpd] at hx
    split at hx <;> simp only [Option.some.injEq, reduceCtorEq] at hx
    rename_i ht
    subst hx; exact h t ht
  | const v =>
    simp only [cOpd, Option.map_eq_some_iff] at hx
    obtain ⟨c, hc, rfl⟩ := hx
    exact ofConst_sound hc
  | func f => simp only [cOpd, Option.some.injEq] at hx; subst hx; exact .fn .nil .nil
  | global g => simp [cOpd] at hx
theorem cOpds_sound {Z : Zt} {σ : Sg} {e : Env} {a : Act} (h : ER Z σ e a) : ∀ {l : List Operand} {ys : List AOpd}, cOpds l = some ys → VRs Z σ (ys.map (·.ev e)) (l.map a.eval)
  | [], ys, hx => by simp [cOpds] at hx; subst hx; exact .nil
  | x :: l, ys, hx => by
    simp only [cOpds] at hx
    split at hx
    · rename_i y zs h1 h2
      simp only [Option.some.injEq] at hx; subst hx
      exact .cons (cOpd_sound h h1) (cOpds_sound h h2)
    · cases hx
section
variable {Z : Zt} {σ : Sg} {v : Value}
theorem VR.bool_inv {b : Bool} (h : VR Z σ (.bool b) v) : v = .bool b := by cases h; rfl
theorem VR.int_inv {k : IntKind} {n : Int} (h : VR Z σ (.int k n) v) : v = .int k n := by cases h; rfl
theorem VR.str_inv {l : List UInt8} (h : VR Z σ (.str l) v) : v = .string ⟨l.toArray⟩ := by cases h; rfl
theorem VR.nilp_inv (h : VR Z σ .nilp v) : v = .pointer none := by cases h; rfl
theorem VR.nils_inv (h : VR Z σ .nils v) : v = .slice none 0 0 := by cases h; rfl
theorem VR.ptr_inv {r o : Nat} (h : VR Z σ (.ptr r o) v) : ∃ p, σ r = some p ∧ v = .pointer (some ⟨p.b, p.base + o, none⟩) := by cases h with | ptr h => exact ⟨_, h, rfl⟩
theorem VR.pim_inv {l : List AV} {o : Nat} (h : VR Z σ (.pim l o) v) : ∃ b base c e fr, Z b = some (.cells c e fr) ∧
    (∀ v ∈ (c.toList.drop base).take l.length, v.oneCell' = true) ∧ VRs Z σ l ((c.toList.drop base).take l.length) ∧ v = .pointer (some ⟨b, base + o, none⟩) := by
  cases h with | pim hz h1 hv => exact ⟨_, _, _, _, _, hz, h1, hv, rfl⟩
theorem VR.agg_inv {l : List AV} (h : VR Z σ (.agg l) v) : ∃ vs, v = .agg vs ∧ (∀ v ∈ vs.toList, v.oneCell' = true) ∧ VRs Z σ l vs.toList := by cases h with | agg h1 h => exact ⟨_, rfl, h1, h⟩
theorem VR.tup_inv {l : List AV} (h : VR Z σ (.tup l) v) : ∃ vs, v = .tuple vs ∧ VRs Z σ l vs.toList := by cases h with | tup h => exact ⟨_, rfl, h⟩
theorem VR.fn_inv {f : Fn} {x y : List AV} (h : VR Z σ (.fn f x y) v) : ∃ vf vc, v = .func f vf vc ∧ VRs Z σ x vf.toList ∧ VRs Z σ y vc.toList := by cases h with | fn h1 h2 => exact ⟨_, _, rfl, h1, h2⟩
theorem AV.cellsOf_sound {x : AV} {l : List AV} (hx : x.cellsOf = some l) (h : VR Z σ x v) : VRs Z σ l v.cells.toList ∧ ∀ u ∈ v.cells.toList, u.oneCell' = true := by
  have h' := h
  cases h <;> simp only [AV.cellsOf, Option.some.injEq, reduceCtorEq] at hx <;> subst hx
  case agg vs h1 h => exact ⟨h, h1⟩
  all_goals exact ⟨.cons h' .nil, by simp [Value.cells, Value.oneCell']⟩
end
end Go.AL
namespace Go.AL
def skelF (f : TypeId → Option (List SK)) (P : Program) : Nat → List Field → Option (List SK)
  | _, [] => some []
  | o, x :: l => if x.offset = o then match f x.type with
      | some ks => if P.cellsOf x.type = ks.length then (skelF f P (o + ks.length) l).map (ks ++ ·) else none
      | none => none
    else none
def skel (P : Program) : Nat → TypeId → Option (List SK)
  | 0, _ => none
  | d + 1, t => match P.underlying t with
    | some .bool => some [.b]
    | some (.int q) => some [.i q]
    | some .string => some [.s]
    | some (.array n e) => match skel P d e with
      | some ks => if P.cellsOf e = ks.length ∧ P.cellsOf t = n * ks.length then some (List.replicate n ks).flatten else none
      | none => none
    | some (.struct fs) => match skelF (skel P d) P 0 fs.toList with
      | some ks => if P.cellsOf t = ks.length ∧ fs.all (·.name != "_") = true then some ks else none
      | none => none
    | _ => none
def vlit : SK → Value → Option Lit
  | .b, .bool b => some (.bool b)
  | .i q, .int q' n => if q' = q ∧ (Lit.int q n).wf = true then some (.int q n) else none
  | .s, .string s => if s.size ≤ maxLen then some (.string s.data.toList) else none
  | _, _ => none
def vlits : List SK → List Value → Option (List Lit)
  | [], [] => some []
  | k :: ks, v :: vs => match vlit k v, vlits ks vs with
    | some l, some ls => some (l :: ls)
    | _, _ => none
  | _, _ => none
theorem vlits_len : ∀ {ks : List SK} {vs : List Value} {L : List Lit}, vlits ks vs = some L → vs.length = ks.length
  | [], [], _, _ => rfl
  | [], _ :: _, _, h => by cases h
  | _ :: _, [], _, h => by cases h
  | k :: ks, v :: vs, L, h => by
    simp only [vlits] at h
    split at h
    · rename_i l ls h1 h2; simp [vlits_len h2]
    · cases h
theorem vlits_append : ∀ {a b : List SK} {vs : List Value} {L : List Lit}, vlits (a ++ b) vs = some L →
    ∃ L1 L2, vlits a (vs.take a.length) = some L1 ∧ vlits b (vs.drop a.length) = some L2 ∧ L = L1 ++ L2
  | [], b, vs, L, h => ⟨[], L, by simp [vlits], by simpa using h, rfl⟩
  | k :: a, b, [], L, h => by cases h
  | k :: a, b, v :: vs, L, h => by
    simp only [List.cons_append, vlits] at h
    split at h
    · rename_i l ls h1 h2
      simp only [Option.some.injEq] at h; subst h
      obtain ⟨L1, L2, g1, g2, rfl⟩ := vlits_append h2
      exact ⟨l :: L1, L2, by simp [vlits, h1, g1], by simpa using g2, rfl⟩
    · cases h
section
variable {P : Program}
theorem keyLits_items {d : Nat} {e : TypeId} {ks : List SK} {m : Nat} (hm : m = ks.length) (ih : ∀ vs L, vlits ks vs = some L → P.keyLits d e vs = some L) (vs0 : List Value) :
    ∀ (n s : Nat) (L : List Lit), vlits (List.replicate n ks).flatten (vs0.drop (s * m)) = some L →
      ∃ LL, (List.range' s n).mapM (fun i => P.keyLits d e ((vs0.drop (i * m)).take m)) = some LL ∧ LL.flatten = L
  | 0, s, L, h => by
    have : vs0.drop (s * m) = [] := List.eq_nil_of_length_eq_zero (by simpa using vlits_len h)
    rw [this] at h
    simp [vlits] at h
    exact ⟨[], by simp, by simp [h]⟩
  | n + 1, s, L, h => by
    rw [List.replicate_succ, List.flatten_cons] at h
    obtain ⟨L1, L2, h1, h2, rfl⟩ := vlits_append h
    rw [← hm, List.drop_drop] at h2
    have e1 : s * m + m = (s + 1) * m := by rw [Nat.add_mul, Nat.one_mul]
    rw [e1] at h2
    obtain ⟨LL, g1, g2⟩ := keyLits_items hm ih vs0 n (s + 1) L2 h2
    refine ⟨L1 :: LL, ?_, by simp [g2]⟩
    rw [← hm] at h1
    rw [List.range'_succ, List.mapM_cons, ih _ _ h1]
    simp [g1]
theorem keyLits_fields {d : Nat} (ih : ∀ t ks vs L, skel P d t = some ks → vlits ks vs = some L → P.keyLits d t vs = some L) (vs0 : List Value) :
    ∀ (fs : List Field) (o : Nat) (ks : List SK) (L : List Lit), skelF (skel P d) P o fs = some ks → vlits ks (vs0.drop o) = some L →
      ∃ LL, fs.mapM (fun f => P.keyLits d f.type ((vs0.drop f.offset).take (P.cellsOf f.type))) = some LL ∧ LL.flatten = L
  | [], o, ks, L, h, hv => by
    simp only [skelF, Option.some.injEq] at h; subst h
    have : vs0.drop o = [] := List.eq_nil_of_length_eq_zero (by simpa using vlits_len hv)
    rw [this] at hv
    simp [vlits] at hv
    exact ⟨[], by simp, by simp [hv]⟩
  | f :: fs, o, ks, L, h, hv => by
    simp only [skelF] at h
    split at h <;> (try (cases h; done))
    rename_i ho
    split at h <;> (try (cases h; done))
    rename_i k1 hk1
    split at h <;> (try (cases h; done))
    rename_i hc
    simp only [Option.map_eq_some_iff] at h
    obtain ⟨k2, hk2, rfl⟩ := h
    obtain ⟨L1, L2, h1, h2, rfl⟩ := vlits_append hv
    rw [List.drop_drop] at h2
    obtain ⟨LL, g1, g2⟩ := keyLits_fields ih vs0 fs _ k2 L2 hk2 h2
    refine ⟨L1 :: LL, ?_, by simp [g2]⟩
    rw [List.mapM_cons, ho, hc, ih _ _ _ _ hk1 h1]
    simp [g1]
theorem keyLits_of_skel : ∀ (d : Nat) (t : TypeId) (ks : List SK) (vs : List Value) (L : List Lit), skel P d t = some ks → vlits ks vs = some L → P.keyLits d t vs = some L
  | 0, _, _, _, _, h, _ => by cases h
  | d + 1, t, ks, vs, L, h, hv => by
    have ih := fun t ks vs L => keyLits_of_skel d t ks vs L
    simp only [skel] at h
    split at h
    · rename_i hu
      simp only [Option.some.injEq] at h; subst h
      have hl := vlits_len hv
      obtain ⟨v, rfl⟩ : ∃ v, vs = [v] := by
        cases vs with | nil => simp at hl | cons v l => cases l with | nil => exact ⟨v, rfl⟩ | cons _ _ => simp at hl
      cases v <;> simp [vlits, vlit] at hv
      subst hv
      simp [Program.keyLits, hu]
    · rename_i q hu
      simp only [Option.some.injEq] at h; subst h
      have hl := vlits_len hv
      obtain ⟨v, rfl⟩ : ∃ v, vs = [v] := by
        cases vs with | nil => simp at hl | cons v l => cases l with | nil => exact ⟨v, rfl⟩ | cons _ _ => simp at hl
      cases v <;> simp only [vlits, vlit] at hv <;> (try (cases hv; done))
      rename_i q' n
      split at hv <;> simp only [Option.some.injEq, reduceCtorEq] at hv
      rename_i l ls h1 h2
      split at h1 <;> simp only [Option.some.injEq, reduceCtorEq] at h1
      rename_i hc
      cases h2; subst h1 hv
      simp [Program.keyLits, hu, hc.1, hc.2]
    · rename_i hu
      simp only [Option.some.injEq] at h; subst h
      have hl := vlits_len hv
      obtain ⟨v, rfl⟩ : ∃ v, vs = [v] := by
        cases vs with | nil => simp at hl | cons v l => cases l with | nil => exact ⟨v, rfl⟩ | cons _ _ => simp at hl
      cases v <;> simp only [vlits, vlit] at hv <;> (try (cases hv; done))
      split at hv <;> simp only [Option.some.injEq, reduceCtorEq] at hv
      rename_i l ls h1 h2
      split at h1 <;> simp only [Option.some.injEq, reduceCtorEq] at h1
      rename_i hc
      cases h2; subst h1 hv
      simp [Program.keyLits, hu, hc]
    · rename_i n e hu
      split at h <;> (try (cases h; done))
      rename_i k1 hk1
      split at h <;> simp only [Option.some.injEq, reduceCtorEq] at h
      rename_i hc
      subst h
      have hl := vlits_len hv
      have hl' : vs.length = P.cellsOf t := by rw [hl, hc.2]; simp
      obtain ⟨LL, g1, g2⟩ := keyLits_items (P := P) (d := d) (e := e) (m := P.cellsOf e) hc.1 (fun vs L => ih e k1 vs L hk1) vs n 0 L (by simpa using hv)
      rw [← List.range_eq_range'] at g1
      unfold Program.keyLits
      simp only [hu, hl', if_true, g1, Option.map_some, g2]
    · rename_i fs hu
      split at h <;> (try (cases h; done))
      rename_i k1 hk1
      split at h <;> simp only [Option.some.injEq, reduceCtorEq] at h
      rename_i hc
      subst h
      have hl := vlits_len hv
      have hl' : vs.length = P.cellsOf t := by rw [hl, hc.1]
      obtain ⟨LL, g1, g2⟩ := keyLits_fields (P := P) (d := d) ih vs fs.toList 0 k1 L hk1 (by simpa using hv)
      unfold Program.keyLits
      simp only [hu, hl', hc.2, and_self, if_true, g1, Option.map_some, g2]
    · cases h
end
theorem alit_sound {Z : Zt} {σ : Sg} {k : SK} {x : AV} {v : Value} {l : Lit} (hx : VR Z σ x v) (h : alit k x = some l) : vlit k v = some l := by
  unfold alit at h
  split at h
  · rw [hx.bool_inv]; exact h
  · rw [hx.int_inv]; exact h
  · rw [hx.str_inv]; simpa [vlit, ByteArray.size] using h
  · cases h
theorem alits_sound {Z : Zt} {σ : Sg} : ∀ {ks : List SK} {xs : List AV} {vs : List Value} {L : List Lit}, VRs Z σ xs vs → alits ks xs = some L → vlits ks vs = some L
  | [], [], vs, L, hx, h => by cases hx; exact h
  | [], _ :: _, _, _, _, h => by cases h
  | _ :: _, [], _, _, _, h => by cases h
  | k :: ks, x :: xs, vs, L, hx, h => by
    cases hx with
    | cons h1 h2 =>
      simp only [alits] at h
      split at h
      · rename_i l ls g1 g2
        simp only [vlits, alit_sound h1 g1, alits_sound h2 g2]; exact h
      · cases h
def kty (P : Program) (k : TypeId) : Option (Bool × List SK) := match P.underlying k with
  | some (.int q) => some (false, [.i q])
  | some .string => some (false, [.s])
  | some (.array _ _) | some (.struct _) =>
    if (P.keyTypeAt (P.types.size + 1) k && P.tiled (P.types.size + 1) k && decide (P.types.size + 2 ≤ 10000)) = true then (skel P (P.types.size + 1) k).map (true, ·) else none
  | _ => none
def klit (ty : Bool × List SK) (L : List Lit) : Lit := match ty.1, L with
  | false, [l] => l
  | _, L => .string (keyBytes L)
section
variable {P : Program} {k : TypeId} {ty : Bool × List SK}
theorem kty_keyed (h : kty P k = some ty) : Maps.Keyed P k := by
  unfold kty at h
  split at h
  · rename_i hu; exact Maps.int_keyed hu
  · rename_i hu; exact .of_law (WideMaps.string_law hu)
  · rename_i hu
    split at h <;> (try (cases h; done))
    rename_i hc
    simp only [Bool.and_eq_true, decide_eq_true_eq] at hc
    exact .of_law (deep_law hc.2 hc.1.1 hc.1.2 (by rw [hu]))
  · rename_i hu
    split at h <;> (try (cases h; done))
    rename_i hc
    simp only [Bool.and_eq_true, decide_eq_true_eq] at hc
    exact .of_law (deep_law hc.2 hc.1.1 hc.1.2 (by rw [hu]))
  · cases h
def vkey (ty : Bool × List SK) (v : Value) : Option (List Lit) := match ty.1, ty.2, v with
  | true, ks, .agg l => vlits ks l.toList
  | false, [k], v => (vlit k v).map fun l => [l]
  | _, _, _ => none
theorem akey_vkey {Z : Zt} {σ : Sg} {x : AV} {v : Value} {L : List Lit} (hx : VR Z σ x v) (h : akey ty x = some L) : vkey ty v = some L := by
  obtain ⟨b, ks⟩ := ty
  unfold akey at h
  split at h
  · rename_i l hb
    simp only at hb; subst hb
    obtain ⟨vs, rfl, _, hv⟩ := hx.agg_inv
    simp only [vkey]; exact alits_sound hv h
  · rename_i k' hb hk
    simp only at hb hk; subst hb hk
    simp only [Option.map_eq_some_iff] at h
    obtain ⟨l, hl, rfl⟩ := h
    simp only [vkey, alit_sound hx hl, Option.map_some]
  · cases h
theorem vkey_keyOf {v : Value} {L : List Lit} (hk : kty P k = some ty) (h : vkey ty v = some L) : keyOf P k v = some (klit ty L) := by
  unfold kty at hk
  have wide : (match P.underlying k with | some (.array _ _) | some (.struct _) => true | _ => false) = true →
      (if (P.keyTypeAt (P.types.size + 1) k && P.tiled (P.types.size + 1) k && decide (P.types.size + 2 ≤ 10000)) = true then (skel P (P.types.size + 1) k).map (true, ·) else none) = some ty → keyOf P k v = some (klit ty L) := by
    intro hw hk
    split at hk <;> (try (cases hk; done))
    rename_i hc
    simp only [Bool.and_eq_true, decide_eq_true_eq] at hc
    simp only [Option.map_eq_some_iff] at hk
    obtain ⟨ks, hks, rfl⟩ := hk
    cases v <;> simp only [vkey] at h <;> (try (cases h; done))
    rename_i cs
    have hkl := keyLits_of_skel _ _ _ _ _ hks h
    have hlen : cs.size = P.cellsOf k := by
      have h2 := hkl
      unfold Program.keyLits at h2
      split at hw
      · rename_i n e hu
        simp only [hu] at h2
        split at h2 <;> (try (cases h2; done))
        rename_i hh; simpa using hh
      · rename_i fs hu
        simp only [hu] at h2
        split at h2 <;> (try (cases h2; done))
        rename_i hh; simpa using hh.1
      · cases hw
    have hform : (Value.agg cs).formed P k = true := by
      unfold Value.formed
      split at hw
      · rename_i hu; simp [hu, hlen]
      · rename_i hu; simp [hu, hlen]
      · cases hw
    have : keyOf P k (.agg cs) = (P.keyLits (P.types.size + 1) k cs.toList).map fun ls => .string (keyBytes ls) := by
      unfold keyOf
      split at hw
      · rename_i hu; simp only [hu]; rw [if_pos (by simp [Program.keyType, hc.1.1, hform])]; rfl
      · rename_i hu; simp only [hu]; rw [if_pos (by simp [Program.keyType, hc.1.1, hform])]; rfl
      · cases hw
    rw [this, hkl]; rfl
  split at hk
  · rename_i q hu
    simp only [Option.some.injEq] at hk; subst hk
    simp only [vkey, Option.map_eq_some_iff] at h
    obtain ⟨l, hl, rfl⟩ := h
    unfold keyOf; simp only [hu]
    unfold mapKey; simp only [hu]
    cases v <;> simp only [vlit] at hl <;> (try (cases hl; done))
    split at hl <;> simp only [Option.some.injEq, reduceCtorEq] at hl
    rename_i hc; subst hl
    simp [klit, hc.1, hc.2]
  · rename_i hu
    simp only [Option.some.injEq] at hk; subst hk
    simp only [vkey, Option.map_eq_some_iff] at h
    obtain ⟨l, hl, rfl⟩ := h
    unfold keyOf; simp only [hu]
    unfold mapKey; simp only [hu]
    cases v <;> simp only [vlit] at hl <;> (try (cases hl; done))
    split at hl <;> simp only [Option.some.injEq, reduceCtorEq] at hl
    rename_i hc; subst hl
    simp [klit, hc]
  · rename_i hu; exact wide (by rw [hu]) hk
  · rename_i hu; exact wide (by rw [hu]) hk
  · cases hk
theorem vkey_eq {u v : Value} {L L' : List Lit} (hk : kty P k = some ty) (h : vkey ty u = some L) (h' : vkey ty v = some L') : u = v ↔ L = L' := by
  constructor
  · intro e; subst e; rw [h] at h'; exact Option.some.inj h'
  · intro e; subst e; exact (kty_keyed hk).inj (vkey_keyOf hk h) (vkey_keyOf hk h')
end
end Go.AL
namespace Go.AL
def tsize (P : Program) (t : TypeId) : Option Nat := (P.info? t).map (·.size)
def tagg (P : Program) (t : TypeId) : Option Bool :=
  match P.underlying t with
  | some (.struct _) => some true
  | some (.array _ _) => some true
  | some _ => some false
  | none => none
def tload (P : Program) (t : TypeId) : Option (Option Nat) :=
  match tagg P t, tsize P t with
  | some true, some n => some (some n)
  | some false, some _ => some none
  | _, _ => none
def tzero (P : Program) (t : TypeId) : Option (List AV) := ((P.info? t).bind (·.zero)).bind fun z => ofConsts z.cells.toList
def cParts (place : Nat → Option (Nat × Nat)) : List (Nat × Operand) → Option (List (Nat × Nat × AOpd))
  | [] => some []
  | (i, x) :: l =>
    match place i, cOpd x, cParts place l with
    | some (off, n), some y, some ys => some ((off, n, y) :: ys)
    | _, _, _ => none
def repl (n : Nat) (z : List AV) : List AV := (List.range (n * z.length)).map fun i => z[i % z.length]?.getD .unk
def eqTy (P : Program) (t : TypeId) : Option EqT := match P.underlying t with
  | some .bool => some .bool
  | some (.slice _) => some .slice
  | some (.interface ms) => if ms.isEmpty then some .iface else none
  | some (.struct _) | some (.array _ _) => if P.eqGuardType P.depth t = false then (kty P t).map .wide else none
  | some (.pointer _) => some .ptr
  | _ => none
def tzv (P : Program) (t : TypeId) : Option AV := ((P.info? t).bind (·.zero)).bind ofConst
def extB (P : Program) : AOpd → Option Bool
  | .fnc g => match P.funcs[g]? with
    | some fn => bif fn.body.isNone then (bif (Extern.allNextRows.lookup fn.origin).isNone then (bif fn.name == "internal/bytealg.IndexByte" then some false else bif fn.name == "internal/bytealg.Compare" then some true else none) else none) else none
    | none => none
  | _ => none
def xcall (P : Program) (f : AOpd) (l : List AOpd) : AK := match extB P f with
  | some c => (match l with
    | [x, y] => .ext c x y
    | _ => .call f l)
  | none => .call f l
theorem xcall_cases (P : Program) (f : AOpd) (l : List AOpd) : (∃ c x y, xcall P f l = .ext c x y) ∨ xcall P f l = .call f l := by
  unfold xcall
  split
  · split
    · exact .inl ⟨_, _, _, rfl⟩
    · exact .inr rfl
  · exact .inr rfl
def compOp0 (P : Program) (o : Oper) : Option AK :=
  match o.op with
  | .move x | .assign x => (cOpd x).map .move
  | .pick c a b => match cOpd c, cOpd a, cOpd b with
    | some c, some a, some b => some (.pick c a b)
    | _, _, _ => none
  | .build t ps =>
    match P.underlying t, tzero P t with
    | some (.struct fs), some z => if fs.toList.all (fun f => (tsize P f.type).isSome) then (cParts (fun i => (fs[i]?).map fun f => (f.offset, (tsize P f.type).getD 0)) ps.toList).map (.build z) else none
    | some (.array _ e), some z => match tsize P e with
      | some n => (cParts (fun i => some (i * n, n)) ps.toList).map (.build z)
      | none => none
    | _, _ => none
  | .nilCheck x => (cOpd x).map .nilCheck
  | .binOp op t x y _ => match cOpd x, cOpd y with
    | some x, some y => match op, eqTy P t with
      | .eql, some ty => some (.eq false ty x y)
      | .neq, some ty => some (.eq true ty x y)
      | op, _ => some (.bin op x y)
    | _, _ => none
  | .unOp op _ x => (cOpd x).map (.un op)
  | .convert s d x => match P.underlying s, P.underlying d, cOpd x with
    | some (.int _), some (.int k), some x => some (.convI k x)
    | some .string, some .string, some x => some (.convS x)
    | some (.slice e), some .string, some x => match P.underlying e with
      | some (.int .u8) => some (.strOfBytes x)
      | _ => none
    | some .string, some (.slice e), some x => match P.underlying e with
      | some (.int .u8) => some (.bytesOf x)
      | _ => none
    | some (.slice _), some (.slice e), some x => match P.underlying e with
      | some (.int .u8) => if s = d then some (.mark x) else none
      | _ => none
    | _, _, _ => none
  | .makeInterface t x => match P.underlying t with
    | some (.interface _) => none
    | some _ => (cOpd x).map (.mkIface t)
    | none => none
  | .makeFunc fn first cap => match cOpds first.toList, cOpds cap.toList with
    | some a, some b => some (.mkFunc fn a b)
    | _, _ => none
  | .fieldAddr t x i => match P.underlying t, cOpd x with
    | some (.struct fs), some x => (fs[i]?).bind fun f => match tsize P f.type with
      | some (_ + 1) => some (.fieldAddr f.offset x)
      | _ => none
    | _, _ => none
  | .field t x i => match P.underlying t, cOpd x with
    | some (.struct fs), some x => (fs[i]?).bind fun f => (tload P f.type).map fun g => .field g f.offset x
    | _, _ => none
  | .indexAddr t x i => match P.underlying t, cOpd x, cOpd i with
    | some (.array n e), some x, some i => (tsize P e).map fun k => .indexAddrA n k x i
    | some (.slice e), some x, some i => (tsize P e).map fun k => .indexAddrS k x i
    | _, _, _ => none
  | .index t x i => match P.underlying t, cOpd x, cOpd i with
    | some (.array n e), some x, some i => match tsize P e, tload P e with
      | some k, some g => some (.indexA n k g x i)
      | _, _ => none
    | some .string, some x, some i => some (.indexStr x i)
    | _, _, _ => none
  | .extract x i => (cOpd x).map (.extract i)
  | .slice t x lo hi mx => match P.underlying t, cOpd x, cOpt lo, cOpt hi, cOpt mx with
    | some (.slice e), some x, some lo, some hi, some mx => (tsize P e).map fun k => .sliceS k x lo hi mx
    | some (.array n e), some x, some lo, some hi, some mx => (tsize P e).map fun k => .sliceA n k x lo hi mx
    | some .string, some x, some lo, some hi, some none => some (.sliceStr x lo hi)
    | _, _, _, _, _ => none
  | .load t x => match tload P t, cOpd x with
    | some g, some x => some (.load g x)
    | _, _ => none
  | .store t x v => match tsize P t, cOpd x, cOpd v with
    | some n, some x, some v => some (.store n x v)
    | _, _, _ => none
  | .alloc t => (tzero P t).map .alloc
  | .box _ x => (cOpd x).map .box
  | .buildSlice t len ps => match P.underlying t with
    | some (.slice e) => match tsize P e, tzero P e with
      | some n, some z => if n = z.length ∧ 0 < n ∧ len * n ≤ 2 ^ 24 then (cParts (fun i => some (i * n, n)) ps.toList).map (.buildSlice n len (repl len z)) else none
      | _, _ => none
    | _ => none
  | .makeSlice t l c => match P.underlying t, cOpd l, cOpd c with
    | some (.slice e), some l, some c => match P.info? e, tzero P e with
      | some i, some z => if i.size = z.length ∧ 0 < i.size then some (.mkSlice i.size i.bytes z l c) else none
      | _, _ => none
    | _, _, _ => none
  | .call { callee := .builtin .len, args, argTypes } => match args.toList, argTypes.toList with
    | [x], [t] => match P.underlying t, cOpd x with
      | some (.slice _), some x => some (.len x)
      | some .string, some x => some (.lenStr x)
      | some (.array n _), some _ => some (.lenA n)
      | some (.map _ _), some x => some (.lenMap x)
      | _, _ => none
    | _, _ => none
  | .call { callee := .builtin .append, args, argTypes } => match args.toList, argTypes.toList with
    | [s, x], [t, u] => match P.underlying t, cOpd s, cOpd x with
      | some (.slice e), some s, some x => match P.info? e, tzero P e, P.underlying u with
        | some i, some z, some (.slice _) => if i.size = z.length ∧ 0 < i.size then some (.append i.size i.bytes s x) else none
        | some i, some z, some (.int _) => if i.size = z.length ∧ 0 < i.size then some (.appendZ i.size i.bytes z s x) else none
        | _, _, _ => none
      | _, _, _ => none
    | _, _ => none
  | .call { callee := .builtin .clear, args, argTypes } => match args.toList, argTypes.toList with
    | [s], [t] => match P.underlying t, cOpd s with
      | some (.slice e), some s => match P.info? e, tzero P e with
        | some i, some z => if i.size = z.length ∧ 0 < i.size then some (.clr i.size z s) else none
        | _, _ => none
      | _, _ => none
    | _, _ => none
  | .call { callee := .builtin .copy, args, argTypes } => match args.toList, argTypes.toList with
    | [d, s], [t, _] => match P.underlying t, cOpd d, cOpd s with
      | some (.slice e), some d, some s => match P.info? e with
        | some i => some (.copy i.size d s)
        | _ => none
      | _, _, _ => none
    | _, _ => none
  | .call { callee := .builtin .min, args, .. } => match args.toList with
    | [x, y] => match cOpd x, cOpd y with
      | some x, some y => some (.minmax false x y)
      | _, _ => none
    | [x, y, z] => match cOpd x, cOpd y, cOpd z with
      | some x, some y, some z => some (.minmax3 false x y z)
      | _, _, _ => none
    | _ => none
  | .call { callee := .builtin .max, args, .. } => match args.toList with
    | [x, y] => match cOpd x, cOpd y with
      | some x, some y => some (.minmax true x y)
      | _, _ => none
    | [x, y, z] => match cOpd x, cOpd y, cOpd z with
      | some x, some y, some z => some (.minmax3 true x y z)
      | _, _, _ => none
    | _ => none
  | .call { callee := .builtin .cap, args, argTypes } => match args.toList, argTypes.toList with
    | [x], [t] => match P.underlying t, cOpd x with
      | some (.slice _), some x => some (.cap x)
      | _, _ => none
    | _, _ => none
  | .call { callee := .builtin .recover, .. } => some .recover
  | .call { callee := .value f, args, .. } => match cOpd f, cOpds args.toList with
    | some f, some l => some (xcall P f l)
    | _, _ => none
  | .defer { callee := .value f, args, .. } => match cOpd f, cOpds args.toList with
    | some f, some l => some (.defer f l)
    | _, _ => none
  | .panic x => (cOpd x).map .panic
  | .typeAssert x _ t true => match P.underlying t with
    | some (.interface _) => none
    | some _ => match cOpd x, tzv P t with
      | some x, some z => some (.tass t z x)
      | _, _ => none
    | none => none
  | .makeMap _ none => some .makeMap
  | .lookup t m k ok => match P.underlying t, cOpd m, cOpd k with
    | some (.map kt el), some m, some k => match kty P kt, tzv P el with
      | some ty, some z => some (.lookup ty z ok m k)
      | _, _ => none
    | _, _, _ => none
  | .mapUpdate t m k v | .insert t m k v => match P.underlying t, cOpd m, cOpd k, cOpd v with
    | some (.map kt _), some m, some k, some v => (kty P kt).map fun ty => .mapUpd ty m k v
    | _, _, _, _ => none
  | _ => none
def compOp (P : Program) (o : Oper) : Option AK := some ((compOp0 P o).getD (.panic (.cst .unk)))
theorem add_none (b o n : Nat) : (⟨b, o, none⟩ : Addr).add n = ⟨b, o + n, none⟩ := by unfold Addr.add; split <;> simp_all
section
variable {P : Program} {Z : Zt} {σ : Sg} {e : Env} {a : Act} (w : World)
theorem s_move {x : Operand} {y : AOpd} (he : ER Z σ e a) (hx : cOpd x = some y) : VR Z σ (y.ev e) (a.eval x) := cOpd_sound he hx
theorem s_pick {c x y : Operand} {c' x' y' : AOpd} (he : ER Z σ e a) (hc : cOpd c = some c') (hx : cOpd x = some x') (hy : cOpd y = some y') {p : Bool} (hp : c'.ev e = .bool p) :
    a.eval c = .bool p ∧ VR Z σ (.pick p (x'.ev e) (y'.ev e)) (if p then a.eval x else a.eval y) := by
  have h1 := cOpd_sound he hc
  rw [hp] at h1
  have h2 := cOpd_sound he hx
  have h3 := cOpd_sound he hy
  refine ⟨h1.bool_inv, ?_⟩
  generalize x'.ev e = ax at *
  generalize y'.ev e = ay at *
  generalize a.eval x = vx at *
  generalize a.eval y = vy at *
  unfold AV.pick
  split
  · rw [h2.bool_inv, h3.bool_inv]; cases p <;> exact .bool _
  · cases p
    · exact h3
    · exact h2
theorem s_bin {op : BinOp} {x y : AV} {t : TypeId} {vx vy : Value} (hx : VR Z σ x vx) (hy : VR Z σ y vy) {v : AV} (h : abin op x y = some v) (ox oy : Operand) :
    ∃ cv, ((eqGuard op t ox oy vx vy) >>= fun _ => binOp op t vx vy).run P w = .ok cv w ∧ VR Z σ v cv := by
  unfold abin at h
  split at h
  · rename_i k n k' m
    rw [hx.int_inv, hy.int_inv]
    have hg : (eqGuard op t ox oy (.int k n) (.int k' m)).run P w = .ok () w := by
      unfold eqGuard; split <;> simp
    split at h
    case h_1 =>
      split at h
      · rename_i h0; simp only [Option.some.injEq] at h; subst h
        refine ⟨_, ?_, .int _ _⟩
        simp [hg, binOp, Op.shift, Int.not_lt.2 h0]
      · cases h
    case h_2 =>
      split at h
      · rename_i h0; simp only [Option.some.injEq] at h; subst h
        refine ⟨_, ?_, .int _ _⟩
        simp [hg, binOp, Op.shift, Int.not_lt.2 h0]
      · cases h
    all_goals
      split at h
      · rename_i h0
        simp only [Option.some.injEq] at h; subst h
        refine ⟨_, ?_, by constructor⟩
        rw [Sem.run_bind, hg, Result.andThen_ok]
        simp [binOp, Op.intArith, Op.intDiv, Op.intBits, Op.intCmp, h0]
      · cases h
  · rename_i l m
    rw [hx.str_inv, hy.str_inv]
    have hg : (eqGuard op t ox oy (.string ⟨l.toArray⟩) (.string ⟨m.toArray⟩)).run P w = .ok () w := by
      unfold eqGuard; split <;> simp
    split at h
    · split at h
      · rename_i h0
        simp only [Option.some.injEq] at h; subst h
        refine ⟨.string (⟨l.toArray⟩ ++ ⟨m.toArray⟩), ?_, ?_⟩
        · have h1 : ¬ ((9223372036854775807 : Int) < ((l.length + m.length : Nat) : Int)) := by omega
          have h2 : (⟨l.toArray⟩ : ByteArray).size + (⟨m.toArray⟩ : ByteArray).size = l.length + m.length := rfl
          have h3 : IntKind.i64.max = 9223372036854775807 := by decide
          simp only [Sem.run_bind, hg, Result.andThen_ok, binOp, Op.stringOp, h2, h3, gt_iff_lt, h1, if_false, Sem.run_pure]
        · have e : (⟨l.toArray⟩ ++ ⟨m.toArray⟩ : ByteArray) = ⟨(l ++ m).toArray⟩ := by
            apply ByteArray.ext
            simp [ByteArray.data_append]
          rw [e]; exact .str _
      · cases h
    · simp only [Option.some.injEq] at h; subst h
      refine ⟨.bool (l == m), ?_, .bool _⟩
      simp [hg, binOp, Op.stringOp]
    · simp only [Option.some.injEq] at h; subst h
      refine ⟨.bool (!(l == m)), ?_, .bool _⟩
      simp [hg, binOp, Op.stringOp]
    · cases h
  · cases h
theorem s_un {op : UnOp} {x : AV} {vx : Value} (hx : VR Z σ x vx) {v : AV} (h : aun op x = some v) : ∃ cv, (Op.unary op vx).run P w = .ok cv w ∧ VR Z σ v cv := by
  unfold aun at h
  split at h <;> (try cases h)
  · rw [hx.int_inv]; exact ⟨_, by simp [Op.unary, Op.intArith], .int _ _⟩
  · rw [hx.int_inv]; exact ⟨_, by simp [Op.unary, Op.intBits], .int _ _⟩
  · rw [hx.bool_inv]; exact ⟨_, by simp [Op.unary], .bool _⟩
end
end Go.AL
namespace Go.AL
def IntO (l : Option Int) (v : Option Value) : Prop :=
  match l, v with
  | none, none => True
  | some n, some v => ∃ k, v = .int k n
  | _, _ => False
section
variable {P : Program} {Z : Zt} {σ : Sg} {e : Env} {a : Act} (w : World)
theorem run_sliceBound_ok (k : IntKind) {i : Int} {y : Nat} (code : BoundsCode) (h0 : 0 ≤ i) (h1 : i ≤ y) : (Instr.sliceBound (.int k i) y code).run P w = .ok i.toNat w := by
  simp [Instr.sliceBound, asIntOf, h0, h1]
theorem run_sliceBounds_ok (isS : Bool) (len cap : Nat) {l h q : Option Int} {lo hi mx : Option Value} (hl : IntO l lo) (hh : IntO h hi) (hq : IntO q mx) (hs : q.isSome = true → h.isSome = true)
    (h0 : 0 ≤ l.getD 0) (h1 : l.getD 0 ≤ h.getD len) (h2 : h.getD len ≤ q.getD cap) (h3 : q.getD cap ≤ cap) :
    (Instr.sliceBounds isS len cap lo hi mx).run P w = .ok ((l.getD 0).toNat, (h.getD len).toNat, (q.getD cap).toNat) w := by
  have key : ∀ (y : Nat) (c : BoundsCode), (h.getD len) ≤ y → (match lo with | some v => Instr.sliceBound v y c | none => pure 0 : Sem Nat).run P w = .ok (l.getD 0).toNat w ∨ (h.getD len).toNat ≠ y := by
    intro y c hy
    by_cases e1 : (h.getD len).toNat = y
    · refine .inl ?_
      cases l <;> cases lo <;> simp only [IntO] at hl
      · rfl
      · obtain ⟨k, rfl⟩ := hl
        simp only [Option.getD_some] at h0 h1 ⊢
        exact run_sliceBound_ok w k c h0 (by omega)
    · exact .inr e1
  cases q <;> cases mx <;> simp only [IntO] at hq
  · cases h <;> cases hi <;> simp only [IntO] at hh
    · simp only [Option.getD_none] at *
      have := (key len .sliceB (by omega)).resolve_right (by simp)
      unfold Instr.sliceBounds
      simp only [Option.isSome_none, Bool.false_eq_true, if_false, Sem.run_bind, Sem.run_pure, Result.andThen_ok]
      cases lo <;> simp at this ⊢ <;> simp [this]
    · obtain ⟨k, rfl⟩ := hh
      simp only [Option.getD_some, Option.getD_none] at *
      have hb := fun c => run_sliceBound_ok (P := P) w k (y := cap) c (by omega : (0 : Int) ≤ _) h2
      have := (key _ .sliceB (by omega)).resolve_right (fun e => e rfl)
      unfold Instr.sliceBounds
      simp only [Option.isSome_none, Bool.false_eq_true, if_false, Sem.run_bind, Sem.run_pure, Result.andThen_ok, hb]
      cases lo <;> simp at this ⊢ <;> simp [this]
  · obtain ⟨k, rfl⟩ := hq
    cases h <;> cases hi <;> simp only [IntO] at hh
    · simp at hs
    · obtain ⟨k', rfl⟩ := hh
      simp only [Option.getD_some] at *
      have hb1 := fun c => run_sliceBound_ok (P := P) w k (y := cap) c (by omega : (0 : Int) ≤ _) h3
      have := (key _ .slice3C (by omega)).resolve_right (fun e => e rfl)
      unfold Instr.sliceBounds
      simp only [Option.isSome_some, if_true, Sem.run_bind, Result.andThen_ok, hb1]
      rw [run_sliceBound_ok (P := P) w k' _ (by omega) (by omega)]
      simp only [Result.andThen_ok]
      cases lo <;> simp at this ⊢ <;> simp [this]
theorem ints_sound {x : Option Operand} {y : Option AOpd} {l : Option Int} (he : ER Z σ e a) (hx : cOpt x = some y) (hl : AOpd.ints e y = some l) : IntO l (x.map a.eval) := by
  cases x with
  | none => simp only [cOpt, Option.some.injEq] at hx; subst hx; simp [AOpd.ints] at hl; subst hl; trivial
  | some x =>
    simp only [cOpt, Option.map_eq_some_iff] at hx
    obtain ⟨z, hz, rfl⟩ := hx
    simp only [AOpd.ints] at hl
    have := cOpd_sound he hz
    split at hl
    · rename_i k n hv
      simp only [Option.some.injEq] at hl; subst hl
      rw [hv] at this
      exact ⟨k, this.int_inv⟩
    · cases hl
theorem sub_rel {c : List AV} {vs : List Value} {off i m : Nat} (hv : VRs Z σ c ((vs.drop off).take c.length)) :
    VRs Z σ ((c.drop i).take m) ((vs.drop (off + i)).take ((c.drop i).take m).length) := by
  have h := (hv.drop i).take m
  have hl := hv.length
  rw [List.drop_take, List.drop_drop, List.take_take] at h
  rwa [List.length_take, List.length_drop]
theorem sub_mem {c : List AV} {vs : List Value} {off i m : Nat} {u : Value} (hu : u ∈ (vs.drop (off + i)).take ((c.drop i).take m).length) : u ∈ (vs.drop off).take c.length := by
  rw [List.length_take, List.length_drop] at hu
  have e : (vs.drop (off + i)).take (min m (c.length - i)) = (((vs.drop off).take c.length).drop i).take m := by
    rw [List.drop_take, List.drop_drop, List.take_take]
  rw [e] at hu
  exact List.mem_of_mem_drop (List.mem_of_mem_take hu)
theorem s_slice {t el : TypeId} {esz : Nat} (ht : P.underlying t = some (.slice el)) (hz : tsize P el = some esz) {x : AV} {vx : Value} (hx : VR Z σ x vx) {l h q : Option Int} {lo hi mx : Option Value}
    (hl : IntO l lo) (hh : IntO h hi) (hq : IntO q mx) (hs : q.isSome = true → h.isSome = true) {v : AV} (hv : aslice esz x l h q = some v) :
    ∃ cv, (Instr.sliceAt t vx lo hi mx).run P w = .ok cv w ∧ VR Z σ v cv := by
  have hsz : ∃ i, P.info? el = some i ∧ i.size = esz := by
    unfold tsize at hz
    simp only [Option.map_eq_some_iff] at hz
    obtain ⟨i, h1, h2⟩ := hz
    exact ⟨i, h1, h2⟩
  obtain ⟨i, hi0, hie⟩ := hsz
  have run : ∀ (ad : Option Addr) (len cap : Nat) (L H Q : Int), l.getD 0 = L → h.getD len = H → q.getD cap = Q → 0 ≤ L → L ≤ H → H ≤ Q → Q ≤ cap →
      (Instr.sliceAt t (.slice ad len cap) lo hi mx).run P w = .ok (.slice (if Q.toNat = L.toNat then ad else ad.map (·.add (L.toNat * esz))) (H.toNat - L.toNat) (Q.toNat - L.toNat)) w := by
    intro ad len cap L H Q e1 e2 e3 h0 h1 h2 h3
    subst e1; subst e2; subst e3
    have hb := run_sliceBounds_ok (P := P) w true len cap hl hh hq hs h0 h1 h2 h3
    simp [Instr.sliceAt, Instr.slice, run_underlying ht, hb, sizeOf, typeInfo, hi0, hie]
  unfold aslice at hv
  split at hv
  · rw [hx.nils_inv]
    split at hv <;> simp only [Option.some.injEq, reduceCtorEq] at hv
    rename_i hc
    subst hv
    obtain ⟨c1, c2, c3⟩ := hc
    exact ⟨_, run none 0 0 0 0 0 c1 c2 c3 (by omega) (by omega) (by omega) (by omega), .nils⟩
  · rename_i r o n m
    split at hv <;> simp only [Option.some.injEq, reduceCtorEq] at hv
    rename_i hc
    subst hv
    obtain ⟨c1, c2, c3, c4⟩ := hc
    generalize hL : l.getD 0 = L at *
    generalize hH : h.getD (n : Int) = H at *
    generalize hQ : q.getD (m : Int) = Q at *
    cases hx with
    | slx hp hn =>
      rename_i p
      refine ⟨_, run (some ⟨p.b, p.base + o, none⟩) n m L H Q rfl hH hQ c1 c2 c3 c4, ?_⟩
      have e1 : (H - L).toNat = H.toNat - L.toNat := by omega
      have e2 : (Q - L).toNat = Q.toNat - L.toNat := by omega
      rw [e1, e2]
      split
      · rename_i heq
        have a1 : H.toNat - L.toNat = 0 := by omega
        have a2 : Q.toNat - L.toNat = 0 := by omega
        rw [a1, a2]; exact .slxz hp _
      · simp only [Option.map_some, add_none]
        rw [Nat.add_assoc]
        exact .slx hp (by omega)
    | slxz hp ad =>
      refine ⟨_, run (some ad) 0 0 L H Q rfl hH hQ c1 c2 c3 c4, ?_⟩
      have a0 : L = 0 := by omega
      have a1 : H = 0 := by omega
      have a2 : Q = 0 := by omega
      subst a0; subst a1; subst a2
      exact .slxz hp _
  · rename_i r o n es
    split at hv
    · split at hv <;> simp only [Option.some.injEq, reduceCtorEq] at hv
      rename_i hc
      subst hv
      obtain ⟨c0, c1, c2, c3⟩ := hc
      subst c0
      generalize hL : l.getD 0 = L at *
      generalize hH : h.getD (n : Int) = H at *
      have e1 : (H - L).toNat = H.toNat - L.toNat := by omega
      rw [e1]
      cases hx with
      | slo hp hn hsz =>
        rename_i cap p
        refine ⟨_, run (some ⟨p.b, p.base + o, none⟩) n cap L H cap rfl hH rfl c1 c2 (by omega) (by omega), ?_⟩
        simp only [Int.toNat_natCast]
        split
        · rename_i heq
          have a1 : H.toNat - L.toNat = 0 := by omega
          have a2 : cap - L.toNat = 0 := by omega
          rw [a1, a2]; exact .sloz hp _
        · simp only [Option.map_some, add_none]
          rw [Nat.add_assoc]
          refine .slo hp (by omega) ?_
          rw [Nat.sub_mul]
          have : L.toNat * es ≤ cap * es := Nat.mul_le_mul_right _ (by omega)
          omega
      | sloz hp ad =>
        refine ⟨_, run (some ad) 0 0 L H 0 rfl hH rfl c1 c2 (by omega) (by omega), ?_⟩
        have a0 : L = 0 := by omega
        have a1 : H = 0 := by omega
        subst a0; subst a1
        exact .sloz hp _
    · rename_i q'
      split at hv <;> simp only [Option.some.injEq, reduceCtorEq] at hv
      rename_i hc
      subst hv
      obtain ⟨c1, c2, c3, c4⟩ := hc
      generalize hL : l.getD 0 = L at *
      generalize hH : h.getD (n : Int) = H at *
      have e1 : (H - L).toNat = H.toNat - L.toNat := by omega
      have e2 : (q' - L).toNat = q'.toNat - L.toNat := by omega
      rw [e1, e2]
      cases hx with
      | slo hp hn hsz =>
        rename_i cap p
        refine ⟨_, run (some ⟨p.b, p.base + o, none⟩) n cap L H q' rfl hH rfl c1 c2 c3 (by omega), ?_⟩
        split
        · rename_i heq
          have a1 : H.toNat - L.toNat = 0 := by omega
          have a2 : q'.toNat - L.toNat = 0 := by omega
          rw [a1, a2]; exact .slxz hp _
        · simp only [Option.map_some, add_none]
          rw [Nat.add_assoc]
          exact .slx hp (by omega)
      | sloz hp ad =>
        refine ⟨_, run (some ad) 0 0 L H q' rfl hH rfl c1 c2 c3 (by omega), ?_⟩
        have a0 : L = 0 := by omega
        have a1 : H = 0 := by omega
        have a2 : q' = 0 := by omega
        subst a0; subst a1; subst a2
        exact .slxz hp _
  · rename_i c n ex
    have fin : ∀ (H Q L : Int) (ad : Option Addr) (cap : Nat) (ex' : Bool), 0 ≤ L → L ≤ H → H ≤ n → H ≤ Q → Q ≤ cap → (ex' = true → Q = H) → (ad = none → ex' = false) → VR Z σ (.sim c n ex) (.slice ad n cap) →
        VR Z σ (.sim ((c.drop (L.toNat * esz)).take ((H - L).toNat * esz)) (H - L).toNat ex')
          (.slice (if Q.toNat = L.toNat then ad else ad.map (·.add (L.toNat * esz))) (H.toNat - L.toNat) (Q.toNat - L.toNat)) := by
      intro H Q L ad cap ex' c1 c2 c3 c4 c5 c6 c7 hx
      have e1 : (H - L).toNat = H.toNat - L.toNat := by omega
      rw [e1]
      by_cases hz0 : H.toNat - L.toNat = 0
      · rw [hz0]
        simp only [Nat.zero_mul, List.take_zero]
        cases ad with
        | none => cases hx with
          | simn =>
            have : Q.toNat - L.toNat = 0 := by omega
            rw [this, c7 rfl]; simp only [Option.map_none, ite_self]; exact .simn
        | some ad =>
          split
          · exact .simz _ (fun hx' => by have := c6 hx'; omega)
          · exact .simz _ (fun hx' => by have := c6 hx'; omega)
      · cases hx with
        | simz => omega
        | simn => omega
        | sim hn hx hs hz h1 hv =>
          rename_i ad c' e' fr'
          rw [if_neg (by omega)]
          have hadd : ad.add (L.toNat * esz) = ⟨ad.block, ad.off + L.toNat * esz, none⟩ := by
            obtain ⟨b0, o0, s0⟩ := ad
            simp only at hs; subst hs; exact add_none _ _ _
          simp only [Option.map_some, hadd]
          refine .sim (by omega) (fun hx' => by have := c6 hx'; omega) rfl hz ?_ ?_
          · intro u hu
            exact h1 u (sub_mem hu)
          · exact sub_rel hv
    split at hv
    · split at hv <;> simp only [Option.some.injEq, reduceCtorEq] at hv
      rename_i hc
      subst hv
      obtain ⟨c1, c2, c3⟩ := hc
      generalize hL : l.getD 0 = L at *
      generalize hH : h.getD (n : Int) = H at *
      cases hx with
      | simz ad hx0 =>
        rename_i cap
        refine ⟨_, run (some ad) 0 cap L H cap rfl hH rfl c1 c2 (by omega) (by omega), ?_⟩
        refine fin _ _ _ _ cap _ c1 c2 c3 (by omega) (by omega) ?_ (fun h => by cases h) (.simz ad hx0)
        intro hb
        simp only [Bool.and_eq_true, decide_eq_true_eq] at hb
        have := hx0 hb.1
        omega
      | simn =>
        refine ⟨_, run none 0 0 L H 0 rfl hH rfl c1 c2 (by omega) (by omega), ?_⟩
        exact fin _ _ _ _ 0 _ c1 c2 c3 (by omega) (by omega) (fun _ => by omega) (fun _ => rfl) .simn
      | sim hn hx hs hz h1 hv =>
        rename_i cap ad c' e' fr'
        refine ⟨_, run (some ad) n cap L H cap rfl hH rfl c1 c2 (by omega) (by omega), ?_⟩
        refine fin _ _ _ _ cap _ c1 c2 c3 (by omega) (by omega) ?_ (fun h => by cases h) (.sim hn hx hs hz h1 hv)
        intro hb
        simp only [Bool.and_eq_true, decide_eq_true_eq] at hb
        have := hx hb.1
        omega
    · rename_i q'
      split at hv <;> simp only [Option.some.injEq, reduceCtorEq] at hv
      rename_i hc
      subst hv
      obtain ⟨c1, c2, c3, c4⟩ := hc
      generalize hL : l.getD 0 = L at *
      generalize hH : h.getD (n : Int) = H at *
      cases hx with
      | simz ad hx0 =>
        rename_i cap
        refine ⟨_, run (some ad) 0 cap L H q' rfl hH rfl c1 c2 c3 (by omega), ?_⟩
        exact fin _ _ _ _ cap _ c1 c2 (by omega) c3 (by omega) (fun hb => by simp only [Bool.and_eq_true, decide_eq_true_eq] at hb; exact hb.1.symm) (fun h => by cases h) (.simz ad hx0)
      | simn =>
        refine ⟨_, run none 0 0 L H q' rfl hH rfl c1 c2 c3 (by omega), ?_⟩
        exact fin _ _ _ _ 0 _ c1 c2 (by omega) c3 (by omega) (fun hb => by simp at hb) (fun _ => by simp) .simn
      | sim hn hx hs hz h1 hv =>
        rename_i cap ad c' e' fr'
        refine ⟨_, run (some ad) n cap L H q' rfl hH rfl c1 c2 c3 (by omega), ?_⟩
        exact fin _ _ _ _ cap _ c1 c2 (by omega) c3 (by omega) (fun hb => by simp only [Bool.and_eq_true, decide_eq_true_eq] at hb; exact hb.1.symm) (fun h => by cases h) (.sim hn hx hs hz h1 hv)
  · cases hv
end
end Go.AL
namespace Go.AL
theorem foldl_set_aux (off : Nat) : ∀ (l : List Value) (k : Nat) (cs : Array Value), off + k + l.length ≤ cs.size →
    (((l.zipIdx k).foldl (fun cs (c, j) => cs.setIfInBounds (off + j) c) cs)).toList = cs.toList.take (off + k) ++ l ++ cs.toList.drop (off + k + l.length)
  | [], k, cs, _ => by simp
  | v :: l, k, cs, h => by
    simp only [List.zipIdx_cons, List.foldl_cons]
    simp only [List.length_cons] at h
    rw [foldl_set_aux off l (k + 1) (cs.setIfInBounds (off + k) v) (by simp; omega)]
    have hs : off + k < cs.toList.length := by simp; omega
    rw [Array.toList_setIfInBounds]
    have h1 : (cs.toList.set (off + k) v).take (off + (k + 1)) = cs.toList.take (off + k) ++ [v] := by
      rw [show off + (k + 1) = off + k + 1 by omega, List.take_set]
      rw [List.take_succ_eq_append_getElem hs, List.set_append_right _ _ (by rw [List.length_take]; omega)]
      have e : off + k - (cs.toList.take (off + k)).length = 0 := by rw [List.length_take]; omega
      rw [e]; rfl
    have h2 : (cs.toList.set (off + k) v).drop (off + (k + 1) + l.length) = cs.toList.drop (off + k + (l.length + 1)) := by
      rw [List.drop_set_of_lt (by omega), show off + (k + 1) + l.length = off + k + (l.length + 1) by omega]
    rw [h1, h2]
    simp
theorem foldl_set (off : Nat) (l cs : Array Value) (h : off + l.size ≤ cs.size) :
    (l.zipIdx.foldl (fun cs (c, j) => cs.setIfInBounds (off + j) c) cs).toList = cs.toList.take off ++ l.toList ++ cs.toList.drop (off + l.size) := by
  have := foldl_set_aux off l.toList 0 cs (by simpa using h)
  simp only [Nat.add_zero, Array.length_toList] at this
  rw [← this, ← Array.foldl_toList]
  simp [Array.toList_zipIdx]
section
variable {P : Program} {Z : Zt} {σ : Sg} {e : Env} {a : Act} (w : World)
theorem fill_sound (he : ER Z σ e a) {place : Nat → Option (Nat × Nat)} : ∀ {ps : List (Nat × Operand)} {qs : List (Nat × Nat × AOpd)} {cells : List AV} {vs : Array Value} {out : List AV},
    cParts place ps = some qs → VRs Z σ cells vs.toList → (∀ v ∈ vs.toList, v.oneCell' = true) → afill e cells qs = some out →
    ∃ vs', Instr.fill place vs (ps.map fun (i, x) => (i, a.eval x)) = some vs' ∧ VRs Z σ out vs'.toList ∧ ∀ v ∈ vs'.toList, v.oneCell' = true
  | [], qs, cells, vs, out, hc, hv, h1, hf => by
    simp only [cParts, Option.some.injEq] at hc; subst hc
    simp only [afill, Option.some.injEq] at hf; subst hf
    exact ⟨vs, rfl, hv, h1⟩
  | (i, x) :: ps, qs, cells, vs, out, hc, hv, h1, hf => by
    simp only [cParts] at hc
    split at hc
    · rename_i off n y ys hp hx hys
      simp only [Option.some.injEq] at hc; subst hc
      simp only [afill] at hf
      split at hf
      · cases hf
      · rename_i l hl
        split at hf
        · rename_i hcond
          obtain ⟨c1, c2⟩ := hcond
          obtain ⟨g1, g2⟩ := AV.cellsOf_sound hl (cOpd_sound he hx)
          have hlen : (a.eval x).cells.size = n := by have := g1.length; simp at this; omega
          have hlv : cells.length = vs.size := by have := hv.length; simpa using this
          have hfold := foldl_set off (a.eval x).cells vs (by omega)
          obtain ⟨vs', r1, r2, r3⟩ := fill_sound he hys (cells := cells.take off ++ l ++ cells.drop (off + n)) (vs := ((a.eval x).cells.zipIdx.foldl (fun cs (c, j) => cs.setIfInBounds (off + j) c) vs))
            (by rw [hfold, hlen]; exact ((hv.take off).append g1).append (hv.drop _))
            (by
              rw [hfold]; intro v hv'
              rcases List.mem_append.1 hv' with hv' | hv'
              · rcases List.mem_append.1 hv' with hv' | hv'
                · exact h1 v (List.mem_of_mem_take hv')
                · exact g2 v hv'
              · exact h1 v (List.mem_of_mem_drop hv')) hf
          refine ⟨vs', ?_, r2, r3⟩
          simp only [List.map_cons, Instr.fill, hp]
          rw [if_neg (by simp [hlen]; omega)]
          exact r1
        · cases hf
    · cases hc
theorem tzero_sound {t : TypeId} {z : List AV} (h : tzero P t = some z) : ∃ i v, P.info? t = some i ∧ i.zero = some v ∧ VRs Z σ z v.cells.toList ∧ ∀ u ∈ v.cells.toList, u.oneCell' = true := by
  unfold tzero at h
  cases hi : P.info? t with
  | none => simp [hi] at h
  | some i =>
    cases hz : i.zero with
    | none => simp [hi, hz] at h
    | some v =>
      simp only [hi, hz, Option.bind_some] at h
      obtain ⟨h1, h2⟩ := ofConsts_sound (Z := Z) (σ := σ) h
      exact ⟨i, v, rfl, hz, h1, h2⟩
theorem tsize_sound {t : TypeId} {n : Nat} (h : tsize P t = some n) (w : World) : (sizeOf t).run P w = .ok n w := by
  unfold tsize at h
  simp only [Option.map_eq_some_iff] at h
  obtain ⟨i, h1, h2⟩ := h
  simp [sizeOf, typeInfo, h1, h2]
theorem tagg_sound {t : TypeId} {b : Bool} (h : tagg P t = some b) (w : World) : (isAgg t).run P w = .ok b w := by
  unfold tagg at h
  unfold isAgg
  cases hu : P.underlying t with
  | none => simp [hu] at h
  | some d => cases d <;> simp [hu] at h <;> subst h <;> simp [run_underlying hu]
theorem part_sound {t : TypeId} {g : Option Nat} (h : tload P t = some g) {l : List AV} {vs : Array Value} (hv : VRs Z σ l vs.toList) (h1 : ∀ v ∈ vs.toList, v.oneCell' = true) {off : Nat} {v : AV}
    (hp : apart g l off = some v) :
    ∃ cv, (part t vs off).run P w = .ok cv w ∧ VR Z σ v cv := by
  unfold tload at h
  cases ha : tagg P t with
  | none => simp [ha] at h
  | some b =>
    cases hs : tsize P t with
    | none => simp [ha, hs] at h
    | some n =>
      cases b
      · simp [ha, hs] at h; subst h
        simp only [apart] at hp
        obtain ⟨cv, g1, g2⟩ := hv.get hp
        refine ⟨cv, ?_, g2⟩
        have g1' : vs[off]? = some cv := by simpa using g1
        simp [part, tagg_sound ha, g1']
      · simp [ha, hs] at h; subst h
        simp only [apart] at hp
        split at hp
        · simp only [Option.some.injEq] at hp; subst hp
          refine ⟨.agg (vs.extract off (off + n)), by simp [part, tagg_sound ha, tsize_sound hs], ?_⟩
          have e : (vs.extract off (off + n)).toList = (vs.toList.drop off).take n := by simp [Array.toList_extract]
          refine .agg ?_ ?_
          · rw [e]; intro u hu; exact h1 u (List.mem_of_mem_drop (List.mem_of_mem_take hu))
          · rw [e]; exact (hv.drop _).take _
        · cases hp
end
end Go.AL
namespace Go.AL
section
variable {P : Program} {Z : Zt} {σ : Sg}
theorem tzv_sound {w : World} {t : TypeId} {z : AV} (h : tzv P t = some z) : ∃ zv, (zeroValue t).run P w = .ok zv w ∧ VR Z σ z zv := by
  unfold tzv at h
  cases hi : P.info? t with
  | none => simp [hi] at h
  | some i =>
    cases hz : i.zero with
    | none => simp [hi, hz] at h
    | some v =>
      simp only [hi, hz, Option.bind_some] at h
      exact ⟨v, by simp [zeroValue, typeInfo, hi, hz], ofConst_sound h⟩
theorem eqTy_wide {t : TypeId} {ty : Bool × List SK} (h : eqTy P t = some (.wide ty)) : P.eqGuardType P.depth t = false ∧ kty P t = some ty ∧ (match P.underlying t with | some (.array _ _) | some (.struct _) => true | _ => false) = true := by
  unfold eqTy at h
  split at h <;> (try (cases h; done))
  · split at h <;> cases h
  · rename_i hu
    split at h <;> (try (cases h; done))
    rename_i hg
    simp only [Option.map_eq_some_iff, EqT.wide.injEq] at h
    obtain ⟨ty', h1, rfl⟩ := h
    exact ⟨hg, h1, by rw [hu]⟩
  · rename_i hu
    split at h <;> (try (cases h; done))
    rename_i hg
    simp only [Option.map_eq_some_iff, EqT.wide.injEq] at h
    obtain ⟨ty', h1, rfl⟩ := h
    exact ⟨hg, h1, by rw [hu]⟩
theorem kty_wide {t : TypeId} {ty : Bool × List SK} (h : kty P t = some ty) (hw : (match P.underlying t with | some (.array _ _) | some (.struct _) => true | _ => false) = true) : P.keyTypeAt (P.types.size + 1) t = true ∧ P.types.size + 2 ≤ 10000 := by
  unfold kty at h
  split at h
  · rename_i hu; rw [hu] at hw; cases hw
  · rename_i hu; rw [hu] at hw; cases hw
  · split at h <;> (try (cases h; done))
    rename_i hc
    simp only [Bool.and_eq_true, decide_eq_true_eq] at hc
    exact ⟨hc.1.1, hc.2⟩
  · split at h <;> (try (cases h; done))
    rename_i hc
    simp only [Bool.and_eq_true, decide_eq_true_eq] at hc
    exact ⟨hc.1.1, hc.2⟩
  · cases h
theorem p_eq (w : World) {t : TypeId} {et : EqT} (ht : eqTy P t = some et) {x y : AV} {vx vy : Value} (hx : VR Z σ x vx) (hy : VR Z σ y vy) {b : Bool} (hb : aeq et x y = some b) (ox oy : Operand) (neg : Bool) :
    (eqGuard (bif neg then .neq else .eql) t ox oy vx vy >>= fun _ => binOp (bif neg then .neq else .eql) t vx vy).run P w = .ok (.bool (bif neg then !b else b)) w := by
  have main : (eqGuard (bif neg then .neq else .eql) t ox oy vx vy).run P w = .ok () w → (Op.equal t vx vy).run P w = .ok b w → (binOp .eql t vx vy = (do pure (.bool (← Op.equal t vx vy))) ∧ binOp .neq t vx vy = (do pure (.bool (!(← Op.equal t vx vy))))) →
      (eqGuard (bif neg then .neq else .eql) t ox oy vx vy >>= fun _ => binOp (bif neg then .neq else .eql) t vx vy).run P w = .ok (.bool (bif neg then !b else b)) w := by
    intro h1 h2 h3
    rw [Sem.run_bind, h1, Result.andThen_ok]
    cases neg
    · rw [cond_false, h3.1]; simp [h2]
    · rw [cond_true, h3.2]; simp [h2]
  cases et with
  | bool =>
    have hu : P.underlying t = some .bool := by
      unfold eqTy at ht
      split at ht <;> (try (cases ht; done))
      · assumption
      · split at ht <;> cases ht
      · split at ht
        · simp at ht
        · cases ht
      · split at ht
        · simp at ht
        · cases ht
    cases x <;> simp only [aeq] at hb <;> (try (cases hb; done))
    cases y <;> simp only [] at hb <;> (try (cases hb; done))
    simp only [Option.some.injEq] at hb; subst hb
    rw [hx.bool_inv, hy.bool_inv] at *
    refine main ?_ ?_ ?_
    · unfold eqGuard; cases neg <;> simp
    · exact run_equal_bool w t _ _ hu
    · constructor <;> simp only [binOp]
  | slice =>
    have hu : ∃ el, P.underlying t = some (.slice el) := by
      unfold eqTy at ht
      split at ht <;> (try (cases ht; done))
      · exact ⟨_, by assumption⟩
      · split at ht <;> cases ht
      · split at ht
        · simp at ht
        · cases ht
      · split at ht
        · simp at ht
        · cases ht
    obtain ⟨el, hu⟩ := hu
    have key : ∀ (a a' : Option Addr) (n c n' c' : Nat), vx = .slice a n c → vy = .slice a' n' c' → (a = none ∨ a' = none) → b = (a.isNone && a'.isNone) →
        (eqGuard (bif neg then .neq else .eql) t ox oy vx vy >>= fun _ => binOp (bif neg then .neq else .eql) t vx vy).run P w = .ok (.bool (bif neg then !b else b)) w := by
      intro a a' n c n' c' e1 e2 hn hbb
      subst e1 e2
      refine main ?_ ?_ ?_
      · unfold eqGuard; cases neg <;> simp
      · have q : ∀ d, (Op.equalIn (d + 1) t (.slice a n c) (.slice a' n' c')).run P w = .ok b w := by
          intro d
          rcases hn with rfl | rfl
          · cases a' <;> simp [Op.equalIn, run_underlying hu, hbb]
          · cases a <;> simp [Op.equalIn, run_underlying hu, hbb]
        exact q 9999
      · constructor <;> simp only [binOp]
    have slsome : ∀ {r o n : Nat} {l : Lim} {v : Value}, VR Z σ (.sl r o n l) v → ∃ a n c, v = .slice (some a) n c := by
      intro r o n l v h; cases h <;> exact ⟨_, _, _, rfl⟩
    have simsome : ∀ {l : List AV} {n : Nat} {ex : Bool} {v : Value}, VR Z σ (.sim l n ex) v → (0 < n ∨ ex = true) → ∃ a n c, v = .slice (some a) n c := by
      intro l n ex v h h0; cases h <;> first | exact ⟨_, _, _, rfl⟩ | (rcases h0 with h0 | h0 <;> first | omega | cases h0)
    cases x <;> simp only [aeq] at hb <;> (try (cases hb; done)) <;> cases y <;> simp only [] at hb <;> (try (cases hb; done)) <;> (try simp only [Option.some.injEq] at hb)
    · exact key none none 0 0 0 0 hx.nils_inv hy.nils_inv (.inl rfl) (by simp [hb])
    · obtain ⟨a, n, c, e⟩ := slsome hy
      exact key none (some a) 0 0 n c hx.nils_inv e (.inl rfl) (by simp [← hb])
    · split at hb <;> (try (cases hb; done))
      rename_i h0
      simp only [Option.some.injEq] at hb
      obtain ⟨a, n, c, e⟩ := simsome hy h0
      exact key none (some a) 0 0 n c hx.nils_inv e (.inl rfl) (by simp [← hb])
    · obtain ⟨a, n, c, e⟩ := slsome hx
      exact key (some a) none n c 0 0 e hy.nils_inv (.inr rfl) (by simp [← hb])
    · split at hb <;> (try (cases hb; done))
      rename_i h0
      simp only [Option.some.injEq] at hb
      obtain ⟨a, n, c, e⟩ := simsome hx h0
      exact key (some a) none n c 0 0 e hy.nils_inv (.inr rfl) (by simp [← hb])
  | ptr =>
    have hu : ∃ el, P.underlying t = some (.pointer el) := by
      unfold eqTy at ht
      split at ht <;> (try (cases ht; done))
      · split at ht <;> cases ht
      · split at ht
        · simp at ht
        · cases ht
      · split at ht
        · simp at ht
        · cases ht
      · exact ⟨_, by assumption⟩
    obtain ⟨el, hu⟩ := hu
    have key : ∀ (a a' : Option Addr), vx = .pointer a → vy = .pointer a' → (a = none ∨ a' = none) → b = (a.isNone && a'.isNone) →
        (eqGuard (bif neg then .neq else .eql) t ox oy vx vy >>= fun _ => binOp (bif neg then .neq else .eql) t vx vy).run P w = .ok (.bool (bif neg then !b else b)) w := by
      intro a a' e1 e2 hn hbb
      subst e1 e2
      refine main ?_ ?_ ?_
      · unfold eqGuard; cases neg <;> simp
      · have q : ∀ d, (Op.equalIn (d + 1) t (.pointer a) (.pointer a')).run P w = .ok b w := by
          intro d
          rcases hn with rfl | rfl
          · cases a' <;> simp [Op.equalIn, run_underlying hu, hbb]
          · cases a <;> simp [Op.equalIn, run_underlying hu, hbb]
        exact q 9999
      · constructor <;> simp only [binOp]
    have nin : ∀ {v : Value}, VR Z σ .nilp v → v = .pointer none := by intro v h; cases h; rfl
    have pin : ∀ {r o : Nat} {v : Value}, VR Z σ (.ptr r o) v → ∃ a, v = .pointer (some a) := by intro r o v h; cases h; exact ⟨_, rfl⟩
    have qin : ∀ {l : List AV} {o : Nat} {v : Value}, VR Z σ (.pim l o) v → ∃ a, v = .pointer (some a) := by intro l o v h; cases h; exact ⟨_, rfl⟩
    cases x <;> simp only [aeq] at hb <;> (try (cases hb; done)) <;> cases y <;> simp only [] at hb <;> (try (cases hb; done)) <;> simp only [Option.some.injEq] at hb <;> subst hb <;>
      first
        | exact key none none (nin hx) (nin hy) (.inl rfl) rfl
        | exact (pin hy).elim fun a e => key none (some a) (nin hx) e (.inl rfl) rfl
        | exact (qin hy).elim fun a e => key none (some a) (nin hx) e (.inl rfl) rfl
        | exact (pin hx).elim fun a e => key (some a) none e (nin hy) (.inr rfl) rfl
        | exact (qin hx).elim fun a e => key (some a) none e (nin hy) (.inr rfl) rfl
  | iface =>
    have hu : ∃ ms, P.underlying t = some (.interface ms) ∧ ms.isEmpty = true := by
      unfold eqTy at ht
      split at ht <;> (try (cases ht; done))
      · rename_i ms hu
        split at ht
        · exact ⟨ms, hu, by assumption⟩
        · cases ht
      · split at ht
        · simp at ht
        · cases ht
      · split at ht
        · simp at ht
        · cases ht
    obtain ⟨ms, hu, hms⟩ := hu
    have ifin : ∀ {u : TypeId} {z : AV} {v : Value}, VR Z σ (.ifc u z) v → ∃ q, v = .iface u q := by
      intro u z v h; cases h; exact ⟨_, rfl⟩
    have nin : ∀ {v : Value}, VR Z σ .nili v → v = .nilIface := by intro v h; cases h; rfl
    cases x <;> simp only [aeq] at hb <;> (try (cases hb; done)) <;> cases y <;> simp only [] at hb <;> (try (cases hb; done)) <;> simp only [Option.some.injEq] at hb <;> subst hb
    · have e1 := nin hx
      have e2 := nin hy
      subst e1 e2
      refine main ?_ ?_ ?_
      · have q : ∀ d, (Op.eqGuardIn (d + 1) t .nilIface .nilIface).run P w = .ok false w := fun d => by simp [Op.eqGuardIn, run_underlying hu, hms]
        have q' : (Op.eqGuardIn Op.maxDepth t .nilIface .nilIface).run P w = .ok false w := q 9999
        unfold eqGuard
        cases neg <;> (simp only [cond_true, cond_false]; simp only [Sem.run_bind, Bool.not_true, Bool.not_false]; simp [q'])
      · have q : ∀ d, (Op.equalIn (d + 1) t .nilIface .nilIface).run P w = .ok true w := fun d => by simp [Op.equalIn, run_underlying hu]
        exact q 9999
      · constructor <;> simp only [binOp]
    · have e1 := nin hx
      obtain ⟨q, e2⟩ := ifin hy
      subst e1 e2
      refine main ?_ ?_ ?_
      · unfold eqGuard; cases neg <;> simp
      · have q : ∀ d u, (Op.equalIn (d + 1) t .nilIface (.iface u q)).run P w = .ok false w := fun d u => by simp [Op.equalIn, run_underlying hu]
        exact q 9999 _
      · constructor <;> simp only [binOp]
    · have e1 := nin hy
      obtain ⟨q, e2⟩ := ifin hx
      subst e1 e2
      refine main ?_ ?_ ?_
      · unfold eqGuard; cases neg <;> simp
      · have q : ∀ d u, (Op.equalIn (d + 1) t (.iface u q) .nilIface).run P w = .ok false w := fun d u => by simp [Op.equalIn, run_underlying hu]
        exact q 9999 _
      · constructor <;> simp only [binOp]
  | wide ty =>
    obtain ⟨hg, hk, hw⟩ := eqTy_wide ht
    obtain ⟨hkt, hsz⟩ := kty_wide hk hw
    simp only [aeq] at hb
    split at hb <;> simp only [Option.some.injEq, reduceCtorEq] at hb
    rename_i L L' h1 h2
    have v1 := akey_vkey hx h1
    have v2 := akey_vkey hy h2
    have k1 := vkey_keyOf hk v1
    have k2 := vkey_keyOf hk v2
    obtain ⟨r, hr, hiff⟩ := run_equal_deep w (m := P.types.size + 1) (by omega) hkt hw k1 k2
    have hagg : ∃ cs cs', vx = .agg cs ∧ vy = .agg cs' := by
      have wd : ty.1 = true := by
        unfold kty at hk
        split at hk
        · rename_i hu; rw [hu] at hw; cases hw
        · rename_i hu; rw [hu] at hw; cases hw
        · split at hk <;> (try (cases hk; done))
          simp only [Option.map_eq_some_iff] at hk
          obtain ⟨ks, _, rfl⟩ := hk; rfl
        · split at hk <;> (try (cases hk; done))
          simp only [Option.map_eq_some_iff] at hk
          obtain ⟨ks, _, rfl⟩ := hk; rfl
        · cases hk
      obtain ⟨tb, ks⟩ := ty
      simp only at wd; subst wd
      cases vx <;> simp only [vkey] at v1 <;> (try (cases v1; done))
      cases vy <;> simp only [vkey] at v2 <;> (try (cases v2; done))
      exact ⟨_, _, rfl, rfl⟩
    obtain ⟨cs, cs', rfl, rfl⟩ := hagg
    refine main ?_ ?_ ?_
    · unfold eqGuard
      cases neg <;> simp [hg]
    · have : r = b := by
        have e1 : r = true ↔ L = L' := by
          rw [hiff]
          constructor
          · intro e
            exact (vkey_eq hk v1 v2).1 ((kty_keyed hk).inj k1 (by rw [e]; exact k2))
          · intro e; rw [e]
        have e2 : b = true ↔ L = L' := by rw [← hb]; exact litsEq_iff
        cases r <;> cases b <;> simp_all
      rw [← this]; exact hr
    · constructor <;> simp only [binOp]
end
end Go.AL
namespace Go.AL
section
variable {P : Program} {Z : Zt} {σ : Sg} {e : Env} {a : Act} (w : World)
theorem value_run {s : Sem Value} {cv : Value} (h : s.run P w = .ok cv w) : ((do pure (.value (← s)) : Sem Next)).run P w = .ok (.value cv) w := by simp [h]
def PureOk (P : Program) (Z : Zt) (σ : Sg) (o : Oper) (a : Act) (v : AV) : Prop := ∀ w, ∃ cv, (execOp a.eval o).run P w = .ok (.value cv) w ∧ VR Z σ v cv
theorem run_mapM {α β : Type} (f : α → Sem β) (g : α → β) : ∀ (l : List α), (∀ x ∈ l, ∀ w, (f x).run P w = .ok (g x) w) → ∀ w, (l.mapM f).run P w = .ok (l.map g) w
  | [], _, w => by simp
  | x :: l, h, w => by
    have ih := run_mapM f g l (fun y hy => h y (List.mem_cons_of_mem _ hy)) w
    simp [List.mapM_cons, h x (List.mem_cons_self ..) w, ih]
theorem run_mapM_array {α β : Type} (f : α → Sem β) (g : α → β) (l : Array α) (h : ∀ x ∈ l.toList, ∀ w, (f x).run P w = .ok (g x) w) (w : World) : (l.mapM f).run P w = .ok (l.map g) w := by
  rw [Array.mapM_eq_mapM_toList]
  have := run_mapM f g l.toList h w
  simp only [Sem.run_map, this, Result.andThen_ok]
  congr 1
  exact Array.ext' (by simp)
theorem p_buildS {t : TypeId} {fs : Array Field} {ps : Array (Nat × Operand)} (hu : P.underlying t = some (.struct fs)) (hall : fs.toList.all (fun f => (tsize P f.type).isSome) = true) {z : List AV} {qs : List (Nat × Nat × AOpd)}
    (he : ER Z σ e a) (hz : tzero P t = some z) (hq : cParts (fun i => (fs[i]?).map fun f => (f.offset, (tsize P f.type).getD 0)) ps.toList = some qs) {out : List AV} (hf : afill e z qs = some out) :
    ∃ cv, (Instr.build t (ps.map fun (i, x) => (i, a.eval x))).run P w = .ok cv w ∧ VR Z σ (.agg out) cv := by
  obtain ⟨i, zv, h1, h2, h3, h4⟩ := tzero_sound (Z := Z) (σ := σ) hz
  obtain ⟨vs', r1, r2, r3⟩ := fill_sound he hq h3 h4 hf
  refine ⟨.agg vs', ?_, .agg r3 r2⟩
  have hm := run_mapM_array (P := P) (fun f : Field => do pure (f.offset, ← sizeOf f.type)) (fun f => (f.offset, (tsize P f.type).getD 0)) fs (by
    intro x hx w
    have := List.all_eq_true.1 hall x hx
    obtain ⟨n, hn⟩ := Option.isSome_iff_exists.1 this
    simp [tsize_sound hn, hn]) w
  have hpl : (fun x : Nat => (fs.map fun (f : Field) => (f.offset, (tsize P f.type).getD 0))[x]?) = (fun i => (fs[i]?).map fun f => (f.offset, (tsize P f.type).getD 0)) := by funext i; simp
  rw [← hpl] at r1
  have hz' : (zeroValue t).run P w = .ok zv w := by simp [zeroValue, typeInfo, h1, h2]
  simp only [Instr.build, Sem.run_bind, hz', Result.andThen_ok, run_underlying hu, hm, Array.toList_map, r1]
  rfl
theorem p_buildA {t el : TypeId} {n len : Nat} {ps : Array (Nat × Operand)} (hu : P.underlying t = some (.array len el)) (hn : tsize P el = some n) {z : List AV} {qs : List (Nat × Nat × AOpd)}
    (he : ER Z σ e a) (hz : tzero P t = some z) (hq : cParts (fun i => some (i * n, n)) ps.toList = some qs) {out : List AV} (hf : afill e z qs = some out) :
    ∃ cv, (Instr.build t (ps.map fun (i, x) => (i, a.eval x))).run P w = .ok cv w ∧ VR Z σ (.agg out) cv := by
  obtain ⟨i, zv, h1, h2, h3, h4⟩ := tzero_sound (Z := Z) (σ := σ) hz
  obtain ⟨vs', r1, r2, r3⟩ := fill_sound he hq h3 h4 hf
  refine ⟨.agg vs', ?_, .agg r3 r2⟩
  have hz' : (zeroValue t).run P w = .ok zv w := by simp [zeroValue, typeInfo, h1, h2]
  simp only [Instr.build, Sem.run_bind, hz', Result.andThen_ok, run_underlying hu, tsize_sound hn, Array.toList_map, r1]
  rfl
theorem p_nilCheck {x : AV} {vx : Value} (hx : VR Z σ x vx) {v : AV} (hv : anilc x = some v) :
    ∃ cv, (match vx with
      | .pointer none | .nilIface | .nilFunc => runtimePanic .nilDeref
      | .func (.method name) first captured =>
        match (first[0]? : Option Value) with
        | some .nilIface => runtimePanic .nilDeref
        | some (.iface t w) => do
          if (← nilAhead ((← program).types.size + Made.depth) t w name) != some false then
            unsupported (.noEntry "op/nilCheck.the method's receiver behind this interface value is a nil pointer, or cannot be seen to be none, and the arguments act or may panic (ledger 612)")
          pure (.value (.func (.method name) first captured))
        | _ => pure (.value (.func (.method name) first captured))
      | x => pure (.value x) : Sem Next).run P w = .ok (.value cv) w ∧ VR Z σ v cv := by
  unfold anilc at hv
  split at hv <;> (try cases hv)
  · have h := hx; cases hx; exact ⟨_, rfl, h⟩
  · have h := hx; cases hx; exact ⟨_, rfl, h⟩
  · have h := hx; cases hx; exact ⟨_, rfl, h⟩
theorem p_fieldAddr {t : TypeId} {fs : Array Field} {i : Nat} {f : Field} {n : Nat} (hu : P.underlying t = some (.struct fs)) (hf : fs[i]? = some f) (hn : tsize P f.type = some (n + 1)) {x : AV} {vx : Value} (hx : VR Z σ x vx) {v : AV}
    (hv : afaddr f.offset x = some v) : ∃ cv, (Instr.fieldAt t vx i).run P w = .ok cv w ∧ VR Z σ v cv := by
  unfold afaddr at hv
  split at hv <;> simp only [Option.some.injEq, reduceCtorEq] at hv <;> subst hv
  · rename_i r o
    obtain ⟨p, hp, rfl⟩ := hx.ptr_inv
    refine ⟨.pointer (some ⟨p.b, p.base + o + f.offset, none⟩), ?_, ?_⟩
    · simp [Instr.fieldAt, run_underlying hu, hf, Instr.sureAddr, fieldPlace, tsize_sound hn, add_none]
    · rw [Nat.add_assoc]; exact .ptr hp
  · rename_i l o
    obtain ⟨b, base, c, el, fr, hz, h1, hv, rfl⟩ := hx.pim_inv
    refine ⟨.pointer (some ⟨b, base + o + f.offset, none⟩), ?_, ?_⟩
    · simp [Instr.fieldAt, run_underlying hu, hf, Instr.sureAddr, fieldPlace, tsize_sound hn, add_none]
    · rw [Nat.add_assoc]; exact .pim hz h1 hv
theorem p_indexAddrA {t el : TypeId} {n k : Nat} (hu : P.underlying t = some (.array n el)) (hk : tsize P el = some k) {x i : AV} {vx vi : Value} (hx : VR Z σ x vx) (hi : VR Z σ i vi) {v : AV}
    (hv : aidxA n k x i = some v) : ∃ cv, (Instr.indexAt t vx vi).run P w = .ok cv w ∧ VR Z σ v cv := by
  unfold aidxA at hv
  split at hv <;> (try cases hv; done)
  · split at hv <;> simp only [Option.some.injEq, reduceCtorEq] at hv
    rename_i r o k' j hc; subst hv
    obtain ⟨p, hp, rfl⟩ := hx.ptr_inv
    rw [hi.int_inv]
    refine ⟨.pointer (some ⟨p.b, p.base + o + j.toNat * k, none⟩), ?_, ?_⟩
    · simp [Instr.indexAt, asIntOf, run_underlying hu, Instr.sureAddr, hc, tsize_sound hk, add_none]
    · rw [Nat.add_assoc]; exact .ptr hp
  · split at hv <;> simp only [Option.some.injEq, reduceCtorEq] at hv
    rename_i l o k' j hc; subst hv
    obtain ⟨b, base, c, el, fr, hz, h1, hv, rfl⟩ := hx.pim_inv
    rw [hi.int_inv]
    refine ⟨.pointer (some ⟨b, base + o + j.toNat * k, none⟩), ?_, ?_⟩
    · simp [Instr.indexAt, asIntOf, run_underlying hu, Instr.sureAddr, hc, tsize_sound hk, add_none]
    · rw [Nat.add_assoc]; exact .pim hz h1 hv
theorem p_indexAddrS {t el : TypeId} {k : Nat} (hu : P.underlying t = some (.slice el)) (hk : tsize P el = some k) {x i : AV} {vx vi : Value} (hx : VR Z σ x vx) (hi : VR Z σ i vi) {v : AV}
    (hv : aidxS k x i = some v) : ∃ cv, (Instr.indexAt t vx vi).run P w = .ok cv w ∧ VR Z σ v cv := by
  unfold aidxS at hv
  split at hv <;> (try cases hv; done)
  · split at hv <;> simp only [Option.some.injEq, reduceCtorEq] at hv
    rename_i r o n lim k' j hc; subst hv
    rw [hi.int_inv]
    have main : ∀ (p : Plc) (cap : Nat), σ r = some p → ∃ cv, (Instr.indexAt t (.slice (some ⟨p.b, p.base + o, none⟩) n cap) (.int k' j)).run P w = .ok cv w ∧ VR Z σ (.ptr r (o + j.toNat * k)) cv := by
      intro p cap hp
      refine ⟨.pointer (some ⟨p.b, p.base + o + j.toNat * k, none⟩), ?_, ?_⟩
      · simp [Instr.indexAt, asIntOf, run_underlying hu, hc, tsize_sound hk, add_none]
      · rw [Nat.add_assoc]; exact .ptr hp
    cases hx with
    | slx hp hn => exact main _ _ hp
    | slxz => omega
    | slo hp hn hs => exact main _ _ hp
    | sloz => omega
  · split at hv <;> simp only [Option.some.injEq, reduceCtorEq] at hv
    rename_i l n ex k' j hc; subst hv
    rw [hi.int_inv]
    cases hx with
    | sim hn hx hs hz h1 hv =>
      rename_i cap ad c e' fr
      obtain ⟨b0, o0, s0⟩ := ad
      simp only at hs; subst hs
      refine ⟨.pointer (some ⟨b0, o0 + j.toNat * k, none⟩), ?_, .pim hz h1 hv⟩
      simp [Instr.indexAt, asIntOf, run_underlying hu, hc, tsize_sound hk, add_none]
    | simz => omega
    | simn => omega
theorem s_sliceA {t el : TypeId} {n esz : Nat} (ht : P.underlying t = some (.array n el)) (hz : tsize P el = some esz) {x : AV} {vx : Value} (hx : VR Z σ x vx) {l h q : Option Int} {lo hi mx : Option Value}
    (hl : IntO l lo) (hh : IntO h hi) (hq : IntO q mx) (hs : q.isSome = true → h.isSome = true) {r o : Nat} (hxe : x = .ptr r o) (h0 : 0 ≤ l.getD 0) (h1 : l.getD 0 ≤ h.getD n) (h2 : h.getD n ≤ q.getD n) (h3 : q.getD n ≤ n) :
    ∃ cv, (Instr.sliceAt t vx lo hi mx).run P w = .ok cv w ∧ VR Z σ (.sl r (o + (l.getD 0).toNat * esz) (h.getD n - l.getD 0).toNat (.ex (q.getD n - l.getD 0).toNat)) cv := by
  subst hxe
  obtain ⟨p, hp, rfl⟩ := hx.ptr_inv
  have hb := run_sliceBounds_ok (P := P) w false n n hl hh hq hs h0 h1 h2 h3
  refine ⟨.slice (some (if (q.getD (n : Int)).toNat = (l.getD 0).toNat then ⟨p.b, p.base + o, none⟩ else (⟨p.b, p.base + o, none⟩ : Addr).add ((l.getD 0).toNat * esz))) ((h.getD (n : Int)).toNat - (l.getD 0).toNat) ((q.getD (n : Int)).toNat - (l.getD 0).toNat), by simp [Instr.sliceAt, run_underlying ht, Instr.sureAddr, hb, tsize_sound hz], ?_⟩
  have e1 : (h.getD (n : Int) - l.getD 0).toNat = (h.getD (n : Int)).toNat - (l.getD 0).toNat := by omega
  have e2 : (q.getD (n : Int) - l.getD 0).toNat = (q.getD (n : Int)).toNat - (l.getD 0).toNat := by omega
  rw [e1, e2]
  split
  · have a1 : (h.getD (n : Int)).toNat - (l.getD 0).toNat = 0 := by omega
    have a2 : (q.getD (n : Int)).toNat - (l.getD 0).toNat = 0 := by omega
    rw [a1, a2]; exact .slxz hp _
  · rw [add_none, Nat.add_assoc]; exact .slx hp (by omega)
theorem p_len {t el : TypeId} {x : AV} {vx : Value} (hel : P.underlying t = some (.slice el)) (hx : VR Z σ x vx) {n : Nat} (hv : alen x = some n) (ty : TypeId) :
    (Builtin.len_ #[t] ty #[vx]).run P w = .ok (.int .i64 n) w := by
  unfold alen at hv
  split at hv <;> simp only [Option.some.injEq, reduceCtorEq] at hv <;> subst hv
  all_goals cases hx <;> simp [Builtin.len_, run_underlying hel, goInt]
theorem str_extract (s : List UInt8) (i j : Nat) : (⟨s.toArray⟩ : ByteArray).extract i j = ⟨((s.drop i).take (j - i)).toArray⟩ := by
  apply ByteArray.ext
  rw [ByteArray.data_extract]
  exact Array.ext' (by simp)
theorem exec_builtin {ρ : Operand → Value} {o : Oper} {b : Builtin} {args : Array Operand} {ats : Array TypeId} (ho : o.op = .call { callee := .builtin b, args, argTypes := ats }) (w : World) :
    (execOp ρ o).run P w = (builtin b ats o.type (args.map fun | .const _ => true | _ => false) (args.map ρ)).run P w := by
  unfold execOp
  simp only [ho, resolve, Sem.run_bind, Sem.run_pure, Result.andThen_ok]
  rfl
theorem apure_sound0 {o : Oper} {k : AK} (hk : compOp0 P o = some k) (he : ER Z σ e a) {v : AV} (hv : apure k e = some v) : PureOk P Z σ o a v := by
  obtain ⟨dst, op, ty, pos, after, guard⟩ := o
  unfold compOp0 at hk
  cases op <;> simp only [] at hk <;> (try (cases hk; done))
  case move x =>
    simp only [Option.map_eq_some_iff] at hk
    obtain ⟨y, hy, rfl⟩ := hk
    simp only [apure, Option.some.injEq] at hv; subst hv
    exact fun w => ⟨a.eval x, rfl, cOpd_sound he hy⟩
  case assign x =>
    simp only [Option.map_eq_some_iff] at hk
    obtain ⟨y, hy, rfl⟩ := hk
    simp only [apure, Option.some.injEq] at hv; subst hv
    exact fun w => ⟨a.eval x, rfl, cOpd_sound he hy⟩
  case pick c x y =>
    split at hk
    · rename_i c' x' y' h1 h2 h3
      simp only [Option.some.injEq] at hk; subst hk
      simp only [apure] at hv
      split at hv
      · rename_i p hp
        simp only [Option.some.injEq] at hv; subst hv
        obtain ⟨g1, g2⟩ := s_pick he h1 h2 h3 hp
        exact fun w => ⟨_, by simp [execOp, g1, asBool], g2⟩
      · cases hv
    · cases hk
  case build t ps =>
    split at hk
    · rename_i fs z hu hz
      split at hk
      · rename_i hall
        simp only [Option.map_eq_some_iff] at hk
        obtain ⟨qs, hq, rfl⟩ := hk
        simp only [apure, Option.map_eq_some_iff] at hv
        obtain ⟨out, hf, rfl⟩ := hv
        intro w
        obtain ⟨cv, r1, r2⟩ := p_buildS w hu hall he hz hq hf
        exact ⟨cv, value_run w r1, r2⟩
      · cases hk
    · rename_i n el z hu hz
      split at hk
      · rename_i sz hn
        simp only [Option.map_eq_some_iff] at hk
        obtain ⟨qs, hq, rfl⟩ := hk
        simp only [apure, Option.map_eq_some_iff] at hv
        obtain ⟨out, hf, rfl⟩ := hv
        intro w
        obtain ⟨cv, r1, r2⟩ := p_buildA w hu hn he hz hq hf
        exact ⟨cv, value_run w r1, r2⟩
      · cases hk
    · cases hk
  case nilCheck x =>
    simp only [Option.map_eq_some_iff] at hk
    obtain ⟨y, hy, rfl⟩ := hk
    simp only [apure] at hv
    exact fun w => p_nilCheck w (cOpd_sound he hy) hv
  case binOp op t x y ty' =>
    split at hk
    · rename_i x' y' h1 h2
      split at hk
      · rename_i et het
        simp only [Option.some.injEq] at hk; subst hk
        simp only [apure, Option.map_eq_some_iff] at hv
        obtain ⟨b, hb, rfl⟩ := hv
        intro w
        exact ⟨_, value_run w (p_eq w het (cOpd_sound he h1) (cOpd_sound he h2) hb x y false), .bool _⟩
      · rename_i et het
        simp only [Option.some.injEq] at hk; subst hk
        simp only [apure, Option.map_eq_some_iff] at hv
        obtain ⟨b, hb, rfl⟩ := hv
        intro w
        exact ⟨_, value_run w (p_eq w het (cOpd_sound he h1) (cOpd_sound he h2) hb x y true), .bool _⟩
      · simp only [Option.some.injEq] at hk; subst hk
        intro w
        obtain ⟨cv, r1, r2⟩ := s_bin w (t := t) (cOpd_sound he h1) (cOpd_sound he h2) hv x y
        exact ⟨cv, value_run w r1, r2⟩
    · cases hk
  case unOp op t x =>
    simp only [Option.map_eq_some_iff] at hk
    obtain ⟨y, hy, rfl⟩ := hk
    intro w
    obtain ⟨cv, r1, r2⟩ := s_un w (cOpd_sound he hy) hv
    exact ⟨cv, value_run w r1, r2⟩
  case convert s d x =>
    split at hk
    · rename_i k0 k1 y h1 h2 h3
      simp only [Option.some.injEq] at hk; subst hk
      simp only [apure] at hv
      split at hv <;> simp only [Option.some.injEq, reduceCtorEq] at hv
      rename_i k2 n hn; subst hv
      have hx := cOpd_sound he h3
      rw [hn] at hx
      exact fun w => ⟨_, value_run w (by rw [hx.int_inv]; simp [convert, run_underlying h1, run_underlying h2, Conv.intToInt]), .int _ _⟩
    · rename_i y h1 h2 h3
      simp only [Option.some.injEq] at hk; subst hk
      simp only [apure] at hv
      split at hv <;> simp only [Option.some.injEq, reduceCtorEq] at hv
      rename_i l hn; subst hv
      have hx := cOpd_sound he h3
      rw [hn] at hx
      exact fun w => ⟨_, value_run w (by rw [hx.str_inv]; simp [convert, run_underlying h1, run_underlying h2]), .str _⟩
    · split at hk <;> simp only [Option.some.injEq, reduceCtorEq] at hk
      subst hk; simp [apure] at hv
    · split at hk <;> simp only [Option.some.injEq, reduceCtorEq] at hk
      subst hk; simp [apure] at hv
    · split at hk <;> (try (cases hk; done))
      split at hk <;> simp only [Option.some.injEq, reduceCtorEq] at hk
      subst hk; simp [apure] at hv
    · cases hk
  case makeInterface t x =>
    split at hk
    · cases hk
    · rename_i d hd hn
      simp only [Option.map_eq_some_iff] at hk
      obtain ⟨y, hy, rfl⟩ := hk
      simp only [apure, Option.some.injEq] at hv; subst hv
      refine fun w => ⟨.iface t (a.eval x), value_run w ?_, .ifc (cOpd_sound he hy)⟩
      simp only [Instr.makeInterface, Sem.run_bind, run_underlying hn, Result.andThen_ok]
      cases d <;> first | rfl | exact absurd rfl (hd _)
    · cases hk
  case makeFunc fn first cap =>
    split at hk
    · rename_i x y h1 h2
      simp only [Option.some.injEq] at hk; subst hk
      simp only [apure, Option.some.injEq] at hv; subst hv
      exact fun w => ⟨_, rfl, .fn (by simpa using cOpds_sound he h1) (by simpa using cOpds_sound he h2)⟩
    · cases hk
  case fieldAddr t x i =>
    split at hk
    · rename_i fs y hu hy
      simp only [Option.bind_eq_some_iff] at hk
      obtain ⟨f, hf, hk⟩ := hk
      split at hk <;> simp only [Option.some.injEq, reduceCtorEq] at hk
      rename_i n hn; subst hk
      intro w
      obtain ⟨cv, r1, r2⟩ := p_fieldAddr w hu hf hn (cOpd_sound he hy) hv
      exact ⟨cv, value_run w r1, r2⟩
    · cases hk
  case field t x i =>
    split at hk
    · rename_i fs y hu hy
      simp only [Option.bind_eq_some_iff, Option.map_eq_some_iff] at hk
      obtain ⟨f, hf, g, hg, rfl⟩ := hk
      simp only [apure] at hv
      split at hv
      · rename_i l hl
        have hx := cOpd_sound he hy
        rw [hl] at hx
        obtain ⟨vs, e1, h1, h2⟩ := hx.agg_inv
        intro w
        obtain ⟨cv, r1, r2⟩ := part_sound w hg h2 h1 hv
        exact ⟨cv, value_run w (by simp [Instr.field, run_underlying hu, hf, e1, asAgg, r1]), r2⟩
      · cases hv
    · cases hk
  case indexAddr t x i =>
    split at hk
    · rename_i n el x' i' hu h1 h2
      simp only [Option.map_eq_some_iff] at hk
      obtain ⟨k, hk, rfl⟩ := hk
      intro w
      obtain ⟨cv, r1, r2⟩ := p_indexAddrA w hu hk (cOpd_sound he h1) (cOpd_sound he h2) hv
      exact ⟨cv, value_run w r1, r2⟩
    · rename_i el x' i' hu h1 h2
      simp only [Option.map_eq_some_iff] at hk
      obtain ⟨k, hk, rfl⟩ := hk
      intro w
      obtain ⟨cv, r1, r2⟩ := p_indexAddrS w hu hk (cOpd_sound he h1) (cOpd_sound he h2) hv
      exact ⟨cv, value_run w r1, r2⟩
    · cases hk
  case index t x i =>
    split at hk
    · rename_i n el x' i' hu h1 h2
      split at hk <;> simp only [Option.some.injEq, reduceCtorEq] at hk
      rename_i k g hk1 hg; subst hk
      simp only [apure] at hv
      split at hv <;> (try cases hv; done)
      rename_i l k' j hl hj
      split at hv <;> (try cases hv; done)
      rename_i hc
      have hx := cOpd_sound he h1
      rw [hl] at hx
      have hi := cOpd_sound he h2
      rw [hj] at hi
      obtain ⟨vs, e1, g1, g2⟩ := hx.agg_inv
      intro w
      obtain ⟨cv, r1, r2⟩ := part_sound w hg g2 g1 hv
      exact ⟨cv, value_run w (by simp [Instr.index, asIntOf, hi.int_inv, run_underlying hu, e1, hc, tsize_sound hk1, r1]), r2⟩
    · rename_i x' i' hu h1 h2
      simp only [Option.some.injEq] at hk; subst hk
      simp only [apure] at hv
      split at hv <;> (try cases hv; done)
      rename_i l k' j hl hj
      split at hv <;> (try cases hv; done)
      rename_i hc
      simp only [Option.map_eq_some_iff] at hv
      obtain ⟨b, hb, rfl⟩ := hv
      have hx := cOpd_sound he h1
      rw [hl] at hx
      have hi := cOpd_sound he h2
      rw [hj] at hi
      refine fun w => ⟨.int .u8 b.toNat, value_run w ?_, .int _ _⟩
      rw [hx.str_inv, hi.int_inv]
      have hb' : (⟨l.toArray⟩ : ByteArray)[j.toNat]? = some b := by
        obtain ⟨hlt, hge⟩ := List.getElem?_eq_some_iff.1 hb
        have hs : j.toNat < (⟨l.toArray⟩ : ByteArray).size := by simpa [ByteArray.size] using hlt
        rw [getElem?_pos (⟨l.toArray⟩ : ByteArray) j.toNat hs]
        simp only [Option.some.injEq]
        rw [← hge]; rfl
      simp [Instr.index, asIntOf, run_underlying hu, hc, hb']
    · cases hk
  case extract x ix =>
    simp only [Option.map_eq_some_iff] at hk
    obtain ⟨y, hy, rfl⟩ := hk
    simp only [apure] at hv
    split at hv
    · rename_i l hl
      have hx := cOpd_sound he hy
      rw [hl] at hx
      obtain ⟨vs, e1, h2⟩ := hx.tup_inv
      obtain ⟨cv, g1, g2⟩ := h2.get hv
      have g1' : vs[ix]? = some cv := by simpa using g1
      exact fun w => ⟨cv, value_run w (by simp [Instr.extract, e1, g1']), g2⟩
    · cases hv
  case slice t x lo hi mx =>
    split at hk
    · rename_i el x' lo' hi' mx' hu h1 h2 h3 h4
      simp only [Option.map_eq_some_iff] at hk
      obtain ⟨k, hk, rfl⟩ := hk
      simp only [apure] at hv
      split at hv <;> (try cases hv; done)
      rename_i l h q e1 e2 e3
      split at hv <;> (try cases hv; done)
      rename_i hs
      intro w
      obtain ⟨cv, r1, r2⟩ := s_slice w hu hk (cOpd_sound he h1) (ints_sound he h2 e1) (ints_sound he h3 e2) (ints_sound he h4 e3) hs hv
      exact ⟨cv, value_run w r1, r2⟩
    · rename_i n el x' lo' hi' mx' hu h1 h2 h3 h4
      simp only [Option.map_eq_some_iff] at hk
      obtain ⟨k, hk, rfl⟩ := hk
      simp only [apure] at hv
      split at hv <;> (try cases hv; done)
      rename_i r o hx
      split at hv <;> (try cases hv; done)
      rename_i l h q e1 e2 e3
      split at hv <;> (try cases hv; done)
      rename_i hc
      obtain ⟨hs, c1, c2, c3, c4⟩ := hc
      simp only [Option.some.injEq] at hv; subst hv
      intro w
      obtain ⟨cv, r1, r2⟩ := s_sliceA w hu hk (cOpd_sound he h1) (ints_sound he h2 e1) (ints_sound he h3 e2) (ints_sound he h4 e3) hs hx c1 c2 c3 c4
      exact ⟨cv, value_run w r1, r2⟩
    · rename_i x' lo' hi' hu h1 h2 h3 h4
      simp only [Option.some.injEq] at hk; subst hk
      simp only [apure] at hv
      split at hv <;> (try cases hv; done)
      rename_i s hx
      split at hv <;> (try cases hv; done)
      rename_i l h e1 e2
      split at hv <;> (try cases hv; done)
      rename_i hc
      obtain ⟨c1, c2, c3⟩ := hc
      simp only [Option.some.injEq] at hv; subst hv
      have hxx := cOpd_sound he h1
      rw [hx] at hxx
      have hmx : mx = none := by
        cases mx with
        | none => rfl
        | some m => simp [cOpt] at h4
      subst hmx
      intro w
      have hsz : (⟨s.toArray⟩ : ByteArray).size = s.length := by simp [← ByteArray.size_data]
      have hb := run_sliceBounds_ok (P := P) w false (⟨s.toArray⟩ : ByteArray).size (⟨s.toArray⟩ : ByteArray).size (ints_sound he h2 e1) (ints_sound he h3 e2) (show IntO none none from trivial) (by simp) c1 (by rw [hsz]; exact c2) (by rw [hsz]; simpa using c3) (by simp)
      refine ⟨_, value_run w (by simp [Instr.sliceAt, Instr.slice, run_underlying hu, hxx.str_inv, hb]; rfl), ?_⟩
      rw [hsz, str_extract]
      have e3 : (h.getD (s.length : Int) - l.getD 0).toNat = (h.getD (s.length : Int)).toNat - (l.getD 0).toNat := by omega
      rw [e3]
      exact .str _
    · cases hk
  case call c =>
    obtain ⟨callee, args, ats⟩ := c
    cases callee with
    | value f =>
      simp only [] at hk
      split at hk <;> simp only [Option.some.injEq, reduceCtorEq] at hk
      subst hk
      rename_i f' l _ _
      rcases xcall_cases P f' l with ⟨c, x, y, hx⟩ | hx <;> rw [hx] at hv <;> simp [apure] at hv
    | invoke r m => simp at hk
    | builtin b =>
      have exec := fun w => exec_builtin (P := P) (ρ := a.eval) (o := { dst, op := .call { callee := .builtin b, args, argTypes := ats }, type := ty, pos, after, guard }) rfl w
      cases b <;> simp only [] at hk <;> (try (simp only [reduceCtorEq] at hk; done)) <;> (try (cases hk; done))
      case clear =>
        split at hk <;> (try cases hk; done)
        split at hk <;> (try cases hk; done)
        split at hk <;> (try cases hk; done)
        split at hk <;> simp only [Option.some.injEq, reduceCtorEq] at hk
        subst hk; simp [apure] at hv
      case copy =>
        split at hk <;> (try cases hk; done)
        split at hk <;> (try cases hk; done)
        split at hk <;> simp only [Option.some.injEq, reduceCtorEq] at hk
        subst hk; simp [apure] at hv
      case append =>
        split at hk <;> (try cases hk; done)
        split at hk <;> (try cases hk; done)
        split at hk <;> (try cases hk; done)
        · split at hk <;> simp only [Option.some.injEq, reduceCtorEq] at hk
          subst hk; simp [apure] at hv
        · split at hk <;> simp only [Option.some.injEq, reduceCtorEq] at hk
          subst hk; simp [apure] at hv
      case cap =>
        split at hk <;> (try cases hk; done)
        rename_i x t hargs hats
        have ea : args = #[x] := by cases args; simp_all
        have et : ats = #[t] := by cases ats; simp_all
        subst ea; subst et
        split at hk <;> simp only [Option.some.injEq, reduceCtorEq] at hk <;> subst hk
        rename_i el y hu hy
        simp only [apure] at hv
        have hx := cOpd_sound he hy
        split at hv <;> simp only [Option.some.injEq, reduceCtorEq] at hv <;> subst hv
        · rename_i hn
          rw [hn] at hx
          refine fun w => ⟨_, ?_, .int _ _⟩
          rw [exec]
          simp [builtin, Builtin.cap_, run_underlying hu, hx.nils_inv, goInt]
        · rename_i r o n m hn
          rw [hn] at hx
          refine fun w => ⟨.int .i64 m, ?_, .int _ _⟩
          rw [exec]
          have hxx : ∃ ad n', a.eval x = .slice ad n' m := by
            generalize a.eval x = vx at hx
            cases hx <;> exact ⟨_, _, rfl⟩
          obtain ⟨ad, n', hxx⟩ := hxx
          simp [builtin, Builtin.cap_, run_underlying hu, goInt, hxx]
      case len =>
        split at hk <;> (try cases hk; done)
        rename_i x t hargs hats
        have ea : args = #[x] := by cases args; simp_all
        have et : ats = #[t] := by cases ats; simp_all
        subst ea; subst et
        split at hk <;> simp only [Option.some.injEq, reduceCtorEq] at hk <;> subst hk <;> simp only [apure, Option.map_eq_some_iff, Option.some.injEq] at hv
        · rename_i el y hu hy
          split at hv <;> simp only [Option.some.injEq, reduceCtorEq] at hv
          rename_i n hn
          subst hv
          refine fun w => ⟨.int .i64 n, ?_, .int _ _⟩
          rw [exec]
          simp [builtin, p_len w hu (cOpd_sound he hy) hn ty]
        · rename_i y hu hy
          split at hv <;> simp only [Option.some.injEq, reduceCtorEq] at hv
          rename_i l hl
          subst hv
          refine fun w => ⟨.int .i64 l.length, ?_, .int _ _⟩
          rw [exec]
          have hx := cOpd_sound he hy
          rw [hl] at hx
          simp [builtin, Builtin.len_, run_underlying hu, hx.str_inv, goInt, ← ByteArray.size_data]
        · rename_i n el y hu hy
          subst hv
          refine fun w => ⟨.int .i64 n, ?_, .int _ _⟩
          rw [exec]
          simp [builtin, Builtin.len_, run_underlying hu, goInt]
        · cases hv
      case min =>
        split at hk <;> (try cases hk; done)
        · rename_i x y hargs
          have ea : args = #[x, y] := by cases args; simp_all
          subst ea
          split at hk <;> simp only [Option.some.injEq, reduceCtorEq] at hk
          rename_i x' y' h1 h2
          subst hk
          simp only [apure] at hv
          split at hv <;> (try cases hv; done)
          rename_i k1 n1 k2 n2 e1 e2
          split at hv <;> simp only [Option.some.injEq, reduceCtorEq] at hv
          rename_i hkk; subst hkk; subst hv
          have hx := cOpd_sound he h1
          have hy := cOpd_sound he h2
          rw [e1] at hx; rw [e2] at hy
          refine fun w => ⟨_, ?_, .int _ _⟩
          rw [exec]
          simp [builtin, Builtin.min_, Builtin.min2, hx.int_inv, hy.int_inv]
        · rename_i x y z hargs
          have ea : args = #[x, y, z] := by cases args; simp_all
          subst ea
          split at hk <;> simp only [Option.some.injEq, reduceCtorEq] at hk
          rename_i x' y' z' h1 h2 h3
          subst hk
          simp only [apure] at hv
          split at hv <;> (try cases hv; done)
          rename_i k1 n1 k2 n2 k3 n3 e1 e2 e3
          split at hv <;> simp only [Option.some.injEq, reduceCtorEq] at hv
          rename_i hkk; obtain ⟨rfl, rfl⟩ := hkk; subst hv
          have hx := cOpd_sound he h1
          have hy := cOpd_sound he h2
          have hz := cOpd_sound he h3
          rw [e1] at hx; rw [e2] at hy; rw [e3] at hz
          refine fun w => ⟨_, ?_, .int _ _⟩
          rw [exec]
          simp [builtin, Builtin.min_, Builtin.min2, hx.int_inv, hy.int_inv, hz.int_inv, amm]
      case max =>
        split at hk <;> (try cases hk; done)
        · rename_i x y hargs
          have ea : args = #[x, y] := by cases args; simp_all
          subst ea
          split at hk <;> simp only [Option.some.injEq, reduceCtorEq] at hk
          rename_i x' y' h1 h2
          subst hk
          simp only [apure] at hv
          split at hv <;> (try cases hv; done)
          rename_i k1 n1 k2 n2 e1 e2
          split at hv <;> simp only [Option.some.injEq, reduceCtorEq] at hv
          rename_i hkk; subst hkk; subst hv
          have hx := cOpd_sound he h1
          have hy := cOpd_sound he h2
          rw [e1] at hx; rw [e2] at hy
          refine fun w => ⟨_, ?_, .int _ _⟩
          rw [exec]
          simp [builtin, Builtin.max_, Builtin.max2, hx.int_inv, hy.int_inv]
        · rename_i x y z hargs
          have ea : args = #[x, y, z] := by cases args; simp_all
          subst ea
          split at hk <;> simp only [Option.some.injEq, reduceCtorEq] at hk
          rename_i x' y' z' h1 h2 h3
          subst hk
          simp only [apure] at hv
          split at hv <;> (try cases hv; done)
          rename_i k1 n1 k2 n2 k3 n3 e1 e2 e3
          split at hv <;> simp only [Option.some.injEq, reduceCtorEq] at hv
          rename_i hkk; obtain ⟨rfl, rfl⟩ := hkk; subst hv
          have hx := cOpd_sound he h1
          have hy := cOpd_sound he h2
          have hz := cOpd_sound he h3
          rw [e1] at hx; rw [e2] at hy; rw [e3] at hz
          refine fun w => ⟨_, ?_, .int _ _⟩
          rw [exec]
          simp [builtin, Builtin.max_, Builtin.max2, hx.int_inv, hy.int_inv, hz.int_inv, amm]
      case recover =>
        simp only [Option.some.injEq] at hk
        subst hk; simp [apure] at hv
  case load t x =>
    split at hk <;> simp only [Option.some.injEq, reduceCtorEq] at hk
    subst hk; simp [apure] at hv
  case store t x y =>
    split at hk <;> simp only [Option.some.injEq, reduceCtorEq] at hk
    subst hk; simp [apure] at hv
  case alloc t =>
    simp only [Option.map_eq_some_iff] at hk
    obtain ⟨y, hy, rfl⟩ := hk
    simp [apure] at hv
  case box t x =>
    simp only [Option.map_eq_some_iff] at hk
    obtain ⟨y, hy, rfl⟩ := hk
    simp [apure] at hv
  case buildSlice t n ps =>
    split at hk <;> (try cases hk; done)
    split at hk <;> (try cases hk; done)
    split at hk <;> (try cases hk; done)
    simp only [Option.map_eq_some_iff] at hk
    obtain ⟨y, hy, rfl⟩ := hk
    simp [apure] at hv
  case makeSlice t l c =>
    split at hk <;> (try cases hk; done)
    split at hk <;> (try cases hk; done)
    split at hk <;> (try cases hk; done)
    simp only [Option.some.injEq] at hk; subst hk
    simp [apure] at hv
  case defer c =>
    obtain ⟨callee, args, ats⟩ := c
    cases callee with
    | value f =>
      simp only [] at hk
      split at hk <;> simp only [Option.some.injEq, reduceCtorEq] at hk
      subst hk; simp [apure] at hv
    | invoke r m => simp at hk
    | builtin b => simp at hk
  case panic x =>
    simp only [Option.map_eq_some_iff] at hk
    obtain ⟨y, hy, rfl⟩ := hk
    simp [apure] at hv
  case typeAssert x xt t ok =>
    cases ok <;> simp only [] at hk <;> (try (cases hk; done))
    split at hk <;> (try (cases hk; done))
    rename_i d hni hu
    split at hk <;> simp only [Option.some.injEq, reduceCtorEq] at hk
    rename_i x' z h1 h2
    subst hk
    have hx := cOpd_sound he h1
    simp only [apure] at hv
    intro w
    obtain ⟨zv, hz1, hz2⟩ := tzv_sound (Z := Z) (σ := σ) (w := w) h2
    split at hv <;> simp only [Option.some.injEq, reduceCtorEq] at hv
    · rename_i t' v' hx'
      subst hv
      rw [hx'] at hx
      have hif : ∃ vv, a.eval x = .iface t' vv ∧ VR Z σ v' vv := by
        generalize a.eval x = vx at hx
        cases hx with
        | ifc hv' => exact ⟨_, rfl, hv'⟩
      obtain ⟨vv, hif, hv'⟩ := hif
      · by_cases ht : t' = t
        · refine ⟨.tuple #[vv, .bool true], ?_, by rw [if_pos ht]; exact .tup (.cons hv' (.cons (.bool _) .nil))⟩
          refine value_run w ?_
          unfold Instr.typeAssert
          cases d <;> first | exact absurd rfl (hni _) | simp [run_underlying hu, ht, hif]
        · refine ⟨.tuple #[zv, .bool false], ?_, by rw [if_neg ht]; exact .tup (.cons hz2 (.cons (.bool _) .nil))⟩
          refine value_run w ?_
          unfold Instr.typeAssert
          cases d <;> first | exact absurd rfl (hni _) | simp [run_underlying hu, ht, hz1, hif]
    · rename_i hx'
      subst hv
      rw [hx'] at hx
      have hnil : a.eval x = .nilIface := by generalize a.eval x = vx at hx; cases hx; rfl
      refine ⟨.tuple #[zv, .bool false], ?_, .tup (.cons hz2 (.cons (.bool _) .nil))⟩
      refine value_run w ?_
      rw [hnil]
      unfold Instr.typeAssert
      cases d <;> first | exact absurd rfl (hni _) | simp [run_underlying hu, hz1]
  case makeMap t r =>
    cases r <;> simp only [Option.some.injEq, reduceCtorEq] at hk
    subst hk; simp [apure] at hv
  case lookup t m k' ok =>
    split at hk <;> (try cases hk; done)
    split at hk <;> simp only [Option.some.injEq, reduceCtorEq] at hk
    subst hk; simp [apure] at hv
  case mapUpdate t m k' v' =>
    split at hk <;> (try cases hk; done)
    simp only [Option.map_eq_some_iff] at hk
    obtain ⟨y, hy, rfl⟩ := hk
    simp [apure] at hv
  case insert t m k' v' =>
    split at hk <;> (try cases hk; done)
    simp only [Option.map_eq_some_iff] at hk
    obtain ⟨y, hy, rfl⟩ := hk
    simp [apure] at hv
theorem apure_sound {o : Oper} {k : AK} (hk : compOp P o = some k) (he : ER Z σ e a) {v : AV} (hv : apure k e = some v) : PureOk P Z σ o a v := by
  unfold compOp at hk
  cases h : compOp0 P o with
  | none => rw [h] at hk; cases hk; cases hv
  | some k' => rw [h] at hk; cases hk; exact apure_sound0 h he hv
end
end Go.AL
