import Derived.Test.YtlopgbdfdfijoaaGreatDoorZa03
import Derived.Recover
/-
  calls; the scope of a function; steps of a walk; deferred calls.
-/
set_option linter.unusedSectionVars false
set_option linter.unusedVariables false
set_option linter.unusedSimpArgs false
namespace Go.AL
inductive ARes where
  | tmp (t : Nat)
  | cell (a : Nat) (agg : Option Nat)
def cRes (P : Program) : ResultVar → Option ARes
  | .tmp t => if t < dslot then some (.tmp t) else none
  | .cell a t => if a < dslot then (tload P t).map (.cell a ·) else none
def cRess (P : Program) : List ResultVar → Option (List ARes)
  | [] => some []
  | x :: l => match cRes P x, cRess P l with
    | some y, some r => some (y :: r)
    | _, _ => none
def aress (e : Env) (H : AH) : List ARes → Option (List AV)
  | [] => some []
  | .tmp t :: l => (aress e H l).map (e t :: ·)
  | .cell a g :: l => match aload g (e a) H with
    | some v => (aress e H l).map (v :: ·)
    | none => none
def retv : List AV → AV
  | [v] => v
  | l => .tup l
section
variable {P : Program} {Z : Zt} {σ : Sg} {H : AH} {w : World} {e : Env} {a : Act}
theorem run_mapM_list {α β : Type} (f : α → Sem β) : ∀ (l : List α) (r : List β), l.length = r.length → (∀ (i : Nat) (x : α) (y : β), l[i]? = some x → r[i]? = some y → (f x).run P w = .ok y w) → (l.mapM f).run P w = .ok r w
  | [], [], _, _ => by simp
  | x :: l, y :: r, hl, h => by
    have h0 := h 0 x y rfl rfl
    have ih := run_mapM_list f l r (by simpa using hl) (fun i x y h1 h2 => h (i + 1) x y (by simpa using h1) (by simpa using h2))
    simp [List.mapM_cons, h0, ih]
def resOf (tmps : Array Value) : ResultVar → Sem Value
  | .tmp t => pure (tmps.getD t undef)
  | .cell a t => do loadVar t (← asAddr (tmps.getD a undef))
theorem results_sound (hW : WR Z σ H w) (he : ER Z σ e a) : ∀ {rs : List ResultVar} {ars : List ARes} {vs : List AV}, cRess P rs = some ars → aress e H ars = some vs →
    ∃ us : List Value, (rs.mapM (resOf a.tmps)).run P w = .ok us w ∧ VRs Z σ vs us
  | [], ars, vs, h1, h2 => by
    simp only [cRess, Option.some.injEq] at h1; subst h1
    simp only [aress, Option.some.injEq] at h2; subst h2
    exact ⟨[], by simp, .nil⟩
  | x :: rs, ars, vs, h1, h2 => by
    simp only [cRess] at h1
    split at h1 <;> simp only [Option.some.injEq, reduceCtorEq] at h1
    rename_i y r hx hr
    subst h1
    cases x with
    | tmp t =>
      simp only [cRes] at hx
      split at hx <;> simp only [Option.some.injEq, reduceCtorEq] at hx
      rename_i hlt
      subst hx
      simp only [aress, Option.map_eq_some_iff] at h2
      obtain ⟨vs', h2, rfl⟩ := h2
      obtain ⟨us, g1, g2⟩ := results_sound hW he hr h2
      exact ⟨a.tmps.getD t undef :: us, by simp [List.mapM_cons, resOf, g1], .cons (he t hlt) g2⟩
    | cell ad t =>
      simp only [cRes] at hx
      split at hx <;> (try (cases hx; done))
      rename_i hlt
      simp only [Option.map_eq_some_iff] at hx
      obtain ⟨g, hg, rfl⟩ := hx
      simp only [aress] at h2
      split at h2 <;> (try (cases h2; done))
      rename_i v hv
      simp only [Option.map_eq_some_iff] at h2
      obtain ⟨vs', h2, rfl⟩ := h2
      obtain ⟨us, g1, g2⟩ := results_sound hW he hr h2
      obtain ⟨cv, r1, r2⟩ := aload_sound (P := P) hW hg (he ad hlt) hv
      refine ⟨cv :: us, ?_, .cons r2 g2⟩
      have : (resOf a.tmps (.cell ad t)).run P w = .ok cv w := by
        simp only [resOf]
        cases hp : a.tmps.getD ad undef with
        | pointer o =>
          cases o with
          | none => rw [hp] at r1; simp [Instr.loadAt, Instr.sureAddr] at r1
          | some x => rw [hp] at r1; simpa [Instr.loadAt, Instr.sureAddr, asAddr] using r1
        | _ => rw [hp] at r1; simp [Instr.loadAt, Instr.sureAddr] at r1
      simp [List.mapM_cons, this, g1]
theorem results_run (hW : WR Z σ H w) (he : ER Z σ e a) {fn : Func} {ars : List ARes} {vs : List AV} (h1 : cRess P fn.results.toList = some ars) (h2 : aress e H ars = some vs) :
    ∃ cv, (results fn a.tmps).run P w = .ok cv w ∧ VR Z σ (retv vs) cv := by
  obtain ⟨us, g1, g2⟩ := results_sound hW he h1 h2
  have hm : (fn.results.mapM (resOf a.tmps)).run P w = .ok us.toArray w := by
    rw [Array.mapM_eq_mapM_toList]; simp [g1]
  have hres : (results fn a.tmps).run P w = .ok (if h : us.toArray.size = 1 then us.toArray[0] else .tuple us.toArray) w := by
    have e1 : results fn a.tmps = (do let vs ← fn.results.mapM (resOf a.tmps); pure (if h : vs.size = 1 then vs[0] else .tuple vs)) := rfl
    rw [e1]; simp [hm]
  refine ⟨_, hres, ?_⟩
  cases g2 with
  | nil => simp [retv]; exact .tup (by simpa using VRs.nil)
  | cons h t =>
    cases t with
    | nil => simpa [retv] using h
    | cons h' t' => simp [retv]; exact .tup (by simpa using VRs.cons h (.cons h' t'))
def fpost (ars : List ARes) (post : AOut → AH → Prop) : Ex → Env → AH → Prop
  | .normal, e, H | .ret, e, H => match aress e H ars with
    | some vs => post (.ret (retv vs)) H
    | none => False
  | .pan v, _, H => post (.pan v) H
  | .exit _, _, _ => False
def env0 (args : List AV) : Env := fun t => if t = dslot then .tup [] else args.getD t .unk
def noDefer : ACode → Bool
  | .reg ops => ops.all (fun o => !o.k.isDefer)
  | .seq a b | .cond _ a b => noDefer a && noDefer b
  | .block _ a | .loop a => noDefer a
  | _ => true
def Dd (Q : Ex → Env → AH → Prop) : Ex → Env → AH → Prop := fun x e H => e dslot = .tup [] → Q x e H
theorem VRs.getD {l : List AV} {vs : List Value} (h : VRs Z σ l vs) (t : Nat) : VR Z σ (l.getD t .unk) (vs.getD t undef) := by
  rw [List.getD_eq_getElem?_getD, List.getD_eq_getElem?_getD]
  cases hl : l[t]? with
  | none => simp; exact .unk _
  | some x =>
    obtain ⟨v, h1, h2⟩ := h.get hl
    rw [h1]; exact h2
theorem env0_FR {vs : List Value} {args : List AV} (hv : VRs Z σ args vs) {n : Nat} (hlen : args.length ≤ n) (hn : n ≤ dslot) :
    FR Z σ n (env0 args) { tmps := vs.toArray ++ Array.replicate (n - vs.toArray.size) undef, defers := [] } := by
  have hl := hv.length
  refine ⟨fun t ht => ?_, ⟨[], by simp [env0], .nil⟩, by simp; omega⟩
  have hne : t ≠ dslot := by omega
  simp only [env0, hne, if_false]
  have hg : (vs.toArray ++ Array.replicate (n - vs.toArray.size) undef).getD t undef = vs.getD t undef := by
    rw [Array.getD_eq_getD_getElem?, List.getD_eq_getElem?_getD, Array.getElem?_append]
    split
    · simp
    · rename_i hlt
      have hlt' : vs.length ≤ t := by simpa using hlt
      rw [List.getElem?_eq_none hlt']
      rw [Array.getElem?_replicate]
      split <;> rfl
  rw [hg]; exact hv.getD t
theorem ACall.oldE {f : FuncId} {args : List AV} {H : AH} {post : AOut → AH → Prop} (hE : Enters P f)
    (h : ∀ (Z : Zt) (σ : Sg) (w : World) (vs : List Value), OldOk Z → (∀ b, ¬ Z.old b → Z b = none) → WR Z σ H w → VRs Z σ args vs →
      Calls P f vs.toArray w fun e w' => ∃ Z' σ' H' out, Zle Z Z' ∧ Nw σ H.next σ' ∧ H.next ≤ H'.next ∧ WR Z' σ' H' w' ∧ OutR Z' σ' out e ∧ post out H') : ACall P f args H post := by
  refine ⟨hE, fun Z σ w vs hW hv => ?_⟩
  have c1 : ∀ (Z : Zt) (o : Nat → Prop), Zc Z { Z with old := o } := fun Z o _ _ _ _ h => h
  have wr : ∀ (Z : Zt) (o : Nat → Prop) {σ : Sg} {H : AH} {w : World}, WR Z σ H w → WR { Z with old := o } σ H w := fun Z o σ H w hW =>
    ⟨hW.z, fun r x p h1 h2 => ⟨(hW.h r x p h1 h2).1, ((hW.h r x p h1 h2).2).turn (c1 Z o) rfl⟩, hW.inj, hW.fresh, hW.top, hW.rest⟩
  refine (h { Z with old := fun b => ∃ o, Z b = some o } σ w vs (fun b hb => hb) (fun b hb => ?_) (wr Z _ hW) (hv.monoC (c1 Z _) (fun _ _ h => h))).mono ?_
  · cases hq : Z b with
    | none => rfl
    | some x => exact absurd ⟨x, hq⟩ hb
  · rintro e w' ⟨Z', σ', H', out, g1, g2, g3, g4, g5, g6⟩
    refine ⟨{ Z' with old := Z.old }, σ', H', out, ⟨g1.le, g1.os, g1.out, g1.frz, rfl⟩, g2, g3, wr Z' _ g4, ?_, g6⟩
    cases out with
    | ret v => obtain ⟨cv, q1, q2⟩ := g5; exact ⟨cv, q1, q2.monoC (c1 Z' _) (fun _ _ h => h)⟩
    | pan v => obtain ⟨cv, q1, q2⟩ := g5; exact ⟨cv, q1, q2.monoC (c1 Z' _) (fun _ _ h => h)⟩
theorem DR.shut {Z : Zt} {σ : Sg} {b : Nat} {o : Obj} (hb : Z b = some (.deferred (some []))) {ds : List AV} {dd : List Deferred} (h : DR Z σ ds dd) : (∀ d ∈ dd, d.target ≠ .collected b) → DR (Z.at b o) σ ds dd := by
  have hc : Zc Z (Z.at b o) := Zt.at_c o fun x hx => by rw [hb] at hx; cases hx; exact notC_def
  induction h with
  | nil => exact fun _ => .nil
  | cons h _ ih => exact fun hn => .cons (h.monoC hc (fun _ _ h => h)) (ih fun d hd => hn d (List.mem_cons_of_mem _ hd))
  | mark h h2 h3 _ ih => exact fun hn => .mark (by rw [Zt.at_ne _ _ (fun hq => hn _ (List.mem_cons_self ..) (by rw [hq]))]; exact h) h2 h3 (ih fun d hd => hn d (List.mem_cons_of_mem _ hd))
theorem leaves_marks {fn : Func} {tmps : Array Value} {R : Ending → World → Prop} {u : FrameMode} (hu : u ≠ .run) {Z0 : Zt} : ∀ (ds : List AV) (dd : List Deferred) (Z : Zt) (w : World), (∀ x ∈ ds, x = .nili) → DR Z σ ds dd → WR Z σ H w → Zle Z0 Z →
    (∀ b, ¬ Z.old b → Z0 b = none) → (∀ Z' w', Zle Z0 Z' → Zc Z Z' → WR Z' σ H w' → LeavesIn Fence.wide 0 P fn tmps R [] u w') → LeavesInM Fence.wide 0 P fn tmps R dd u w
  | [], dd, Z, w, _, hD, hW, hZ, _, hK => by
    cases hD
    exact hK Z w hZ (fun _ _ _ _ h => h) hW
  | x :: ds, dd, Z, w, hx, hD, hW, hZ, ho, hK => by
    have := hx x (List.mem_cons_self ..)
    subst this
    cases hD with
    | @mark b _ dd' h h2 h3 t =>
      have hc : Zc Z (Z.at b (.deferred none)) := Zt.at_c _ fun x hx => by rw [h] at hx; cases hx; exact notC_def
      refine ⟨hu, .inl ⟨b, _, rfl, run_takeDeferred (hW.z _ _ h), ?_⟩⟩
      exact leaves_marks hu ds dd' _ _ (fun y hy => hx y (List.mem_cons_of_mem _ hy)) (t.shut h h3) (hW.turn h notC_def _) (Zt.at_le _ hZ (.inl (ho b h2))) ho
        (fun Z' w' k1 k2 k3 => hK Z' w' k1 (fun b c e fr hb => k2 b c e fr (hc b c e fr hb)) k3)
theorem acall_of_DM {f : FuncId} {fn : Func} {c : Code} {ars : List ARes} {args : List AV} {post : AOut → AH → Prop} (hf : P.funcs[f]? = some fn)
    (hb : fn.body = some c) (hn : fn.ntmps ≤ dslot) (hlen : args.length ≤ fn.ntmps) (hr : cRess P fn.results.toList = some ars) {vs : List Value} (hO : OldOk Z) (hN : ∀ b, ¬ Z.old b → Z b = none) (hW : WR Z σ H w) (hv : VRs Z σ args vs)
    (h : ∀ a, FR Z σ fn.ntmps (env0 args) a → c.wpIn (RF none) 0 P (QR Z σ fn.ntmps H.next fun x e H => (∃ ds, e dslot = .tup ds ∧ ∀ x ∈ ds, x = .nili) ∧ fpost ars post x e H) a w) :
    Calls P f vs.toArray w fun e w' => ∃ Z' σ' H' out, Zle Z Z' ∧ Nw σ H.next σ' ∧ H.next ≤ H'.next ∧ WR Z' σ' H' w' ∧ OutR Z' σ' out e ∧ post out H' := by
  refine (callsIn_wide (n := 0)).1 (callsIn_of_wp_marks hf hb trivial (Code.wpIn_mono ?_ (h _ (env0_FR hv hlen hn))))
  rintro ex a' w' ⟨Z', σ', z, e', H', g1, g2, g3, g4, g5, g6, ⟨ds, g7, g8⟩, g9⟩
  have hds : DR Z' σ' ds a'.defers := by
    obtain ⟨l, k1, k2⟩ := g5.ds
    rw [g7] at k1; simp only [AV.tup.injEq] at k1; subst k1; exact k2
  have hN' : ∀ b, ¬ Z'.old b → Z b = none := fun b hb => hN b (by rw [← g1.old]; exact hb)
  have fin : (match aress e' H' ars with | some vs => post (.ret (retv vs)) H' | none => False) → LeavesInM Fence.wide 0 P fn a'.tmps (fun e w' => ∃ Z' σ' H' out, Zle Z Z' ∧ Nw σ H.next σ' ∧ H.next ≤ H'.next ∧ WR Z' σ' H' w' ∧ OutR Z' σ' out e ∧ post out H') a'.defers .returning w' := fun hp => by
    refine leaves_marks (by simp) ds _ Z' w' g8 hds g4 g1 hN' fun Z2 w2 k1 k2 k3 => ?_
    split at hp
    · rename_i us hus
      obtain ⟨cv, r1, r2⟩ := results_run (P := P) k3 (fun t ht => (g5.er t ht).monoC k2 (fun _ _ h => h)) hr hus
      exact ⟨cv, r1, Z2, σ', H', .ret (retv us), k1, g2, g3, k3, ⟨cv, rfl, r2⟩, hp⟩
    · exact hp.elim
  cases z with
  | normal => cases g6; exact fin g9
  | ret => cases g6; exact fin g9
  | exit i => exact g9.elim
  | pan v =>
    obtain ⟨cv, rfl, hv⟩ := g6
    refine leaves_marks (by simp) ds _ Z' w' g8 hds g4 g1 hN' fun Z2 w2 k1 k2 k3 => ?_
    exact ⟨Z2, σ', H', .pan v, k1, g2, g3, k3, ⟨cv, rfl, hv.monoC k2 (fun _ _ h => h)⟩, g9⟩
theorem nilis_nil : ∀ x ∈ ([] : List AV), x = .nili := fun x hx => by cases hx
theorem acall_of_Dm {f : FuncId} {fn : Func} {c : Code} {hs : Hints} {ac : ACode} {ars : List ARes} {args : List AV} {post : AOut → AH → Prop} (hmix : P.follows .mixedOrders = true) (hf : P.funcs[f]? = some fn)
    (hname : fn.name ≠ "runtime.NumGoroutine") (hb : fn.body = some c) (hn : fn.ntmps ≤ dslot) (hlen : args.length ≤ fn.ntmps) (hc : comp P hs fn.ntmps c = some ac) (hr : cRess P fn.results.toList = some ars)
    (h : D P ac (fun x e H => (∃ ds, e dslot = .tup ds ∧ ∀ x ∈ ds, x = .nili) ∧ fpost ars post x e H) (env0 args) H) : ACall P f args H post :=
  ACall.oldE ⟨fn, hf, hname, by rw [hb]; rfl⟩ fun Z σ w vs hO hN hW hv =>
    acall_of_DM hf hb hn hlen hr hO hN hW hv fun a g4 => D_soundR hmix hn c ac hc none (.inl rfl) Z σ H _ a w Z σ H.next _ (Zle.refl _) (Nw.refl _ _) (Nat.le_refl _) hW g4 hO yok_none h
theorem acall_of_D {f : FuncId} {fn : Func} {c : Code} {hs : Hints} {ac : ACode} {ars : List ARes} {args : List AV} {post : AOut → AH → Prop} (hmix : P.follows .mixedOrders = true) (hf : P.funcs[f]? = some fn)
    (hname : fn.name ≠ "runtime.NumGoroutine") (hb : fn.body = some c) (hn : fn.ntmps ≤ dslot) (hlen : args.length ≤ fn.ntmps) (hc : comp P hs fn.ntmps c = some ac) (hr : cRess P fn.results.toList = some ars)
    (h : D P ac (fun x e H => e dslot = .tup [] ∧ fpost ars post x e H) (env0 args) H) : ACall P f args H post :=
  ACall.oldE ⟨fn, hf, hname, by rw [hb]; rfl⟩ fun Z σ w vs hO hN hW hv =>
    acall_of_DM hf hb hn hlen hr hO hN hW hv fun a g4 => Code.wpIn_mono (fun _ _ _ ⟨Z', σ', y, e, H', q1, q2, q3, q4, q5, q6, q7, q8⟩ => ⟨Z', σ', y, e, H', q1, q2, q3, q4, q5, q6, ⟨[], q7, nilis_nil⟩, q8⟩)
      (D_soundR hmix hn c ac hc none (.inl rfl) Z σ H _ a w Z σ H.next _ (Zle.refl _) (Nw.refl _ _) (Nat.le_refl _) hW g4 hO yok_none h)
end
end Go.AL
namespace Go.AL
def cutS (k : Nat) (σ : Sg) : Sg := fun r => if r < k then σ r else none
def AH.cut (H : AH) (k : Nat) (g : Nat → Option Obj) : AH := ⟨fun r => if r < k then H.get r else none, k, g⟩
mutual
inductive Sc (k : Nat) : AV → Prop
  | unk : Sc k .unk
  | bool (b : Bool) : Sc k (.bool b)
  | int (t : IntKind) (n : Int) : Sc k (.int t n)
  | str (l : List UInt8) : Sc k (.str l)
  | nilp : Sc k .nilp
  | ptr {r o : Nat} (h : r < k) : Sc k (.ptr r o)
  | pim {l : List AV} {o : Nat} (h : Scs k l) : Sc k (.pim l o)
  | nils : Sc k .nils
  | sl {r o n : Nat} {m : Lim} (h : r < k) : Sc k (.sl r o n m)
  | sim {l : List AV} {n : Nat} {ex : Bool} (h : Scs k l) : Sc k (.sim l n ex)
  | nilm : Sc k .nilm
  | mp {r : Nat} (h : r < k) : Sc k (.mp r)
  | nilf : Sc k .nilf
  | fn {f : Fn} {a b : List AV} (h1 : Scs k a) (h2 : Scs k b) : Sc k (.fn f a b)
  | nili : Sc k .nili
  | ifc {t : TypeId} {x : AV} (h : Sc k x) : Sc k (.ifc t x)
  | agg {l : List AV} (h : Scs k l) : Sc k (.agg l)
  | tup {l : List AV} (h : Scs k l) : Sc k (.tup l)
inductive Scs (k : Nat) : List AV → Prop
  | nil : Scs k []
  | cons {x : AV} {l : List AV} (h : Sc k x) (t : Scs k l) : Scs k (x :: l)
end
theorem Scs.mem {k : Nat} {l : List AV} (h : Scs k l) {x : AV} (hx : x ∈ l) : Sc k x := by
  induction l with
  | nil => simp at hx
  | cons y l ih =>
    cases h with
    | cons h t => cases hx with
      | head => exact h
      | tail _ hx => exact ih t hx
theorem Scs.of_mem {k : Nat} {l : List AV} (h : ∀ x ∈ l, Sc k x) : Scs k l := by
  induction l with
  | nil => exact .nil
  | cons y l ih => exact .cons (h y (List.mem_cons_self ..)) (ih fun x hx => h x (List.mem_cons_of_mem _ hx))
section
variable {Z Z' : Zt} {σ σ' : Sg} {k : Nat}
theorem Sc_of_VR (hk : ∀ r, k ≤ r → σ r = none) {x : AV} {v : Value} (h : VR Z σ x v) : Sc k x := by
  have lt : ∀ {r : Nat} {p : Plc}, σ r = some p → r < k := fun {r p} h => by
    rcases Nat.lt_or_ge r k with h' | h'
    · exact h'
    · rw [hk r h'] at h; cases h
  refine VR.rec (motive_1 := fun x v _ => Sc k x) (motive_2 := fun l vs _ => Scs k l) ?_ ?_ ?_ ?_ ?_ ?_ ?_ ?_ ?_ ?_ ?_ ?_ ?_ ?_ ?_ ?_ ?_ ?_ ?_ ?_ ?_ ?_ ?_ ?_ ?_ h
  case refine_1 => exact fun v => .unk
  case refine_2 => exact fun v => .bool v
  case refine_3 => exact fun k n => .int k n
  case refine_4 => exact fun l => .str l
  case refine_5 => exact .nilp
  case refine_6 => exact fun h => .ptr (lt h)
  case refine_7 => exact fun hz h1 _ ih => .pim ih
  case refine_8 => exact .nils
  case refine_9 => exact fun h hn => .sl (lt h)
  case refine_10 => exact fun h a => .sl (lt h)
  case refine_11 => exact fun h hn hs => .sl (lt h)
  case refine_12 => exact fun h a => .sl (lt h)
  case refine_13 => exact fun hn hx hs hz h1 _ ih => .sim ih
  case refine_14 => exact fun a hx => .sim .nil
  case refine_15 => exact .sim .nil
  case refine_16 => exact .nilm
  case refine_17 => exact fun h => .mp (lt h)
  case refine_18 => exact .nilf
  case refine_19 => exact fun _ _ i1 i2 => .fn i1 i2
  case refine_20 => exact .nili
  case refine_21 => exact fun _ ih => .ifc ih
  case refine_22 => exact fun h1 _ ih => .agg ih
  case refine_23 => exact fun _ ih => .tup ih
  case refine_24 => exact .nil
  case refine_25 => exact fun _ _ i1 i2 => .cons i1 i2
theorem Scs_of_VRs (hk : ∀ r, k ≤ r → σ r = none) {l : List AV} {vs : List Value} (h : VRs Z σ l vs) : Scs k l := by
  induction l generalizing vs with
  | nil => exact .nil
  | cons x l ih => cases h with | cons h t => exact .cons (Sc_of_VR hk h) (ih t)
theorem VR.cut {x : AV} {v : Value} (h : VR Z σ x v) : Sc k x → VR Z (cutS k σ) x v := by
  have at' : ∀ {r : Nat} {p : Plc}, r < k → σ r = some p → cutS k σ r = some p := fun h1 h2 => by simp [cutS, h1, h2]
  refine VR.rec (motive_1 := fun x v _ => Sc k x → VR Z (cutS k σ) x v) (motive_2 := fun l vs _ => Scs k l → VRs Z (cutS k σ) l vs) ?_ ?_ ?_ ?_ ?_ ?_ ?_ ?_ ?_ ?_ ?_ ?_ ?_ ?_ ?_ ?_ ?_ ?_ ?_ ?_ ?_ ?_ ?_ ?_ ?_ h
  case refine_1 => exact fun v _ => .unk v
  case refine_2 => exact fun v _ => .bool v
  case refine_3 => exact fun k n _ => .int k n
  case refine_4 => exact fun l _ => .str l
  case refine_5 => exact fun _ => .nilp
  case refine_6 => exact fun h hs => by cases hs with | ptr h' => exact .ptr (at' h' h)
  case refine_7 => exact fun hz h1 _ ih hs => by cases hs with | pim h' => exact .pim hz h1 (ih h')
  case refine_8 => exact fun _ => .nils
  case refine_9 => exact fun h hn hs => by cases hs with | sl h' => exact .slx (at' h' h) hn
  case refine_10 => exact fun h a hs => by cases hs with | sl h' => exact .slxz (at' h' h) a
  case refine_11 => exact fun h hn hz hs => by cases hs with | sl h' => exact .slo (at' h' h) hn hz
  case refine_12 => exact fun h a hs => by cases hs with | sl h' => exact .sloz (at' h' h) a
  case refine_13 => exact fun hn hx hs hz h1 _ ih h => by cases h with | sim h' => exact .sim hn hx hs hz h1 (ih h')
  case refine_14 => exact fun a hx _ => .simz a hx
  case refine_15 => exact fun _ => .simn
  case refine_16 => exact fun _ => .nilm
  case refine_17 => exact fun h hs => by cases hs with | mp h' => exact .mp (at' h' h)
  case refine_18 => exact fun _ => .nilf
  case refine_19 => exact fun _ _ i1 i2 hs => by cases hs with | fn a b => exact .fn (i1 a) (i2 b)
  case refine_20 => exact fun _ => .nili
  case refine_21 => exact fun _ ih hs => by cases hs with | ifc h => exact .ifc (ih h)
  case refine_22 => exact fun h1 _ ih hs => by cases hs with | agg h => exact .agg h1 (ih h)
  case refine_23 => exact fun _ ih hs => by cases hs with | tup h => exact .tup (ih h)
  case refine_24 => exact fun _ => .nil
  case refine_25 => exact fun _ _ i1 i2 hs => by cases hs with | cons a b => exact .cons (i1 a) (i2 b)
theorem VRs.cut {l : List AV} {vs : List Value} (h : VRs Z σ l vs) (hs : Scs k l) : VRs Z (cutS k σ) l vs := by
  induction l generalizing vs with
  | nil => cases h; exact .nil
  | cons x l ih => cases h with | cons h t => cases hs with | cons a b => exact .cons (h.cut a) (ih t b)
end
mutual
inductive FrzR (H : AH) (k : Nat) : AV → AV → Prop
  | low {x : AV} (h : Sc k x) : FrzR H k x x
  | unk (x : AV) : FrzR H k x .unk
  | sl {r o n m : Nat} {lim : Lim} {l l' : List AV} {ex : Bool} (hr : k ≤ r) (hc : H.cells? r = some l) (hm : o + m ≤ l.length) (hl : FrzRs H k ((l.drop o).take m) l') (hn : n = 0 → m = 0) (hx : ex = true → lim = .ex n) :
      FrzR H k (.sl r o n lim) (.sim l' n ex)
  | ptr {r o : Nat} {l l' : List AV} (hr : k ≤ r) (hc : H.cells? r = some l) (hl : FrzRs H k l l') : FrzR H k (.ptr r o) (.pim l' o)
  | ifc {t : TypeId} {x y : AV} (h : FrzR H k x y) : FrzR H k (.ifc t x) (.ifc t y)
  | agg {l l' : List AV} (h : FrzRs H k l l') : FrzR H k (.agg l) (.agg l')
  | tup {l l' : List AV} (h : FrzRs H k l l') : FrzR H k (.tup l) (.tup l')
  | fn {f : Fn} {a b a' b' : List AV} (h1 : FrzRs H k a a') (h2 : FrzRs H k b b') : FrzR H k (.fn f a b) (.fn f a' b')
inductive FrzRs (H : AH) (k : Nat) : List AV → List AV → Prop
  | nil : FrzRs H k [] []
  | cons {x y : AV} {l l' : List AV} (h : FrzR H k x y) (t : FrzRs H k l l') : FrzRs H k (x :: l) (y :: l')
end
theorem FrzRs.low {H : AH} {k : Nat} {l : List AV} (h : Scs k l) : FrzRs H k l l := by
  induction l with
  | nil => exact .nil
  | cons x l ih => cases h with | cons a b => exact .cons (.low a) (ih b)
open Classical in
noncomputable def ownB (Z : Zt) (σ : Sg) (H : AH) (k : Nat) (w : World) (b : Nat) : Option Obj :=
  if (∃ r o p, k ≤ r ∧ H.get r = some o ∧ σ r = some p ∧ p.b = b) then w.heap[b]? else Z b
noncomputable def ownZ (Z : Zt) (σ : Sg) (H : AH) (k : Nat) (w : World) : Zt := { Z with blk := ownB Z σ H k w }
section
variable {Z : Zt} {σ : Sg} {H : AH} {w : World} {k : Nat}
theorem ownZ_le (hW : WR Z σ H w) : Zle Z (ownZ Z σ H k w) := by
  refine ⟨fun b o hz => ?_, rfl, rfl, rfl, rfl⟩
  simp only [ownZ, ownB]
  split
  · exact hW.z b o hz
  · exact hz
theorem ownZ_at {r : Nat} {o : AObj} {p : Plc} (hr : k ≤ r) (hg : H.get r = some o) (hp : σ r = some p) : ownZ Z σ H k w p.b = w.heap[p.b]? := by
  simp only [ownZ, ownB]; rw [if_pos ⟨r, o, p, hr, hg, hp, rfl⟩]
def ScO (k : Nat) : AObj → Prop
  | .cells l => Scs k l
  | .map es _ => ∀ e ∈ es, Sc k e.1 ∧ Sc k e.2.1
theorem WR.cutAll (hW : WR Z σ H w) (hs : ∀ r o p, r < k → H.get r = some o → σ r = some p → ScO k o) {g : Nat → Option Obj} (hg : ∀ b o, g b = some o → Z b = some o ∧ isC o) : WR (ownZ Z σ H k w) (cutS k σ) (H.cut k g) w := by
  refine ⟨fun b o hz => ?_, fun r o p hr hp => ?_, fun r r' o o' p p' h1 h2 h3 h4 he => ?_, fun r hr => ?_, fun r hr => ?_, RestZ.le ⟨hW.rest.1, hW.rest.2.1, hg⟩ (ownZ_le hW)⟩
  · simp only [ownZ, ownB] at hz
    split at hz
    · exact hz
    · exact hW.z b o hz
  · simp only [AH.cut] at hr
    simp only [cutS] at hp
    split at hr
    · rename_i hlt
      rw [if_pos hlt] at hp
      obtain ⟨h1, h2⟩ := hW.h r o p hr hp
      refine ⟨?_, ?_⟩
      · simp only [ownZ, ownB]
        rw [if_neg]
        · exact h1
        · rintro ⟨r', o', p', hr', hg', hp', hb'⟩
          have := hW.inj r r' o o' p p' hr hg' hp hp' hb'.symm
          omega
      · have hsc := hs r o p hlt hr hp
        have hle : Zle Z (ownZ Z σ H k w) := ownZ_le hW
        cases h2 with
        | cells hb hs' hf hl hv h1 => exact .cells hb hs' hf hl ((hv.mono hle (Sle.refl _)).cut hsc) h1
        | map hb hn he =>
          refine .map hb hn fun i kk x n hi => ?_
          obtain ⟨m, g1, g2, g3, g4⟩ := he i kk x n hi
          have hm := hsc _ (List.mem_of_getElem? hi)
          exact ⟨m, g1, (g2.mono hle (Sle.refl _)).cut hm.1, (g3.mono hle (Sle.refl _)).cut hm.2, g4⟩
    · cases hr
  · simp only [AH.cut] at h1 h2
    simp only [cutS] at h3 h4
    split at h1 <;> (try (cases h1; done))
    split at h2 <;> (try (cases h2; done))
    rename_i a b
    rw [if_pos a] at h3
    rw [if_pos b] at h4
    exact hW.inj r r' o o' p p' h1 h2 h3 h4 he
  · have : ¬ r < k := by have : k ≤ r := hr; omega
    simp [cutS, this]
  · have : ¬ r < k := by have : k ≤ r := hr; omega
    simp [AH.cut, this]
theorem FrzRs.len {l l' : List AV} (h : FrzRs H k l l') : l.length = l'.length := by
  induction l generalizing l' with
  | nil => cases h; rfl
  | cons x l ih => cases h with | cons a b => simp [ih b]
mutual
theorem FrzR.sound (hW : WR Z σ H w) : ∀ {x y : AV}, FrzR H k x y → ∀ {v : Value}, VR Z σ x v → VR (ownZ Z σ H k w) (cutS k σ) y v
  | _, _, .low h, v, hv => (hv.mono (ownZ_le hW) (Sle.refl _)).cut h
  | _, _, .unk _, v, _ => .unk v
  | _, _, @FrzR.sl _ _ r o n m lim l l' ex hr hc hm hl hn hx, v, hv => by
    have hlen : m = l'.length := by have := hl.len; simp at this; omega
    have main : ∀ (p : Plc), σ r = some p → ∀ cap, n ≤ cap → (ex = true → cap = n) → VR (ownZ Z σ H k w) (cutS k σ) (.sim l' n ex) (.slice (some ⟨p.b, p.base + o, none⟩) n cap) := by
      intro p hp cap hcap hxc
      obtain ⟨_, c, el, fr, hb, _, _, h4, h5, h6⟩ := hW.row hc hp
      have hz := ownZ_at (Z := Z) (w := w) hr (cells?_some hc) hp
      rw [hb] at hz
      have e1 : (c.toList.drop (p.base + o)).take l'.length = (((c.toList.drop p.base).take l.length).drop o).take m := by
        rw [List.drop_take, List.drop_drop, List.take_take, Nat.min_eq_left (by omega), hlen]
      refine .sim hcap hxc rfl hz ?_ ?_
      · simp only [e1]; intro u hu; exact h6 u (List.mem_of_mem_drop (List.mem_of_mem_take hu))
      · simp only [e1]; exact FrzRs.sound hW hl ((h5.drop _).take _)
    cases hv with
    | slx hp hnm => exact main _ hp _ hnm (fun h => by have := hx h; simp only [Lim.ex.injEq] at this; exact this)
    | slxz hp ad =>
      have h0 : l' = [] := List.eq_nil_of_length_eq_zero (by rw [← hlen]; exact hn rfl)
      subst h0; exact .simz ad (fun _ => rfl)
    | slo hp hnm hs => exact main _ hp _ hnm (fun h => by have := hx h; cases this)
    | sloz hp ad =>
      have h0 : l' = [] := List.eq_nil_of_length_eq_zero (by rw [← hlen]; exact hn rfl)
      subst h0; exact .simz ad (fun _ => rfl)
  | _, _, @FrzR.ptr _ _ r o l l' hr hc hl, v, hv => by
    obtain ⟨p, hp, rfl⟩ := hv.ptr_inv
    obtain ⟨_, c, el, fr, hb, _, _, h4, h5, h6⟩ := hW.row hc hp
    have hz := ownZ_at (Z := Z) (w := w) hr (cells?_some hc) hp
    rw [hb] at hz
    have hlen := hl.len
    refine .pim hz ?_ ?_
    · rw [← hlen]; exact h6
    · rw [← hlen]; exact FrzRs.sound hW hl h5
  | _, _, .ifc h, v, hv => by cases hv with | ifc hv => exact .ifc (FrzR.sound hW h hv)
  | _, _, .agg h, v, hv => by cases hv with | agg h1 hv => exact .agg h1 (FrzRs.sound hW h hv)
  | _, _, .tup h, v, hv => by cases hv with | tup hv => exact .tup (FrzRs.sound hW h hv)
  | _, _, .fn h1 h2, v, hv => by cases hv with | fn a b => exact .fn (FrzRs.sound hW h1 a) (FrzRs.sound hW h2 b)
theorem FrzRs.sound (hW : WR Z σ H w) : ∀ {l l' : List AV}, FrzRs H k l l' → ∀ {vs : List Value}, VRs Z σ l vs → VRs (ownZ Z σ H k w) (cutS k σ) l' vs
  | _, _, .nil, vs, hv => by cases hv; exact .nil
  | _, _, .cons h t, vs, hv => by cases hv with | cons a b => exact .cons (FrzR.sound hW h a) (FrzRs.sound hW t b)
end
def FrzO (H : AH) (k : Nat) : AOut → AOut → Prop
  | .ret x, .ret y => FrzR H k x y
  | .pan x, .pan y => FrzR H k x y
  | _, _ => False
theorem ACall.scope {P : Program} {f : FuncId} {args : List AV} {H : AH} {post0 post : AOut → AH → Prop} (h : Scs H.next args → (∀ r, H.next ≤ r → H.get r = none) → ACall P f args H post0)
    (hE : Enters P f)
    (hp : Scs H.next args → (∀ r, H.next ≤ r → H.get r = none) → ∀ out H', post0 out H' → ∃ out', FrzO H' H.next out out' ∧ (∀ r o, r < H.next → H'.get r = some o → H.get r = some o ∨ ScO H.next o) ∧ post out' (H'.cut H.next H.gl)) :
    ACall P f args H post := by
  refine ⟨hE, fun Z σ w vs hW hv => ?_⟩
  have hsc : Scs H.next args := Scs_of_VRs hW.fresh hv
  refine ((h hsc hW.top).2 Z σ w vs hW hv).mono fun x w' hx => ?_
  obtain ⟨Z', σ', H', out, g1, g2, g3, g4, g5, g6⟩ := hx
  obtain ⟨out', k1, k2, k3⟩ := hp hsc hW.top out H' g6
  have hall : ∀ r o p, r < H.next → H'.get r = some o → σ' r = some p → ScO H.next o := by
    intro r o p hr ho hp
    rcases k2 r o hr ho with h | h
    · have hp' : σ r = some p := by rw [← g2 r hr]; exact hp
      have := (hW.h r o p h hp').2
      cases this with
      | cells hb hs' hf hl hv h1 => exact Scs_of_VRs hW.fresh hv
      | map hb hn he =>
        intro e hm
        obtain ⟨i, hi⟩ := List.getElem?_of_mem hm
        obtain ⟨m, q1, q2, q3, q4⟩ := he i e.1 e.2.1 e.2.2 hi
        exact ⟨Sc_of_VR hW.fresh q2, Sc_of_VR hW.fresh q3⟩
    · exact h
  refine ⟨ownZ Z' σ' H' H.next w', cutS H.next σ', H'.cut H.next H.gl, out', g1.trans (ownZ_le g4), fun r hr => ?_, Nat.le_refl _, g4.cutAll hall (fun b o hb => ⟨g1.le _ _ (hW.rest.2.2 b o hb).1, (hW.rest.2.2 b o hb).2⟩), ?_, k3⟩
  · simp only [cutS, hr, if_true]; exact g2 r hr
  · cases out <;> cases out' <;> simp only [FrzO] at k1
    · obtain ⟨cv, rfl, hv⟩ := g5; exact ⟨cv, rfl, k1.sound g4 hv⟩
    · obtain ⟨cv, rfl, hv⟩ := g5; exact ⟨cv, rfl, k1.sound g4 hv⟩
theorem AH.cut_same {H H' : AH} (htop : ∀ r, H.next ≤ r → H.get r = none) (h : ∀ r, r < H.next → H'.get r = H.get r) : H'.cut H.next H.gl = H := by
  refine AH.ext (fun r => ?_) rfl
  simp only [AH.cut]
  split
  · exact h r ‹_›
  · rw [htop r (by omega)]
theorem ACall.pure {P : Program} {f : FuncId} {args : List AV} {H : AH} {post : AOut → Prop}
    (hE : Enters P f)
    (h : Scs H.next args → ACall P f args H (fun out H' => (∀ r, r < H.next → H'.get r = H.get r) ∧ ∃ out', FrzO H' H.next out out' ∧ post out')) :
    ACall P f args H (fun out H' => post out ∧ H' = H) := by
  refine ACall.scope (fun hs _ => h hs) hE fun hs htop out H' hx => ?_
  obtain ⟨h1, out', h2, h3⟩ := hx
  exact ⟨out', h2, fun r o hr ho => .inl (by rw [← h1 r hr]; exact ho), h3, AH.cut_same htop h1⟩
end
end Go.AL
namespace Go.AL
variable [YC] {P : Program} {e : Env} {H : AH} {K : Env → AH → Prop} {Kp : AV → Env → AH → Prop} {l : List AOper} {d : Option Nat} {k : AK} {s : Nat} {w b : Bool} {v : AV × AH} {g : FuncId} {f : AOpd} {args : List AOpd} {as first cap : List AV}
def AK.plain : AK → Bool
  | .call _ _ | .defer _ _ | .panic _ | .recover => false
  | _ => true
theorem aop_plain {K Kp : AV → AH → Prop} (hp : k.plain = true) (h : aone k e H = some v) (hK : K v.1 v.2) : aop P k e H K Kp := by
  cases k <;> first | (cases hp; done) | (simp only [aop, h]; exact hK)
theorem w_nil (h : K e H) : aops P [] e H K Kp := h
theorem aops_none (hd : k.isDefer = false) (h : aop P k e H (fun v H' => aops P l (e.put d v) H' K Kp) (fun v H' => Kp v e H')) : aops P (⟨d, k, none⟩ :: l) e H K Kp := by
  cases k <;> first | (cases hd; done) | exact h
theorem plain_nd (hp : k.plain = true) : k.isDefer = false := by cases k <;> first | rfl | cases hp
theorem w_op (h : aone k e H = some v) (hp : k.plain = true) (hK : aops P l (e.put d v.1) v.2 K Kp) : aops P (⟨d, k, none⟩ :: l) e H K Kp :=
  aops_none (plain_nd hp) (aop_plain hp h hK)
theorem w_gdO {b : Option Bool} (hb : agd (e s) = some b) (h : b = some w → aop P k e H (fun v H' => aops P l (e.put d v) H' K Kp) (fun v H' => Kp v e H')) (hN : b ≠ some w → aops P l (e.put d aud) H K Kp) : aops P (⟨d, k, some (s, w)⟩ :: l) e H K Kp := by
  simp only [aops, hb]; exact ⟨h, hN⟩
theorem w_gd (hb : e s = .bool b) (h : b = w → aop P k e H (fun v H' => aops P l (e.put d v) H' K Kp) (fun v H' => Kp v e H')) (hN : b ≠ w → aops P l (e.put d aud) H K Kp) : aops P (⟨d, k, some (s, w)⟩ :: l) e H K Kp :=
  w_gdO (b := some b) (by rw [hb]; rfl) (fun hh => h (by simpa using hh)) (fun hh => hN (by simpa using hh))
theorem w_on (hb : e s = .bool w) (h : aone k e H = some v) (hp : k.plain = true) (hK : aops P l (e.put d v.1) v.2 K Kp) : aops P (⟨d, k, some (s, w)⟩ :: l) e H K Kp :=
  w_gd hb (fun _ => aop_plain hp h hK) (fun hh => absurd rfl hh)
theorem w_off (hb : e s = .bool b) (hw : b = !w) (hK : aops P l (e.put d aud) H K Kp) : aops P (⟨d, k, some (s, w)⟩ :: l) e H K Kp :=
  w_gd hb (fun hh => by subst hh; cases b <;> cases hw) (fun _ => hK)
theorem w_skip (hb : e s = aud) (hK : aops P l (e.put d aud) H K Kp) : aops P (⟨d, k, some (s, w)⟩ :: l) e H K Kp :=
  w_gdO (b := none) (by rw [hb]; rfl) (fun hh => by cases hh) (fun _ => hK)
theorem aop_call {K Kp : AV → AH → Prop} {post : AOut → AH → Prop} (hf : f.ev e = .fn (.func g) first cap) (ha : first ++ args.map (·.ev e) ++ cap = as) (hC : ACall P g as H post)
    (hK : ∀ v H', post (.ret v) H' → K v H') (hP : ∀ v H', post (.pan v) H' → Kp v H') : aop P (.call f args) e H K Kp := by
  simp only [aop, ACallV, hf]
  subst ha
  exact hC.mono fun o H' h => by cases o with
    | ret v => exact hK v H' h
    | pan v => exact hP v H' h
theorem w_callG {post : AOut → AH → Prop} (hf : f.ev e = .fn (.func g) first cap) (ha : first ++ args.map (·.ev e) ++ cap = as) (hC : ACall P g as H post)
    (hK : ∀ v H', post (.ret v) H' → aops P l (e.put d v) H' K Kp) (hP : ∀ v H', post (.pan v) H' → Kp v e H') : aops P (⟨d, .call f args, none⟩ :: l) e H K Kp :=
  aops_none rfl (aop_call hf ha hC hK hP)
abbrev RetF (P : Program) (g : FuncId) (as : List AV) (H : AH) (r : AV) (H1 : AH) : Prop := ACall P g as H (fun o H' => o = .ret r ∧ H' = H1)
theorem aop_callF {K Kp : AV → AH → Prop} {r : AV} {H1 : AH} (hf : f.ev e = .fn (.func g) first cap) (ha : first ++ args.map (·.ev e) ++ cap = as) (hC : RetF P g as H r H1) (hK : K r H1) : aop P (.call f args) e H K Kp :=
  aop_call hf ha hC (fun v H' h => by obtain ⟨h1, rfl⟩ := h; cases h1; exact hK) (fun v H' h => by cases h.1)
theorem w_call {r : AV} {H1 : AH} (hf : f.ev e = .fn (.func g) first cap) (ha : first ++ args.map (·.ev e) ++ cap = as) (hC : RetF P g as H r H1) (hK : aops P l (e.put d r) H1 K Kp) : aops P (⟨d, .call f args, none⟩ :: l) e H K Kp :=
  aops_none rfl (aop_callF hf ha hC hK)
section
variable {Q : Ex → Env → AH → Prop} {x y : ACode} {c : AOpd} {id : Nat} {ops : List AOper} {plan : List DIt}
def seqQ (P : Program) (y : ACode) (Q : Ex → Env → AH → Prop) : Ex → Env → AH → Prop := fun x e' H' => match x with
  | .normal => D P y Q e' H'
  | x => Q x e' H'
def blkQ (id : Nat) (Q : Ex → Env → AH → Prop) : Ex → Env → AH → Prop := fun x e' H' => match x with
  | .exit i => if i = id then Q .normal e' H' else Q (.exit i) e' H'
  | x => Q x e' H'
def loopQ (I : Env → AH → Prop) (m : Nat) (μ : Env → AH → Nat) (Q : Ex → Env → AH → Prop) : Ex → Env → AH → Prop := fun x e' H' => match x with
  | .normal => I e' H' ∧ μ e' H' < m
  | x => Q x e' H'
theorem d_skip (h : Q .normal e H) : D P .skip Q e H := h
theorem d_seq (h : D P x (seqQ P y Q) e H) : D P (.seq x y) Q e H := h
theorem vs_same (h : Q .normal e H) : vsQ Q .normal e H := ⟨e, H, VS.refl _ _, h⟩
theorem d_regV (h : aops P ops e H (fun e' H' => vsQ Q .normal e' H') (fun v e' H' => Q (.pan v) e' H')) : D P (.reg ops) Q e H := h
theorem d_sregV (h : aops P ops e H (fun e' H' => vsQ (seqQ P y Q) .normal e' H') (fun v e' H' => Q (.pan v) e' H')) : D P (.seq (.reg ops) y) Q e H := h
theorem d_dregV (h : adops P (clr plan e) (fun e' H' => vsQ Q .normal e' H') (fun v e' H' => Q (.pan v) e' H') plan e H []) : D P (.dreg plan) Q e H := h
theorem d_sdregV (h : adops P (clr plan e) (fun e' H' => vsQ (seqQ P y Q) .normal e' H') (fun v e' H' => Q (.pan v) e' H') plan e H []) : D P (.seq (.dreg plan) y) Q e H := h
theorem vs_seq (h : D P y Q e H) : vsQ (seqQ P y Q) .normal e H := ⟨e, H, VS.refl _ _, h⟩
theorem d_cond {t : Bool} (hc : c.ev e = .bool t) (h1 : t = true → D P x Q e H) (h2 : t = false → D P y Q e H) : D P (.cond c x y) Q e H := by
  simp only [D, hc]; exact ⟨h1, h2⟩
theorem d_block (h : D P x (blkQ id Q) e H) : D P (.block id x) Q e H := h
theorem d_loop (I : Env → AH → Prop) (μ : Env → AH → Nat) (h0 : I e H) (h : ∀ e H, I e H → D P x (loopQ I (μ e H) μ Q) e H) : D P (.loop x) Q e H := ⟨I, μ, h0, h⟩
theorem d_exit (h : Q (.exit id) e H) : D P (.exit id) Q e H := h
theorem d_ret (h : Q .ret e H) : D P .ret Q e H := h
theorem q_seq (h : D P y Q e H) : seqQ P y Q .normal e H := h
theorem q_seq_ret (h : Q .ret e H) : seqQ P y Q .ret e H := h
theorem q_seq_exit (h : Q (.exit id) e H) : seqQ P y Q (.exit id) e H := h
theorem q_blk (h : Q .normal e H) : blkQ id Q .normal e H := h
theorem q_blk_ret (h : Q .ret e H) : blkQ id Q .ret e H := h
theorem q_blk_exit (h : Q .normal e H) : blkQ id Q (.exit id) e H := by simp only [blkQ, if_true]; exact h
theorem q_blk_out {i : Nat} (hi : i ≠ id) (h : Q (.exit i) e H) : blkQ id Q (.exit i) e H := by simp only [blkQ, hi, if_false]; exact h
theorem q_loop {I : Env → AH → Prop} {m : Nat} {μ : Env → AH → Nat} (h : I e H) (hm : μ e H < m) : loopQ I m μ Q .normal e H := ⟨h, hm⟩
theorem q_loop_ret {I : Env → AH → Prop} {m : Nat} {μ : Env → AH → Nat} (h : Q .ret e H) : loopQ I m μ Q .ret e H := h
theorem q_loop_exit {I : Env → AH → Prop} {m : Nat} {μ : Env → AH → Nat} (h : Q (.exit id) e H) : loopQ I m μ Q (.exit id) e H := h
end
end Go.AL
namespace Go.AL
variable [YC] {P : Program} {ep e : Env} {H : AH} {K : Env → AH → Prop} {Kp : AV → Env → AH → Prop} {l : List DIt} {d : Option Nat} {k : AK} {s i m : Nat} {w b : Bool} {v : AV} {fl : List Nat} {pend : Pend} {g : FuncId} {f : AOpd} {args : List AOpd} {as first cap : List AV}
theorem p_nil (h : K e H) : adops P ep K Kp [] e H pend := h
theorem p_pure (h : apure k e = some v) (hK : adops P ep K Kp l (e.put d v) H pend) : adops P ep K Kp (⟨i, ⟨d, k, none⟩, m, fl, false⟩ :: l) e H pend := by
  simp only [adops, h]; exact hK
theorem p_read (h0 : apure k e = none) (h : aread k e H = some v) (hK : adops P ep K Kp l (e.put d v) H ((i, fun H' => aread k e H' = some v) :: pend)) : adops P ep K Kp (⟨i, ⟨d, k, none⟩, m, fl, false⟩ :: l) e H pend := by
  simp only [adops, h0, h]; exact hK
theorem p_new {c : List AV} {fv : Nat → AV} (h0 : apure k e = none) (h1 : aread k e H = none) (h : anew k e = some (c, fv))
    (hK : adops P ep K Kp l (e.put d (fv H.next)) (H.push (.cells c)) ((i, fun H' => H'.get H.next = some (.cells c)) :: pend)) : adops P ep K Kp (⟨i, ⟨d, k, none⟩, m, fl, false⟩ :: l) e H pend := by
  simp only [adops, h0, h1, h]; exact hK
theorem p_eff (h : aop P k e H (fun v H' => chk fl pend H' ∧ adops P ep K Kp l (e.put d v) H' pend) (fun v H' => Kp v ep H')) : adops P ep K Kp (⟨i, ⟨d, k, none⟩, m, fl, true⟩ :: l) e H pend := by
  simp only [adops]; exact h
theorem p_op {v : AV × AH} (h : aone k e H = some v) (hp : k.plain = true) (hc : chk fl pend v.2) (hK : adops P ep K Kp l (e.put d v.1) v.2 pend) : adops P ep K Kp (⟨i, ⟨d, k, none⟩, m, fl, true⟩ :: l) e H pend :=
  p_eff (aop_plain hp h ⟨hc, hK⟩)
theorem p_call {r : AV} {H1 : AH} (hf : f.ev e = .fn (.func g) first cap) (ha : first ++ args.map (·.ev e) ++ cap = as) (hC : RetF P g as H r H1) (hc : chk fl pend H1) (hK : adops P ep K Kp l (e.put d r) H1 pend) :
    adops P ep K Kp (⟨i, ⟨d, .call f args, none⟩, m, fl, true⟩ :: l) e H pend := p_eff (aop_callF hf ha hC ⟨hc, hK⟩)
theorem p_gdO {ef : Bool} {b : Option Bool} (hb : agd (e s) = some b) (h : b = some w → adops P ep K Kp (⟨i, ⟨d, k, none⟩, m, fl, ef⟩ :: l) e H pend) (hN : b ≠ some w → adops P ep K Kp l (e.put d aud) H pend) :
    adops P ep K Kp (⟨i, ⟨d, k, some (s, w)⟩, m, fl, ef⟩ :: l) e H pend := by
  simp only [adops, hb] at h ⊢; exact ⟨h, hN⟩
theorem p_gd {ef : Bool} (hb : e s = .bool b) (h : b = w → adops P ep K Kp (⟨i, ⟨d, k, none⟩, m, fl, ef⟩ :: l) e H pend) (hN : b ≠ w → adops P ep K Kp l (e.put d aud) H pend) :
    adops P ep K Kp (⟨i, ⟨d, k, some (s, w)⟩, m, fl, ef⟩ :: l) e H pend :=
  p_gdO (b := some b) (by rw [hb]; rfl) (fun hh => h (by simpa using hh)) (fun hh => hN (by simpa using hh))
theorem p_on {ef : Bool} (hb : e s = .bool w) (h : adops P ep K Kp (⟨i, ⟨d, k, none⟩, m, fl, ef⟩ :: l) e H pend) : adops P ep K Kp (⟨i, ⟨d, k, some (s, w)⟩, m, fl, ef⟩ :: l) e H pend :=
  p_gd hb (fun _ => h) (fun hh => absurd rfl hh)
theorem p_off {ef : Bool} (hb : e s = .bool b) (hw : b = !w) (hK : adops P ep K Kp l (e.put d aud) H pend) : adops P ep K Kp (⟨i, ⟨d, k, some (s, w)⟩, m, fl, ef⟩ :: l) e H pend :=
  p_gd hb (fun hh => by subst hh; cases b <;> cases hw) (fun _ => hK)
theorem p_skip {ef : Bool} (hb : e s = aud) (hK : adops P ep K Kp l (e.put d aud) H pend) : adops P ep K Kp (⟨i, ⟨d, k, some (s, w)⟩, m, fl, ef⟩ :: l) e H pend :=
  p_gdO (b := none) (by rw [hb]; rfl) (fun hh => by cases hh) (fun _ => hK)
theorem w_onG {al : List AOper} (hb : e s = .bool w) (h : aops P (⟨d, k, none⟩ :: al) e H K Kp) (hd : k.isDefer = false) : aops P (⟨d, k, some (s, w)⟩ :: al) e H K Kp := by
  refine w_gd hb (fun _ => ?_) (fun hh => absurd rfl hh)
  cases k <;> first | (cases hd; done) | exact h
end Go.AL
namespace Go.AL
structure Fun (P : Program) (f : FuncId) (n : Nat) (ac : ACode) (ars : List ARes) : Prop where
  ex : ∃ (fn : Func) (c : Code) (hs : Hints), P.funcs[f]? = some fn ∧ fn.name ≠ "runtime.NumGoroutine" ∧ fn.body = some c ∧ fn.ntmps = n ∧ comp P hs n c = some ac ∧ cRess P fn.results.toList = some ars
  mix : P.follows .mixedOrders = true
  le : n ≤ dslot
theorem Fun.mk' {P : Program} {f : FuncId} {fn : Func} {n : Nat} {hs : Hints} {ac : ACode} {ars : List ARes} (hmix : P.follows .mixedOrders = true) (hf : P.funcs[f]? = some fn) (hname : (fn.name == "runtime.NumGoroutine") = false)
    (hn : fn.ntmps = n) (hb : fn.body.bind (comp P hs n) = some ac) (hr : cRess P fn.results.toList = some ars) (hle : Nat.ble n dslot = true) : Fun P f n ac ars := by
  obtain ⟨c, hc, hcc⟩ := Option.bind_eq_some_iff.1 hb
  exact ⟨⟨fn, c, hs, hf, by simpa using hname, hc, hn, hcc, hr⟩, hmix, Nat.le_of_ble_eq_true hle⟩
theorem Fun.enters {P : Program} {f : FuncId} {n : Nat} {ac : ACode} {ars : List ARes} (h : Fun P f n ac ars) : Enters P f := by
  obtain ⟨fn, c, hs, h1, h2, h3, _⟩ := h.ex
  exact ⟨fn, h1, h2, by rw [h3]; rfl⟩
theorem Fun.call {P : Program} {f : FuncId} {n : Nat} {ac : ACode} {ars : List ARes} (h : Fun P f n ac ars) {args : List AV} {H : AH} {post : AOut → AH → Prop} (hlen : args.length ≤ n)
    (hD : D P ac (fun x e H => e dslot = .tup [] ∧ fpost ars post x e H) (env0 args) H) : ACall P f args H post := by
  obtain ⟨fn, c, hs, h1, h2, h3, h4, h5, h6⟩ := h.ex
  subst h4
  exact acall_of_D h.mix h1 h2 h3 h.le hlen h5 h6 hD
theorem Fun.callm {P : Program} {f : FuncId} {n : Nat} {ac : ACode} {ars : List ARes} (h : Fun P f n ac ars) {args : List AV} {H : AH} {post : AOut → AH → Prop} (hlen : args.length ≤ n)
    (hD : D P ac (fun x e H => (∃ ds, e dslot = .tup ds ∧ ∀ x ∈ ds, x = .nili) ∧ fpost ars post x e H) (env0 args) H) : ACall P f args H post := by
  obtain ⟨fn, c, hs, h1, h2, h3, h4, h5, h6⟩ := h.ex
  subst h4
  exact acall_of_Dm h.mix h1 h2 h3 h.le hlen h5 h6 hD
theorem Fun.pure {P : Program} {f : FuncId} {n : Nat} {ac : ACode} {ars : List ARes} (h : Fun P f n ac ars) {args : List AV} {H : AH} {r : AV} (hlen : args.length ≤ n)
    (hD : Scs H.next args → (∀ r, H.next ≤ r → H.get r = none) → D P ac (fun x e H' => e dslot = .tup [] ∧ fpost ars (fun out H' => (∀ r, r < H.next → H'.get r = H.get r) ∧ ∃ v, out = .ret v ∧ FrzR H' H.next v r) x e H') (env0 args) H) : RetF P f args H r H := by
  refine (ACall.scope (post0 := fun out H' => (∀ r, r < H.next → H'.get r = H.get r) ∧ ∃ v, out = .ret v ∧ FrzR H' H.next v r) (post := fun o H' => o = .ret r ∧ H' = H) (fun hs htop => h.call hlen (hD hs htop)) h.enters ?_)
  rintro hs htop out H' ⟨h1, v, rfl, h2⟩
  exact ⟨.ret r, h2, fun r o hr ho => .inl (by rw [← h1 r hr]; exact ho), rfl, AH.cut_same htop h1⟩
end Go.AL
namespace Go.AL
mutual
inductive FrzV (H : AH) (R : Nat → Prop) : AV → AV → Prop
  | same (x : AV) : FrzV H R x x
  | unk (x : AV) : FrzV H R x .unk
  | sl {r o n m : Nat} {lim : Lim} {l l' : List AV} {ex : Bool} (hr : R r) (hc : H.cells? r = some l) (hm : o + m ≤ l.length) (hl : FrzVs H R ((l.drop o).take m) l') (hn : n = 0 → m = 0) (hx : ex = true → lim = .ex n) :
      FrzV H R (.sl r o n lim) (.sim l' n ex)
  | ptr {r o : Nat} {l l' : List AV} (hr : R r) (hc : H.cells? r = some l) (hl : FrzVs H R l l') : FrzV H R (.ptr r o) (.pim l' o)
  | ifc {t : TypeId} {x y : AV} (h : FrzV H R x y) : FrzV H R (.ifc t x) (.ifc t y)
  | agg {l l' : List AV} (h : FrzVs H R l l') : FrzV H R (.agg l) (.agg l')
  | tup {l l' : List AV} (h : FrzVs H R l l') : FrzV H R (.tup l) (.tup l')
  | fn {f : Fn} {a b a' b' : List AV} (h1 : FrzVs H R a a') (h2 : FrzVs H R b b') : FrzV H R (.fn f a b) (.fn f a' b')
inductive FrzVs (H : AH) (R : Nat → Prop) : List AV → List AV → Prop
  | nil : FrzVs H R [] []
  | cons {x y : AV} {l l' : List AV} (h : FrzV H R x y) (t : FrzVs H R l l') : FrzVs H R (x :: l) (y :: l')
end
theorem FrzVs.same {H : AH} {R : Nat → Prop} : ∀ (l : List AV), FrzVs H R l l
  | [] => .nil
  | x :: l => .cons (.same x) (FrzVs.same l)
theorem FrzVs.len {H : AH} {R : Nat → Prop} {l l' : List AV} (h : FrzVs H R l l') : l.length = l'.length := by
  induction l generalizing l' with
  | nil => cases h; rfl
  | cons x l ih => cases h with | cons a b => simp [ih b]
open Classical in
noncomputable def frB (Z : Zt) (σ : Sg) (H : AH) (R : Nat → Prop) (w : World) (b : Nat) : Option Obj :=
  if (∃ r o p, R r ∧ H.get r = some o ∧ σ r = some p ∧ p.b = b) then w.heap[b]? else Z b
noncomputable def frZ (Z : Zt) (σ : Sg) (H : AH) (R : Nat → Prop) (w : World) : Zt := { Z with blk := frB Z σ H R w }
section
variable {Z : Zt} {σ : Sg} {H : AH} {w : World} {R : Nat → Prop}
theorem frZ_le (hW : WR Z σ H w) : Zle Z (frZ Z σ H R w) := by
  refine ⟨fun b o hz => ?_, rfl, rfl, rfl, rfl⟩
  simp only [frZ, frB]
  split
  · exact hW.z b o hz
  · exact hz
theorem frZ_at {r : Nat} {o : AObj} {p : Plc} (hr : R r) (hg : H.get r = some o) (hp : σ r = some p) : frZ Z σ H R w p.b = w.heap[p.b]? := by
  simp only [frZ, frB]; rw [if_pos ⟨r, o, p, hr, hg, hp, rfl⟩]
mutual
theorem FrzV.sound (hW : WR Z σ H w) : ∀ {x y : AV}, FrzV H R x y → ∀ {v : Value}, VR Z σ x v → VR (frZ Z σ H R w) σ y v
  | _, _, .same x, v, hv => hv.mono (frZ_le hW) (Sle.refl _)
  | _, _, .unk _, v, _ => .unk v
  | _, _, @FrzV.sl _ _ r o n m lim l l' ex hr hc hm hl hn hx, v, hv => by
    have hlen : m = l'.length := by have := hl.len; simp at this; omega
    have main : ∀ (p : Plc), σ r = some p → ∀ cap, n ≤ cap → (ex = true → cap = n) → VR (frZ Z σ H R w) σ (.sim l' n ex) (.slice (some ⟨p.b, p.base + o, none⟩) n cap) := by
      intro p hp cap hcap hxc
      obtain ⟨_, c, el, fr, hb, _, _, h4, h5, h6⟩ := hW.row hc hp
      have hz := frZ_at (Z := Z) (w := w) hr (cells?_some hc) hp
      rw [hb] at hz
      have e1 : (c.toList.drop (p.base + o)).take l'.length = (((c.toList.drop p.base).take l.length).drop o).take m := by
        rw [List.drop_take, List.drop_drop, List.take_take, Nat.min_eq_left (by omega), hlen]
      refine .sim hcap hxc rfl hz ?_ ?_
      · simp only [e1]; intro u hu; exact h6 u (List.mem_of_mem_drop (List.mem_of_mem_take hu))
      · simp only [e1]; exact FrzVs.sound hW hl ((h5.drop _).take _)
    cases hv with
    | slx hp hnm => exact main _ hp _ hnm (fun h => by have := hx h; simp only [Lim.ex.injEq] at this; exact this)
    | slxz hp ad =>
      have h0 : l' = [] := List.eq_nil_of_length_eq_zero (by rw [← hlen]; exact hn rfl)
      subst h0; exact .simz ad (fun _ => rfl)
    | slo hp hnm hs => exact main _ hp _ hnm (fun h => by have := hx h; cases this)
    | sloz hp ad =>
      have h0 : l' = [] := List.eq_nil_of_length_eq_zero (by rw [← hlen]; exact hn rfl)
      subst h0; exact .simz ad (fun _ => rfl)
  | _, _, @FrzV.ptr _ _ r o l l' hr hc hl, v, hv => by
    obtain ⟨p, hp, rfl⟩ := hv.ptr_inv
    obtain ⟨_, c, el, fr, hb, _, _, h4, h5, h6⟩ := hW.row hc hp
    have hz := frZ_at (Z := Z) (w := w) hr (cells?_some hc) hp
    rw [hb] at hz
    have hlen := hl.len
    refine .pim hz ?_ ?_
    · rw [← hlen]; exact h6
    · rw [← hlen]; exact FrzVs.sound hW hl h5
  | _, _, .ifc h, v, hv => by cases hv with | ifc hv => exact .ifc (FrzV.sound hW h hv)
  | _, _, .agg h, v, hv => by cases hv with | agg h1 hv => exact .agg h1 (FrzVs.sound hW h hv)
  | _, _, .tup h, v, hv => by cases hv with | tup hv => exact .tup (FrzVs.sound hW h hv)
  | _, _, .fn h1 h2, v, hv => by cases hv with | fn a b => exact .fn (FrzVs.sound hW h1 a) (FrzVs.sound hW h2 b)
theorem FrzVs.sound (hW : WR Z σ H w) : ∀ {l l' : List AV}, FrzVs H R l l' → ∀ {vs : List Value}, VRs Z σ l vs → VRs (frZ Z σ H R w) σ l' vs
  | _, _, .nil, vs, hv => by cases hv; exact .nil
  | _, _, .cons h t, vs, hv => by cases hv with | cons a b => exact .cons (FrzV.sound hW h a) (FrzVs.sound hW t b)
end
theorem WR.freezeR (hW : WR Z σ H w) {H' : AH} (hn : H'.next = H.next) (hH : ∀ r o, H'.get r = some o → ¬ R r ∧ (H.get r = some o ∨ ∃ l l', o = .cells l' ∧ H.get r = some (.cells l) ∧ FrzVs H R l l')) (hg : H'.gl = H.gl := by rfl) : WR (frZ Z σ H R w) σ H' w := by
  have old : ∀ r o, H'.get r = some o → ∃ o0, H.get r = some o0 := fun r o h => by
    rcases (hH r o h).2 with h | ⟨l, l', _, h, _⟩
    · exact ⟨_, h⟩
    · exact ⟨_, h⟩
  refine ⟨fun b o hz => ?_, fun r o p hr hp => ?_, fun r r' o o' p p' h1 h2 h3 h4 he => ?_, fun r hr => hW.fresh r (by omega), fun r hr => ?_, by rw [hg]; exact hW.rest.le (frZ_le hW)⟩
  · simp only [frZ, frB] at hz
    split at hz
    · exact hz
    · exact hW.z b o hz
  · obtain ⟨hnR, hor⟩ := hH r o hr
    have blk : ∀ o0, H.get r = some o0 → frZ Z σ H R w p.b = none := by
      intro o0 h0
      simp only [frZ, frB]
      rw [if_neg]
      · exact (hW.h r o0 p h0 hp).1
      · rintro ⟨r', o', p', hr', hg', hp', hb'⟩
        have := hW.inj r r' _ _ p p' h0 hg' hp hp' hb'.symm
        subst this; exact hnR hr'
    rcases hor with h0 | ⟨l, l', rfl, h0, hf⟩
    · exact ⟨blk _ h0, ((hW.h r o p h0 hp).2).mono (frZ_le hW) (Sle.refl _) rfl⟩
    · refine ⟨blk _ h0, ?_⟩
      have := (hW.h r _ p h0 hp).2
      have hlen := hf.len
      cases this with
      | cells hb hs hf' hl hv h1 => exact .cells hb hs hf' (by rw [← hlen]; exact hl) (by rw [← hlen]; exact FrzVs.sound hW hf hv) (by rw [← hlen]; exact h1)
  · obtain ⟨o1, g1⟩ := old r o h1
    obtain ⟨o2, g2⟩ := old r' o' h2
    exact hW.inj r r' o1 o2 p p' g1 g2 h3 h4 he
  · cases hh : H'.get r with
    | none => rfl
    | some o => obtain ⟨o0, h0⟩ := old r o hh; rw [hW.top r (by omega)] at h0; cases h0
end
theorem VS.freeze {e e' : Env} {H H' : AH} (R : Nat → Prop) (hn : H'.next = H.next) (he : ∀ t, FrzV H R (e t) (e' t)) (hd : e' dslot = e dslot)
    (hH : ∀ r o, H'.get r = some o → ¬ R r ∧ (H.get r = some o ∨ ∃ l l', o = .cells l' ∧ H.get r = some (.cells l) ∧ FrzVs H R l l')) (hg : H'.gl = H.gl := by rfl) : VS e H e' H' := by
  intro n Z σ w a hW hF
  refine ⟨frZ Z σ H R w, σ, frZ_le hW, Nw.refl _ _, Nat.le_of_eq hn.symm, hW.freezeR hn hH hg, ⟨fun t ht => (he t).sound hW (hF.er t ht), ?_, hF.sz⟩⟩
  obtain ⟨l, h1, h2⟩ := hF.ds
  exact ⟨l, by rw [hd]; exact h1, h2.mono (frZ_le hW) (Sle.refl _)⟩
end Go.AL
namespace Go.AL
section
variable {P : Program}
def MR (Z : Zt) (σ : Sg) : Option AV → FrameMode → Prop
  | none, u => u = .returning
  | some v, u => ∃ cv, u = .panicking [{ v := cv, recovered := false }] ∧ VR Z σ v cv
theorem MR.mono {Z Z' : Zt} {σ σ' : Sg} (hZ : Zle Z Z') (hS : Sle σ σ') {m : Option AV} {u : FrameMode} (h : MR Z σ m u) : MR Z' σ' m u := by
  cases m with
  | none => exact h
  | some v => obtain ⟨cv, h1, h2⟩ := h; exact ⟨cv, h1, h2.mono hZ hS⟩
def ADef (P : Program) (g : FuncId) (all : List AV) (m : Option AV) (H : AH) (post : AH → Prop) : Prop :=
  Enters P g ∧ ∀ (Z : Zt) (σ : Sg) (w : World) (vs : List Value) (u : FrameMode), WR Z σ H w → VRs Z σ all vs → MR Z σ m u →
    CallsD P g vs.toArray u w fun e u' w' => ∃ v Z' σ' H', e = .returned v ∧ settle u' = .returning ∧ Zle Z Z' ∧ Nw σ H.next σ' ∧ H.next ≤ H'.next ∧ WR Z' σ' H' w' ∧ post H'
theorem ADef.mono {g : FuncId} {all : List AV} {m : Option AV} {H : AH} {post post' : AH → Prop} (h : ADef P g all m H post) (hp : ∀ H', post H' → post' H') : ADef P g all m H post' :=
  ⟨h.1, fun Z σ w vs u h1 h2 h3 => (h.2 Z σ w vs u h1 h2 h3).mono fun _ _ _ ⟨v, Z', σ', H', a, b, c, d, e, f, g⟩ => ⟨v, Z', σ', H', a, b, c, d, e, f, hp _ g⟩⟩
theorem ADef.oldE {g : FuncId} {all : List AV} {m : Option AV} {H : AH} {post : AH → Prop} (hE : Enters P g)
    (h : ∀ (Z : Zt) (σ : Sg) (w : World) (vs : List Value) (u : FrameMode), OldOk Z → WR Z σ H w → VRs Z σ all vs → MR Z σ m u →
      CallsD P g vs.toArray u w fun e u' w' => ∃ v Z' σ' H', e = .returned v ∧ settle u' = .returning ∧ Zle Z Z' ∧ Nw σ H.next σ' ∧ H.next ≤ H'.next ∧ WR Z' σ' H' w' ∧ post H') : ADef P g all m H post := by
  refine ⟨hE, fun Z σ w vs u hW hv hu => ?_⟩
  have c1 : ∀ (Z : Zt) (o : Nat → Prop), Zc Z { Z with old := o } := fun Z o _ _ _ _ h => h
  have wr : ∀ (Z : Zt) (o : Nat → Prop) {σ : Sg} {H : AH} {w : World}, WR Z σ H w → WR { Z with old := o } σ H w := fun Z o σ H w hW =>
    ⟨hW.z, fun r x p h1 h2 => ⟨(hW.h r x p h1 h2).1, ((hW.h r x p h1 h2).2).turn (c1 Z o) rfl⟩, hW.inj, hW.fresh, hW.top, hW.rest⟩
  refine (h { Z with old := fun _ => False } σ w vs u (fun b hb => hb.elim) (wr Z _ hW) (hv.monoC (c1 Z _) (fun _ _ h => h)) ?_).mono ?_
  · cases m with
    | none => exact hu
    | some v => obtain ⟨cv, h1, h2⟩ := hu; exact ⟨cv, h1, h2.monoC (c1 Z _) (fun _ _ h => h)⟩
  · rintro e u' w' ⟨v, Z', σ', H', g1, g2, g3, g4, g5, g6, g7⟩
    exact ⟨v, { Z' with old := Z.old }, σ', H', g1, g2, ⟨g3.le, g3.os, g3.out, g3.frz, rfl⟩, g4, g5, wr Z' _ g6, g7⟩
def dpost (P : Program) (ars : List ARes) (post : AOut → AH → Prop) : Ex → Env → AH → Prop := fun x e H =>
  ∃ g all m, e dslot = .tup [.tup [.fn (.func g) [] [], .tup all]] ∧ (match x with
    | .normal | .ret => m = none
    | .pan v => m = some v
    | .exit _ => False) ∧ ADef P g all m H fun H' => match aress e H' ars with
      | some vs => post (.ret (retv vs)) H'
      | none => False
theorem leaves_one {fn : Func} {ars : List ARes} (hr : cRess P fn.results.toList = some ars) {n : Nat} {Z0 : Zt} {σ0 : Sg} {H0 : AH} {Z : Zt} {σ : Sg} {H : AH} {e : Env} {a : Act} {w : World} {post : AOut → AH → Prop} {g : FuncId} {all : List AV} {m : Option AV} {u : FrameMode}
    (hZ : Zle Z0 Z) (hS : Nw σ0 H0.next σ) (hm : H0.next ≤ H.next) (hW : WR Z σ H w) (he : FR Z σ n e a) (hds : e dslot = .tup [.tup [.fn (.func g) [] [], .tup all]]) (hu : MR Z σ m u)
    (hA : ADef P g all m H fun H' => match aress e H' ars with
      | some vs => post (.ret (retv vs)) H'
      | none => False) :
    Leaves P fn a.tmps (fun en w' => ∃ Z' σ' H' out, Zle Z0 Z' ∧ Nw σ0 H0.next σ' ∧ H0.next ≤ H'.next ∧ WR Z' σ' H' w' ∧ OutR Z' σ' out en ∧ post out H') a.defers u w := by
  obtain ⟨l, k1, k2⟩ := he.ds
  rw [hds] at k1; simp only [AV.tup.injEq] at k1; subst k1
  generalize a.defers = dd at k2
  cases k2 with
  | cons hall ht =>
    rename_i capt args dd'
    cases ht
    have hun : u ≠ .run := by
      cases m with
      | none => intro e; rw [e] at hu; cases hu
      | some v => obtain ⟨cv, h1, _⟩ := hu; rw [h1]; intro e; cases e
    refine leaves_cons (f := g) (args := args ++ capt) hun ?_ ?_
    · show (callFunc g (args ++ capt)).run P w = _
      exact run_callFunc hA.1 _ w
    · have hc := hA.2 Z σ w (args ++ capt).toList u hW hall hu
      have ea : (args ++ capt).toList.toArray = args ++ capt := by simp
      rw [ea] at hc
      refine hc.mono ?_
      rintro en u' w' ⟨v, Z', σ', H', rfl, hs, g1, g2, g3, g4, g5⟩
      simp only [hs]
      show ∃ v, (results fn a.tmps).run P w' = .ok v w' ∧ _
      split at g5
      · rename_i vs hvs
        obtain ⟨cv, r1, r2⟩ := results_run (P := P) g4 (he.er.mono g1 (hW.sle g2)) hr hvs
        exact ⟨cv, r1, Z', σ', H', .ret (retv vs), hZ.trans g1, hS.trans g2 hm, Nat.le_trans hm g3, g4, ⟨cv, rfl, r2⟩, g5⟩
      · exact g5.elim
theorem acall_of_DD {f : FuncId} {fn : Func} {c : Code} {hs : Hints} {ac : ACode} {ars : List ARes} {args : List AV} {H : AH} {post : AOut → AH → Prop} (hmix : P.follows .mixedOrders = true) (hf : P.funcs[f]? = some fn)
    (hname : fn.name ≠ "runtime.NumGoroutine") (hb : fn.body = some c) (hn : fn.ntmps ≤ dslot) (hlen : args.length ≤ fn.ntmps) (hc : comp P hs fn.ntmps c = some ac) (hr : cRess P fn.results.toList = some ars)
    (h : D P ac (dpost P ars post) (env0 args) H) : ACall P f args H post := by
  refine ACall.oldE ⟨fn, hf, hname, by rw [hb]; rfl⟩ fun Z σ w vs hO _ hW hv => calls_of_wp_defers hf hb ?_
  have hl := hv.length
  have hfr : FR Z σ fn.ntmps (env0 args) { tmps := vs.toArray ++ Array.replicate (fn.ntmps - vs.toArray.size) undef, defers := [] } := env0_FR hv hlen hn
  refine Code.wp_mono ?_ (D_sound hmix hn c ac hc Z σ H (env0 args) _ w Z σ H.next _ hO (Zle.refl _) (Nw.refl _ _) (Nat.le_refl _) hW hfr h)
  intro ex a' w' hq
  obtain ⟨Z', σ', z, e', H', g1, g2, g3, g4, g5, g6, g, all, m, hds, hx, hA⟩ := hq
  cases z with
  | normal => cases g6; subst hx; exact leaves_one (m := none) hr g1 g2 g3 g4 g5 hds rfl hA
  | ret => cases g6; subst hx; exact leaves_one (m := none) hr g1 g2 g3 g4 g5 hds rfl hA
  | pan v =>
    obtain ⟨cv, rfl, hv⟩ := g6
    subst hx
    exact leaves_one (m := some v) hr g1 g2 g3 g4 g5 hds ⟨cv, rfl, hv⟩ hA
  | exit i => exact hx.elim
theorem comp_seq_inv {hs : Hints} {n : Nat} {c : Code} {a b : ACode} (h : comp P hs n c = some (.seq a b)) : ∃ c1 c2, c = .seq c1 c2 ∧ comp P hs n c1 = some a ∧ comp P hs n c2 = some b := by
  cases c <;> (try simp only [comp] at h) <;> (try (cases h; done))
  case seq c1 c2 =>
    split at h <;> (try (cases h; done))
    rename_i x1 x2 h1 h2
    simp only [Option.some.injEq, ACode.seq.injEq] at h
    obtain ⟨rfl, rfl⟩ := h
    exact ⟨c1, c2, rfl, h1, h2⟩
  case region id ops draw =>
    cases draw
    · simp [comp] at h
    · simp only [comp] at h
      split at h <;> (try (cases h; done))
      split at h <;> (try (cases h; done))
      split at h <;> simp at h
  case cond => split at h <;> simp at h
  case block => simp at h
  case loop => simp at h
  case rangeFunc => split at h <;> (try split at h) <;> simp at h
  all_goals simp at h
theorem comp_reg_inv {hs : Hints} {n : Nat} {c : Code} {l : List AOper} (h : comp P hs n c = some (.reg l)) : ∃ id ops, c = .region id ops false ∧ compOpers P n ops ops.toList = some l := by
  cases c <;> (try simp only [comp] at h) <;> (try (cases h; done))
  case region id ops draw =>
    cases draw
    · simp only [comp, Option.map_eq_some_iff, ACode.reg.injEq] at h
      obtain ⟨al, hal, rfl⟩ := h
      exact ⟨id, ops, rfl, hal⟩
    · simp only [comp] at h
      split at h <;> (try (cases h; done))
      split at h <;> (try (cases h; done))
      split at h <;> simp at h
  case seq => split at h <;> simp at h
  case cond => split at h <;> simp at h
  case block => simp at h
  case loop => simp at h
  case rangeFunc => split at h <;> (try split at h) <;> simp at h
  all_goals simp at h
def arec : Option AV → AV
  | none => .nili
  | some v => v
theorem adef_of_D {g : FuncId} {fn : Func} {c : Code} {hs : Hints} {rest : ACode} {ra rb : Nat} {all : List AV} {m : Option AV} {H : AH} {post : AH → Prop} (hmix : P.follows .mixedOrders = true) (hf : P.funcs[g]? = some fn)
    (hname : fn.name ≠ "runtime.NumGoroutine") (hb : fn.body = some c) (hn : fn.ntmps ≤ dslot) (hlen : all.length ≤ fn.ntmps)
    (hc : comp P hs fn.ntmps c = some (.seq (.reg [⟨some ra, .recover, none⟩, ⟨some rb, .move (.tmp ra), none⟩]) rest)) (hr : fn.results = #[])
    (h : D P rest (fun x e H' => e dslot = .tup [] ∧ (match x with | .normal | .ret => post H' | _ => False)) (((env0 all).set ra (arec m)).set rb (arec m)) H) : ADef P g all m H post := by
  refine ADef.oldE ⟨fn, hf, hname, by rw [hb]; rfl⟩ fun Z σ w vs u hO hW hv hu => callsD_of_wpS hf hb ?_
  intro c₀ cs hmode
  have hfr : FR Z σ fn.ntmps (env0 all) { tmps := vs.toArray ++ Array.replicate (fn.ntmps - vs.toArray.size) undef, defers := [] } := env0_FR hv hlen hn
  generalize ({ tmps := vs.toArray ++ Array.replicate (fn.ntmps - vs.toArray.size) undef, defers := [] } : Act) = a0 at hfr
  obtain ⟨c1, c2, rfl, hc1, hc2⟩ := comp_seq_inv hc
  refine wpS_seq ?_
  obtain ⟨id, ops, rfl, hal⟩ := comp_reg_inv hc1
  obtain ⟨o1, o2, hops, q1, q2⟩ : ∃ o1 o2, ops.toList = [o1, o2] ∧ compOper P fn.ntmps ops o1 = some ⟨some ra, .recover, none⟩ ∧ compOper P fn.ntmps ops o2 = some ⟨some rb, .move (.tmp ra), none⟩ := by
    cases hl : ops.toList with
    | nil => rw [hl] at hal; simp [compOpers] at hal
    | cons o1 t =>
      cases t with
      | nil =>
        rw [hl] at hal
        simp only [compOpers] at hal
        split at hal <;> simp at hal
        rename_i h1 h2; cases h2; simp at hal
      | cons o2 t =>
        rw [hl] at hal
        simp only [compOpers] at hal
        split at hal <;> (try (cases hal; done))
        rename_i x xs hx hxs
        split at hxs <;> (try (cases hxs; done))
        rename_i y ys hy hys
        simp only [Option.some.injEq] at hxs hal
        subst hxs
        simp only [List.cons.injEq] at hal
        obtain ⟨rfl, rfl, rfl⟩ := hal
        cases t with
        | nil => exact ⟨o1, o2, rfl, hx, hy⟩
        | cons o3 t =>
          simp only [compOpers] at hys
          split at hys <;> simp at hys
  have hops' : ops = #[o1, o2] := Array.ext' (by simpa using hops)
  subst hops'
  obtain ⟨k1, d1, n1, g1⟩ := compOper_inv q1
  obtain ⟨k2, d2, n2, g2⟩ := compOper_inv q2
  have w1 : o1.guard = none := by rcases g1 with ⟨h1, _⟩ | ⟨_, _, _, _, h2, _⟩; exact h1; cases h2
  have w2 : o2.guard = none := by rcases g2 with ⟨h1, _⟩ | ⟨_, _, _, _, h2, _⟩; exact h1; cases h2
  obtain ⟨args, ats, ho1⟩ := compOp_inv k1
  have e1 : (execOp a0.eval o1).run P w = .ok .recover w := by rw [exec_builtin ho1]; simp [builtin]
  have go : ∀ (rv : Value) (u' : FrameMode), VR Z σ (arec m) rv → settle u' = .returning →
      c2.wpS P (bodyPostS P fn c₀ cs (fun e u' w' => ∃ v Z' σ' H', e = .returned v ∧ settle u' = .returning ∧ Zle Z Z' ∧ Nw σ H.next σ' ∧ H.next ≤ H'.next ∧ WR Z' σ' H' w' ∧ post H')) ((a0.put (some ra) rv).put (some rb) rv) ({ c₀ with mode := u' } :: cs) w := by
    intro rv u' hrv hset
    refine wpS_of_wp ?_
    have f1 := hfr.put hn (d := some ra) (fun x hx => n1 x (by rw [← d1]; exact hx)) hrv
    have f2 := f1.put hn (d := some rb) (fun x hx => n2 x (by rw [← d2]; exact hx)) hrv
    refine Code.wp_mono ?_ (D_sound hmix hn c2 _ hc2 Z σ H _ _ w Z σ H.next _ hO (Zle.refl _) (Nw.refl _ _) (Nat.le_refl _) hW f2 h)
    intro ex a' w' hq
    obtain ⟨Z', σ', z, e', H', p1, p2, p3, p4, p5, p6, p7, p8⟩ := hq
    have hd : a'.defers = [] := by
      obtain ⟨l, k1, k2⟩ := p5.ds
      rw [p7] at k1; simp only [AV.tup.injEq] at k1; subst k1
      generalize a'.defers = dd at k2
      cases k2; rfl
    have hres : (results fn a'.tmps).run P w' = .ok (.tuple #[]) w' := by simp [results, hr]
    cases z with
    | normal => cases p6; exact ⟨hd, u', rfl, _, hres, _, Z', σ', H', rfl, hset, p1, p2, p3, p4, p8⟩
    | ret => cases p6; exact ⟨hd, u', rfl, _, hres, _, Z', σ', H', rfl, hset, p1, p2, p3, p4, p8⟩
    | pan v => exact p8.elim
    | exit i => exact p8.elim
  have mv : ∀ (rv : Value) (cs' : List Frame), (∃ u', cs' = { c₀ with mode := u' } :: cs ∧ settle u' = .returning) → VR Z σ (arec m) rv →
      wpOpsS P #[o1, o2] (Exit.thenS (c2.wpS P (bodyPostS P fn c₀ cs (fun e u' w' => ∃ v Z' σ' H', e = .returned v ∧ settle u' = .returning ∧ Zle Z Z' ∧ Nw σ H.next σ' ∧ H.next ≤ H'.next ∧ WR Z' σ' H' w' ∧ post H')))
        (bodyPostS P fn c₀ cs (fun e u' w' => ∃ v Z' σ' H', e = .returned v ∧ settle u' = .returning ∧ Zle Z Z' ∧ Nw σ H.next σ' ∧ H.next ≤ H'.next ∧ WR Z' σ' H' w' ∧ post H'))) [1] (a0.put o1.dst rv) cs' w := by
    rintro rv cs' ⟨u', rfl, hset⟩ hrv
    have hmv : ∃ cv, (execOp (a0.put o1.dst rv).eval o2).run P w = .ok (.value cv) w ∧ cv = rv := by
      have hmove : (execOp (a0.put o1.dst rv).eval o2).run P w = .ok (.value (((a0.put o1.dst rv).tmps).getD ra undef)) w := by
        obtain ⟨y, hy, hc⟩ := compOp_inv k2
        have ey : y = .tmp ra := by
          cases y <;> simp only [cOpd] at hc <;> (try (cases hc; done))
          · split at hc <;> simp only [Option.some.injEq, AOpd.tmp.injEq, reduceCtorEq] at hc
            subst hc; rfl
          · simp only [Option.map_eq_some_iff] at hc; obtain ⟨_, _, hc⟩ := hc; cases hc
        subst ey
        rcases hy with hy | hy <;> (simp only [execOp, hy]; rfl)
      refine ⟨_, hmove, ?_⟩
      have : ra < a0.tmps.size := by rw [hfr.sz]; exact n1 ra (by rw [← d1])
      simp [Act.put, ← d1, this]
    obtain ⟨cv, hmv, rfl⟩ := hmv
    simp only [wpOpsS]
    rw [show (#[o1, o2] : Array Oper)[1]? = some o2 from rfl]
    simp only [Region.wanted, w2, if_true, hmv, Oper.upon_value]
    rw [show o1.dst = some ra from d1.symm, show o2.dst = some rb from d2.symm]
    exact go cv u' hrv hset
  refine wpS_region ?_
  show wpOpsS P #[o1, o2] _ (List.range 2) _ _ _
  have hrange : List.range 2 = [0, 1] := rfl
  rw [hrange]
  rw [wpOpsS]
  rw [show (#[o1, o2] : Array Oper)[0]? = some o1 from rfl]
  simp only [Region.wanted, w1, if_true, e1]
  cases m with
  | none =>
    have hu : u = .returning := hu
    have : recoverD (c₀ :: cs) = none := by simp [recoverD, hmode, hu]
    rw [this]
    exact mv .nilIface _ ⟨.returning, by rw [← hu, ← hmode], rfl⟩ .nili
  | some v =>
    obtain ⟨cv, hu, hcv⟩ := hu
    have : recoverD (c₀ :: cs) = some (cv, { c₀ with mode := .panicking [{ v := cv, recovered := true }] } :: cs) := by simp [recoverD, hmode, hu]
    rw [this]
    exact mv cv _ ⟨_, rfl, rfl⟩ hcv
end
end Go.AL
