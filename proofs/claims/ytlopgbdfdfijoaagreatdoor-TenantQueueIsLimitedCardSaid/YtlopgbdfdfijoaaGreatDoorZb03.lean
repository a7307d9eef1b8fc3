import Derived.Test.YtlopgbdfdfijoaaGreatDoorZb02
import Derived.Test.YtlopgbdfdfijoaaGreatDoorZa04
/-
  what code asks, as printed propositions; the machine with deferred calls; calls at any heap.
-/
set_option linter.unusedSectionVars false
set_option linter.unusedVariables false
set_option linter.unusedSimpArgs false
namespace Go.AL
variable [GLC] [YC]
noncomputable def gndP (e : Env) (ps : List (Nat × Nat × AOpd)) : List (Nat × Nat × AOpd) := List.rec (motive := fun _ => List (Nat × Nat × AOpd)) [] (fun p _ ih => (p.1, p.2.1, .cst (p.2.2.ev e)) :: ih) ps
theorem gndP_eq (e : Env) : ∀ (ps : List (Nat × Nat × AOpd)) (c : List AV), afill emp c (gndP e ps) = afill e c ps
  | [], c => rfl
  | (o, n, x) :: ps, c => by
    show afill emp c ((o, n, .cst (x.ev e)) :: gndP e ps) = _
    simp only [afill, AOpd.ev, gndP_eq e ps]
noncomputable def kgndA (e : Env) (k : AK) : AK := match k with
  | .move x => .move (gnd e x)
  | .pick c a b => .pick (gnd e c) (gnd e a) (gnd e b)
  | .build z ps => .build z (gndP e ps)
  | .nilCheck x => .nilCheck (gnd e x)
  | .bin op x y => .bin op (gnd e x) (gnd e y)
  | .convI k x => .convI k (gnd e x)
  | .mkIface t x => .mkIface t (gnd e x)
  | .fieldAddr off x => .fieldAddr off (gnd e x)
  | .field g off x => .field g off (gnd e x)
  | .indexAddrA n z x i => .indexAddrA n z (gnd e x) (gnd e i)
  | .indexAddrS z x i => .indexAddrS z (gnd e x) (gnd e i)
  | .extract i x => .extract i (gnd e x)
  | .len x => .len (gnd e x)
  | .load g x => .load g (gnd e x)
  | .box x => .box (gnd e x)
  | .buildSlice z n c ps => .buildSlice z n c (gndP e ps)
  | .store n x v => .store n (gnd e x) (gnd e v)
  | .append z b s x => .append z b (gnd e s) (gnd e x)
  | k => kgnd e k
inductive PCl where
  | mv (x : AOpd)
  | ifc (t : TypeId) (x : AOpd)
  | fnc (f : Fn) (a b : List AOpd)
  | call (f : AOpd) (args : List AOpd)
  | pan (x : AOpd)
  | no
  | pu
  | rd
  | ef
def pcl (k : AK) : PCl := match k with
  | .move x => .mv x
  | .mkIface t x => .ifc t x
  | .mkFunc f a b => .fnc f a b
  | .call f args => .call f args
  | .panic x => .pan x
  | .defer _ _ => .no
  | .recover => .no
  | .load .. | .strOfBytes _ | .lookup .. | .lenMap _ | .ext .. => .rd
  | .alloc _ | .box _ | .buildSlice .. | .mkSlice .. | .store .. | .append .. | .mark _ | .appendZ .. | .makeMap | .mapUpd .. | .bytesOf _ | .clr .. | .copy .. => .ef
  | _ => .pu
noncomputable def y_pu (k : AK) (K : AV → Prop) : Prop := Option.rec (motive := fun _ => Prop) False K (apure k emp)
noncomputable def y_rd (k : AK) (H : AH) (K : AV → Prop) : Prop := Option.rec (motive := fun _ => Prop) False K (aread k emp H)
noncomputable def y_ef (k : AK) (H : AH) (K : AV → AH → Prop) : Prop := Option.rec (motive := fun _ => Prop) False (fun p => Prod.rec (motive := fun _ => Prop) K p) (aeff k emp H)
def y_call (P : Program) (g : FuncId) (as : List AV) (H : AH) (Kp K : AV → AH → Prop) : Prop := ACall P g as H fun o H' => match o with
  | .ret v => K v H'
  | .pan v => Kp v H'
def y_yl (fv : AV) (as : List AV) (H : AH) (Kp K : AV → AH → Prop) : Prop := match fv with
  | .fn (.yield l) [] [] => YC.y l as H fun o H' => match o with
    | .ret v => K v H'
    | .pan v => Kp v H'
  | _ => False
noncomputable def y_cl (P : Program) (fv : AV) (as : List AV) (H : AH) (Kp K : AV → AH → Prop) : Prop :=
  FP.rec (motive := fun _ => Prop) (y_yl fv as H Kp K) (fun g first cap => y_call P g (kapp first (kapp as cap)) H Kp K) (toFP fv)
def y_pan (v : AV) (H : AH) (Kp : AV → AH → Prop) : Prop := match v with
  | .ifc t v => Kp (.ifc t v) H
  | _ => False
def y_gd (w : Bool) (v : AV) (A B : Prop) : Prop := match agd v with
  | some b => (b = some w → A) ∧ (b ≠ some w → B)
  | none => False
def y_grp {T : Type} (w : Bool) (v : AV) (J : T) (A B : T → Prop) : Prop := y_gd w v (A J) (B J)
def y_if0 (v : AV) (A B : Prop) : Prop := match v with
  | .bool t => (t = true → A) ∧ (t = false → B)
  | _ => False
def y_if {T : Type} (v : AV) (J : T) (A B : T → Prop) : Prop := y_if0 v (A J) (B J)
def y_blk {T : Type} (J : T) (A : T → Prop) : Prop := A J
abbrev PK := Env → AH → Prop
def JP (l : List Nat) : Type := List.rec (motive := fun _ => Type) (AH → Prop) (fun _ _ t => AV → t) l
def JN (l : List Nat) : Type := List.rec (motive := fun _ => Type) (AH → Nat) (fun _ _ t => AV → t) l
noncomputable def ncall (l : List Nat) : JN l → Env → AH → Nat :=
  List.rec (motive := fun l => JN l → Env → AH → Nat) (fun J _ h => J h) (fun i _ ih J e h => ih (J (e i)) e h) l
noncomputable def pcall0 (l : List Nat) : JP l → PK :=
  List.rec (motive := fun l => JP l → PK) (fun J _ h => J h) (fun i _ ih J e h => ih (J (e i)) e h) l
noncomputable def plam0 (l : List Nat) : Env → PK → JP l :=
  List.rec (motive := fun l => Env → PK → JP l) (fun e0 f h => f e0 h) (fun i _ ih e0 f v => ih (e0.set i v) f) l
def y_loop (l : List Nat) (body : JP l → JP l) (e : Env) (H : AH) : Prop := ∃ (I : JP l) (μ : JN l), pcall0 l I e H ∧ ∀ e H, pcall0 l I e H → pcall0 l (body (plam0 l emp fun e' H' => pcall0 l I e' H' ∧ ncall l μ e' H' < ncall l μ e H)) e H
noncomputable def yTop : Nat :=
  let _a := @y_loop
  let _b := @y_if Nat
  let _c := @y_grp Nat
  let _d := @y_blk Nat
  let _e := y_cl
  let _f := y_pan
  let _g := y_pu
  let _h := y_rd
  let _i := y_ef
  0
noncomputable def pcall (l : List Nat) : JP l → PK :=
  (fun (_ : Nat) => (List.rec (motive := fun l => JP l → PK) (fun J _ h => J h) (fun i _ ih J e h => ih (J (e i)) e h) l : JP l → PK)) yTop
noncomputable def plam (l : List Nat) : Env → PK → JP l :=
  (fun (_ : Nat) => (List.rec (motive := fun l => Env → PK → JP l) (fun e0 f h => f e0 h) (fun i _ ih e0 f v => ih (e0.set i v) f) l : Env → PK → JP l)) yTop
theorem pcall_plam : ∀ (l : List Nat) (e0 : Env) (f : PK) (e : Env) (h : AH), pcall l (plam l e0 f) e h = f (kset l e e0) h
  | [], _, _, _, _ => rfl
  | i :: l, e0, f, e, h => by
    show pcall l (plam l (e0.set i (e i)) f) e h = _
    rw [pcall_plam l]; rfl
noncomputable def paop (P : Program) (k : AK) (e : Env) (H : AH) (Kp K : AV → AH → Prop) : Prop :=
  (fun (_ : Nat) => PCl.rec (motive := fun _ => Prop) (fun x => K (x.ev e) H) (fun t x => K (.ifc t (x.ev e)) H) (fun f a b => K (.fn f (kevs e a) (kevs e b)) H) (fun f args => y_cl P (f.ev e) (kevs e args) H Kp K) (fun x => y_pan (x.ev e) H Kp) False
    (y_pu (kgndA e k) fun v => K v H) (y_rd (kgndA e k) H fun v => K v H) (y_ef (kgndA e k) H K) (pcl k)) yTop
theorem y_pu_inv {k : AK} {K : AV → Prop} (h : y_pu k K) : ∃ v, apure k emp = some v ∧ K v := by
  unfold y_pu at h
  cases hk : apure k emp with
  | none => rw [hk] at h; exact h.elim
  | some v => rw [hk] at h; exact ⟨v, rfl, h⟩
theorem y_rd_inv {k : AK} {H : AH} {K : AV → Prop} (h : y_rd k H K) : ∃ v, aread k emp H = some v ∧ K v := by
  unfold y_rd at h
  cases hk : aread k emp H with
  | none => rw [hk] at h; exact h.elim
  | some v => rw [hk] at h; exact ⟨v, rfl, h⟩
theorem y_ef_inv {k : AK} {H : AH} {K : AV → AH → Prop} (h : y_ef k H K) : ∃ v H', aeff k emp H = some (v, H') ∧ K v H' := by
  unfold y_ef at h
  cases hk : aeff k emp H with
  | none => rw [hk] at h; exact h.elim
  | some p => rw [hk] at h; exact ⟨p.1, p.2, rfl, h⟩
theorem kgndA_pu (e : Env) (k : AK) (hk : pcl k = .pu) : apure (kgndA e k) emp = apure k e := by
  cases k <;> first
    | (cases hk; done)
    | rfl
    | (simp only [apure, kgndA, gndP_eq]; done)
    | (simp only [apure, kgndA, kgnd, gndO_eq]; rfl)
theorem kgndA_rd (e : Env) (H : AH) (k : AK) (hk : pcl k = .rd) : aread (kgndA e k) emp H = aread k e H ∧ apure k e = none := by
  cases k <;> first
    | (cases hk; done)
    | exact ⟨rfl, rfl⟩
theorem kgndA_ef (e : Env) (H : AH) (k : AK) (hk : pcl k = .ef) : aeff (kgndA e k) emp H = aeff k e H ∧ apure k e = none ∧ aread k e H = none := by
  cases k <;> first
    | (cases hk; done)
    | exact ⟨rfl, rfl, rfl⟩
    | (refine ⟨?_, rfl, rfl⟩; simp only [aeff, kgndA, gndP_eq]; done)
theorem aop_mono {P : Program} {k : AK} {e : Env} {H : AH} {K1 K2 Kp1 Kp2 : AV → AH → Prop} (hk : ∀ v H', K1 v H' → K2 v H') (hp : ∀ v H', Kp1 v H' → Kp2 v H') (ha : aop P k e H K1 Kp1) : aop P k e H K2 Kp2 := by
  unfold aop at ha ⊢
  split at ha
  · unfold ACallV at ha ⊢
    split at ha
    · exact ha.mono fun o H' hq => by cases o with
        | ret v => exact hk _ _ hq
        | pan v => exact hp _ _ hq
    · exact YC.mono ha fun o H' hq => by cases o with
        | ret v => exact hk _ _ hq
        | pan v => exact hp _ _ hq
    · exact ha
  · split at ha
    · exact hp _ _ ha
    · exact ha
  · exact ha
  · exact ha
  · split at ha
    · exact hk _ _ ha
    · exact ha
theorem paop_one {P : Program} {k : AK} {e : Env} {H : AH} {Kp K : AV → AH → Prop} (hp : k.plain = true) (h : paop P k e H Kp K) : ∃ v H', aone k e H = some (v, H') ∧ K v H' := by
  have h : PCl.rec (motive := fun _ => Prop) (fun x => K (x.ev e) H) (fun t x => K (.ifc t (x.ev e)) H) (fun f a b => K (.fn f (kevs e a) (kevs e b)) H) (fun f args => y_cl P (f.ev e) (kevs e args) H Kp K) (fun x => y_pan (x.ev e) H Kp) False
    (y_pu (kgndA e k) fun v => K v H) (y_rd (kgndA e k) H fun v => K v H) (y_ef (kgndA e k) H K) (pcl k) := h
  cases hc : pcl k with
  | mv x =>
    rw [hc] at h
    cases k <;> (try (cases hc; done)) <;> (try (simp [pcl] at hc; done))
    simp only [pcl, PCl.mv.injEq] at hc; subst hc
    exact ⟨_, _, rfl, h⟩
  | ifc t x =>
    rw [hc] at h
    cases k <;> (try (cases hc; done)) <;> (try (simp [pcl] at hc; done))
    simp only [pcl, PCl.ifc.injEq] at hc; obtain ⟨rfl, rfl⟩ := hc
    exact ⟨_, _, rfl, h⟩
  | fnc f a b =>
    rw [hc] at h
    cases k <;> (try (cases hc; done)) <;> (try (simp [pcl] at hc; done))
    simp only [pcl, PCl.fnc.injEq] at hc; obtain ⟨rfl, rfl, rfl⟩ := hc
    exact ⟨_, _, by simp only [aone, apure, ← kevs_eq], h⟩
  | call f args => cases k <;> first | (cases hp; done) | (cases hc; done) | (simp [pcl] at hc; done)
  | pan x => cases k <;> first | (cases hp; done) | (cases hc; done) | (simp [pcl] at hc; done)
  | no => rw [hc] at h; exact h.elim
  | pu =>
    rw [hc] at h
    obtain ⟨v, h1, h2⟩ := y_pu_inv h
    rw [kgndA_pu e k hc] at h1
    exact ⟨v, H, by simp only [aone, h1], h2⟩
  | rd =>
    rw [hc] at h
    obtain ⟨v, h1, h2⟩ := y_rd_inv h
    obtain ⟨g1, g2⟩ := kgndA_rd e H k hc
    rw [g1] at h1
    exact ⟨v, H, by simp only [aone, g2, h1], h2⟩
  | ef =>
    rw [hc] at h
    obtain ⟨v, H', h1, h2⟩ := y_ef_inv h
    obtain ⟨g1, g2, g3⟩ := kgndA_ef e H k hc
    rw [g1] at h1
    exact ⟨v, H', by simp only [aone, g2, g3, h1], h2⟩
theorem paop_sound {P : Program} {k : AK} {e : Env} {H : AH} {Kp K : AV → AH → Prop} (h : paop P k e H Kp K) : aop P k e H K Kp ∧ k.isDefer = false := by
  by_cases hp : k.plain = true
  · obtain ⟨v, H', h1, h2⟩ := paop_one hp h
    exact ⟨aop_plain hp h1 h2, plain_nd hp⟩
  · cases k <;> (try exact absurd rfl hp)
    case call f args =>
      refine ⟨?_, rfl⟩
      have h : y_cl P (f.ev e) (kevs e args) H Kp K := h
      simp only [y_cl, kapp_eq, kevs_eq, ← List.append_assoc] at h
      cases hfp : toFP (f.ev e) with
      | no =>
        rw [hfp] at h
        have h : y_yl (f.ev e) (args.map (·.ev e)) H Kp K := h
        unfold y_yl at h
        split at h
        · rename_i l hl
          simp only [aop, ACallV, hl]; exact h
        · exact h.elim
      | «at» g first cap =>
        rw [hfp] at h
        exact aop_call (toFP_at hfp) rfl h (fun v H' hv => hv) (fun v H' hv => hv)
    case panic x =>
      refine ⟨?_, rfl⟩
      have h : y_pan (x.ev e) H Kp := h
      unfold y_pan at h
      split at h
      · rename_i t v hx
        simp only [aop, hx]; exact h
      · exact h.elim
    case defer f args => exact (show False from h).elim
    case recover => exact (show False from h).elim
theorem y_gd_inv {w : Bool} {v : AV} {A B : Prop} (h : y_gd w v A B) : ∃ o, agd v = some o ∧ (o = some w → A) ∧ (o ≠ some w → B) := by
  unfold y_gd at h
  split at h
  · rename_i b hb; exact ⟨b, hb, h.1, h.2⟩
  · exact h.elim
noncomputable def pseq (P : Program) (Kp : AV → AH → Prop) (ops : List AOper) : Env → AH → PK → Prop :=
  List.rec (motive := fun _ => Env → AH → PK → Prop) (fun e h K => K e h) (fun o _ ih e h K => paop P o.k e h Kp fun v h' => ih (e.put o.dst v) h' K) ops
noncomputable def pgrp (P : Program) (Kp : AV → AH → Prop) (g : Grp) (e : Env) (h : AH) (K : PK) : Prop := Prod.rec (motive := fun _ => Prop) (fun g ops => Option.rec (motive := fun _ => Prop)
    (Bool.rec (motive := fun _ => Prop) False (pseq P Kp ops e h K) (ops.all (fun o => o.gd.isNone)))
    (fun p => Prod.rec (motive := fun _ => Prop) (fun s w => Bool.rec (motive := fun _ => Prop) False (y_grp w (e s) (plam (dsts ops) e K) (fun J => pseq P Kp ops e h (pcall (dsts ops) J)) (fun J => pcall (dsts ops) J (fun _ => aud) h)) (ops.all (gSame s w))) p) g) g
noncomputable def pops (P : Program) (Kp : AV → AH → Prop) (gs : List Grp) : Env → AH → PK → Prop :=
  List.rec (motive := fun _ => Env → AH → PK → Prop) (fun e h K => K e h) (fun g _ ih e h K => pgrp P Kp g e h fun e' h' => ih e' h' K) gs
noncomputable def preg (P : Program) (Kp : AV → AH → Prop) (ops : List AOper) (e : Env) (h : AH) (K : PK) : Prop := Bool.rec (motive := fun _ => Prop) False (pops P Kp (grp ops) e h K) (ops.all dOk)
theorem prec_ok {b : Bool} {x : Prop} (h : Bool.rec (motive := fun _ => Prop) False x b) : b = true ∧ x := by
  cases b with
  | true => exact ⟨rfl, h⟩
  | false => exact h.elim
section
variable {P : Program} {Kp : AV → AH → Prop} {K' : Env → AH → Prop} {Kp' : AV → Env → AH → Prop}
theorem pseq_sound {s : Nat} {w : Bool} {K : PK} (h2 : ∀ v h, Kp v h → ∀ e, e dslot = .tup [] → Kp' v e h) : ∀ (ops : List AOper) (e : Env) (h : AH), ops.all dOk = true → e dslot = .tup [] →
    (agd (e s) = some (some w) ∧ ops.all (gSame s w) = true ∨ ops.all (fun o => o.gd.isNone) = true) → pseq P Kp ops e h K →
    (∀ e' h', (∀ t, t ∉ dsts ops → e' t = e t) → e' dslot = .tup [] → K e' h' → K' e' h') → aops P ops e h K' Kp'
  | [], e, h, _, hd, _, hr, h1 => h1 e h (fun _ _ => rfl) hd hr
  | o :: ops, e, h, ho, hd, hg, hr, h1 => by
    have hr : paop P o.k e h Kp fun v h' => pseq P Kp ops (e.put o.dst v) h' K := hr
    simp only [List.all_cons, Bool.and_eq_true] at ho hg
    have hd' : ∀ v, (e.put o.dst v) dslot = .tup [] := fun v => by rw [put_ne (dOk_spec ho.1)]; exact hd
    have go : ∀ v h', (agd ((e.put o.dst v) s) = some (some w) ∧ ops.all (gSame s w) = true ∨ ops.all (fun o => o.gd.isNone) = true) → pseq P Kp ops (e.put o.dst v) h' K → aops P ops (e.put o.dst v) h' K' Kp' := fun v h' hg' hx =>
      pseq_sound h2 ops (e.put o.dst v) h' ho.2 (hd' v) hg' hx fun e' h'' q1 q2 q3 => h1 e' h'' (fun t ht => by
        have ht : t ∉ dcons o.dst (dsts ops) := ht
        rw [mem_dcons, not_or] at ht
        rw [q1 t ht.2, put_ne ht.1]) q2 q3
    have mono : (∀ v, agd ((e.put o.dst v) s) = some (some w) ∧ ops.all (gSame s w) = true ∨ ops.all (fun o => o.gd.isNone) = true) → aop P o.k e h (fun v H' => aops P ops (e.put o.dst v) H' K' Kp') (fun v H' => Kp' v e H') := fun hg' =>
      aop_mono (fun v H' hx => go v H' (hg' v) hx) (fun v H' hx => h2 v H' hx e hd) (paop_sound hr).1
    have nd := (paop_sound hr).2
    obtain ⟨dst, k, gd⟩ := o
    rcases hg with ⟨g1, g2, g3⟩ | ⟨g2, g3⟩
    · obtain ⟨rfl, g4⟩ := gSame_spec g2
      exact w_gdO g1 (fun _ => mono fun v => .inl ⟨by rw [put_ne g4]; exact g1, g3⟩) (fun hn => absurd rfl hn)
    · simp only [Option.isNone_iff_eq_none] at g2
      subst g2
      exact aops_none nd (mono fun v => .inr g3)
theorem pops_sound {K : PK} (h1 : ∀ e h, e dslot = .tup [] → K e h → K' e h) (h2 : ∀ v h, Kp v h → ∀ e, e dslot = .tup [] → Kp' v e h) :
    ∀ (gs : List Grp) (e : Env) (h : AH), (unG gs).all dOk = true → e dslot = .tup [] → pops P Kp gs e h K → aops P (unG gs) e h K' Kp'
  | [], e, h, _, hd, hr => h1 e h hd hr
  | (g, ops) :: gs, e, h, ho, hd, hr => by
    have hr : pgrp P Kp (g, ops) e h fun e' h' => pops P Kp gs e' h' K := hr
    change (ops ++ unG gs).all dOk = true at ho
    rw [List.all_append, Bool.and_eq_true] at ho
    have rest : ∀ e' h', e' dslot = .tup [] → pops P Kp gs e' h' K → aops P (unG gs) e' h' K' Kp' := fun e' h' hd' hx => pops_sound h1 h2 gs e' h' ho.2 hd' hx
    refine aops_app ops (unG gs) e h ?_
    cases g with
    | none =>
      obtain ⟨g1, g2⟩ := prec_ok hr
      exact pseq_sound (s := 0) (w := true) h2 ops e h ho.1 hd (.inr g1) g2 fun e' h' _ q2 q3 => rest e' h' q2 q3
    | some p =>
      obtain ⟨s, w⟩ := p
      obtain ⟨g1, g2⟩ := prec_ok hr
      obtain ⟨b, k1, k2, k3⟩ := y_gd_inv g2
      by_cases hw : b = some w
      · subst hw
        refine pseq_sound h2 ops e h ho.1 hd (.inl ⟨k1, g1⟩) (k2 rfl) fun e' h' q1 q2 q3 => rest e' h' q2 ?_
        rw [pcall_plam] at q3
        have : kset (dsts ops) e' e = e' := by
          funext t
          rw [kset_get]
          split
          · rfl
          · rename_i hm; exact (q1 t hm).symm
        rw [this] at q3; exact q3
      · have k3 := k3 hw
        simp only [pcall_plam] at k3
        refine aops_off hw ops e h g1 k1 (rest _ h ?_ k3)
        rw [kset_get, if_neg (dsts_ok ho.1)]
        exact hd
theorem preg_sound {K : PK} (h1 : ∀ e h, e dslot = .tup [] → K e h → K' e h) (h2 : ∀ v h, Kp v h → ∀ e, e dslot = .tup [] → Kp' v e h)
    {ops : List AOper} {e : Env} {h : AH} (hd : e dslot = .tup []) (hr : preg P Kp ops e h K) : aops P ops e h K' Kp' := by
  obtain ⟨g1, g2⟩ := prec_ok hr
  have := pops_sound h1 h2 (grp ops) e h (by rw [grp_flat]; exact g1) hd g2
  rw [grp_flat] at this; exact this
end
end Go.AL
namespace Go.AL
variable [GLC] [YC]
noncomputable def y_nw (k : AK) (H : AH) (K : AV → AH → Prop) : Prop := Option.rec (motive := fun _ => Prop) False (fun p => Prod.rec (motive := fun _ => Prop) (fun c f => K (f H.next) (H.push (.cells c))) p) (anew k emp)
theorem y_nw_inv {k : AK} {H : AH} {K : AV → AH → Prop} (h : y_nw k H K) : ∃ c f, anew k emp = some (c, f) ∧ K (f H.next) (H.push (.cells c)) := by
  unfold y_nw at h
  cases hk : anew k emp with
  | none => rw [hk] at h; exact h.elim
  | some p => rw [hk] at h; exact ⟨p.1, p.2, rfl, h⟩
theorem kgndA_nw (e : Env) (k : AK) (hk : pcl k = .ef) : anew (kgndA e k) emp = anew k e := by
  cases k <;> first
    | (cases hk; done)
    | rfl
    | (simp only [anew, kgndA, gndP_eq]; done)
noncomputable def pfree (k : AK) (e : Env) (H : AH) (K : AV → AH → Prop) : Prop :=
  (fun (_ : Nat) => PCl.rec (motive := fun _ => Prop) (fun x => K (x.ev e) H) (fun t x => K (.ifc t (x.ev e)) H) (fun f a b => K (.fn f (kevs e a) (kevs e b)) H) (fun _ _ => False) (fun _ => False) False
    (y_pu (kgndA e k) fun v => K v H) (y_rd (kgndA e k) H fun v => K v H) (y_nw (kgndA e k) H K) (pcl k)) yTop
noncomputable def pdact (P : Program) (Kp : AV → AH → Prop) (eff : Bool) (k : AK) (e : Env) (H : AH) (K : AV → AH → Prop) : Prop :=
  (fun (_ : Nat) => Bool.rec (motive := fun _ => Prop) (pfree k e H K) (paop P k e H Kp K) eff) yTop
theorem pfree_inv {k : AK} {e : Env} {H : AH} {K : AV → AH → Prop} (h : pfree k e H K) : (∃ v, apure k e = some v ∧ K v H) ∨ (∃ v, apure k e = none ∧ aread k e H = some v ∧ aread (kgndA e k) emp H = some v ∧ K v H ∧ pcl k = .rd) ∨
    (∃ c f, apure k e = none ∧ aread k e H = none ∧ anew k e = some (c, f) ∧ K (f H.next) (H.push (.cells c))) := by
  have h : PCl.rec (motive := fun _ => Prop) (fun x => K (x.ev e) H) (fun t x => K (.ifc t (x.ev e)) H) (fun f a b => K (.fn f (kevs e a) (kevs e b)) H) (fun _ _ => False) (fun _ => False) False
    (y_pu (kgndA e k) fun v => K v H) (y_rd (kgndA e k) H fun v => K v H) (y_nw (kgndA e k) H K) (pcl k) := h
  cases hc : pcl k with
  | mv x =>
    rw [hc] at h
    cases k <;> (try (cases hc; done)) <;> (try (simp [pcl] at hc; done))
    simp only [pcl, PCl.mv.injEq] at hc; subst hc
    exact .inl ⟨_, rfl, h⟩
  | ifc t x =>
    rw [hc] at h
    cases k <;> (try (cases hc; done)) <;> (try (simp [pcl] at hc; done))
    simp only [pcl, PCl.ifc.injEq] at hc; obtain ⟨rfl, rfl⟩ := hc
    exact .inl ⟨_, rfl, h⟩
  | fnc f a b =>
    rw [hc] at h
    cases k <;> (try (cases hc; done)) <;> (try (simp [pcl] at hc; done))
    simp only [pcl, PCl.fnc.injEq] at hc; obtain ⟨rfl, rfl, rfl⟩ := hc
    exact .inl ⟨_, by simp only [apure, ← kevs_eq], h⟩
  | call f args => rw [hc] at h; exact h.elim
  | pan x => rw [hc] at h; exact h.elim
  | no => rw [hc] at h; exact h.elim
  | pu =>
    rw [hc] at h
    obtain ⟨v, h1, h2⟩ := y_pu_inv h
    rw [kgndA_pu e k hc] at h1
    exact .inl ⟨v, h1, h2⟩
  | rd =>
    rw [hc] at h
    obtain ⟨v, h1, h2⟩ := y_rd_inv h
    obtain ⟨g1, g2⟩ := kgndA_rd e H k hc
    exact .inr (.inl ⟨v, g2, by rw [← g1]; exact h1, h1, h2, rfl⟩)
  | ef =>
    rw [hc] at h
    obtain ⟨c, f, h1, h2⟩ := y_nw_inv h
    obtain ⟨_, g2, g3⟩ := kgndA_ef e H k hc
    rw [kgndA_nw e k hc] at h1
    exact .inr (.inr ⟨c, f, g2, g3, h1, h2⟩)
noncomputable def pdseq (P : Program) (Kp : AV → AH → Prop) (its : List DIt) : Env → AH → PK → Prop :=
  List.rec (motive := fun _ => Env → AH → PK → Prop) (fun e h K => K e h) (fun it _ ih e h K => pdact P Kp it.eff it.o.k e h fun v h' => ih (e.put it.o.dst v) h' K) its
noncomputable def pdgrp (P : Program) (Kp : AV → AH → Prop) (g : GrpD) (e : Env) (h : AH) (K : PK) : Prop := Prod.rec (motive := fun _ => Prop) (fun g its => Option.rec (motive := fun _ => Prop)
    (Bool.rec (motive := fun _ => Prop) False (pdseq P Kp its e h K) (its.all (fun it => it.o.gd.isNone)))
    (fun p => Prod.rec (motive := fun _ => Prop) (fun s w => Bool.rec (motive := fun _ => Prop) False (y_grp w (e s) (plam (ddsts its) e K) (fun J => pdseq P Kp its e h (pcall (ddsts its) J)) (fun J => pcall (ddsts its) J (fun _ => aud) h)) (its.all (fun it => gSame s w it.o))) p) g) g
noncomputable def pdops (P : Program) (Kp : AV → AH → Prop) (gs : List GrpD) : Env → AH → PK → Prop :=
  List.rec (motive := fun _ => Env → AH → PK → Prop) (fun e h K => K e h) (fun g _ ih e h K => pdgrp P Kp g e h fun e' h' => ih e' h' K) gs
section
variable {P : Program} {Kp : AV → AH → Prop} {ep : Env} {K' : Env → AH → Prop} {Kp' : AV → Env → AH → Prop}
theorem pdact_sound {i pre : Nat} {d : Option Nat} {k : AK} {eff : Bool} {l : List DIt} {e : Env} {h : AH} {pend : Pend} {K : AV → AH → Prop} (hr : pdact P Kp eff k e h K)
    (h1 : ∀ v h' pend', K v h' → adops P ep K' Kp' l (e.put d v) h' pend') (h2 : ∀ v h', Kp v h' → Kp' v ep h') : adops P ep K' Kp' (⟨i, ⟨d, k, none⟩, pre, [], eff⟩ :: l) e h pend := by
  cases eff with
  | true => exact p_eff (aop_mono (fun v H' hk => ⟨trivial, h1 v H' pend hk⟩) (fun v H' hk => h2 v H' hk) (paop_sound hr).1)
  | false =>
    rcases pfree_inv hr with ⟨v, g1, g2⟩ | ⟨v, g0, g1, _, g2, _⟩ | ⟨c, f, g0, g1, g2, g3⟩
    · exact p_pure g1 (h1 v h pend g2)
    · exact p_read g0 g1 (h1 v h _ g2)
    · exact p_new g0 g1 g2 (h1 _ _ _ g3)
theorem pdseq_sound {s : Nat} {w : Bool} {K : PK} {rest : List DIt} (h2 : ∀ v h, Kp v h → Kp' v ep h) : ∀ (its : List DIt) (e : Env) (h : AH) (pend : Pend), its.all fOk = true → e dslot = .tup [] →
    (agd (e s) = some (some w) ∧ its.all (fun it => gSame s w it.o) = true ∨ its.all (fun it => it.o.gd.isNone) = true) → pdseq P Kp its e h K →
    (∀ e' h' pend', (∀ t, t ∉ ddsts its → e' t = e t) → e' dslot = .tup [] → K e' h' → adops P ep K' Kp' rest e' h' pend') → adops P ep K' Kp' (its ++ rest) e h pend
  | [], e, h, pend, _, hd, _, hr, h1 => h1 e h pend (fun _ _ => rfl) hd hr
  | it :: its, e, h, pend, ho, hd, hg, hr, h1 => by
    have hr : pdact P Kp it.eff it.o.k e h fun v h' => pdseq P Kp its (e.put it.o.dst v) h' K := hr
    simp only [List.all_cons, Bool.and_eq_true] at ho hg
    obtain ⟨ho1, ho2⟩ := ho
    simp only [fOk, Bool.and_eq_true] at ho1
    have hd' : ∀ v, (e.put it.o.dst v) dslot = .tup [] := fun v => by rw [put_ne (dOk_spec ho1.1)]; exact hd
    have go : ∀ v h' pend', (agd ((e.put it.o.dst v) s) = some (some w) ∧ its.all (fun it => gSame s w it.o) = true ∨ its.all (fun it => it.o.gd.isNone) = true) → pdseq P Kp its (e.put it.o.dst v) h' K → adops P ep K' Kp' (its ++ rest) (e.put it.o.dst v) h' pend' := fun v h' pend' hg' hx =>
      pdseq_sound h2 its (e.put it.o.dst v) h' pend' ho2 (hd' v) hg' hx fun e' h'' pend'' q1 q2 q3 => h1 e' h'' pend'' (fun t ht => by
        have ht : t ∉ dcons it.o.dst (ddsts its) := ht
        rw [mem_dcons, not_or] at ht
        rw [q1 t ht.2, put_ne ht.1]) q2 q3
    obtain ⟨i, ⟨dst, k, gd⟩, pre, fl, eff⟩ := it
    have hfl := ho1.2
    simp only [List.isEmpty_iff] at hfl
    subst hfl
    rcases hg with ⟨g1, g2, g3⟩ | ⟨g2, g3⟩
    · obtain ⟨hh, g4⟩ := gSame_spec g2
      simp only at hh g4
      subst hh
      exact p_gdO g1 (fun _ => pdact_sound hr (fun v h' pend' hx => go v h' pend' (.inl ⟨by simp only; rw [put_ne g4]; exact g1, g3⟩) hx) h2) (fun hn => absurd rfl hn)
    · simp only [Option.isNone_iff_eq_none] at g2
      subst g2
      exact pdact_sound hr (fun v h' pend' hx => go v h' pend' (.inr g3) hx) h2
theorem pdops_sound {K : PK} (h1 : ∀ e h, e dslot = .tup [] → K e h → K' e h) (h2 : ∀ v h, Kp v h → Kp' v ep h) :
    ∀ (gs : List GrpD) (e : Env) (h : AH) (pend : Pend), (unGD gs).all fOk = true → e dslot = .tup [] → pdops P Kp gs e h K → adops P ep K' Kp' (unGD gs) e h pend
  | [], e, h, pend, _, hd, hr => h1 e h hd hr
  | (g, its) :: gs, e, h, pend, ho, hd, hr => by
    have hr : pdgrp P Kp (g, its) e h fun e' h' => pdops P Kp gs e' h' K := hr
    change (its ++ unGD gs).all fOk = true at ho
    rw [List.all_append, Bool.and_eq_true] at ho
    have rest : ∀ e' h' pend', e' dslot = .tup [] → pdops P Kp gs e' h' K → adops P ep K' Kp' (unGD gs) e' h' pend' := fun e' h' pend' hd' hx => pdops_sound h1 h2 gs e' h' pend' ho.2 hd' hx
    show adops P ep K' Kp' (its ++ unGD gs) e h pend
    cases g with
    | none =>
      obtain ⟨g1, g2⟩ := prec_ok hr
      exact pdseq_sound (s := 0) (w := true) h2 its e h pend ho.1 hd (.inr g1) g2 fun e' h' pend' _ q2 q3 => rest e' h' pend' q2 q3
    | some p =>
      obtain ⟨s, w⟩ := p
      obtain ⟨g1, g2⟩ := prec_ok hr
      obtain ⟨b, k1, k2, k3⟩ := y_gd_inv g2
      by_cases hw : b = some w
      · subst hw
        refine pdseq_sound h2 its e h pend ho.1 hd (.inl ⟨k1, g1⟩) (k2 rfl) fun e' h' pend' q1 q2 q3 => rest e' h' pend' q2 ?_
        rw [pcall_plam] at q3
        have : kset (ddsts its) e' e = e' := by
          funext t
          rw [kset_get]
          split
          · rfl
          · rename_i hm; exact (q1 t hm).symm
        rw [this] at q3; exact q3
      · have k3 := k3 hw
        simp only [pcall_plam] at k3
        refine adops_off hw its e h pend g1 k1 (rest _ h _ ?_ k3)
        rw [kset_get, if_neg (ddsts_ok ho.1)]
        exact hd
end
abbrev PPd := List (Nat × (AH → Prop))
noncomputable def pchk (fl : List Nat) (pd : PPd) (h : AH) : Prop := List.rec (motive := fun _ => Prop) True (fun p _ ih => Bool.rec (motive := fun _ => Prop) ih (p.2 h ∧ ih) (memN p.1 fl)) pd
theorem pchk_of {fl : List Nat} {h : AH} : ∀ {pd : PPd}, pchk fl pd h → ∀ p ∈ pd, p.1 ∈ fl → p.2 h
  | p :: pd, hk, q, hq, hf => by
    have hk : Bool.rec (motive := fun _ => Prop) (pchk fl pd h) (p.2 h ∧ pchk fl pd h) (memN p.1 fl) := hk
    cases hq with
    | head => rw [memN_of hf] at hk; exact hk.1
    | tail _ hq =>
      refine pchk_of (pd := pd) ?_ q hq hf
      cases hm : memN p.1 fl with
      | false => rw [hm] at hk; exact hk
      | true => rw [hm] at hk; exact hk.2
def PPRel (pd : PPd) (pend : Pend) : Prop := ∀ i p, pend.lookup i = some p → ∃ b, (i, b) ∈ pd ∧ ∀ x, b x → p x
theorem PPRel.more {pd : PPd} {pend : Pend} (h : PPRel pd pend) (q : Nat × (AH → Prop)) : PPRel (q :: pd) pend := fun i p hi => let ⟨b, h1, h2⟩ := h i p hi; ⟨b, .tail _ h1, h2⟩
theorem PPRel.cons {pd : PPd} {pend : Pend} (h : PPRel pd pend) {i : Nat} {b : AH → Prop} {p : AH → Prop} (hp : ∀ x, b x → p x) : PPRel ((i, b) :: pd) ((i, p) :: pend) := fun j q hj => by
  rw [List.lookup_cons] at hj
  by_cases hij : (j == i) = true
  · rw [hij] at hj
    simp only [Option.some.injEq] at hj
    subst hj
    have : j = i := by simpa using hij
    subst this
    exact ⟨b, .head _, hp⟩
  · simp only [Bool.not_eq_true] at hij
    rw [hij] at hj
    obtain ⟨b', h1, h2⟩ := h j q hj
    exact ⟨b', .tail _ h1, h2⟩
theorem PPRel.chk {pd : PPd} {pend : Pend} (hp : PPRel pd pend) {h : AH} : ∀ {fl fl' : List Nat}, (∀ i ∈ fl', i ∈ fl) → pchk fl pd h → chk fl' pend h
  | _, [], _, _ => trivial
  | fl, i :: is, hs, hk => by
    refine ⟨?_, PPRel.chk hp (fun j hj => hs j (.tail _ hj)) hk⟩
    cases hl : pend.lookup i with
    | none => trivial
    | some p =>
      obtain ⟨b, h1, h2⟩ := hp i p hl
      exact h2 h (pchk_of hk _ h1 (hs i (.head _)))
abbrev PG := AV → (AH → Prop) → AH → Prop
def y_tt : AH → Prop := fun _ => True
def y_rde (k : AK) (v : AV) : AH → Prop := fun H => aread k emp H = some v
def y_nwe (k : AK) (r : Nat) : AH → Prop := fun H => ∃ c f, anew k emp = some (c, f) ∧ H.get r = some (.cells c)
def y_G3 (w : Bool) (v : AV) (h : AH) (J : PG) (A : PG → Prop) : Prop := y_gd w v (A J) (J aud y_tt h)
noncomputable def pitem (P : Program) (Kp : AV → AH → Prop) (eff : Bool) (fl : List Nat) (pd : PPd) (k : AK) (e : Env) (H : AH) (K : PG) : Prop :=
  (fun (_ : Nat) => Bool.rec (motive := fun _ => Prop)
    (PCl.rec (motive := fun _ => Prop) (fun x => K (x.ev e) y_tt H) (fun t x => K (.ifc t (x.ev e)) y_tt H) (fun f a b => K (.fn f (kevs e a) (kevs e b)) y_tt H) (fun _ _ => False) (fun _ => False) False
      (y_pu (kgndA e k) fun v => K v y_tt H) (y_rd (kgndA e k) H fun v => K v (y_rde (kgndA e k) v) H) (y_nw (kgndA e k) H fun v H' => K v (y_nwe (kgndA e k) H.next) H') (pcl k))
    (paop P k e H Kp fun v H' => pchk fl pd H' ∧ K v y_tt H') eff) yTop
noncomputable def pslow (P : Program) (Kp : AV → AH → Prop) (l : List DIt) : Env → AH → PPd → PK → Prop :=
  (fun (_ : Nat) => List.rec (motive := fun _ => Env → AH → PPd → PK → Prop) (fun e h _ K => K e h) (fun it _ ih e h pd K =>
    Option.rec (motive := fun _ => Prop) (pitem P Kp it.eff it.fl pd it.o.k e h fun v c h' => ih (e.put it.o.dst v) h' ((it.i, c) :: pd) K)
      (fun p => y_G3 p.2 (e p.1) h (fun v c h' => ih (e.put it.o.dst v) h' ((it.i, c) :: pd) K) fun J => pitem P Kp it.eff it.fl pd it.o.k e h J) it.o.gd) l) yTop
section
variable {P : Program} {Kp : AV → AH → Prop} {ep : Env} {K' : Env → AH → Prop} {Kp' : AV → Env → AH → Prop}
theorem pitem_sound {i pre : Nat} {d : Option Nat} {k : AK} {eff : Bool} {fl : List Nat} {pd : PPd} {l : List DIt} {e : Env} {h : AH} {pend : Pend} (hp : PPRel pd pend) {K : PG} (hr : pitem P Kp eff fl pd k e h K)
    (h1 : ∀ v c h' pend', PPRel ((i, c) :: pd) pend' → K v c h' → adops P ep K' Kp' l (e.put d v) h' pend') (h2 : ∀ v h', Kp v h' → Kp' v ep h') : adops P ep K' Kp' (⟨i, ⟨d, k, none⟩, pre, fl, eff⟩ :: l) e h pend := by
  cases eff with
  | true =>
    have hr : paop P k e h Kp fun v H' => pchk fl pd H' ∧ K v y_tt H' := hr
    exact p_eff (aop_mono (fun v H' hk => ⟨hp.chk (fun _ hi => hi) hk.1, h1 v y_tt H' pend (hp.more _) hk.2⟩) (fun v H' hk => h2 v H' hk) (paop_sound hr).1)
  | false =>
    have hr : PCl.rec (motive := fun _ => Prop) (fun x => K (x.ev e) y_tt h) (fun t x => K (.ifc t (x.ev e)) y_tt h) (fun f a b => K (.fn f (kevs e a) (kevs e b)) y_tt h) (fun _ _ => False) (fun _ => False) False
      (y_pu (kgndA e k) fun v => K v y_tt h) (y_rd (kgndA e k) h fun v => K v (y_rde (kgndA e k) v) h) (y_nw (kgndA e k) h fun v H' => K v (y_nwe (kgndA e k) h.next) H') (pcl k) := hr
    cases hc : pcl k with
    | mv x =>
      rw [hc] at hr
      cases k <;> (try (cases hc; done)) <;> (try (simp [pcl] at hc; done))
      simp only [pcl, PCl.mv.injEq] at hc; subst hc
      exact p_pure rfl (h1 _ _ _ _ (hp.more _) hr)
    | ifc t x =>
      rw [hc] at hr
      cases k <;> (try (cases hc; done)) <;> (try (simp [pcl] at hc; done))
      simp only [pcl, PCl.ifc.injEq] at hc; obtain ⟨rfl, rfl⟩ := hc
      exact p_pure rfl (h1 _ _ _ _ (hp.more _) hr)
    | fnc f a b =>
      rw [hc] at hr
      cases k <;> (try (cases hc; done)) <;> (try (simp [pcl] at hc; done))
      simp only [pcl, PCl.fnc.injEq] at hc; obtain ⟨rfl, rfl, rfl⟩ := hc
      exact p_pure (by simp only [apure, ← kevs_eq]) (h1 _ _ _ _ (hp.more _) hr)
    | call f args => rw [hc] at hr; exact hr.elim
    | pan x => rw [hc] at hr; exact hr.elim
    | no => rw [hc] at hr; exact hr.elim
    | pu =>
      rw [hc] at hr
      obtain ⟨v, g1, g2⟩ := y_pu_inv hr
      rw [kgndA_pu e k hc] at g1
      exact p_pure g1 (h1 v _ _ _ (hp.more _) g2)
    | rd =>
      rw [hc] at hr
      obtain ⟨v, g1, g2⟩ := y_rd_inv hr
      obtain ⟨q1, q2⟩ := kgndA_rd e h k hc
      rw [q1] at g1
      exact p_read q2 g1 (h1 v _ h _ (hp.cons fun x hx => by rw [← (kgndA_rd e x k hc).1]; exact hx) g2)
    | ef =>
      rw [hc] at hr
      obtain ⟨c, f, g1, g2⟩ := y_nw_inv hr
      obtain ⟨_, q2, q3⟩ := kgndA_ef e h k hc
      have g1' := g1
      rw [kgndA_nw e k hc] at g1'
      refine p_new q2 q3 g1' (h1 _ _ _ _ (hp.cons fun x hx => ?_) g2)
      obtain ⟨c', f', k1, k2⟩ := hx
      rw [g1] at k1; cases k1; exact k2
theorem pslow_sound {K : PK} (h1 : ∀ e h, e dslot = .tup [] → K e h → K' e h) (h2 : ∀ v h, Kp v h → Kp' v ep h) :
    ∀ (l : List DIt) (e : Env) (h : AH) (pd : PPd) (pend : Pend), PPRel pd pend → l.all (fun it => dOk it.o) = true → e dslot = .tup [] → pslow P Kp l e h pd K → adops P ep K' Kp' l e h pend
  | [], e, h, pd, pend, _, _, hd, hr => h1 e h hd hr
  | ⟨i, ⟨dst, k, gd⟩, pre, fl, eff⟩ :: l, e, h, pd, pend, hp, ho, hd, hr => by
    simp only [List.all_cons, Bool.and_eq_true] at ho
    have go : ∀ v c h' pend', PPRel ((i, c) :: pd) pend' → pslow P Kp l (e.put dst v) h' ((i, c) :: pd) K → adops P ep K' Kp' l (e.put dst v) h' pend' := fun v c h' pend' hp' hx =>
      pslow_sound h1 h2 l _ h' _ pend' hp' ho.2 (by rw [put_ne (dOk_spec ho.1)]; exact hd) hx
    cases gd with
    | none =>
      have hr : pitem P Kp eff fl pd k e h fun v c h' => pslow P Kp l (e.put dst v) h' ((i, c) :: pd) K := hr
      exact pitem_sound hp hr (fun v c h' pend' q1 q2 => go v c h' pend' q1 q2) h2
    | some p =>
      obtain ⟨s, w⟩ := p
      have hr : y_gd w (e s) (pitem P Kp eff fl pd k e h fun v c h' => pslow P Kp l (e.put dst v) h' ((i, c) :: pd) K) (pslow P Kp l (e.put dst aud) h ((i, y_tt) :: pd) K) := hr
      obtain ⟨b, k1, k2, k3⟩ := y_gd_inv hr
      exact p_gdO k1 (fun hw => pitem_sound hp (k2 hw) (fun v c h' pend' q1 q2 => go v c h' pend' q1 q2) h2) (fun hw => go aud y_tt h pend (hp.more _) (k3 hw))
end
noncomputable def pdreg (P : Program) (Kp : AV → AH → Prop) (plan : List DIt) (e : Env) (h : AH) (K : PK) : Prop :=
  Bool.rec (motive := fun _ => Prop) (Bool.rec (motive := fun _ => Prop) False (pslow P Kp plan e h [] K) (plan.all (fun it => dOk it.o))) (pdops P Kp (grpD plan) e h K) (plan.all fOk)
theorem pdreg_sound {P : Program} {Kp : AV → AH → Prop} {K' : Env → AH → Prop} {Kp' : AV → Env → AH → Prop} {K : PK} (h1 : ∀ e h, e dslot = .tup [] → K e h → K' e h) (h2 : ∀ v h, Kp v h → ∀ e, e dslot = .tup [] → Kp' v e h)
    {plan : List DIt} {e : Env} {h : AH} (hd : e dslot = .tup []) (hr : pdreg P Kp plan e h K) : adops P (clr plan e) K' Kp' plan e h [] := by
  unfold pdreg at hr
  cases hf : plan.all fOk with
  | true =>
    rw [hf] at hr
    have hd' : plan.all (fun it => dOk it.o) = true := by
      rw [List.all_eq_true] at hf ⊢
      intro x hx
      have := hf x hx
      simp only [fOk, Bool.and_eq_true] at this
      exact this.1
    have := pdops_sound (ep := clr plan e) (Kp' := Kp') h1 (fun v h hv => h2 v h hv _ (by rw [clr_dslot hd']; exact hd)) (grpD plan) e h [] (by rw [grpD_flat]; exact hf) hd hr
    rw [grpD_flat] at this; exact this
  | false =>
    rw [hf] at hr
    obtain ⟨g1, g2⟩ := prec_ok hr
    exact pslow_sound h1 (fun v h hv => h2 v h hv _ (by rw [clr_dslot g1]; exact hd)) plan e h [] [] (fun i p hi => by cases hi) g1 hd g2
end Go.AL
namespace Go.AL
variable [GLC]
def putD (ds : AV) (e : Env) : Env := e.set dslot ds
theorem putD_ne {ds : AV} {e : Env} {t : Nat} (h : t ≠ dslot) : putD ds e t = e t := by simp [putD, Env.set_get, h]
theorem putD_at (ds : AV) (e : Env) : putD ds e dslot = ds := by simp [putD, Env.set_get]
theorem putD_put {ds : AV} {e : Env} {d : Option Nat} {v : AV} (h : d ≠ some dslot) : (putD ds e).put d v = putD ds (e.put d v) := by
  cases d with
  | none => rfl
  | some d =>
    have h : d ≠ dslot := fun x => h (by rw [x])
    funext t
    simp only [Env.put, putD, Env.set_get]
    by_cases h1 : t = d
    · subst h1; rw [if_pos rfl, if_neg h, if_pos rfl]
    · rw [if_neg h1]
      by_cases h2 : t = dslot
      · rw [if_pos h2, if_pos h2]
      · rw [if_neg h2, if_neg h2, if_neg h1]
def tOk (l : List Nat) : Bool := l.all fun t => Nat.ble (t + 1) dslot
theorem tOk_ne {l : List Nat} (h : tOk l = true) : ∀ t ∈ l, t ≠ dslot := fun t ht => by
  have := List.all_eq_true.1 h t ht
  have := Nat.le_of_ble_eq_true this
  omega
def opOk (o : AOper) : Bool := tOk o.k.tmps && (!o.k.isDefer && (dOk o && (match o.gd with | none => true | some (s, _) => Nat.ble (s + 1) dslot)))
section
variable {P : Program} {ds : AV}
theorem tmps_eq {k : AK} {e : Env} (h : tOk k.tmps = true) : ∀ t ∈ k.tmps, e t = putD ds e t := fun t ht => (putD_ne (tOk_ne h t ht)).symm
theorem opOk_spec {o : AOper} (h : opOk o = true) : tOk o.k.tmps = true ∧ o.k.isDefer = false ∧ o.dst ≠ some dslot ∧ ∀ s w, o.gd = some (s, w) → s ≠ dslot := by
  simp only [opOk, Bool.and_eq_true, Bool.not_eq_true'] at h
  obtain ⟨h1, h2, h3, h4⟩ := h
  refine ⟨h1, h2, dOk_spec h3, fun s w hg => ?_⟩
  rw [hg] at h4
  have := Nat.le_of_ble_eq_true h4
  omega
theorem aops_ds [YC] {K K' : Env → AH → Prop} {Kp Kp' : AV → Env → AH → Prop} (hK : ∀ e H, K e H → K' (putD ds e) H) (hKp : ∀ v e H, Kp v e H → Kp' v (putD ds e) H) : ∀ (ops : List AOper) (e : Env) (H : AH), ops.all opOk = true → aops P ops e H K Kp → aops P ops (putD ds e) H K' Kp'
  | [], e, H, _, h => hK e H h
  | ⟨dst, k, gd⟩ :: ops, e, H, ho, h => by
    rw [List.all_cons, Bool.and_eq_true] at ho
    obtain ⟨o1, o2, o3, o4⟩ := opOk_spec ho.1
    have go : aop P k e H (fun v H' => aops P ops (e.put dst v) H' K Kp) (fun v H' => Kp v e H') → aop P k (putD ds e) H (fun v H' => aops P ops ((putD ds e).put dst v) H' K' Kp') (fun v H' => Kp' v (putD ds e) H') := fun h => by
      rw [← aop_congr (tmps_eq (ds := ds) o1)]
      exact aop_mono (fun v H' hx => by rw [putD_put o3]; exact aops_ds hK hKp ops _ H' ho.2 hx) (fun v H' hx => hKp v e H' hx) h
    cases gd with
    | none =>
      have h : aop P k e H (fun v H' => aops P ops (e.put dst v) H' K Kp) (fun v H' => Kp v e H') := by
        clear go
        cases k <;> first | (cases o2; done) | exact h
      exact aops_none o2 (go h)
    | some g =>
      obtain ⟨s, w⟩ := g
      have hs := o4 s w rfl
      have h : match agd (e s) with
        | some b => (b = some w → aop P k e H (fun v H' => aops P ops (e.put dst v) H' K Kp) (fun v H' => Kp v e H')) ∧ (b ≠ some w → aops P ops (e.put dst aud) H K Kp)
        | none => False := h
      split at h
      · rename_i b hb
        refine w_gdO (b := b) (by rw [putD_ne hs]; exact hb) (fun hw => go (h.1 hw)) fun hw => ?_
        rw [putD_put o3]
        exact aops_ds hK hKp ops _ H ho.2 (h.2 hw)
      · exact h.elim
theorem adops_ds [YC] {K K' : Env → AH → Prop} {Kp Kp' : AV → Env → AH → Prop} {ep : Env} (hK : ∀ e H, K e H → K' (putD ds e) H) (hKp : ∀ v H, Kp v ep H → Kp' v (putD ds ep) H) : ∀ (its : List DIt) (e : Env) (H : AH) (pend : Pend), its.all (fun it => opOk it.o) = true → adops P ep K Kp its e H pend → adops P (putD ds ep) K' Kp' its (putD ds e) H pend
  | [], e, H, _, _, h => hK e H h
  | it :: l, e, H, pend, ho, h => by
    rw [List.all_cons, Bool.and_eq_true] at ho
    obtain ⟨o1, o2, o3, o4⟩ := opOk_spec ho.1
    have c1 := fun H' => aread_congr (H := H') (tmps_eq (ds := ds) (e := e) o1)
    have c2 := apure_congr (tmps_eq (ds := ds) (e := e) o1)
    have c3 := anew_congr (tmps_eq (ds := ds) (e := e) o1)
    have rec' : ∀ v H' pend', adops P ep K Kp l (e.put it.o.dst v) H' pend' → adops P (putD ds ep) K' Kp' l ((putD ds e).put it.o.dst v) H' pend' := fun v H' pend' hx => by
      rw [putD_put o3]; exact adops_ds hK hKp l _ H' pend' ho.2 hx
    simp only [adops] at h ⊢
    have step : (if it.eff then aop P it.o.k e H (fun v H' => chk it.fl pend H' ∧ adops P ep K Kp l (e.put it.o.dst v) H' pend) (fun v H' => Kp v ep H')
      else match apure it.o.k e with
        | some v => adops P ep K Kp l (e.put it.o.dst v) H pend
        | none => match aread it.o.k e H with
          | some v => adops P ep K Kp l (e.put it.o.dst v) H ((it.i, fun H' => aread it.o.k e H' = some v) :: pend)
          | none => match anew it.o.k e with
            | some (c, f) => adops P ep K Kp l (e.put it.o.dst (f H.next)) (H.push (.cells c)) ((it.i, fun H' => H'.get H.next = some (.cells c)) :: pend)
            | none => False) → (if it.eff then aop P it.o.k (putD ds e) H (fun v H' => chk it.fl pend H' ∧ adops P (putD ds ep) K' Kp' l ((putD ds e).put it.o.dst v) H' pend) (fun v H' => Kp' v (putD ds ep) H')
      else match apure it.o.k (putD ds e) with
        | some v => adops P (putD ds ep) K' Kp' l ((putD ds e).put it.o.dst v) H pend
        | none => match aread it.o.k (putD ds e) H with
          | some v => adops P (putD ds ep) K' Kp' l ((putD ds e).put it.o.dst v) H ((it.i, fun H' => aread it.o.k (putD ds e) H' = some v) :: pend)
          | none => match anew it.o.k (putD ds e) with
            | some (c, f) => adops P (putD ds ep) K' Kp' l ((putD ds e).put it.o.dst (f H.next)) (H.push (.cells c)) ((it.i, fun H' => H'.get H.next = some (.cells c)) :: pend)
            | none => False) := fun h => by
      by_cases he : it.eff = true
      · rw [if_pos he] at h ⊢
        rw [← aop_congr (tmps_eq (ds := ds) o1)]
        exact aop_mono (fun v H' hx => ⟨hx.1, rec' v H' pend hx.2⟩) (fun v H' hx => hKp v H' hx) h
      · rw [if_neg he] at h ⊢
        rw [← c2, ← c1, ← c3]
        split at h
        · exact rec' _ _ _ h
        · split at h
          · rename_i v hv
            have := rec' v H _ h
            simp only [← c1]; exact this
          · split at h
            · exact rec' _ _ _ h
            · exact h
    split at h
    · exact step h
    · rename_i s w hg
      have hs := o4 s w hg
      rw [putD_ne hs]
      split at h
      · exact ⟨fun hw => step (h.1 hw), fun hw => rec' _ _ _ (h.2 hw)⟩
      · exact h.elim
theorem clr_ds {plan : List DIt} {e : Env} (h : plan.all (fun it => opOk it.o) = true) : clr plan (putD ds e) = putD ds (clr plan e) := by
  funext t
  by_cases ht : t = dslot
  · subst ht
    rw [putD_at]
    unfold clr
    rw [if_neg, putD_at]
    intro hx
    obtain ⟨it, h1, h2⟩ := List.any_eq_true.1 hx
    exact (opOk_spec (List.all_eq_true.1 h it h1)).2.2.1 (by simpa using h2)
  · rw [putD_ne ht]
    unfold clr
    rw [putD_ne ht]
end
def acOk : ACode → Bool
  | .skip => true
  | .reg ops => ops.all opOk
  | .dreg plan => plan.all fun it => opOk it.o
  | .seq a b => acOk a && acOk b
  | .cond c a b => tOk c.tmps && (acOk a && acOk b)
  | .block _ a => acOk a
  | .loop a => acOk a
  | .exit _ => true
  | .ret => true
  | .rng g ps a b => tOk g.tmps && (tOk ps && (acOk a && acOk b))
abbrev Its := FuncId → List AV → Option (List (List AV))
def ItsOk (P : Program) (its : Its) : Prop := ∀ g caps xs, its g caps = some xs → ∀ H, AIt P g caps H xs
noncomputable def x_ar1 (as : List AV) (K : AV → List AV → KC) : KC := List.rec (motive := fun _ => KC) .bad (fun v t _ => K v t) as
noncomputable def x_ar2 (as : List AV) (K : KC) : KC := List.rec (motive := fun _ => KC) K (fun _ _ _ => .bad) as
noncomputable def x_prm (ps : List Nat) : List AV → Env → (Env → KC) → KC :=
  List.rec (motive := fun _ => List AV → Env → (Env → KC) → KC) (fun x e K => x_ar2 x (K e)) (fun p _ ih x e K => x_ar1 x fun v t => ih t (e.set p v) K) ps
noncomputable def x_rnd (f : List AV → KH → (KH → KC) → KC) (xs : List (List AV)) : KH → (KH → KC) → KC := List.rec (motive := fun _ => KH → (KH → KC) → KC) (fun h K => K h) (fun x _ ih h K => f x h fun h' => ih h' K) xs
noncomputable def x_it (its : Its) (v : AV) (K : List (List AV) → KC) : KC :=
  FP.rec (motive := fun _ => KC) .bad (fun g first cap => List.rec (motive := fun _ => KC) (Option.rec (motive := fun _ => KC) .bad K (its g cap)) (fun _ _ _ => .bad) first) (toFP v)
noncomputable def knp (c : KC) : KC := KC.rec (motive := fun _ => KC) (fun v h => .ret v h) (fun _ _ => .bad) .bad c
theorem knp_inv {c r : KC} (hb : r ≠ .bad) (h : knp c = r) : c = r ∧ ∀ v h', r ≠ .pan v h' := by
  cases c with
  | ret v h' => have h : KC.ret v h' = r := h; subst h; exact ⟨rfl, fun _ _ hh => by cases hh⟩
  | pan v h' => exact absurd h.symm hb
  | bad => exact absurd h.symm hb
noncomputable def knox : Nat → EK := (fun (_ : AK → Nat) _ => kno) xTop
theorem x_it_inv {r : KC} (hb : r ≠ .bad) {its : Its} {v : AV} {K : List (List AV) → KC} (h : x_it its v K = r) : ∃ f caps xs, v = .fn (.func f) [] caps ∧ its f caps = some xs ∧ K xs = r := by
  unfold x_it at h
  cases hv : toFP v with
  | no => rw [hv] at h; exact absurd h.symm hb
  | «at» f first caps =>
    rw [hv] at h
    cases first with
    | cons x l => exact absurd h.symm hb
    | nil =>
      have h : Option.rec (motive := fun _ => KC) .bad K (its f caps) = r := h
      cases hi : its f caps with
      | none => rw [hi] at h; exact absurd h.symm hb
      | some xs => rw [hi] at h; exact ⟨f, caps, xs, toFP_at hv, hi, h⟩
theorem x_prm_inv {r : KC} (hb : r ≠ .bad) {K : Env → KC} : ∀ (ps : List Nat) (x : List AV) (e : Env), x_prm ps x e K = r → x.length = ps.length ∧ K (setAll e ps x) = r
  | [], [], e, h => ⟨rfl, h⟩
  | [], _ :: _, e, h => absurd h.symm hb
  | p :: ps, [], e, h => absurd h.symm hb
  | p :: ps, v :: x, e, h => by
    obtain ⟨h1, h2⟩ := x_prm_inv hb ps x (e.set p v) h
    exact ⟨by rw [List.length_cons, List.length_cons, h1], h2⟩
theorem setAll_ne : ∀ (ps : List Nat) (x : List AV) (e : Env) (t : Nat), t ∉ ps → setAll e ps x t = e t
  | [], x, e, t, _ => by cases x <;> rfl
  | p :: ps, [], e, t, _ => rfl
  | p :: ps, v :: x, e, t, h => by
    show setAll (e.set p v) ps x t = e t
    rw [setAll_ne ps x _ t (fun hh => h (List.mem_cons_of_mem _ hh)), Env.set_ne _ _ (fun hh => h (by rw [hh]; exact List.mem_cons_self ..))]
theorem setAll_put {d : AV} : ∀ (ps : List Nat) (x : List AV) (e : Env), tOk ps = true → setAll (putD d e) ps x = putD d (setAll e ps x)
  | [], x, e, _ => by cases x <;> rfl
  | p :: ps, [], e, _ => rfl
  | p :: ps, v :: x, e, h => by
    have hp : p ≠ dslot := tOk_ne h p (List.mem_cons_self ..)
    have h2 : tOk ps = true := by
      simp only [tOk, List.all_cons, Bool.and_eq_true] at h ⊢; exact h.2
    show setAll ((putD d e).set p v) ps x = putD d (setAll (e.set p v) ps x)
    rw [← setAll_put ps x (e.set p v) h2]
    have : (putD d e).set p v = putD d (e.set p v) := putD_put (d := some p) (fun hh => hp (by cases hh; rfl))
    rw [this]
theorem rndE_put {d : AV} {ps : List Nat} {x : List AV} {e : Env} (h : tOk ps = true) (hd : e dslot = .tup []) : rndE (putD d e) ps x = putD (.tup []) (setAll e ps x) := by
  unfold rndE
  rw [setAll_put ps x e h]
  funext t
  by_cases ht : t = dslot
  · subst ht; rw [Env.set_same, putD_at]
  · rw [Env.set_ne _ _ ht, putD_ne ht, putD_ne ht]
noncomputable def runM (its : Its) (call : KCall) (c : ACode) : HT → EK → (Nat → EK) → EK → EK :=
  ACode.rec (motive := fun _ => HT → EK → (Nat → EK) → EK → EK)
    (fun _ kn _ _ => kn)
    (fun ops _ kn _ _ e h => kreg call ops e h kn)
    (fun plan _ kn _ _ e h => kdreg call plan e h kn)
    (fun _ _ ra rb t kn ke kr => HT.rec (motive := fun _ => EK) kno (fun x y _ _ => ra x (rb y kn ke kr) ke kr) (fun _ _ _ _ => kno) (fun _ _ _ _ _ => kno) t)
    (fun c _ _ ra rb t kn ke kr e h => HT.rec (motive := fun _ => KC) .bad (fun _ _ _ _ => .bad) (fun x y _ _ => x_if0 (c.ev e) (ra x kn ke kr e h) (rb y kn ke kr e h))
      (fun l x y _ _ => x_if (c.ev e) (jlam l jenv kn) (fun J => ra x (jcall l J) ke kr e h) (fun J => rb y (jcall l J) ke kr e h)) t)
    (fun id _ ra t kn ke kr e h => HT.rec (motive := fun _ => KC) .bad (fun _ _ _ _ => .bad) (fun x _ _ _ => ra x kn (kexi id kn ke) kr e h)
      (fun l x _ _ _ => x_blk (jlam l jenv kn) fun J => ra x (jcall l J) (kexi id (jcall l J) ke) kr e h) t)
    (fun _ ra t _ ke kr e h => HT.rec (motive := fun _ => KC) .bad (fun _ _ _ _ => .bad) (fun _ _ _ _ => .bad)
      (fun l x _ _ _ => jcall l (x_loop (jbad l) fun self => jlam l jenv fun e h => ra x (jcall l self) ke kr e h) e h) t)
    (fun id _ _ ke _ => ke id)
    (fun _ _ _ kr => kr)
    (fun g ps _ _ ra rb t kn _ _ e h => HT.rec (motive := fun _ => KC) .bad (fun a b _ _ => knp (x_it its (g.ev e) fun xs =>
      x_rnd (fun x h K => x_prm ps x e fun e => ra a (rb b (fun _ h => K h) knox kno) knox kno e h) xs h fun h => kn e h)) (fun _ _ _ _ => .bad) (fun _ _ _ _ _ => .bad) t) c
def KQD (M : List AV → Prop) (r : KC) (kn : EK) (ke : Nat → EK) (kr : EK) : Ex → Env → AH → Prop := fun x E H => ∃ e ds, M ds ∧ E = putD (.tup ds) e ∧ KQ r kn ke kr x e H
theorem kset_vsD {ds : AV} {l : List Nat} {e : Env} {H : AH} (hd : e dslot = .tup []) : VS (putD ds e) H (putD ds (kset l e jenv)) H :=
  VS.keep (fun t => by
    by_cases h : t = dslot
    · subst h; rw [putD_at, putD_at]; exact .inl rfl
    · rw [putD_ne h, putD_ne h]; exact (kset_keep hd).1 t) (by rw [putD_at, putD_at])
theorem KQD.join {M : List AV → Prop} {r : KC} {l : List Nat} {kn : EK} {ke : Nat → EK} {kr : EK} : ∀ x E H, KQD M r (jcall l (jlam l jenv kn)) ke kr x E H → vsX (KQD M r kn ke kr) x E H := by
  rintro x E H ⟨e, ds, hM, rfl, hd, h, rfl, hx⟩
  cases x with
  | normal =>
    simp only [jcall_jlam] at hx
    exact ⟨_, _, kset_vsD (l := l) hd, _, ds, hM, rfl, (kset_keep hd).2, h, rfl, hx⟩
  | exit i => exact vsX_same ⟨e, ds, hM, rfl, hd, h, rfl, hx⟩
  | ret => exact vsX_same ⟨e, ds, hM, rfl, hd, h, rfl, hx⟩
  | pan v => exact ⟨e, ds, hM, rfl, hd, h, rfl, hx⟩
section
variable {P : Program} {call : KCall} {r : KC} {n : Nat} {hs : Hints} {its : Its}
theorem run_soundD (hC : CallsOk P call) (hI : ItsOk P its) (hmix : P.follows .mixedOrders = true) (hn : n ≤ dslot) : ∀ (c : Code) (ac : ACode), comp P hs n c = some ac → acOk ac = true → ∀ (M : List AV → Prop) (ro : Option Nat), (rOk ac = true ∨ (ro = none ∧ ∀ ds, M ds → M (.nili :: ds))) →
    ∀ (r : KC) (t : HT) (kn : EK) (ke : Nat → EK) (kr : EK) (e : Env) (h : KH) (ds : List AV), r ≠ .bad → M ds → e dslot = .tup [] → runM its call ac t kn ke kr e h = r → DSr ro P n c (KQD M r kn ke kr) (putD (.tup ds) e) (toAH h) := by
  intro c
  induction c with
  | skip =>
    intro ac hc _ M ro hk r t kn ke kr e h ds hb hM hd hr
    simp only [comp, Option.some.injEq] at hc; subst hc
    exact DSr.skip ⟨e, ds, hM, rfl, hd, h, rfl, hr⟩
  | exit id =>
    intro ac hc _ M ro hk r t kn ke kr e h ds hb hM hd hr
    simp only [comp, Option.some.injEq] at hc; subst hc
    exact DSr.exit ⟨e, ds, hM, rfl, hd, h, rfl, hr⟩
  | ret =>
    intro ac hc _ M ro hk r t kn ke kr e h ds hb hM hd hr
    simp only [comp, Option.some.injEq] at hc; subst hc
    exact DSr.ret ⟨e, ds, hM, rfl, hd, h, rfl, hr⟩
  | region id ops draw =>
    intro ac hc ho M ro hk r t kn ke kr e h ds hb hM hd hr
    have hbb : KC.bad ≠ r := fun h => hb h.symm
    have h1 : ∀ e' h', e' dslot = .tup [] → kn e' h' = r → KQ r kn ke kr .normal e' (toAH h') := fun e' h' q1 q2 => ⟨q1, h', rfl, q2⟩
    have h2 : ∀ v h', r = .pan v h' → ∀ e', e' dslot = .tup [] → KQ r kn ke kr (.pan v) e' (toAH h') := fun v h' q1 e' q2 => ⟨q2, h', rfl, q1⟩
    refine DSr.of_D hmix hn hc (hk.elim .inr fun h => .inl h.1) ?_
    cases draw with
    | true =>
      simp only [comp] at hc
      split at hc <;> (try (cases hc; done))
      split at hc <;> (try (cases hc; done))
      rename_i plan hpl
      split at hc <;> (try (cases hc; done))
      simp only [Option.some.injEq] at hc; subst hc
      have hk := kdreg_sound hC hb (K' := fun e' H' => KQ r kn ke kr .normal e' H') (Kp' := fun v e' H' => KQ r kn ke kr (.pan v) e' H') h1 h2 hd hr
      refine d_dregV ?_
      rw [clr_ds ho]
      exact adops_ds (fun e' H' q => vs_same ⟨e', ds, hM, rfl, q⟩) (fun v H' q => ⟨_, ds, hM, rfl, q⟩) plan e _ [] ho hk
    | false =>
      simp only [comp, Option.map_eq_some_iff] at hc
      obtain ⟨al, hal, rfl⟩ := hc
      have hk := kreg_sound hC hb (K' := fun e' H' => KQ r kn ke kr .normal e' H') (Kp' := fun v e' H' => KQ r kn ke kr (.pan v) e' H') h1 h2 hd hr
      exact d_regV (aops_ds (fun e' H' q => vs_same ⟨e', ds, hM, rfl, q⟩) (fun v e' H' q => ⟨e', ds, hM, rfl, q⟩) al e _ ho hk)
  | seq x y ihx ihy =>
    intro ac hc ho M ro hk r t kn ke kr e h ds hb hM hd hr
    have hbb : KC.bad ≠ r := fun h => hb h.symm
    simp only [comp] at hc
    split at hc
    · rename_i ax ay hx hy
      simp only [Option.some.injEq] at hc; subst hc
      simp only [acOk, Bool.and_eq_true] at ho
      cases t with
      | l => exact absurd hr hbb
      | i a b => exact absurd hr hbb
      | j l a b => exact absurd hr hbb
      | s a b =>
        have hr : runM its call ax a (runM its call ay b kn ke kr) ke kr e h = r := hr
        refine DSr.seq (DSr.post ?_ (ihx ax hx ho.1 M ro (hk.imp (fun h => by simp only [rOk, Bool.and_eq_true] at h; exact h.1) id) r a _ ke kr e h ds hb hM hd hr))
        rintro z E' H' ⟨e', ds', hM', rfl, hd', h', rfl, hz⟩
        refine vsX_same ?_
        cases z with
        | normal => exact ihy ay hy ho.2 M ro (hk.imp (fun h => by simp only [rOk, Bool.and_eq_true] at h; exact h.2) id) r b kn ke kr e' h' ds' hb hM' hd' hz
        | exit i => exact ⟨e', ds', hM', rfl, hd', h', rfl, hz⟩
        | ret => exact ⟨e', ds', hM', rfl, hd', h', rfl, hz⟩
        | pan v => exact ⟨e', ds', hM', rfl, hd', h', rfl, hz⟩
    · cases hc
  | cond c x y ihx ihy =>
    intro ac hc ho M ro hk r t kn ke kr e h ds hb hM hd hr
    have hbb : KC.bad ≠ r := fun h => hb h.symm
    simp only [comp] at hc
    split at hc
    · rename_i c' ax ay h1 hx hy
      simp only [Option.some.injEq] at hc; subst hc
      simp only [acOk, Bool.and_eq_true] at ho
      obtain ⟨hoc, hox, hoy⟩ := ho
      have k1 : rOk ax = true ∨ (ro = none ∧ ∀ ds, M ds → M (.nili :: ds)) := hk.imp (fun h => by simp only [rOk, Bool.and_eq_true] at h; exact h.1) id
      have k2 : rOk ay = true ∨ (ro = none ∧ ∀ ds, M ds → M (.nili :: ds)) := hk.imp (fun h => by simp only [rOk, Bool.and_eq_true] at h; exact h.2) id
      have hev : c'.ev (putD (.tup ds) e) = c'.ev e := AOpd.ev_congr fun t ht => putD_ne (tOk_ne hoc t ht)
      have go : ∀ {A B : KC} {Q : Ex → Env → AH → Prop}, x_if0 (c'.ev e) A B = r → (A = r → DSr ro P n x Q (putD (.tup ds) e) (toAH h)) → (B = r → DSr ro P n y Q (putD (.tup ds) e) (toAH h)) → DSr ro P n (.cond c x y) Q (putD (.tup ds) e) (toAH h) := fun {A B Q} hi ha hbq => by
        unfold x_if0 at hi
        cases hv : toBP (c'.ev e) with
        | no => rw [hv] at hi; exact absurd hi hbb
        | «at» b =>
          rw [hv] at hi
          refine DSr.cond h1 (by rw [hev]; exact toBP_at hv) (fun ht => ?_) (fun ht => ?_)
          · subst ht; exact ha hi
          · subst ht; exact hbq hi
      cases t with
      | l => exact absurd hr hbb
      | s a b => exact absurd hr hbb
      | i a b => exact go hr (fun q => ihx ax hx hox M ro k1 r a kn ke kr e h ds hb hM hd q) (fun q => ihy ay hy hoy M ro k2 r b kn ke kr e h ds hb hM hd q)
      | j l a b => exact go hr (fun q => (ihx ax hx hox M ro k1 r a _ ke kr e h ds hb hM hd q).post KQD.join) (fun q => (ihy ay hy hoy M ro k2 r b _ ke kr e h ds hb hM hd q).post KQD.join)
    · cases hc
  | block id x ih =>
    intro ac hc ho M ro hk r t kn ke kr e h ds hb hM hd hr
    have hbb : KC.bad ≠ r := fun h => hb h.symm
    simp only [comp, Option.map_eq_some_iff] at hc
    obtain ⟨ax, hx, rfl⟩ := hc
    cases t with
    | l => exact absurd hr hbb
    | s a b => exact absurd hr hbb
    | i a b =>
      refine DSr.block ((ih ax hx ho M ro hk r a kn (kexi id kn ke) kr e h ds hb hM hd hr).post ?_)
      rintro z E' H' ⟨e', ds', hM', rfl, hd', h', rfl, hz⟩
      refine vsX_same ?_
      cases z with
      | normal => exact ⟨e', ds', hM', rfl, hd', h', rfl, hz⟩
      | exit i =>
        simp only [kexi_eq] at hz
        simp only []
        by_cases hi : i = id
        · rw [if_pos hi]; rw [if_pos hi] at hz; exact ⟨e', ds', hM', rfl, hd', h', rfl, hz⟩
        · rw [if_neg hi]; rw [if_neg hi] at hz; exact ⟨e', ds', hM', rfl, hd', h', rfl, hz⟩
      | ret => exact ⟨e', ds', hM', rfl, hd', h', rfl, hz⟩
      | pan v => exact ⟨e', ds', hM', rfl, hd', h', rfl, hz⟩
    | j l a b =>
      have hr : runM its call ax a (jcall l (jlam l jenv kn)) (kexi id (jcall l (jlam l jenv kn)) ke) kr e h = r := hr
      refine DSr.block ((ih ax hx ho M ro hk r a _ _ kr e h ds hb hM hd hr).post ?_)
      rintro z E' H' ⟨e', ds', hM', rfl, hd', h', rfl, hz⟩
      cases z with
      | normal => exact KQD.join (l := l) .normal _ _ ⟨e', ds', hM', rfl, hd', h', rfl, hz⟩
      | exit i =>
        simp only [kexi_eq] at hz
        by_cases hi : i = id
        · rw [if_pos hi] at hz
          simp only [jcall_jlam] at hz
          refine ⟨_, _, kset_vsD (l := l) hd', ?_⟩
          simp only [hi, if_true]
          exact ⟨_, ds', hM', rfl, (kset_keep hd').2, h', rfl, hz⟩
        · rw [if_neg hi] at hz
          refine vsX_same ?_
          simp only []
          rw [if_neg hi]; exact ⟨e', ds', hM', rfl, hd', h', rfl, hz⟩
      | ret => exact vsX_same ⟨e', ds', hM', rfl, hd', h', rfl, hz⟩
      | pan v => exact ⟨e', ds', hM', rfl, hd', h', rfl, hz⟩
  | loop x ih =>
    intro ac hc ho M ro hk r t kn ke kr e h ds hb hM hd hr
    have hbb : KC.bad ≠ r := fun h => hb h.symm
    simp only [comp, Option.map_eq_some_iff] at hc
    obtain ⟨ax, hx, rfl⟩ := hc
    cases t with
    | l => exact absurd hr hbb
    | s a b => exact absurd hr hbb
    | i a b => exact absurd hr hbb
    | j l a b =>
      have hr : jcall l (x_lp (jbad l) (fun self => jlam l jenv fun e h => runM its call ax a (jcall l self) ke kr e h) kmany) e h = r := hr
      generalize hbody : (fun self : JT l => jlam l jenv fun e h => runM its call ax a (jcall l self) ke kr e h) = body at hr
      refine DSr.loop (L := fun k E H => ∃ e ds, M ds ∧ E = putD (.tup ds) e ∧ e dslot = .tup [] ∧ ∃ h, toAH h = H ∧ jcall l (x_lp (jbad l) body k) e h = r) ⟨e, ds, hM, rfl, hd, h, rfl, hr⟩ ?_
      rintro k E1 H1 ⟨e1, ds1, hM1, rfl, hd1, h1, rfl, hr1⟩
      cases k with
      | zero =>
        have hr1 : jcall l (jbad l) e1 h1 = r := hr1
        rw [jcall_jbad] at hr1
        exact absurd hr1 hbb
      | succ k =>
        have hr1 : jcall l (body (x_lp (jbad l) body k)) e1 h1 = r := hr1
        rw [← hbody, jcall_jlam, hbody] at hr1
        refine DSr.vs (kset_vsD (l := l) hd1) ((ih ax hx ho M ro hk r a _ ke kr _ h1 ds1 hb hM1 (kset_keep hd1).2 hr1).post ?_)
        rintro z E' H' ⟨e', ds', hM', rfl, hd', h', rfl, hz⟩
        refine vsX_same ?_
        cases z with
        | normal => exact ⟨k, Nat.lt_succ_self k, e', ds', hM', rfl, hd', h', rfl, hz⟩
        | exit i => exact ⟨e', ds', hM', rfl, hd', h', rfl, hz⟩
        | ret => exact ⟨e', ds', hM', rfl, hd', h', rfl, hz⟩
        | pan v => exact ⟨e', ds', hM', rfl, hd', h', rfl, hz⟩
  | rangeFunc g ps as bd iha ihb =>
    intro ac hc ho M ro hk r t kn ke kr e h ds hb hM hd hr
    have hbb : KC.bad ≠ r := fun h => hb h.symm
    simp only [comp] at hc
    split at hc <;> (try (cases hc; done))
    rename_i g' aa ab hg ha hb'
    split at hc <;> (try (cases hc; done))
    rename_i hok
    simp only [Option.some.injEq] at hc; subst hc
    obtain ⟨hps, ra, rb⟩ := hok
    have hps : ∀ p ∈ ps.toList, p < n := fun p hp => by simpa using List.all_eq_true.1 hps p hp
    obtain ⟨hro, hcl⟩ := hk.resolve_left (by simp [rOk])
    subst hro
    simp only [acOk, Bool.and_eq_true] at ho
    obtain ⟨og, op, oa, ob⟩ := ho
    cases t with
    | l => exact absurd hr hbb
    | i a b => exact absurd hr hbb
    | j l a b => exact absurd hr hbb
    | s a b =>
      have hr : knp (x_it its (g'.ev e) fun xs => x_rnd (fun x h K => x_prm ps.toList x e fun e => runM its call aa a (runM its call ab b (fun _ h => K h) knox kno) knox kno e h) xs h fun h => kn e h) = r := hr
      obtain ⟨hr, hnp⟩ := knp_inv hb hr
      obtain ⟨f, caps, xs, q1, q2, q3⟩ := x_it_inv hb hr
      generalize hfn : (fun (x : List AV) (h : KH) (K : KH → KC) => x_prm ps.toList x e fun e => runM its call aa a (runM its call ab b (fun _ h => K h) knox kno) knox kno e h) = F at q3
      have hev : g'.ev (putD (.tup ds) e) = g'.ev e := AOpd.ev_congr fun t ht => putD_ne (tOk_ne og t ht)
      refine DSr.rng (f := f) (caps := caps) (xs := xs) (ds := ds) (I := fun i H => ∃ h, toAH h = H ∧ x_rnd F (xs.drop i) h (fun h => kn e h) = r) hn hg hps (by rw [hev]; exact q1) (putD_at _ _) (hI f caps xs q2 _) ⟨h, rfl, q3⟩ (fun i x Hi hx hIi hle => ?_) (fun Hn hIn => ?_)
      · obtain ⟨h', rfl, hr'⟩ := hIi
        obtain ⟨hi, hx⟩ := List.getElem?_eq_some_iff.1 hx
        rw [List.drop_eq_getElem_cons hi, hx] at hr'
        have hr' : F x h' (fun h'' => x_rnd F (xs.drop (i + 1)) h'' fun h => kn e h) = r := hr'
        rw [← hfn] at hr'
        obtain ⟨p1, p2⟩ := x_prm_inv hb ps.toList x e hr'
        rw [hfn] at p2
        refine ⟨by simpa using p1, fun l => ?_⟩
        rw [rndE_put op hd]
        have hse : setAll e ps.toList x dslot = .tup [] := by rw [setAll_ne _ _ _ _ (fun hm => tOk_ne op _ hm rfl)]; exact hd
        refine DSr.post ?_ (iha aa ha oa (fun ds => ds = []) (some l) (.inl ra) r a _ knox kno _ h' [] hb rfl hse p2)
        rintro z E' H' ⟨e', ds', rfl, rfl, hd', h'', rfl, hz⟩
        cases z with
        | exit i => exact absurd hz hbb
        | ret => exact absurd hz hbb
        | pan v => exact absurd hz (hnp _ _)
        | normal =>
          refine vsX_same ⟨rfl, ?_⟩
          refine DSr.post ?_ (ihb ab hb' ob (fun ds => ds = []) (some l) (.inl rb) r b _ knox kno e' h'' [] hb rfl hd' hz)
          rintro z2 E2 H2 ⟨e2, ds2, rfl, rfl, hd2, h2, rfl, hz2⟩
          cases z2 with
          | exit i => exact absurd hz2 hbb
          | ret => exact absurd hz2 hbb
          | pan v => exact absurd hz2 (hnp _ _)
          | normal => exact vsX_same ⟨rfl, h2, rfl, hz2⟩
      · obtain ⟨h', rfl, hr'⟩ := hIn
        rw [List.drop_length] at hr'
        refine ⟨e, .nili :: ds, hcl ds hM, ?_, hd, h', rfl, hr'⟩
        funext t
        by_cases ht : t = dslot
        · subst ht; rw [Env.set_same, putD_at]
        · rw [Env.set_ne _ _ ht, putD_ne ht, putD_ne ht]
  | _ => intro ac hc; simp [comp] at hc
end
end Go.AL
namespace Go.AL
variable [GLC]
section
variable {P : Program}
theorem Fun.callDD {f : FuncId} {n : Nat} {ac : ACode} {ars : List ARes} (hF : Fun P f n ac ars) {args : List AV} {H : AH} {post : AOut → AH → Prop} (hlen : args.length ≤ n)
    (h : ∀ c hs, comp P hs n c = some ac → DS P n c (dpost P ars post) (env0 args) H) : ACall P f args H post := by
  have hle := hF.le
  obtain ⟨fn, c, hs, hf, hname, hb, hn, hc, hr⟩ := hF.ex
  subst hn
  refine ACall.oldE ⟨fn, hf, hname, by rw [hb]; rfl⟩ fun Z σ w vs hO _ hW hv => calls_of_wp_defers hf hb ?_
  have hfr : FR Z σ fn.ntmps (env0 args) { tmps := vs.toArray ++ Array.replicate (fn.ntmps - vs.toArray.size) undef, defers := [] } := env0_FR hv hlen hle
  refine Code.wp_mono ?_ (wpIn_wide.1 (h c hs hc Z σ _ w Z σ H.next hO yok_none (Zle.refl _) (Nw.refl _ _) (Nat.le_refl _) hW hfr))
  intro ex a' w' hq
  obtain ⟨Z', σ', z, e', H', g1, g2, g3, g4, g5, g6, g, all, m, hds, hx, hA⟩ := hq
  cases z with
  | normal => cases g6; subst hx; exact leaves_one (m := none) hr g1 g2 g3 g4 g5 hds rfl hA
  | ret => cases g6; subst hx; exact leaves_one (m := none) hr g1 g2 g3 g4 g5 hds rfl hA
  | pan v =>
    obtain ⟨cv, rfl, hv⟩ := g6
    subst hx
    exact leaves_one (m := some v) hr g1 g2 g3 g4 g5 hds ⟨cv, rfl, hv⟩ hA
  | exit i => exact hx.elim
def qOk (q : List ARes) : Bool := q.all fun x => match x with
  | .tmp t => Nat.ble (t + 1) dslot
  | .cell a _ => Nat.ble (a + 1) dslot
theorem aress_ds {ds : AV} {e : Env} {H : AH} : ∀ q : List ARes, qOk q = true → aress (putD ds e) H q = aress e H q
  | [], _ => rfl
  | .tmp t :: q, h => by
    simp only [qOk, List.all_cons, Bool.and_eq_true] at h
    have := Nat.le_of_ble_eq_true h.1
    simp only [aress, aress_ds q h.2, putD_ne (ds := ds) (e := e) (t := t) (by omega)]
  | .cell a g :: q, h => by
    simp only [qOk, List.all_cons, Bool.and_eq_true] at h
    have := Nat.le_of_ble_eq_true h.1
    simp only [aress, aress_ds q h.2, putD_ne (ds := ds) (e := e) (t := a) (by omega)]
theorem w_deferA {e : Env} {H : AH} {K : Env → AH → Prop} {Kp : AV → Env → AH → Prop} {l : List AOper} {d : Option Nat} {f : AOpd} {args : List AOpd} {g : FuncId} {first cap ds : List AV} (hf : f.ev e = .fn (.func g) first cap) (hd : e dslot = .tup ds)
    (hK : aops P l ((e.set dslot (.tup (.tup [.fn (.func g) [] [], .tup (first ++ args.map (·.ev e) ++ cap)] :: ds))).put d .unk) H K Kp) : aops P (⟨d, .defer f args, none⟩ :: l) e H K Kp := by
  simp only [aops, hf, hd]; exact hK
theorem aops_nil {e : Env} {H : AH} {K : Env → AH → Prop} {Kp : AV → Env → AH → Prop} (h : K e H) : aops P [] e H K Kp := h
def noIts : Its := fun _ _ => none
theorem noIts_ok {P : Program} : ItsOk P noIts := fun _ _ _ h => by cases h
noncomputable def kfunD (np : Nat) (q : List ARes) (a0 a1 a3 : ACode) (t : Nat) (g : FuncId) (cp : List AOpd) (t0 t1 t3 : HT) : KCall → List AV → KH → KC := fun call as h =>
  knp (kargs np 0 jenv as h fun e h => run call a0 t0 (run call a1 t1 (fun e h => runM noIts call a3 t3 (kfin q) (fun _ => kno) (kfin q) (e.set t (.fn (.func g) [] (kevs e cp))) h) (fun _ => kno) kno) (fun _ => kno) kno e h)
theorem kfunD_sound {f g : FuncId} {n np t : Nat} {q : List ARes} {a0 a1 a3 : ACode} {cp : List AOpd} {t0 t1 t3 : HT}
    (hF : Fun P f n (.seq a0 (.seq a1 (.seq (.reg [⟨some t, .mkFunc (.func g) [] cp, none⟩, ⟨none, .defer (.tmp t) [], none⟩]) a3))) q)
    (ht : Nat.ble (t + 1) dslot = true) (ho : acOk a3 = true) (hro : rOk a3 = true) (hq : qOk q = true) (hnp : Nat.ble np n = true) (hA : ∀ all H, all.length = cp.length → ADef P g all none H fun H' => H' = H) {F : GF} (hf : F = kfunD np q a0 a1 a3 t g cp t0 t1 t3) : SoundF P f F := by
  subst hf
  intro call hC as h
  have hnp := Nat.le_of_ble_eq_true hnp
  have ht := Nat.le_of_ble_eq_true ht
  refine ⟨fun v hv hr => ?_, fun v hv hr => ?_⟩
  · obtain ⟨r, hr'⟩ : ∃ r, r = kargs np 0 jenv as h fun e h => run call a0 t0 (run call a1 t1 (fun e h => runM noIts call a3 t3 (kfin q) (fun _ => kno) (kfin q) (e.set t (.fn (.func g) [] (kevs e cp))) h) (fun _ => kno) kno) (fun _ => kno) kno e h := ⟨_, rfl⟩
    have hr : knp r = .ret v hv := by rw [hr']; exact hr
    have hrv : r = .ret v hv := by
      cases r with
      | ret v' h' => exact hr
      | pan v' h' => cases hr
      | bad => cases hr
    subst hrv
    have hb : KC.ret v hv ≠ .bad := by intro x; cases x
    have hnb : ∀ {x : KC}, x = KC.bad → x = .ret v hv → False := fun h1 h2 => by rw [h1] at h2; cases h2
    obtain ⟨h1, e, h2, h3⟩ := kargs_inv hb np 0 jenv as hr'.symm
    have hle := hF.le
    have he : e = env0 as := by
      funext t
      rw [h3, env0, jenv, beq_decide, cond_dec]
      by_cases c1 : t = dslot
      · subst c1
        rw [if_neg (by omega), if_pos rfl, if_pos rfl]
      · rw [if_neg c1, if_neg c1]
        by_cases c2 : t < np
        · rw [if_pos (by omega)]; rfl
        · rw [if_neg (by omega), List.getD_eq_getElem?_getD, List.getElem?_eq_none (by omega)]; rfl
    subst he
    refine hF.callDD (by omega) fun c hs hc => ?_
    obtain ⟨c0, c', rfl, hc0, hc'⟩ := comp_seq_inv hc
    obtain ⟨c1, c'', rfl, hc1, hc''⟩ := comp_seq_inv hc'
    obtain ⟨cd, c3, rfl, hcd, hc3⟩ := comp_seq_inv hc''
    refine DSr.seq (DSr.post ?_ (run_sound hC hF.mix hle hb c0 a0 hc0 t0 _ _ _ _ h (by simp [env0]) h2))
    rintro z e1 H1 ⟨hd1, h1', rfl, hz⟩
    refine vsX_same ?_
    cases z with
    | exit i => exact (hnb rfl hz).elim
    | ret => exact (hnb rfl hz).elim
    | pan v => cases hz
    | normal =>
    refine DSr.seq (DSr.post ?_ (run_sound hC hF.mix hle hb c1 a1 hc1 t1 _ _ _ e1 h1' hd1 hz))
    rintro z e2 H2 ⟨hd2, h2', rfl, hz⟩
    refine vsX_same ?_
    cases z with
    | exit i => exact (hnb rfl hz).elim
    | ret => exact (hnb rfl hz).elim
    | pan v => cases hz
    | normal =>
    refine DSr.seq (DSr.of_D hF.mix hle hcd (.inl rfl) (d_regV ?_))
    refine aops_none rfl (aop_plain (k := .mkFunc (.func g) [] cp) (v := (.fn (.func g) [] (cp.map (·.ev e2)), toAH h2')) rfl (by simp [aone, apure]) ?_)
    have hne : t ≠ dslot := by omega
    have hd3 : (e2.put (some t) (.fn (.func g) [] (cp.map (·.ev e2)))) dslot = .tup [] := by
      rw [put_ne (fun h => hne (by cases h; rfl))]; exact hd2
    have hev : (AOpd.tmp t).ev (e2.put (some t) (.fn (.func g) [] (cp.map (·.ev e2)))) = .fn (.func g) [] (cp.map (·.ev e2)) := by simp [AOpd.ev, Env.put, Env.set_get]
    refine w_deferA (args := []) hev hd3 ?_
    refine aops_nil (vs_same ?_)
    have hz : runM noIts call a3 t3 (kfin q) (fun _ => kno) (kfin q) (e2.set t (.fn (.func g) [] (kevs e2 cp))) h2' = .ret v hv := hz
    rw [kevs_eq] at hz
    refine DSr.post ?_ (run_soundD hC noIts_ok hF.mix hle c3 a3 hc3 ho (fun ds => ds = [.tup [.fn (.func g) [] [], .tup (cp.map (·.ev e2))]]) none (.inl hro) _ t3 _ _ _ _ h2' _ hb rfl hd3 hz)
    rintro z E3 H3 ⟨e3, _, rfl, rfl, hd3', h3', rfl, hz⟩
    have fin : kfin q e3 h3' = .ret v hv → ADef P g (cp.map (·.ev e2)) none (toAH h3') fun H' => match aress (putD (.tup [.tup [.fn (.func g) [] [], .tup (cp.map (·.ev e2))]]) e3) H' q with
        | some vs => AOut.ret (retv vs) = .ret v ∧ H' = toAH hv
        | none => False := fun hk => by
      obtain ⟨l, k1, k2⟩ := kfin_inv hb hk
      cases k2
      refine (hA (cp.map (·.ev e2)) _ (List.length_map ..)).mono fun H' hH => ?_
      subst hH
      rw [aress_ds q hq, k1]
      exact ⟨rfl, rfl⟩
    refine vsX_same ?_
    cases z with
    | exit i => exact (hnb rfl hz).elim
    | pan v => cases hz
    | normal => exact ⟨g, _, none, putD_at _ _, rfl, fin hz⟩
    | ret => exact ⟨g, _, none, putD_at _ _, rfl, fin hz⟩
  · exfalso
    have hr : knp _ = KC.pan v hv := hr
    revert hr
    generalize (kargs np 0 jenv as h _ : KC) = r
    intro hr
    cases r <;> cases hr
noncomputable def kfunM (its : Its) (np : Nat) (q : List ARes) (ac : ACode) (t : HT) : KCall → List AV → KH → KC := fun call as h =>
  kargs np 0 jenv as h fun e h => runM its call ac t (kfin q) (fun _ => kno) (kfin q) e h
theorem kfunM_sound {g n np : Nat} {q : List ARes} {ac : ACode} {t : HT} {its : Its} (hF : Fun P g n ac q) (hI : ItsOk P its) (ho : acOk ac = true) (hq : qOk q = true) (hnp : Nat.ble np n = true) {F : GF} (hf : F = kfunM its np q ac t) : SoundF P g F := by
  subst hf
  intro call hC as h
  have hnp := Nat.le_of_ble_eq_true hnp
  have main : ∀ (r : KC) (post : AOut → AH → Prop), kfunM its np q ac t call as h = r → r ≠ .bad → (∀ v h', r = .ret v h' → post (.ret v) (toAH h')) → (∀ v h', r = .pan v h' → post (.pan v) (toAH h')) → ACall P g as (toAH h) post := by
    intro r post hr hb p1 p2
    obtain ⟨h1, e, h2, h3⟩ := kargs_inv hb np 0 jenv as hr
    have hle := hF.le
    have he : env0 as = putD (.tup []) e := by
      funext t
      by_cases c1 : t = dslot
      · subst c1
        rw [putD_at, env0, if_pos rfl]
      · rw [putD_ne c1, h3, env0, jenv, beq_decide, cond_dec, if_neg c1, if_neg c1]
        by_cases c2 : t < np
        · rw [if_pos (by omega)]; rfl
        · rw [if_neg (by omega), List.getD_eq_getElem?_getD, List.getElem?_eq_none (by omega)]; rfl
    have hd : e dslot = .tup [] := by
      rw [h3, jenv, beq_decide, cond_dec, if_neg (by omega), if_pos rfl]
    refine hF.callS (by omega) fun c hs hc => ?_
    rw [he]
    refine DSr.post ?_ (run_soundD hC hI hF.mix hF.le c ac hc ho (fun ds => ∀ x ∈ ds, x = .nili) none (.inr ⟨rfl, fun ds hds x hx => by cases hx with
      | head => rfl
      | tail _ hx => exact hds x hx⟩) r t _ _ _ _ h [] hb nilis_nil hd h2)
    rintro x E' H' ⟨e', ds, hM, rfl, hd', h', rfl, hx⟩
    refine vsX_same ⟨⟨ds, putD_at _ _, hM⟩, ?_⟩
    cases x with
    | normal =>
      obtain ⟨l, g1, g2⟩ := kfin_inv hb hx
      simp only [fpost, aress_ds q hq, g1]
      exact p1 _ _ g2
    | ret =>
      obtain ⟨l, g1, g2⟩ := kfin_inv hb hx
      simp only [fpost, aress_ds q hq, g1]
      exact p1 _ _ g2
    | exit i => exact absurd hx.symm hb
    | pan v => exact p2 _ _ hx
  exact ⟨fun v h' hr => main _ _ hr (by intro hh; cases hh) (fun v' h'' hh => by cases hh; exact ⟨rfl, rfl⟩) (fun v' h'' hh => by cases hh),
    fun v h' hr => main _ _ hr (by intro hh; cases hh) (fun v' h'' hh => by cases hh) (fun v' h'' hh => by cases hh; exact ⟨rfl, rfl⟩)⟩
theorem kfunM_of {g : FuncId} {fn : Func} {n np : Nat} {hs : Hints} {q : List ARes} {t : HT} {its : Its} {F : GF} (hI : ItsOk P its) (hmix : P.follows .mixedOrders = true) (hf : P.funcs[g]? = some fn) (hname : (fn.name == "runtime.NumGoroutine") = false)
    (hn : fn.ntmps = n) (hb : (fn.body.bind (comp P hs n)).isSome = true) (hr : cRess P fn.results.toList = some q) (hle : Nat.ble n dslot = true) (hnp : Nat.ble np n = true) (ho : acOk (acOf P fn hs n) = true) (hq : qOk q = true) (hF : F = kfunM its np q (acOf P fn hs n) t) : SoundF P g F := by
  obtain ⟨ac, hac⟩ := Option.isSome_iff_exists.1 hb
  have e : acOf P fn hs n = ac := by unfold acOf; rw [hac]
  rw [e] at hF ho
  exact kfunM_sound (Fun.mk' hmix hf hname hn hac hr hle) hI ho hq hnp hF
end
end Go.AL
namespace Go.AL
section
variable [GLC] [YC]
noncomputable def pexi (id : Nat) (K : PK) (ke : Nat → PK) : Nat → PK := (fun (_ : Nat) i => Bool.rec (motive := fun _ => PK) (ke i) K (Nat.beq i id)) yTop
theorem pexi_eq (id : Nat) (K : PK) (ke : Nat → PK) (i : Nat) : pexi id K ke i = if i = id then K else ke i := by
  show Bool.rec (motive := fun _ => PK) (ke i) K (Nat.beq i id) = _
  rw [beq_decide]
  by_cases h : i = id <;> simp [h]
noncomputable def pno : PK := fun _ _ => False
def y_ar1 (as : List AV) (K : AV → List AV → Prop) : Prop := match as with
  | v :: t => K v t
  | [] => False
def y_ar2 (as : List AV) (K : Prop) : Prop := match as with
  | _ :: _ => False
  | [] => K
def y_rng (P : Program) (fv : AV) (H : AH) (B : List AV → AH → (AH → Prop) → Prop) (K : AH → Prop) : Prop := ∃ (f : FuncId) (caps : List AV) (xs : List (List AV)) (I : Nat → AH → Prop),
  fv = .fn (.func f) [] caps ∧ AIt P f caps H xs ∧ I 0 H ∧ (∀ i x Hi, xs[i]? = some x → I i Hi → H.next ≤ Hi.next → B x Hi (I (i + 1))) ∧ ∀ Hn, I xs.length Hn → K Hn
def y_np : AV → AH → Prop := fun _ _ => False
noncomputable def rTop : Nat :=
  let _a := y_ar1
  let _b := y_ar2
  let _c := y_rng
  let _d := y_np
  yTop
noncomputable def p_prm (ps : List Nat) : List AV → Env → (Env → Prop) → Prop :=
  (fun (_ : Nat) => List.rec (motive := fun _ => List AV → Env → (Env → Prop) → Prop) (fun x e K => y_ar2 x (K e)) (fun p _ ih x e K => y_ar1 x fun v t => ih t (e.set p v) K) ps) rTop
theorem p_prm_inv {K : Env → Prop} : ∀ (ps : List Nat) (x : List AV) (e : Env), p_prm ps x e K → x.length = ps.length ∧ K (setAll e ps x)
  | [], [], e, h => ⟨rfl, h⟩
  | [], _ :: _, e, h => (show False from h).elim
  | p :: ps, [], e, h => (show False from h).elim
  | p :: ps, v :: x, e, h => by
    obtain ⟨h1, h2⟩ := p_prm_inv ps x (e.set p v) h
    exact ⟨by rw [List.length_cons, List.length_cons, h1], h2⟩
noncomputable def pone : Nat → PK := (fun (_ : Nat) _ => pno) rTop
noncomputable def prunK (P : Program) (c : ACode) : (AV → AH → Prop) → HT → PK → (Nat → PK) → PK → PK :=
  ACode.rec (motive := fun _ => (AV → AH → Prop) → HT → PK → (Nat → PK) → PK → PK)
    (fun _ _ kn _ _ => kn)
    (fun ops Kp _ kn _ _ e h => preg P Kp ops e h kn)
    (fun plan Kp _ kn _ _ e h => pdreg P Kp plan e h kn)
    (fun _ _ ra rb Kp t kn ke kr => HT.rec (motive := fun _ => PK) pno (fun x y _ _ => ra Kp x (rb Kp y kn ke kr) ke kr) (fun _ _ _ _ => pno) (fun _ _ _ _ _ => pno) t)
    (fun c _ _ ra rb Kp t kn ke kr e h => HT.rec (motive := fun _ => Prop) False (fun _ _ _ _ => False) (fun x y _ _ => y_if0 (c.ev e) (ra Kp x kn ke kr e h) (rb Kp y kn ke kr e h))
      (fun l x y _ _ => y_if (c.ev e) (plam l jenv kn) (fun J => ra Kp x (pcall l J) ke kr e h) (fun J => rb Kp y (pcall l J) ke kr e h)) t)
    (fun id _ ra Kp t kn ke kr e h => HT.rec (motive := fun _ => Prop) False (fun _ _ _ _ => False) (fun x _ _ _ => ra Kp x kn (pexi id kn ke) kr e h)
      (fun l x _ _ _ => y_blk (plam l jenv kn) fun J => ra Kp x (pcall l J) (pexi id (pcall l J) ke) kr e h) t)
    (fun _ ra Kp t _ ke kr e h => HT.rec (motive := fun _ => Prop) False (fun _ _ _ _ => False) (fun _ _ _ _ => False)
      (fun l x _ _ _ => y_loop l (fun self => plam l jenv fun e h => ra Kp x (pcall l self) ke kr e h) (kset l e jenv) h) t)
    (fun id _ _ _ ke _ => ke id)
    (fun _ _ _ _ kr => kr)
    (fun g ps _ _ ra rb _ t kn _ _ e h => HT.rec (motive := fun _ => Prop) False (fun a b _ _ => y_rng P (g.ev e) h (fun x h K => p_prm ps x e fun e => ra y_np a (rb y_np b (fun _ h => K h) pone pno) pone pno e h) fun h => kn e h) (fun _ _ _ _ => False) (fun _ _ _ _ _ => False) t) c
noncomputable def prun (P : Program) (Kp : AV → AH → Prop) (c : ACode) : HT → PK → (Nat → PK) → PK → PK := prunK P c Kp
def PQ (Kp : AV → AH → Prop) (kn : PK) (ke : Nat → PK) (kr : PK) : Ex → Env → AH → Prop := fun x e H => e dslot = .tup [] ∧ match x with
  | .normal => kn e H
  | .exit i => ke i e H
  | .ret => kr e H
  | .pan v => Kp v H
def PQD (M : List AV → Prop) (Kp : AV → AH → Prop) (kn : PK) (ke : Nat → PK) (kr : PK) : Ex → Env → AH → Prop := fun x E H => ∃ e ds, M ds ∧ E = putD (.tup ds) e ∧ PQ Kp kn ke kr x e H
theorem PQD.join {M : List AV → Prop} {Kp : AV → AH → Prop} {l : List Nat} {kn : PK} {ke : Nat → PK} {kr : PK} : ∀ x E H, PQD M Kp (pcall l (plam l jenv kn)) ke kr x E H → vsX (PQD M Kp kn ke kr) x E H := by
  rintro x E H ⟨e, ds, hM, rfl, hd, hx⟩
  cases x with
  | normal =>
    simp only [pcall_plam] at hx
    exact ⟨_, _, kset_vsD (l := l) hd, _, ds, hM, rfl, (kset_keep hd).2, hx⟩
  | exit i => exact vsX_same ⟨e, ds, hM, rfl, hd, hx⟩
  | ret => exact vsX_same ⟨e, ds, hM, rfl, hd, hx⟩
  | pan v => exact ⟨e, ds, hM, rfl, hd, hx⟩
theorem pcall0_congr : ∀ {l : List Nat} {J : JP l} {e e' : Env} {h : AH}, (∀ i ∈ l, e i = e' i) → pcall0 l J e h = pcall0 l J e' h
  | [], _, _, _, _, _ => rfl
  | i :: l, J, e, e', h, hh => by
    show pcall0 l (J (e i)) e h = pcall0 l (J (e' i)) e' h
    rw [hh i (.head _)]
    exact pcall0_congr fun j hj => hh j (.tail _ hj)
theorem ncall_congr : ∀ {l : List Nat} {J : JN l} {e e' : Env} {h : AH}, (∀ i ∈ l, e i = e' i) → ncall l J e h = ncall l J e' h
  | [], _, _, _, _, _ => rfl
  | i :: l, J, e, e', h, hh => by
    show ncall l (J (e i)) e h = ncall l (J (e' i)) e' h
    rw [hh i (.head _)]
    exact ncall_congr fun j hj => hh j (.tail _ hj)
theorem pcall0_plam0 : ∀ (l : List Nat) (e0 : Env) (f : PK) (e : Env) (h : AH), pcall0 l (plam0 l e0 f) e h = f (kset l e e0) h
  | [], _, _, _, _ => rfl
  | i :: l, e0, f, e, h => by
    show pcall0 l (plam0 l (e0.set i (e i)) f) e h = _
    rw [pcall0_plam0 l]; rfl
section
variable {P : Program} {n : Nat} {hs : Hints}
theorem prun_sound (hmix : P.follows .mixedOrders = true) (hn : n ≤ dslot) : ∀ (c : Code) (ac : ACode), comp P hs n c = some ac → acOk ac = true → ∀ (M : List AV → Prop) (ro : Option Nat), (rOk ac = true ∨ (ro = none ∧ ∀ ds, M ds → M (.nili :: ds))) →
    ∀ (Kp : AV → AH → Prop) (t : HT) (kn : PK) (ke : Nat → PK) (kr : PK) (e : Env) (h : AH) (ds : List AV), M ds → e dslot = .tup [] → prun P Kp ac t kn ke kr e h → DSr ro P n c (PQD M Kp kn ke kr) (putD (.tup ds) e) h := by
  intro c
  induction c with
  | skip =>
    intro ac hc ho M ro hk Kp t kn ke kr e h ds hM hd hr
    simp only [comp, Option.some.injEq] at hc; subst hc
    exact DSr.skip ⟨e, ds, hM, rfl, hd, hr⟩
  | exit id =>
    intro ac hc ho M ro hk Kp t kn ke kr e h ds hM hd hr
    simp only [comp, Option.some.injEq] at hc; subst hc
    exact DSr.exit ⟨e, ds, hM, rfl, hd, hr⟩
  | ret =>
    intro ac hc ho M ro hk Kp t kn ke kr e h ds hM hd hr
    simp only [comp, Option.some.injEq] at hc; subst hc
    exact DSr.ret ⟨e, ds, hM, rfl, hd, hr⟩
  | region id ops draw =>
    intro ac hc ho M ro hk Kp t kn ke kr e h ds hM hd hr
    have h1 : ∀ e' h', e' dslot = .tup [] → kn e' h' → PQ Kp kn ke kr .normal e' h' := fun e' h' q1 q2 => ⟨q1, q2⟩
    have h2 : ∀ v h', Kp v h' → ∀ e', e' dslot = .tup [] → PQ Kp kn ke kr (.pan v) e' h' := fun v h' q1 e' q2 => ⟨q2, q1⟩
    refine DSr.of_D hmix hn hc (hk.elim .inr fun h => .inl h.1) ?_
    cases draw with
    | true =>
      simp only [comp] at hc
      split at hc <;> (try (cases hc; done))
      split at hc <;> (try (cases hc; done))
      rename_i plan hpl
      split at hc <;> (try (cases hc; done))
      simp only [Option.some.injEq] at hc; subst hc
      have hk := pdreg_sound (K' := fun e' H' => PQ Kp kn ke kr .normal e' H') (Kp' := fun v e' H' => PQ Kp kn ke kr (.pan v) e' H') h1 h2 hd hr
      refine d_dregV ?_
      rw [clr_ds ho]
      exact adops_ds (fun e' H' q => vs_same ⟨e', ds, hM, rfl, q⟩) (fun v H' q => ⟨_, ds, hM, rfl, q⟩) plan e _ [] ho hk
    | false =>
      simp only [comp, Option.map_eq_some_iff] at hc
      obtain ⟨al, hal, rfl⟩ := hc
      have hk := preg_sound (K' := fun e' H' => PQ Kp kn ke kr .normal e' H') (Kp' := fun v e' H' => PQ Kp kn ke kr (.pan v) e' H') h1 h2 hd hr
      exact d_regV (aops_ds (fun e' H' q => vs_same ⟨e', ds, hM, rfl, q⟩) (fun v e' H' q => ⟨e', ds, hM, rfl, q⟩) al e _ ho hk)
  | seq x y ihx ihy =>
    intro ac hc ho M ro hk Kp t kn ke kr e h ds hM hd hr
    simp only [comp] at hc
    split at hc
    · rename_i ax ay hx hy
      simp only [Option.some.injEq] at hc; subst hc
      simp only [acOk, Bool.and_eq_true] at ho
      cases t with
      | l => exact (show False from hr).elim
      | i a b => exact (show False from hr).elim
      | j l a b => exact (show False from hr).elim
      | s a b =>
        have hr : prun P Kp ax a (prun P Kp ay b kn ke kr) ke kr e h := hr
        refine DSr.seq (DSr.post ?_ (ihx ax hx ho.1 M ro (hk.imp (fun h => by simp only [rOk, Bool.and_eq_true] at h; exact h.1) id) Kp a _ ke kr e h ds hM hd hr))
        rintro z E' H' ⟨e', ds', hM', rfl, hd', hz⟩
        refine vsX_same ?_
        cases z with
        | normal => exact ihy ay hy ho.2 M ro (hk.imp (fun h => by simp only [rOk, Bool.and_eq_true] at h; exact h.2) id) Kp b kn ke kr e' H' ds' hM' hd' hz
        | exit i => exact ⟨e', ds', hM', rfl, hd', hz⟩
        | ret => exact ⟨e', ds', hM', rfl, hd', hz⟩
        | pan v => exact ⟨e', ds', hM', rfl, hd', hz⟩
    · cases hc
  | cond c x y ihx ihy =>
    intro ac hc ho M ro hk Kp t kn ke kr e h ds hM hd hr
    simp only [comp] at hc
    split at hc
    · rename_i c' ax ay h1 hx hy
      simp only [Option.some.injEq] at hc; subst hc
      simp only [acOk, Bool.and_eq_true] at ho
      obtain ⟨hoc, hox, hoy⟩ := ho
      have k1 : rOk ax = true ∨ (ro = none ∧ ∀ ds, M ds → M (.nili :: ds)) := hk.imp (fun h => by simp only [rOk, Bool.and_eq_true] at h; exact h.1) id
      have k2 : rOk ay = true ∨ (ro = none ∧ ∀ ds, M ds → M (.nili :: ds)) := hk.imp (fun h => by simp only [rOk, Bool.and_eq_true] at h; exact h.2) id
      have hev : c'.ev (putD (.tup ds) e) = c'.ev e := AOpd.ev_congr fun t ht => putD_ne (tOk_ne hoc t ht)
      have go : ∀ {A B : Prop} {Q : Ex → Env → AH → Prop}, y_if0 (c'.ev e) A B → (A → DSr ro P n x Q (putD (.tup ds) e) h) → (B → DSr ro P n y Q (putD (.tup ds) e) h) → DSr ro P n (.cond c x y) Q (putD (.tup ds) e) h := fun {A B Q} hi ha hbq => by
        unfold y_if0 at hi
        split at hi
        · rename_i b hb
          exact DSr.cond h1 (by rw [hev]; exact hb) (fun ht => ha (hi.1 ht)) (fun ht => hbq (hi.2 ht))
        · exact hi.elim
      cases t with
      | l => exact (show False from hr).elim
      | s a b => exact (show False from hr).elim
      | i a b => exact go hr (fun q => ihx ax hx hox M ro k1 Kp a kn ke kr e h ds hM hd q) (fun q => ihy ay hy hoy M ro k2 Kp b kn ke kr e h ds hM hd q)
      | j l a b => exact go hr (fun q => (ihx ax hx hox M ro k1 Kp a _ ke kr e h ds hM hd q).post PQD.join) (fun q => (ihy ay hy hoy M ro k2 Kp b _ ke kr e h ds hM hd q).post PQD.join)
    · cases hc
  | block id x ih =>
    intro ac hc ho M ro hk Kp t kn ke kr e h ds hM hd hr
    simp only [comp, Option.map_eq_some_iff] at hc
    obtain ⟨ax, hx, rfl⟩ := hc
    cases t with
    | l => exact (show False from hr).elim
    | s a b => exact (show False from hr).elim
    | i a b =>
      refine DSr.block ((ih ax hx ho M ro hk Kp a kn (pexi id kn ke) kr e h ds hM hd hr).post ?_)
      rintro z e' H' ⟨e', ds', hM', rfl, hd', hz⟩
      refine vsX_same ?_
      cases z with
      | normal => exact ⟨e', ds', hM', rfl, hd', hz⟩
      | exit i =>
        simp only [pexi_eq] at hz
        simp only []
        by_cases hi : i = id
        · rw [if_pos hi]; rw [if_pos hi] at hz; exact ⟨e', ds', hM', rfl, hd', hz⟩
        · rw [if_neg hi]; rw [if_neg hi] at hz; exact ⟨e', ds', hM', rfl, hd', hz⟩
      | ret => exact ⟨e', ds', hM', rfl, hd', hz⟩
      | pan v => exact ⟨e', ds', hM', rfl, hd', hz⟩
    | j l a b =>
      have hr : prun P Kp ax a (pcall l (plam l jenv kn)) (pexi id (pcall l (plam l jenv kn)) ke) kr e h := hr
      refine DSr.block ((ih ax hx ho M ro hk Kp a _ _ kr e h ds hM hd hr).post ?_)
      rintro z E' H' ⟨e', ds', hM', rfl, hd', hz⟩
      cases z with
      | normal => exact PQD.join (l := l) .normal _ _ ⟨e', ds', hM', rfl, hd', hz⟩
      | exit i =>
        simp only [pexi_eq] at hz
        by_cases hi : i = id
        · rw [if_pos hi] at hz
          simp only [pcall_plam] at hz
          refine ⟨_, _, kset_vsD (l := l) hd', ?_⟩
          simp only [hi, if_true]
          exact ⟨_, ds', hM', rfl, (kset_keep hd').2, hz⟩
        · rw [if_neg hi] at hz
          refine vsX_same ?_
          simp only []
          rw [if_neg hi]; exact ⟨e', ds', hM', rfl, hd', hz⟩
      | ret => exact vsX_same ⟨e', ds', hM', rfl, hd', hz⟩
      | pan v => exact ⟨e', ds', hM', rfl, hd', hz⟩
  | loop x ih =>
    intro ac hc ho M ro hk Kp t kn ke kr e h ds hM hd hr
    simp only [comp, Option.map_eq_some_iff] at hc
    obtain ⟨ax, hx, rfl⟩ := hc
    cases t with
    | l => exact (show False from hr).elim
    | s a b => exact (show False from hr).elim
    | i a b => exact (show False from hr).elim
    | j l a b =>
      have hr : y_loop l (fun self => plam l jenv fun e h => prun P Kp ax a (pcall l self) ke kr e h) (kset l e jenv) h := hr
      obtain ⟨I, μ, hI, step⟩ := hr
      refine DSr.vs (kset_vsD (l := l) hd) (DSr.loop (L := fun k E H => ∃ e ds, M ds ∧ E = putD (.tup ds) e ∧ e dslot = .tup [] ∧ pcall0 l I e H ∧ ncall l μ e H = k) ⟨_, ds, hM, rfl, (kset_keep hd).2, hI, rfl⟩ ?_)
      rintro k E1 H1 ⟨e1, ds1, hM1, rfl, hd1, hI1, rfl⟩
      have st := step e1 H1 hI1
      have st : pcall l (plam l jenv fun e h => prun P Kp ax a (pcall l (plam0 l emp fun e' H' => pcall0 l I e' H' ∧ ncall l μ e' H' < ncall l μ e1 H1)) ke kr e h) e1 H1 := st
      rw [pcall_plam] at st
      refine DSr.vs (kset_vsD (l := l) hd1) ((ih ax hx ho M ro hk Kp a _ ke kr _ H1 ds1 hM1 (kset_keep hd1).2 st).post ?_)
      rintro z e' H' ⟨e', ds', hM', rfl, hd', hz⟩
      refine vsX_same ?_
      cases z with
      | normal =>
        have hz : pcall0 l (plam0 l emp fun e' H' => pcall0 l I e' H' ∧ ncall l μ e' H' < ncall l μ e1 H1) e' H' := hz
        rw [pcall0_plam0] at hz
        have c : ∀ i ∈ l, kset l e' emp i = e' i := fun i hi => by rw [kset_get, if_pos hi]
        rw [pcall0_congr c, ncall_congr c] at hz
        exact ⟨_, hz.2, e', ds', hM', rfl, hd', hz.1, rfl⟩
      | exit i => exact ⟨e', ds', hM', rfl, hd', hz⟩
      | ret => exact ⟨e', ds', hM', rfl, hd', hz⟩
      | pan v => exact ⟨e', ds', hM', rfl, hd', hz⟩
  | rangeFunc g ps as bd iha ihb =>
    intro ac hc ho M ro hk Kp t kn ke kr e h ds hM hd hr
    simp only [comp] at hc
    split at hc <;> (try (cases hc; done))
    rename_i g' aa ab hg ha hb'
    split at hc <;> (try (cases hc; done))
    rename_i hok
    simp only [Option.some.injEq] at hc; subst hc
    obtain ⟨hps, ra, rb⟩ := hok
    have hps : ∀ p ∈ ps.toList, p < n := fun p hp => by simpa using List.all_eq_true.1 hps p hp
    obtain ⟨hro, hcl⟩ := hk.resolve_left (by simp [rOk])
    subst hro
    simp only [acOk, Bool.and_eq_true] at ho
    obtain ⟨og, op, oa, ob⟩ := ho
    cases t with
    | l => exact (show False from hr).elim
    | i a b => exact (show False from hr).elim
    | j l a b => exact (show False from hr).elim
    | s a b =>
      have hr : y_rng P (g'.ev e) h (fun x h K => p_prm ps.toList x e fun e => prun P y_np aa a (prun P y_np ab b (fun _ h => K h) pone pno) pone pno e h) fun h => kn e h := hr
      obtain ⟨f, caps, xs, I, q1, q2, q3, q4, q5⟩ := hr
      have hev : g'.ev (putD (.tup ds) e) = g'.ev e := AOpd.ev_congr fun t ht => putD_ne (tOk_ne og t ht)
      refine DSr.rng (f := f) (caps := caps) (xs := xs) (ds := ds) (I := I) hn hg hps (by rw [hev]; exact q1) (putD_at _ _) q2 q3 (fun i x Hi hx hIi hle => ?_) (fun Hn hIn => ?_)
      · obtain ⟨p1, p2⟩ := p_prm_inv ps.toList x e (q4 i x Hi hx hIi hle)
        refine ⟨by simpa using p1, fun l => ?_⟩
        rw [rndE_put op hd]
        have hse : setAll e ps.toList x dslot = .tup [] := by rw [setAll_ne _ _ _ _ (fun hm => tOk_ne op _ hm rfl)]; exact hd
        refine DSr.post ?_ (iha aa ha oa (fun ds => ds = []) (some l) (.inl ra) y_np a _ pone pno _ Hi [] rfl hse p2)
        rintro z E' H' ⟨e', ds', rfl, rfl, hd', hz⟩
        cases z with
        | exit i => exact (show False from hz).elim
        | ret => exact (show False from hz).elim
        | pan v => exact (show False from hz).elim
        | normal =>
          refine vsX_same ⟨rfl, ?_⟩
          refine DSr.post ?_ (ihb ab hb' ob (fun ds => ds = []) (some l) (.inl rb) y_np b _ pone pno e' H' [] rfl hd' hz)
          rintro z2 E2 H2 ⟨e2, ds2, rfl, rfl, hd2, hz2⟩
          cases z2 with
          | exit i => exact (show False from hz2).elim
          | ret => exact (show False from hz2).elim
          | pan v => exact (show False from hz2).elim
          | normal => exact vsX_same ⟨rfl, hz2⟩
      · refine ⟨e, .nili :: ds, hcl ds hM, ?_, hd, q5 Hn hIn⟩
        funext t
        by_cases ht : t = dslot
        · subst ht; rw [Env.set_same, putD_at]
        · rw [Env.set_ne _ _ ht, putD_ne ht, putD_ne ht]
  | _ => intro ac hc; simp [comp] at hc
end
noncomputable def pres (q : List ARes) (e : Env) (h : AH) : (List AV → Prop) → Prop :=
  (fun (_ : Nat) => List.rec (motive := fun _ => (List AV → Prop) → Prop) (fun K => K []) (fun r _ ih K => ARes.rec (motive := fun _ => Prop) (fun i => ih fun l => K (e i :: l)) (fun a g => y_rd (.load g (.cst (e a))) h fun v => ih fun l => K (v :: l)) r) q) yTop
theorem pres_inv {e : Env} {h : AH} : ∀ {q : List ARes} {K : List AV → Prop}, pres q e h K → ∃ l, aress e h q = some l ∧ K l
  | [], K, hr => ⟨[], rfl, hr⟩
  | .tmp i :: q, K, hr => by
    obtain ⟨l, h1, h2⟩ := pres_inv (q := q) (K := fun l => K (e i :: l)) hr
    exact ⟨_, by simp only [aress, h1]; rfl, h2⟩
  | .cell a g :: q, K, hr => by
    have hr : y_rd (.load g (.cst (e a))) h (fun v => pres q e h fun l => K (v :: l)) := hr
    obtain ⟨v, g1, g2⟩ := y_rd_inv hr
    obtain ⟨l, h1, h2⟩ := pres_inv (q := q) g2
    have g1 : aload g (e a) h = some v := g1
    exact ⟨_, by simp only [aress, g1, h1]; rfl, h2⟩
noncomputable def pfin (q : List ARes) (Post : AOut → AH → Prop) : PK := fun e h => pres q e h fun l => Post (.ret (retv l)) h
noncomputable def eargs (as : List AV) : Env := fun i => Bool.rec (motive := fun _ => AV) (kgetU as i) (.tup []) (Nat.beq i dslot)
theorem eargs_eq (as : List AV) : eargs as = env0 as := by
  funext i
  unfold eargs env0
  rw [beq_decide, kgetU_eq]
  by_cases h : i = dslot <;> simp [h]
def yp (Post : AOut → AH → Prop) : AV → AH → Prop := fun v H => Post (.pan v) H
noncomputable def pfun (P : Program) (q : List ARes) (ac : ACode) (t : HT) (as : List AV) (H : AH) (Post : AOut → AH → Prop) : Prop :=
  prun P (yp Post) ac t (pfin q Post) (fun _ => pno) (pfin q Post) (eargs as) H
theorem funOf {P : Program} {g : FuncId} {fn : Func} {n : Nat} {hs : Hints} {q : List ARes} (hmix : P.follows .mixedOrders = true) (hf : P.funcs[g]? = some fn) (hname : (fn.name == "runtime.NumGoroutine") = false)
    (hn : fn.ntmps = n) (hb : (fn.body.bind (comp P hs n)).isSome = true) (hr : cRess P fn.results.toList = some q) (hle : Nat.ble n dslot = true) : Fun P g n (acOf P fn hs n) q := by
  obtain ⟨ac, hac⟩ := Option.isSome_iff_exists.1 hb
  have e : acOf P fn hs n = ac := by unfold acOf; rw [hac]
  rw [e]
  exact Fun.mk' hmix hf hname hn hac hr hle
theorem pfun_end {q : List ARes} (hq : qOk q = true) {Post : AOut → AH → Prop} : ∀ x E H, PQD (fun ds => ∀ x ∈ ds, x = .nili) (yp Post) (pfin q Post) (fun _ => pno) (pfin q Post) x E H → vsX (fun x e H => (∃ ds, e dslot = .tup ds ∧ ∀ x ∈ ds, x = .nili) ∧ fpost q Post x e H) x E H := by
  rintro x E' H' ⟨e', ds, hM, rfl, hd, hx⟩
  refine vsX_same ⟨⟨ds, putD_at _ _, hM⟩, ?_⟩
  cases x with
  | normal =>
    obtain ⟨l, g1, g2⟩ := pres_inv hx
    simp only [fpost, aress_ds q hq, g1]; exact g2
  | ret =>
    obtain ⟨l, g1, g2⟩ := pres_inv hx
    simp only [fpost, aress_ds q hq, g1]; exact g2
  | exit i => exact (show False from hx).elim
  | pan v => exact hx
theorem nilis_cons : ∀ ds : List AV, (∀ x ∈ ds, x = .nili) → ∀ x ∈ (.nili :: ds : List AV), x = .nili := fun ds hds x hx => by
  cases hx with
  | head => rfl
  | tail _ hx => exact hds x hx
theorem eargs_put (as : List AV) : putD (.tup []) (eargs as) = env0 as := by
  rw [eargs_eq]
  funext t
  by_cases h : t = dslot
  · subst h; rw [putD_at]; simp [env0]
  · rw [putD_ne h]
end
section
variable [GLC]
theorem pfun_sound {P : Program} {g n : Nat} {q : List ARes} {ac : ACode} {t : HT} (hF : Fun P g n ac q) (ho : acOk ac = true) (hq : qOk q = true) {as : List AV} (hlen : Nat.ble as.length n = true) {H : AH} {Post : AOut → AH → Prop} {G : Prop} (hG : G = pfun P q ac t as H Post) (h : G) : ACall P g as H Post := by
  rw [hG] at h
  refine hF.callS (Nat.le_of_ble_eq_true hlen) fun c hs hc => ?_
  rw [← eargs_put]
  exact DSr.post (pfun_end hq) (prun_sound hF.mix hF.le c ac hc ho _ none (.inr ⟨rfl, nilis_cons⟩) _ t _ _ _ _ H [] nilis_nil (by rw [eargs_eq]; simp [env0]) h)
theorem pit_sound {P : Program} {g n : Nat} {q : List ARes} {ac : ACode} {t : HT} (hF : Fun P g n ac q) (ho : acOk ac = true) (hq : qOk q = true) {caps : List AV} {xs : List (List AV)} (hlen : Nat.ble (caps.length + 1) n = true) {H : AH}
    (h : ∀ l I, I 0 H → @pfun (ycI l xs I) P q ac t (.fn (.yield l) [] [] :: caps) H (fun out H' => (∃ v, out = .ret v) ∧ I xs.length H')) : AIt P g caps H xs :=
  hF.ait (Nat.le_of_ble_eq_true hlen) fun l I hI c hs hc => by
    rw [← eargs_put]
    exact @DSr.post (ycI l xs I) _ _ _ _ _ _ _ _ (@pfun_end _ (ycI l xs I) _ hq _) (@prun_sound _ (ycI l xs I) _ _ _ hF.mix hF.le c ac hc ho _ none (.inr ⟨rfl, nilis_cons⟩) _ t _ _ _ _ H [] nilis_nil (by rw [eargs_eq]; simp [env0]) (h l I hI))
end
end Go.AL
namespace Go.AL
variable [GLC]
mutual
inductive Pln : AV → Prop
  | bool (b : Bool) : Pln (.bool b)
  | int (k : IntKind) (n : Int) : Pln (.int k n)
  | str (l : List UInt8) : Pln (.str l)
  | nilp : Pln .nilp
  | nils : Pln .nils
  | nilm : Pln .nilm
  | nili : Pln .nili
  | agg {l : List AV} (h : Plns l) : Pln (.agg l)
  | tup {l : List AV} (h : Plns l) : Pln (.tup l)
inductive Plns : List AV → Prop
  | nil : Plns []
  | cons {x : AV} {l : List AV} (h : Pln x) (t : Plns l) : Plns (x :: l)
end
mutual
theorem Pln.vr {Z Z' : Zt} {σ σ' : Sg} : ∀ {x : AV} {v : Value}, Pln x → VR Z σ x v → VR Z' σ' x v
  | _, _, .bool _, h => by cases h; exact .bool _
  | _, _, .int _ _, h => by cases h; exact .int _ _
  | _, _, .str _, h => by cases h; exact .str _
  | _, _, .nilp, h => by cases h; exact .nilp
  | _, _, .nils, h => by cases h; exact .nils
  | _, _, .nilm, h => by cases h; exact .nilm
  | _, _, .nili, h => by cases h; exact .nili
  | _, _, .agg hp, h => by cases h with | agg h1 h => exact .agg h1 (hp.vr h)
  | _, _, .tup hp, h => by cases h with | tup h => exact .tup (hp.vr h)
theorem Plns.vr {Z Z' : Zt} {σ σ' : Sg} : ∀ {l : List AV} {vs : List Value}, Plns l → VRs Z σ l vs → VRs Z' σ' l vs
  | _, _, .nil, h => by cases h; exact .nil
  | _, _, .cons hx ht, h => by cases h with | cons a b => exact .cons (hx.vr a) (ht.vr b)
end
section
variable {P : Program}
theorem ACall.frameP {g : FuncId} {al : List AV} {R : AV} {H0 H : AH} (h : ACall P g al H0 fun o H' => o = .ret R ∧ H' = H0) (hs : Scs 0 al) (hR : Pln R) (h0 : ∀ r, H0.get r = none) (hg : H.gl = H0.gl) : ACall P g al H fun o H' => o = .ret R ∧ H' = H := by
  refine ⟨h.1, fun Z σ w vs hW hv => ?_⟩
  have hF := hW.freezeR (R := fun _ => True) (H' := ⟨fun _ => none, H.next, H.gl⟩) rfl (fun r o hr => by cases hr)
  have hW0 : WR (frZ Z σ H (fun _ => True) w) (fun _ => none) H0 w :=
    ⟨hF.z, fun r o p hr => (by rw [h0] at hr; cases hr), fun r r' o o' p p' hr => (by rw [h0] at hr; cases hr), fun _ _ => rfl, fun r _ => h0 r, by rw [← hg]; exact hF.rest⟩
  have hv0 : VRs (frZ Z σ H (fun _ => True) w) (fun _ => none) al vs := by
    have := (hv.mono (frZ_le (R := fun _ => True) hW) (Sle.refl _)).cut hs
    have e : cutS 0 σ = fun _ => none := by funext r; simp [cutS]
    rwa [e] at this
  refine (h.2 _ _ w vs hW0 hv0).mono fun x w' hx => ?_
  obtain ⟨Z1, σ1, H1, out, g1, g2, g3, g4, g5, rfl, rfl⟩ := hx
  classical
  obtain ⟨Z2, hZ2⟩ : ∃ Z2 : Zt, Z2 = { Z1 with blk := fun c => if (∃ r o p, H.get r = some o ∧ σ r = some p ∧ p.b = c) then none else Z1.blk c } := ⟨_, rfl⟩
  have hz : ∀ c o, Z2 c = some o → Z1 c = some o := fun c o hc => by
    rw [hZ2] at hc
    simp only at hc
    split at hc
    · cases hc
    · exact hc
  have hle : Zle Z Z2 := by
    have hl := (frZ_le (R := fun _ => True) hW).trans g1
    refine ⟨fun c o hc => ?_, by rw [hZ2]; exact hl.os, by rw [hZ2]; exact hl.out, by rw [hZ2]; exact hl.frz, by rw [hZ2]; exact hl.old⟩
    have := hl.le c o hc
    rw [hZ2]
    simp only
    rw [if_neg]
    · exact this
    · rintro ⟨r, o', p, q1, q2, rfl⟩
      rw [(hW.h r o' p q1 q2).1] at hc; cases hc
  refine ⟨Z2, σ, H, (.ret R), hle, Nw.refl _ _, Nat.le_refl _, ⟨fun c o hc => g4.z c o (hz c o hc), fun r o p q1 q2 => ⟨?_, ?_⟩, hW.inj, hW.fresh, hW.top, ?_⟩, ?_, rfl, rfl⟩
  · rw [hZ2]
    simp only
    rw [if_pos ⟨r, o, p, q1, q2, rfl⟩]
  · obtain ⟨_, hO⟩ := hW.h r o p q1 q2
    have hlt := hO.lt
    have e1 : w.heap[p.b]? = some (w.heap[p.b]'hlt) := Array.getElem?_eq_getElem hlt
    have e2 : frZ Z σ H (fun _ => True) w p.b = w.heap[p.b]? := frZ_at (R := fun _ => True) trivial q1 q2
    have e3 := g4.z _ _ (g1.le _ _ (e2.trans e1))
    exact hO.mono hle (Sle.refl _) (by rw [e3, e1])
  · have hr := g4.rest
    have hr0 := hW.rest
    exact ⟨by rw [hr.1, hZ2], by rw [hr.2.1, hZ2], fun c o hc => ⟨hle.le _ _ (hr0.2.2 c o hc).1, (hr0.2.2 c o hc).2⟩⟩
  · obtain ⟨cv, q1, q2⟩ := g5
    exact ⟨_, q1, hR.vr q2⟩
end
end Go.AL
namespace Go.AL
variable [GLC]
mutual
inductive FrzN (H : AH) : AV → AV → Prop
  | pln {x : AV} (h : Pln x) : FrzN H x x
  | unk (x : AV) : FrzN H x .unk
  | sl {r o n m : Nat} {lim : Lim} {l l' : List AV} {ex : Bool} (hc : H.cells? r = some l) (hm : o + m ≤ l.length) (hl : FrzNs H ((l.drop o).take m) l') (hn : n = 0 → m = 0) (hx : ex = true → lim = .ex n) :
      FrzN H (.sl r o n lim) (.sim l' n ex)
  | ptr {r o : Nat} {l l' : List AV} (hc : H.cells? r = some l) (hl : FrzNs H l l') : FrzN H (.ptr r o) (.pim l' o)
  | ifc {t : TypeId} {x y : AV} (h : FrzN H x y) : FrzN H (.ifc t x) (.ifc t y)
  | agg {l l' : List AV} (h : FrzNs H l l') : FrzN H (.agg l) (.agg l')
  | tup {l l' : List AV} (h : FrzNs H l l') : FrzN H (.tup l) (.tup l')
inductive FrzNs (H : AH) : List AV → List AV → Prop
  | nil : FrzNs H [] []
  | cons {x y : AV} {l l' : List AV} (h : FrzN H x y) (t : FrzNs H l l') : FrzNs H (x :: l) (y :: l')
end
section
variable {Z Z2 : Zt} {σ σ2 : Sg} {H : AH} {w : World}
theorem FrzNs.len {l l' : List AV} (h : FrzNs H l l') : l.length = l'.length := by
  induction l generalizing l' with
  | nil => cases h; rfl
  | cons x l ih => cases h with | cons a b => simp [ih b]
mutual
theorem FrzN.sound (hW : WR Z σ H w) (h2 : ∀ r o p, H.get r = some o → σ r = some p → Z2 p.b = w.heap[p.b]?) : ∀ {x y : AV}, FrzN H x y → ∀ {v : Value}, VR Z σ x v → VR Z2 σ2 y v
  | _, _, .pln h, v, hv => h.vr hv
  | _, _, .unk _, v, _ => .unk v
  | _, _, @FrzN.sl _ r o n m lim l l' ex hc hm hl hn hx, v, hv => by
    have hlen : m = l'.length := by have := hl.len; simp at this; omega
    have main : ∀ (p : Plc), σ r = some p → ∀ cap, n ≤ cap → (ex = true → cap = n) → VR Z2 σ2 (.sim l' n ex) (.slice (some ⟨p.b, p.base + o, none⟩) n cap) := by
      intro p hp cap hcap hxc
      obtain ⟨_, c, el, fr, hb, _, _, h4, h5, h6⟩ := hW.row hc hp
      have hz := h2 r _ p (cells?_some hc) hp
      rw [hb] at hz
      have e1 : (c.toList.drop (p.base + o)).take l'.length = (((c.toList.drop p.base).take l.length).drop o).take m := by
        rw [List.drop_take, List.drop_drop, List.take_take, Nat.min_eq_left (by omega), hlen]
      refine .sim hcap hxc rfl hz ?_ ?_
      · simp only [e1]; intro u hu; exact h6 u (List.mem_of_mem_drop (List.mem_of_mem_take hu))
      · simp only [e1]; exact FrzNs.sound hW h2 hl ((h5.drop _).take _)
    cases hv with
    | slx hp hnm => exact main _ hp _ hnm (fun h => by have := hx h; simp only [Lim.ex.injEq] at this; exact this)
    | slxz hp ad =>
      have h0 : l' = [] := List.eq_nil_of_length_eq_zero (by rw [← hlen]; exact hn rfl)
      subst h0; exact .simz ad (fun _ => rfl)
    | slo hp hnm hs => exact main _ hp _ hnm (fun h => by have := hx h; cases this)
    | sloz hp ad =>
      have h0 : l' = [] := List.eq_nil_of_length_eq_zero (by rw [← hlen]; exact hn rfl)
      subst h0; exact .simz ad (fun h => by have := hx h; cases this)
  | _, _, @FrzN.ptr _ r o l l' hc hl, v, hv => by
    obtain ⟨p, hp, rfl⟩ := hv.ptr_inv
    obtain ⟨_, c, el, fr, hb, _, _, h4, h5, h6⟩ := hW.row hc hp
    have hz := h2 r _ p (cells?_some hc) hp
    rw [hb] at hz
    have hlen := hl.len
    refine .pim hz ?_ ?_
    · rw [← hlen]; exact h6
    · rw [← hlen]; exact FrzNs.sound hW h2 hl h5
  | _, _, .ifc h, v, hv => by cases hv with | ifc hv => exact .ifc (FrzN.sound hW h2 h hv)
  | _, _, .agg h, v, hv => by cases hv with | agg h1 hv => exact .agg h1 (FrzNs.sound hW h2 h hv)
  | _, _, .tup h, v, hv => by cases hv with | tup hv => exact .tup (FrzNs.sound hW h2 h hv)
theorem FrzNs.sound (hW : WR Z σ H w) (h2 : ∀ r o p, H.get r = some o → σ r = some p → Z2 p.b = w.heap[p.b]?) : ∀ {l l' : List AV}, FrzNs H l l' → ∀ {vs : List Value}, VRs Z σ l vs → VRs Z2 σ2 l' vs
  | _, _, .nil, vs, hv => by cases hv; exact .nil
  | _, _, .cons h t, vs, hv => by cases hv with | cons a b => exact .cons (FrzN.sound hW h2 h a) (FrzNs.sound hW h2 t b)
end
end
section
variable {P : Program}
theorem ACall.frameF {g : FuncId} {al : List AV} {v R : AV} {H0 H1 H : AH} (h : ACall P g al H0 fun o H' => o = .ret v ∧ H' = H1) (hs : Scs 0 al) (hR : FrzN H1 v R) (h0 : ∀ r, H0.get r = none) (hg : H.gl = H0.gl) : ACall P g al H fun o H' => o = .ret R ∧ H' = H := by
  refine ⟨h.1, fun Z σ w vs hW hv => ?_⟩
  have hF := hW.freezeR (R := fun _ => True) (H' := ⟨fun _ => none, H.next, H.gl⟩) rfl (fun r o hr => by cases hr)
  have hW0 : WR (frZ Z σ H (fun _ => True) w) (fun _ => none) H0 w :=
    ⟨hF.z, fun r o p hr => (by rw [h0] at hr; cases hr), fun r r' o o' p p' hr => (by rw [h0] at hr; cases hr), fun _ _ => rfl, fun r _ => h0 r, by rw [← hg]; exact hF.rest⟩
  have hv0 : VRs (frZ Z σ H (fun _ => True) w) (fun _ => none) al vs := by
    have := (hv.mono (frZ_le (R := fun _ => True) hW) (Sle.refl _)).cut hs
    have e : cutS 0 σ = fun _ => none := by funext r; simp [cutS]
    rwa [e] at this
  refine (h.2 _ _ w vs hW0 hv0).mono fun x w' hx => ?_
  obtain ⟨Z1, σ1, H1', out, g1, g2, g3, g4, g5, rfl, rfl⟩ := hx
  classical
  obtain ⟨Z2, hZ2⟩ : ∃ Z2 : Zt, Z2 = { Z1 with blk := fun c => if (∃ r o p, H.get r = some o ∧ σ r = some p ∧ p.b = c) then none else if (∃ r o p, H1'.get r = some o ∧ σ1 r = some p ∧ p.b = c) then w'.heap[c]? else Z1.blk c } := ⟨_, rfl⟩
  have hold : ∀ r o p, H.get r = some o → σ r = some p → ∃ x, Z1 p.b = some x ∧ w.heap[p.b]? = some x := fun r o p q1 q2 => by
    obtain ⟨_, hO⟩ := hW.h r o p q1 q2
    have hlt := hO.lt
    have e1 : w.heap[p.b]? = some (w.heap[p.b]'hlt) := Array.getElem?_eq_getElem hlt
    have e2 : frZ Z σ H (fun _ => True) w p.b = w.heap[p.b]? := frZ_at (R := fun _ => True) trivial q1 q2
    exact ⟨_, g1.le _ _ (e2.trans e1), e1⟩
  have hown : ∀ r o p, H1'.get r = some o → σ1 r = some p → Z2 p.b = w'.heap[p.b]? := fun r o p q1 q2 => by
    have hn := (g4.h r o p q1 q2).1
    rw [hZ2]
    simp only
    rw [if_neg, if_pos ⟨r, o, p, q1, q2, rfl⟩]
    rintro ⟨r', o', p', k1, k2, k3⟩
    obtain ⟨x, k4, _⟩ := hold r' o' p' k1 k2
    rw [k3, hn] at k4; cases k4
  have hz : ∀ c o, Z2 c = some o → w'.heap[c]? = some o := fun c o hc => by
    rw [hZ2] at hc
    simp only at hc
    split at hc
    · cases hc
    · split at hc
      · exact hc
      · exact g4.z c o hc
  have hle : Zle Z Z2 := by
    have hl := (frZ_le (R := fun _ => True) hW).trans g1
    refine ⟨fun c o hc => ?_, by rw [hZ2]; exact hl.os, by rw [hZ2]; exact hl.out, by rw [hZ2]; exact hl.frz, by rw [hZ2]; exact hl.old⟩
    have := hl.le c o hc
    rw [hZ2]
    simp only
    rw [if_neg, if_neg]
    · exact this
    · rintro ⟨r, o', p, q1, q2, rfl⟩
      rw [(g4.h r o' p q1 q2).1] at this; cases this
    · rintro ⟨r, o', p, q1, q2, rfl⟩
      rw [(hW.h r o' p q1 q2).1] at hc; cases hc
  refine ⟨Z2, σ, H, (.ret R), hle, Nw.refl _ _, Nat.le_refl _, ⟨hz, fun r o p q1 q2 => ⟨?_, ?_⟩, hW.inj, hW.fresh, hW.top, ?_⟩, ?_, rfl, rfl⟩
  · rw [hZ2]
    simp only
    rw [if_pos ⟨r, o, p, q1, q2, rfl⟩]
  · obtain ⟨_, hO⟩ := hW.h r o p q1 q2
    obtain ⟨x, k1, k2⟩ := hold r o p q1 q2
    have e3 := g4.z _ _ k1
    exact hO.mono hle (Sle.refl _) (by rw [e3, k2])
  · have hr := g4.rest
    have hr0 := hW.rest
    exact ⟨by rw [hr.1, hZ2], by rw [hr.2.1, hZ2], fun c o hc => ⟨hle.le _ _ (hr0.2.2 c o hc).1, (hr0.2.2 c o hc).2⟩⟩
  · obtain ⟨cv, q1, q2⟩ := g5
    exact ⟨_, q1, hR.sound g4 hown q2⟩
end
mutual
def plnB : AV → Bool
  | .bool _ => true | .int _ _ => true | .str _ => true | .nilp => true | .nils => true | .nilm => true | .nili => true
  | .agg l => plnsB l
  | .tup l => plnsB l
  | _ => false
def plnsB : List AV → Bool
  | [] => true
  | x :: l => plnB x && plnsB l
end
mutual
theorem plnB_sound : ∀ x, plnB x = true → Pln x
  | .bool _, _ => .bool _ | .int _ _, _ => .int _ _ | .str _, _ => .str _ | .nilp, _ => .nilp | .nils, _ => .nils | .nilm, _ => .nilm | .nili, _ => .nili
  | .agg l, h => .agg (plnsB_sound l (by simpa [plnB] using h))
  | .tup l, h => .tup (plnsB_sound l (by simpa [plnB] using h))
  | .unk, h => by simp [plnB] at h
  | .ptr _ _, h => by simp [plnB] at h
  | .pim _ _, h => by simp [plnB] at h
  | .sl _ _ _ _, h => by simp [plnB] at h
  | .sim _ _ _, h => by simp [plnB] at h
  | .mp _, h => by simp [plnB] at h
  | .nilf, h => by simp [plnB] at h
  | .fn _ _ _, h => by simp [plnB] at h
  | .ifc _ _, h => by simp [plnB] at h
theorem plnsB_sound : ∀ l, plnsB l = true → Plns l
  | [], _ => .nil
  | x :: l, h => by
    simp only [plnsB, Bool.and_eq_true] at h
    exact .cons (plnB_sound x h.1) (plnsB_sound l h.2)
end
mutual
noncomputable def frzN (h : KH) : AV → AV → Bool
  | y, x => (avEq x y && plnB y) || (match y with
    | .pim l' o => (match x with
      | .ptr r o0 => Nat.beq o0 o && (match kcells h r with | some l => frzsN h l' l | none => false)
      | _ => false)
    | .sim l' n ex => (match x with
      | .sl r o n0 lim => Nat.beq n0 n && (match kcells h r with | some l => Nat.ble (o + l'.length) l.length && frzsN h l' ((l.drop o).take l'.length) | none => false) && (!(Nat.beq n 0) || l'.isEmpty) && (!ex || limEq lim (.ex n))
      | _ => false)
    | .ifc t y => (match x with
      | .ifc t' x => Nat.beq t' t && frzN h y x
      | _ => false)
    | .agg l' => (match x with
      | .agg l => frzsN h l' l
      | _ => false)
    | .tup l' => (match x with
      | .tup l => frzsN h l' l
      | _ => false)
    | _ => false)
noncomputable def frzsN (h : KH) : List AV → List AV → Bool
  | [], l => (match l with
    | [] => true
    | _ => false)
  | y :: l', l => (match l with
    | x :: l => frzN h y x && frzsN h l' l
    | [] => false)
end
mutual
theorem frzN_sound {h : KH} : ∀ (y x : AV), frzN h y x = true → FrzN (toAH h) x y := by
  intro y x hh
  unfold frzN at hh
  simp only [Bool.or_eq_true, Bool.and_eq_true] at hh
  rcases hh with ⟨h1, h2⟩ | hh
  · rw [avEq_sound _ _ h1]; exact .pln (plnB_sound _ h2)
  · cases y with
    | pim l' o =>
      cases x <;> try (cases hh; done)
      rename_i r o0
      simp only [Bool.and_eq_true, Nat.beq_eq] at hh
      obtain ⟨rfl, h3⟩ := hh
      split at h3
      · rename_i l hl
        rw [kcells_eq] at hl
        exact .ptr hl (frzsN_sound l' l h3)
      · cases h3
    | sim l' n ex =>
      cases x <;> try (cases hh; done)
      rename_i r o n0 lim
      simp only [Bool.and_eq_true, Nat.beq_eq, Bool.or_eq_true, Bool.not_eq_true'] at hh
      obtain ⟨⟨⟨rfl, h3⟩, h4⟩, h5⟩ := hh
      split at h3
      · rename_i l hl
        rw [kcells_eq] at hl
        simp only [Bool.and_eq_true] at h3
        refine .sl hl (Nat.le_of_ble_eq_true h3.1) (frzsN_sound l' _ h3.2) (fun hn => ?_) (fun hx => ?_)
        · subst hn
          rcases h4 with h4 | h4
          · cases h4
          · simpa using h4
        · subst hx
          rcases h5 with h5 | h5
          · cases h5
          · exact limEq_sound h5
      · cases h3
    | ifc t y =>
      cases x <;> try (cases hh; done)
      simp only [Bool.and_eq_true, Nat.beq_eq] at hh
      obtain ⟨rfl, h2⟩ := hh
      exact .ifc (frzN_sound y _ h2)
    | agg l' =>
      cases x <;> try (cases hh; done)
      exact .agg (frzsN_sound l' _ hh)
    | tup l' =>
      cases x <;> try (cases hh; done)
      exact .tup (frzsN_sound l' _ hh)
    | _ => cases hh
theorem frzsN_sound {h : KH} : ∀ (l' l : List AV), frzsN h l' l = true → FrzNs (toAH h) l l'
  | [], l, hh => by
    cases l with
    | nil => exact .nil
    | cons _ _ => simp [frzsN] at hh
  | y :: l', l, hh => by
    cases l with
    | nil => simp [frzsN] at hh
    | cons x l =>
      simp only [frzsN, Bool.and_eq_true] at hh
      exact .cons (frzN_sound y x hh.1) (frzsN_sound l' l hh.2)
end
noncomputable def chkOwn (as : List AV) (R : AV) (r : KC) : Bool := scsB 0 as && KC.rec (motive := fun _ => Bool) (fun v h' => frzN h' R v) (fun _ _ => false) false r
theorem own_of_chk {P : Program} {g : FuncId} {as : List AV} {R : AV} {call : KCall} (hC : CallsOk P call) (hk : chkOwn as R (call g as KH.emp) = true) (H : AH) (hg : H.gl = GLC.G) : RetF P g as H R H := by
  simp only [chkOwn, Bool.and_eq_true] at hk
  obtain ⟨hs, hk⟩ := hk
  cases hr : call g as KH.emp with
  | pan v h' => rw [hr] at hk; cases hk
  | bad => rw [hr] at hk; cases hk
  | ret v h' =>
    rw [hr] at hk
    have hA := (hC g as KH.emp).1 v h' hr
    exact ACall.frameF hA (scsB_sound _ hs) (frzN_sound _ _ hk) (fun r => by rw [toAH_get]; rfl) (by rw [hg]; rfl)
noncomputable def o_rowC (g0 : FuncId) (as0 : List AV) (R : AV) (rest : KCall) : KCall := fun g as h => Bool.rec (motive := fun _ => KC) (rest g as h) (.ret R h) (Nat.beq g g0 && avsEq as as0)
theorem o_rowC_ok {P : Program} {g0 : FuncId} {as0 : List AV} {R : AV} {rest : KCall} (hr : CallsOk P rest) (hR : ∀ H : AH, H.gl = GLC.G → RetF P g0 as0 H R H) : CallsOk P (o_rowC g0 as0 R rest) := by
  intro g as h
  unfold o_rowC
  cases hc : (Nat.beq g g0 && avsEq as as0) with
  | false => exact hr g as h
  | true =>
    simp only [Bool.and_eq_true, Nat.beq_eq] at hc
    obtain ⟨rfl, h2⟩ := hc
    have e := avsEq_sound _ _ h2
    subst e
    refine ⟨fun v h' q => ?_, fun v h' q => by cases q⟩
    cases q
    exact hR _ rfl
theorem ACall.frz1 {P : Program} {g : FuncId} {ar ar' : List AV} {H H' : AH} {Post : AOut → AH → Prop} (R : Nat → Prop) (h : ACall P g ar' H' Post) (ha : FrzVs H R ar ar') (hn : H'.next = H.next) (hg : H'.gl = H.gl)
    (hH : ∀ r o, H'.get r = some o → ¬ R r ∧ H.get r = some o) : ACall P g ar H Post := by
  refine ⟨h.1, fun Z σ w vs hW hv => ?_⟩
  refine (h.2 (frZ Z σ H R w) σ w vs (hW.freezeR hn (fun r o h => ⟨(hH r o h).1, .inl (hH r o h).2⟩) hg) (FrzVs.sound hW ha hv)).mono fun x w' hx => ?_
  obtain ⟨Z', σ', H1, out, g1, g2, g3, g4, g5, g6⟩ := hx
  exact ⟨Z', σ', H1, out, (frZ_le hW).trans g1, by rw [← hn]; exact g2, by rw [← hn]; exact g3, g4, g5, g6⟩
noncomputable def memB (r : Nat) (l : List Nat) : Bool := List.rec (motive := fun _ => Bool) false (fun x _ ih => Nat.beq x r || ih) l
mutual
noncomputable def frzF (ids : List Nat) (h : KH) : AV → AV → Bool
  | y, x => avEq x y || (match y with
    | .pim l' o => (match x with
      | .ptr r o0 => memB r ids && Nat.beq o0 o && (match kcells h r with | some l => frzsF ids h l' l | none => false)
      | _ => false)
    | .sim l' n ex => (match x with
      | .sl r o n0 lim => memB r ids && Nat.beq n0 n && (match kcells h r with | some l => Nat.ble (o + l'.length) l.length && frzsF ids h l' ((l.drop o).take l'.length) | none => false) && (!(Nat.beq n 0) || l'.isEmpty) && (!ex || limEq lim (.ex n))
      | _ => false)
    | .ifc t y => (match x with
      | .ifc t' x => Nat.beq t' t && frzF ids h y x
      | _ => false)
    | .agg l' => (match x with
      | .agg l => frzsF ids h l' l
      | _ => false)
    | .tup l' => (match x with
      | .tup l => frzsF ids h l' l
      | _ => false)
    | _ => false)
noncomputable def frzsF (ids : List Nat) (h : KH) : List AV → List AV → Bool
  | [], l => (match l with
    | [] => true
    | _ => false)
  | y :: l', l => (match l with
    | x :: l => frzF ids h y x && frzsF ids h l' l
    | [] => false)
end
mutual
theorem frzF_sound {ids : List Nat} {h : KH} : ∀ (y x : AV), frzF ids h y x = true → FrzV (toAH h) (fun r => memB r ids = true) x y := by
  intro y x hh
  unfold frzF at hh
  simp only [Bool.or_eq_true] at hh
  rcases hh with h1 | hh
  · rw [avEq_sound _ _ h1]; exact .same _
  · cases y with
    | pim l' o =>
      cases x <;> try (cases hh; done)
      rename_i r o0
      simp only [Bool.and_eq_true, Nat.beq_eq] at hh
      obtain ⟨⟨h1, rfl⟩, h3⟩ := hh
      split at h3
      · rename_i l hl
        rw [kcells_eq] at hl
        exact .ptr h1 hl (frzsF_sound l' l h3)
      · cases h3
    | sim l' n ex =>
      cases x <;> try (cases hh; done)
      rename_i r o n0 lim
      simp only [Bool.and_eq_true, Nat.beq_eq, Bool.or_eq_true, Bool.not_eq_true'] at hh
      obtain ⟨⟨⟨⟨h1, rfl⟩, h3⟩, h4⟩, h5⟩ := hh
      split at h3
      · rename_i l hl
        rw [kcells_eq] at hl
        simp only [Bool.and_eq_true] at h3
        refine .sl h1 hl (Nat.le_of_ble_eq_true h3.1) (frzsF_sound l' _ h3.2) (fun hn => ?_) (fun hx => ?_)
        · subst hn
          rcases h4 with h4 | h4
          · cases h4
          · simpa using h4
        · subst hx
          rcases h5 with h5 | h5
          · cases h5
          · exact limEq_sound h5
      · cases h3
    | ifc t y =>
      cases x <;> try (cases hh; done)
      simp only [Bool.and_eq_true, Nat.beq_eq] at hh
      obtain ⟨rfl, h2⟩ := hh
      exact .ifc (frzF_sound y _ h2)
    | agg l' =>
      cases x <;> try (cases hh; done)
      exact .agg (frzsF_sound l' _ hh)
    | tup l' =>
      cases x <;> try (cases hh; done)
      exact .tup (frzsF_sound l' _ hh)
    | _ => cases hh
theorem frzsF_sound {ids : List Nat} {h : KH} : ∀ (l' l : List AV), frzsF ids h l' l = true → FrzVs (toAH h) (fun r => memB r ids = true) l l'
  | [], l, hh => by
    cases l with
    | nil => exact .nil
    | cons _ _ => simp [frzsF] at hh
  | y :: l', l, hh => by
    cases l with
    | nil => simp [frzsF] at hh
    | cons x l =>
      simp only [frzsF, Bool.and_eq_true] at hh
      exact .cons (frzF_sound y x hh.1) (frzsF_sound l' l hh.2)
end
noncomputable def kera (k : KH → KC) (ids : List Nat) : KH → KC :=
  List.rec (motive := fun _ => KH → KC) k (fun r _ ih h => Bool.rec (motive := fun _ => KC) .bad (h.setN r none .bad ih) (Nat.ble (Nat.succ r) h.nx)) ids
theorem kera_inv {k : KH → KC} : ∀ (ids : List Nat) (h : KH) (r : KC), kera k ids h = r → r ≠ .bad → ∃ h', h'.nx = h.nx ∧ (∀ x, (toAH h').get x = if memB x ids = true then none else (toAH h).get x) ∧ k h' = r
  | [], h, r, hr, _ => ⟨h, rfl, fun x => by rw [if_neg (by simp [memB])], hr⟩
  | i :: ids, h, r, hr, hb => by
    obtain ⟨g1, g2⟩ := brec_ok (hr : Bool.rec (motive := fun _ => KC) .bad (h.setN i none .bad (kera k ids)) (Nat.ble (Nat.succ i) h.nx) = r) hb
    obtain ⟨h1, q1, q2, q3⟩ := KH.eraseN_inv g2 hb (Nat.le_of_ble_eq_true g1)
    obtain ⟨h2, p1, p2, p3⟩ := kera_inv ids h1 r q3 hb
    refine ⟨h2, by rw [p1, q2], fun x => ?_, p3⟩
    rw [p2, q1, AH.get_erase]
    have hm : memB x (i :: ids) = (Nat.beq i x || memB x ids) := rfl
    rw [hm]
    by_cases hx : x = i
    · subst hx; simp
    · have : Nat.beq i x = false := by
        cases hq : Nat.beq i x with
        | false => rfl
        | true => exact absurd (Nat.eq_of_beq_eq_true hq).symm hx
      simp [this, hx]
noncomputable def o_rowF (g0 : FuncId) (ids : List Nat) (as0 : List AV) (R : AV) (rest : KCall) : KCall := fun g as h => Bool.rec (motive := fun _ => KC) (rest g as h) (kera (fun h' => .ret R h') ids h) (Nat.beq g g0 && frzsF ids h as0 as)
theorem o_rowF_ok {P : Program} {g0 : FuncId} {ids : List Nat} {as0 : List AV} {R : AV} {rest : KCall} (hr : CallsOk P rest) (hR : ∀ H : AH, H.gl = GLC.G → RetF P g0 as0 H R H) : CallsOk P (o_rowF g0 ids as0 R rest) := by
  intro g as h
  unfold o_rowF
  cases hc : (Nat.beq g g0 && frzsF ids h as0 as) with
  | false => exact hr g as h
  | true =>
    simp only [Bool.and_eq_true, Nat.beq_eq] at hc
    obtain ⟨rfl, h2⟩ := hc
    have h3 := frzsF_sound _ _ h2
    have key : ∀ r : KC, kera (fun h' => .ret R h') ids h = r → r ≠ .bad → ∃ h', r = .ret R h' ∧ ACall P g as (toAH h) (fun o H' => o = .ret R ∧ H' = toAH h') := fun r hk hb => by
      obtain ⟨h', p1, p2, p3⟩ := kera_inv ids h r hk hb
      refine ⟨h', p3.symm, ACall.frz1 _ (hR (toAH h') rfl) h3 (by simpa using p1) rfl fun x o hx => ?_⟩
      rw [p2] at hx
      split at hx
      · cases hx
      · exact ⟨‹_›, hx⟩
    refine ⟨fun v h' q => ?_, fun v h' q => ?_⟩
    · obtain ⟨h'', e1, e2⟩ := key _ q (by simp)
      cases e1; exact e2
    · obtain ⟨h'', e1, e2⟩ := key _ q (by simp)
      cases e1
end Go.AL
namespace Go.AL
variable [GLC]
section
variable {P : Program}
def sq1 : ACode → ACode
  | .seq a _ => a
  | _ => .skip
def sq2 : ACode → ACode
  | .seq _ b => b
  | _ => .skip
def cd1 : ACode → ACode
  | .cond _ a _ => a
  | _ => .skip
theorem kfunD_of {f g : FuncId} {fn : Func} {n np t : Nat} {hs : Hints} {q : List ARes} {cp : List AOpd} {t0 t1 t3 : HT} {F : GF} (hmix : P.follows .mixedOrders = true) (hf : P.funcs[f]? = some fn) (hname : (fn.name == "runtime.NumGoroutine") = false)
    (hn : fn.ntmps = n) (hb : (fn.body.bind (comp P hs n)).isSome = true) (hr : cRess P fn.results.toList = some q) (hle : Nat.ble n dslot = true)
    (hsh : acOf P fn hs n = .seq (sq1 (acOf P fn hs n)) (.seq (sq1 (sq2 (acOf P fn hs n))) (.seq (.reg [⟨some t, .mkFunc (.func g) [] cp, none⟩, ⟨none, .defer (.tmp t) [], none⟩]) (sq2 (sq2 (sq2 (acOf P fn hs n)))))))
    (ht : Nat.ble (t + 1) dslot = true) (ho : acOk (sq2 (sq2 (sq2 (acOf P fn hs n)))) = true) (hro : rOk (sq2 (sq2 (sq2 (acOf P fn hs n)))) = true) (hq : qOk q = true) (hnp : Nat.ble np n = true)
    (hA : ∀ all H, all.length = cp.length → ADef P g all none H fun H' => H' = H) (hF : F = kfunD np q (sq1 (acOf P fn hs n)) (sq1 (sq2 (acOf P fn hs n))) (sq2 (sq2 (sq2 (acOf P fn hs n)))) t g cp t0 t1 t3) : SoundF P f F := by
  obtain ⟨ac, hac⟩ := Option.isSome_iff_exists.1 hb
  have e : acOf P fn hs n = ac := by unfold acOf; rw [hac]
  rw [e] at hsh ho hro hF
  have hfun : Fun P f n ac q := Fun.mk' hmix hf hname hn hac hr hle
  rw [hsh] at hfun
  exact kfunD_sound hfun ht ho hro hq hnp hA hF
theorem adef_none {g : FuncId} {fn : Func} {n ra rb rc rd L : Nat} {hs : Hints} (hmix : P.follows .mixedOrders = true) (hf : P.funcs[g]? = some fn) (hname : (fn.name == "runtime.NumGoroutine") = false)
    (hn : fn.ntmps = n) (hb : (fn.body.bind (comp P hs n)).isSome = true) (hr : fn.results = #[]) (hle : Nat.ble n dslot = true) (hlen : Nat.ble L n = true)
    (hsh : acOf P fn hs n = .seq (.reg [⟨some ra, .recover, none⟩, ⟨some rb, .move (.tmp ra), none⟩]) (.seq (.reg [⟨some rc, .move (.tmp rb), none⟩, ⟨some rd, .eq true .iface (.tmp rc) (.cst .nili), none⟩]) (.cond (.tmp rd) (cd1 (sq2 (sq2 (acOf P fn hs n)))) .skip)))
    (hd : (Nat.ble (ra + 1) dslot && Nat.ble (rb + 1) dslot && Nat.ble (rc + 1) dslot && Nat.ble (rd + 1) dslot) = true) : ∀ all H, all.length = L → ADef P g all none H fun H' => H' = H := by
  intro all H hall
  obtain ⟨ac, hac⟩ := Option.isSome_iff_exists.1 hb
  have e : acOf P fn hs n = ac := by unfold acOf; rw [hac]
  rw [e] at hsh
  subst hn
  obtain ⟨c, hc, hcc⟩ := Option.bind_eq_some_iff.1 hac
  rw [hsh] at hcc
  simp only [Bool.and_eq_true] at hd
  obtain ⟨⟨⟨d1, d2⟩, d3⟩, d4⟩ := hd
  have d1 := Nat.le_of_ble_eq_true d1
  have d2 := Nat.le_of_ble_eq_true d2
  have d3 := Nat.le_of_ble_eq_true d3
  have d4 := Nat.le_of_ble_eq_true d4
  have n1 : ¬ dslot = ra := by omega
  have n2 : ¬ dslot = rb := by omega
  have n3 : ¬ dslot = rc := by omega
  have n4 : ¬ dslot = rd := by omega
  refine adef_of_D hmix hf (by simpa using hname) hc (Nat.le_of_ble_eq_true hle) (by have := Nat.le_of_ble_eq_true hlen; omega) hcc hr ?_
  refine d_sregV ?_
  refine w_op (v := (.nili, H)) (by simp [aone, apure, AOpd.ev, Env.set_get, arec]) rfl ?_
  refine w_op (v := (.bool false, H)) (by simp [aone, apure, AOpd.ev, Env.put, Env.set_get, aeq]) rfl ?_
  refine w_nil (vs_seq (d_cond (t := false) (by simp [AOpd.ev, Env.put, Env.set_get]) (fun h => by cases h) (fun _ => d_skip ?_)))
  exact ⟨by simp [Env.put, Env.set_get, env0, n1, n2, n3, n4], rfl⟩
end
end Go.AL
