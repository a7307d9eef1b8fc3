import Derived.Test.YtlopgbdfdfijoaaGreatDoorZb01
/-
  the machine: joins, guards, regions, control, tables.
-/
set_option linter.unusedSectionVars false
set_option linter.unusedVariables false
set_option linter.unusedSimpArgs false
namespace Go.AL
variable [GLC]
abbrev EK := Env → KH → KC
def JT (l : List Nat) : Type := List.rec (motive := fun _ => Type) (KH → KC) (fun _ _ t => AV → t) l
noncomputable def x_gd (w : Bool) (v : AV) (a b : KC) : KC := BP.rec (motive := fun _ => KC) (match agd v with
    | some o => (match o with
      | some x => bif (bif x then w else !w) then a else b
      | none => b)
    | none => .bad) (fun x => Bool.rec (motive := fun _ => KC) (Bool.rec (motive := fun _ => KC) a b w) (Bool.rec (motive := fun _ => KC) b a w) x) (toBP v)
theorem x_gd_eq (w : Bool) (v : AV) (a b : KC) : x_gd w v a b = match agd v with
    | some o => (match o with
      | some x => bif (bif x then w else !w) then a else b
      | none => b)
    | none => .bad := by
  unfold x_gd
  cases hv : toBP v with
  | no => rfl
  | «at» x => rw [toBP_at hv]; cases x <;> cases w <;> rfl
theorem x_gd_inv {w : Bool} {v : AV} {a b r : KC} (hr : x_gd w v a b = r) (hb : r ≠ .bad) : ∃ o, agd v = some o ∧ (o = some w → a = r) ∧ (o ≠ some w → b = r) := by
  rw [x_gd_eq] at hr
  split at hr
  · rename_i o ho
    refine ⟨o, ho, fun hw => ?_, fun hw => ?_⟩
    · subst hw
      have : (bif w then w else !w) = true := by cases w <;> rfl
      simp only [this, cond_true] at hr
      exact hr
    · cases o with
      | none => exact hr
      | some x =>
        have : (bif x then w else !w) = false := by cases x <;> cases w <;> simp at hw <;> rfl
        simp only [this, cond_false] at hr
        exact hr
  · exact absurd hr.symm hb
noncomputable def x_grp {T : Type} (w : Bool) (v : AV) (J : T) (A B : T → KC) : KC := x_gd w v (A J) (B J)
noncomputable def x_if0 (v : AV) (A B : KC) : KC := BP.rec (motive := fun _ => KC) .bad (fun x => Bool.rec (motive := fun _ => KC) B A x) (toBP v)
noncomputable def x_if {T : Type} (v : AV) (J : T) (A B : T → KC) : KC := x_if0 v (A J) (B J)
noncomputable def x_blk {T : Type} (J : T) (A : T → KC) : KC := A J
def kmany : Nat := 1000000000
noncomputable def x_lp {T : Type} (bad : T) (body : T → T) (n : Nat) : T := Nat.rec (motive := fun _ => T) bad (fun _ ih => body ih) n
noncomputable def x_loop {T : Type} (bad : T) (body : T → T) : T := x_lp bad body kmany
noncomputable def x_chk (b : Bool) (K : KC) : KC := Bool.rec (motive := fun _ => KC) .bad K b
abbrev KG := AV → (KH → Bool) → KH → KC
noncomputable def ktt : KH → Bool := fun _ => true
noncomputable def x_G3 (w : Bool) (v : AV) (h : KH) (J : KG) (A : KG → KC) : KC := x_gd w v (A J) (J aud ktt h)
noncomputable def xTop (k : AK) : Nat :=
  let _a := toAct k
  let _b := @x_loop Nat
  let _c := @x_if Nat
  let _d := @x_grp Nat
  let _e := @x_blk Nat
  let _f := x_chk
  let _g := x_G3
  let _h := x_cl
  let _i := x_pan
  let _j := x_bx
  let _k := x_bsl
  let _l := x_mks
  0
noncomputable def jcall (l : List Nat) : JT l → EK :=
  (fun (_ : AK → Nat) => (List.rec (motive := fun l => JT l → EK) (fun J _ h => J h) (fun i _ ih J e h => ih (J (e i)) e h) l : JT l → EK)) xTop
noncomputable def jlam (l : List Nat) : Env → EK → JT l :=
  (fun (_ : AK → Nat) => (List.rec (motive := fun l => Env → EK → JT l) (fun e0 f h => f e0 h) (fun i _ ih e0 f v => ih (e0.set i v) f) l : Env → EK → JT l)) xTop
noncomputable def kset (l : List Nat) : Env → Env → Env :=
  List.rec (motive := fun _ => Env → Env → Env) (fun _ e0 => e0) (fun i _ ih e e0 => ih e (e0.set i (e i))) l
theorem jcall_jlam : ∀ (l : List Nat) (e0 : Env) (f : EK) (e : Env) (h : KH), jcall l (jlam l e0 f) e h = f (kset l e e0) h
  | [], _, _, _, _ => rfl
  | i :: l, e0, f, e, h => by
    show jcall l (jlam l (e0.set i (e i)) f) e h = _
    rw [jcall_jlam l]; rfl
theorem kset_get : ∀ (l : List Nat) (e e0 : Env) (t : Nat), kset l e e0 t = if t ∈ l then e t else e0 t
  | [], e, e0, t => by simp [kset]
  | i :: l, e, e0, t => by
    show kset l e (e0.set i (e i)) t = _
    rw [kset_get l, Env.set_get]
    by_cases h1 : t ∈ l
    · simp [h1]
    · by_cases h2 : t = i
      · subst h2; simp
      · simp [h1, h2]
noncomputable def kseq (call : KCall) (ops : List AOper) : Env → KH → EK → KC :=
  List.rec (motive := fun _ => Env → KH → EK → KC) (fun e h K => K e h) (fun o _ ih e h K => kact call o.k e h fun v h' => ih (e.put o.dst v) h' K) ops
def dcons (d : Option Nat) (l : List Nat) : List Nat := match d with
  | some d => d :: l
  | none => l
noncomputable def dsts (ops : List AOper) : List Nat := List.rec (motive := fun _ => List Nat) [] (fun o _ ih => dcons o.dst ih) ops
def Grp := Option (Nat × Bool) × List AOper
def gSame (s : Nat) (w : Bool) (o : AOper) : Bool := (match o.gd with
  | some (s', w') => Nat.beq s s' && (bif w then w' else !w')
  | none => false) && (match o.dst with
  | some d => !Nat.beq d s
  | none => true)
theorem gSame_spec {s : Nat} {w : Bool} {o : AOper} (h : gSame s w o = true) : o.gd = some (s, w) ∧ o.dst ≠ some s := by
  obtain ⟨dst, k, gd⟩ := o
  simp only [gSame, Bool.and_eq_true] at h
  obtain ⟨h1, h2⟩ := h
  refine ⟨?_, ?_⟩
  · cases gd with
    | none => cases h1
    | some p =>
      obtain ⟨s', w'⟩ := p
      simp only [Bool.and_eq_true, Nat.beq_eq] at h1
      obtain ⟨rfl, h1⟩ := h1
      cases w <;> cases w' <;> first | rfl | cases h1
  · cases dst with
    | none => simp
    | some d =>
      simp only [Bool.not_eq_true', ] at h2
      simp only [ne_eq, Option.some.injEq]
      rintro rfl
      rw [Nat.beq_refl] at h2; cases h2
def addG (o : AOper) (r : List Grp) : List Grp := match o.gd with
  | none => (none, [o]) :: r
  | some (s, w) => match r with
    | (some (s', w'), ls) :: r' => bif gSame s' w' o then (some (s, w), o :: ls) :: r' else (some (s, w), [o]) :: (some (s', w'), ls) :: r'
    | r => (some (s, w), [o]) :: r
noncomputable def grp (l : List AOper) : List Grp := List.rec (motive := fun _ => List Grp) [] (fun o _ ih => addG o ih) l
def unG (l : List Grp) : List AOper := l.flatMap (·.2)
theorem addG_flat (o : AOper) (r : List Grp) : unG (addG o r) = o :: unG r := by
  unfold addG
  split
  · rfl
  · split
    · cases gSame _ _ o <;> rfl
    · rfl
theorem grp_flat : ∀ l : List AOper, unG (grp l) = l
  | [] => rfl
  | o :: l => by
    show unG (addG o (grp l)) = _
    rw [addG_flat, grp_flat l]
noncomputable def kgrp (call : KCall) (g : Grp) (e : Env) (h : KH) (K : EK) : KC := Prod.rec (motive := fun _ => KC) (fun g ops => Option.rec (motive := fun _ => KC)
    (Bool.rec (motive := fun _ => KC) .bad (kseq call ops e h K) (ops.all (fun o => o.gd.isNone)))
    (fun p => Prod.rec (motive := fun _ => KC) (fun s w => Bool.rec (motive := fun _ => KC) .bad (x_grp w (e s) (jlam (dsts ops) e K) (fun J => kseq call ops e h (jcall (dsts ops) J)) (fun J => jcall (dsts ops) J (fun _ => aud) h)) (ops.all (gSame s w))) p) g) g
noncomputable def kops (call : KCall) (gs : List Grp) : Env → KH → EK → KC :=
  List.rec (motive := fun _ => Env → KH → EK → KC) (fun e h K => K e h) (fun g _ ih e h K => kgrp call g e h fun e' h' => ih e' h' K) gs
def dOk (o : AOper) : Bool := match o.dst with
  | some d => Nat.ble (Nat.succ d) dslot
  | none => true
theorem dOk_spec {o : AOper} (h : dOk o = true) : o.dst ≠ some dslot := by
  unfold dOk at h
  cases hd : o.dst with
  | none => simp
  | some d =>
    rw [hd] at h
    have := Nat.le_of_ble_eq_true h
    simp only [ne_eq, Option.some.injEq]; omega
noncomputable def kreg (call : KCall) (ops : List AOper) (e : Env) (h : KH) (K : EK) : KC := Bool.rec (motive := fun _ => KC) .bad (kops call (grp ops) e h K) (ops.all dOk)
theorem put_ne {e : Env} {d : Option Nat} {v : AV} {t : Nat} (h : d ≠ some t) : (e.put d v) t = e t := by
  cases d with
  | none => rfl
  | some d =>
    show (e.set d v) t = e t
    rw [Env.set_get, if_neg (by rintro rfl; exact h rfl)]
theorem mem_dcons {d : Option Nat} {l : List Nat} {t : Nat} : t ∈ dcons d l ↔ d = some t ∨ t ∈ l := by
  cases d with
  | none => simp [dcons]
  | some d => simp [dcons, eq_comm]
theorem bif_ok {b : Bool} {x r : KC} (h : Bool.rec (motive := fun _ => KC) .bad x b = r) (hb : r ≠ .bad) : b = true ∧ x = r := by
  cases b with
  | true => exact ⟨rfl, h⟩
  | false => exact absurd h.symm hb
section
variable {P : Program} {call : KCall} {r : KC} {K' : Env → AH → Prop} {Kp' : AV → Env → AH → Prop}
theorem kseq_sound (hC : CallsOk P call) (hb : r ≠ .bad) {s : Nat} {w : Bool} {K : EK} (h2 : ∀ v h, r = .pan v h → ∀ e, e dslot = .tup [] → Kp' v e (toAH h)) : ∀ (ops : List AOper) (e : Env) (h : KH), ops.all dOk = true → e dslot = .tup [] →
    (agd (e s) = some (some w) ∧ ops.all (gSame s w) = true ∨ ops.all (fun o => o.gd.isNone) = true) → kseq call ops e h K = r →
    (∀ e' h', (∀ t, t ∉ dsts ops → e' t = e t) → e' dslot = .tup [] → K e' h' = r → K' e' (toAH h')) → aops P ops e (toAH h) K' Kp'
  | [], e, h, _, hd, _, hr, h1 => h1 e h (fun _ _ => rfl) hd hr
  | o :: ops, e, h, ho, hd, hg, hr, h1 => by
    have hr : (kact call o.k e h fun v h' => kseq call ops (e.put o.dst v) h' K) = r := hr
    simp only [List.all_cons, Bool.and_eq_true] at ho hg
    have hd' : ∀ v, (e.put o.dst v) dslot = .tup [] := fun v => by rw [put_ne (dOk_spec ho.1)]; exact hd
    have go : ∀ v h', (agd ((e.put o.dst v) s) = some (some w) ∧ ops.all (gSame s w) = true ∨ ops.all (fun o => o.gd.isNone) = true) → kseq call ops (e.put o.dst v) h' K = r → aops P ops (e.put o.dst v) (toAH h') K' Kp' := fun v h' hg' hx =>
      kseq_sound hC hb h2 ops (e.put o.dst v) h' ho.2 (hd' v) hg' hx fun e' h'' q1 q2 q3 => h1 e' h'' (fun t ht => by
        have ht : t ∉ dcons o.dst (dsts ops) := ht
        rw [mem_dcons, not_or] at ht
        rw [q1 t ht.2, put_ne ht.1]) q2 q3
    have st := fun (hg' : ∀ v, agd ((e.put o.dst v) s) = some (some w) ∧ ops.all (gSame s w) = true ∨ ops.all (fun o => o.gd.isNone) = true) => kact_sound (P := P) (K' := fun v H' => aops P ops (e.put o.dst v) H' K' Kp') (Kp' := fun v H' => Kp' v e H') hC (k := o.k) (e := e) (h := h) hr hb (fun v h' hx => go v h' (hg' v) hx) (fun v h' hx => h2 v h' hx e hd)
    obtain ⟨dst, k, gd⟩ := o
    rcases hg with ⟨g1, g2, g3⟩ | ⟨g2, g3⟩
    · obtain ⟨rfl, g4⟩ := gSame_spec g2
      have sg := st fun v => .inl ⟨by rw [put_ne g4]; exact g1, g3⟩
      exact w_gdO g1 (fun _ => sg.1) (fun hn => absurd rfl hn)
    · simp only [Option.isNone_iff_eq_none] at g2
      subst g2
      have sg := st fun v => .inr g3
      exact aops_none sg.2 sg.1
theorem aops_off [YC] {s : Nat} {w : Bool} {b : Option Bool} (hn : b ≠ some w) : ∀ (ops : List AOper) (e : Env) (H : AH), ops.all (gSame s w) = true → agd (e s) = some b → K' (kset (dsts ops) (fun _ => aud) e) H → aops P ops e H K' Kp'
  | [], e, H, _, _, h => h
  | o :: ops, e, H, hg, hs, h => by
    simp only [List.all_cons, Bool.and_eq_true] at hg
    obtain ⟨dst, k, gd⟩ := o
    obtain ⟨rfl, g4⟩ := gSame_spec hg.1
    refine w_gdO hs (fun hw => absurd hw hn) fun _ => aops_off hn ops _ H hg.2 (by rw [put_ne g4]; exact hs) ?_
    cases dst with
    | none => exact h
    | some d => exact h
theorem aops_app [YC] : ∀ (a b : List AOper) (e : Env) (H : AH), aops P a e H (fun e' H' => aops P b e' H' K' Kp') Kp' → aops P (a ++ b) e H K' Kp'
  | [], b, e, H, h => h
  | o :: a, b, e, H, h => by
    obtain ⟨dst, k, gd⟩ := o
    have mono : ∀ {K1 K2 : AV → AH → Prop} {Kp : AV → AH → Prop}, (∀ v H', K1 v H' → K2 v H') → aop P k e H K1 Kp → aop P k e H K2 Kp := fun hk ha => by
      unfold aop at ha ⊢
      split at ha
      · unfold ACallV at ha ⊢
        split at ha
        · exact ha.mono fun o H' hq => by cases o with
            | ret v => exact hk _ _ hq
            | pan v => exact hq
        · exact YC.mono ha fun o H' hq => by cases o with
            | ret v => exact hk _ _ hq
            | pan v => exact hq
        · exact ha
      · exact ha
      · exact ha
      · exact ha
      · split at ha
        · exact hk _ _ ha
        · exact ha
    cases gd with
    | none =>
      simp only [List.cons_append, aops] at h ⊢
      split at h
      · split at h
        · exact aops_app a b _ _ h
        · exact h
      · exact mono (fun v H' hq => aops_app a b _ _ hq) h
    | some p =>
      obtain ⟨s, w⟩ := p
      simp only [List.cons_append, aops] at h ⊢
      split at h
      · exact ⟨fun hw => mono (fun v H' hq => aops_app a b _ _ hq) (h.1 hw), fun hw => aops_app a b _ _ (h.2 hw)⟩
      · exact h
theorem dsts_ok : ∀ {ops : List AOper}, ops.all dOk = true → dslot ∉ dsts ops
  | [], _, hm => by cases hm
  | o :: ops, h, hm => by
    have hm : dslot ∈ dcons o.dst (dsts ops) := hm
    simp only [List.all_cons, Bool.and_eq_true] at h
    rw [mem_dcons] at hm
    rcases hm with hm | hm
    · exact dOk_spec h.1 hm
    · exact dsts_ok h.2 hm
theorem kops_sound (hC : CallsOk P call) (hb : r ≠ .bad) {K : EK} (h1 : ∀ e h, e dslot = .tup [] → K e h = r → K' e (toAH h)) (h2 : ∀ v h, r = .pan v h → ∀ e, e dslot = .tup [] → Kp' v e (toAH h)) :
    ∀ (gs : List Grp) (e : Env) (h : KH), (unG gs).all dOk = true → e dslot = .tup [] → kops call gs e h K = r → aops P (unG gs) e (toAH h) K' Kp'
  | [], e, h, _, hd, hr => h1 e h hd hr
  | (g, ops) :: gs, e, h, ho, hd, hr => by
    have hr : (kgrp call (g, ops) e h fun e' h' => kops call gs e' h' K) = r := hr
    change (ops ++ unG gs).all dOk = true at ho
    rw [List.all_append, Bool.and_eq_true] at ho
    have rest : ∀ e' h', e' dslot = .tup [] → kops call gs e' h' K = r → aops P (unG gs) e' (toAH h') K' Kp' := fun e' h' hd' hx => kops_sound hC hb h1 h2 gs e' h' ho.2 hd' hx
    refine aops_app ops (unG gs) e (toAH h) ?_
    cases g with
    | none =>
      obtain ⟨g1, g2⟩ := bif_ok hr hb
      exact kseq_sound hC hb (s := 0) (w := true) h2 ops e h ho.1 hd (.inr g1) g2 fun e' h' _ q2 q3 => rest e' h' q2 q3
    | some p =>
      obtain ⟨s, w⟩ := p
      obtain ⟨g1, g2⟩ := bif_ok hr hb
      obtain ⟨b, k1, k2, k3⟩ := x_gd_inv g2 hb
      by_cases hw : b = some w
      · subst hw
        refine kseq_sound hC hb h2 ops e h ho.1 hd (.inl ⟨k1, g1⟩) (k2 rfl) fun e' h' q1 q2 q3 => rest e' h' q2 ?_
        rw [jcall_jlam] at q3
        have : kset (dsts ops) e' e = e' := by
          funext t
          rw [kset_get]
          split
          · rfl
          · rename_i hm; exact (q1 t hm).symm
        rw [this] at q3; exact q3
      · have k3 := k3 hw
        simp only [jcall_jlam] at k3
        refine aops_off hw ops e (toAH h) g1 k1 (rest _ h ?_ k3)
        rw [kset_get, if_neg (dsts_ok ho.1)]
        exact hd
theorem kreg_sound (hC : CallsOk P call) (hb : r ≠ .bad) {K : EK} (h1 : ∀ e h, e dslot = .tup [] → K e h = r → K' e (toAH h)) (h2 : ∀ v h, r = .pan v h → ∀ e, e dslot = .tup [] → Kp' v e (toAH h))
    {ops : List AOper} {e : Env} {h : KH} (hd : e dslot = .tup []) (hr : kreg call ops e h K = r) : aops P ops e (toAH h) K' Kp' := by
  obtain ⟨g1, g2⟩ := bif_ok hr hb
  have := kops_sound hC hb h1 h2 (grp ops) e h (by rw [grp_flat]; exact g1) hd g2
  rw [grp_flat] at this; exact this
end
end Go.AL
namespace Go.AL
variable [GLC]
noncomputable def kdact (call : KCall) (eff : Bool) (k : AK) (e : Env) (h : KH) (K : AV → KH → KC) : KC :=
  Bool.rec (motive := fun _ => KC) (FAct.rec (motive := fun _ => KC) (fun f _ => f e fun v => K v h) (fun f _ => f e h fun v => K v h) (fun f _ => f e fun c g => x_nw c g h K) (fun _ _ => .bad) (toAct k)) (kact call k e h K) eff
noncomputable def kdseq (call : KCall) (its : List DIt) : Env → KH → EK → KC :=
  List.rec (motive := fun _ => Env → KH → EK → KC) (fun e h K => K e h) (fun it _ ih e h K => kdact call it.eff it.o.k e h fun v h' => ih (e.put it.o.dst v) h' K) its
noncomputable def ddsts (its : List DIt) : List Nat := List.rec (motive := fun _ => List Nat) [] (fun it _ ih => dcons it.o.dst ih) its
def GrpD := Option (Nat × Bool) × List DIt
def addGD (it : DIt) (r : List GrpD) : List GrpD := match it.o.gd with
  | none => (none, [it]) :: r
  | some (s, w) => match r with
    | (some (s', w'), ls) :: r' => bif gSame s' w' it.o then (some (s, w), it :: ls) :: r' else (some (s, w), [it]) :: (some (s', w'), ls) :: r'
    | r => (some (s, w), [it]) :: r
noncomputable def grpD (l : List DIt) : List GrpD := List.rec (motive := fun _ => List GrpD) [] (fun o _ ih => addGD o ih) l
def unGD (l : List GrpD) : List DIt := l.flatMap (·.2)
theorem addGD_flat (o : DIt) (r : List GrpD) : unGD (addGD o r) = o :: unGD r := by
  unfold addGD
  split
  · rfl
  · split
    · cases gSame _ _ o.o <;> rfl
    · rfl
theorem grpD_flat : ∀ l : List DIt, unGD (grpD l) = l
  | [] => rfl
  | o :: l => by
    show unGD (addGD o (grpD l)) = _
    rw [addGD_flat, grpD_flat l]
noncomputable def kdgrp (call : KCall) (g : GrpD) (e : Env) (h : KH) (K : EK) : KC := Prod.rec (motive := fun _ => KC) (fun g its => Option.rec (motive := fun _ => KC)
    (Bool.rec (motive := fun _ => KC) .bad (kdseq call its e h K) (its.all (fun it => it.o.gd.isNone)))
    (fun p => Prod.rec (motive := fun _ => KC) (fun s w => Bool.rec (motive := fun _ => KC) .bad (x_grp w (e s) (jlam (ddsts its) e K) (fun J => kdseq call its e h (jcall (ddsts its) J)) (fun J => jcall (ddsts its) J (fun _ => aud) h)) (its.all (fun it => gSame s w it.o))) p) g) g
noncomputable def kdops (call : KCall) (gs : List GrpD) : Env → KH → EK → KC :=
  List.rec (motive := fun _ => Env → KH → EK → KC) (fun e h K => K e h) (fun g _ ih e h K => kdgrp call g e h fun e' h' => ih e' h' K) gs
def fOk (it : DIt) : Bool := dOk it.o && it.fl.isEmpty
section
variable {P : Program} {call : KCall} {r : KC} {ep : Env} {K' : Env → AH → Prop} {Kp' : AV → Env → AH → Prop}
theorem kdact_sound (hC : CallsOk P call) (hb : r ≠ .bad) {i pre : Nat} {d : Option Nat} {k : AK} {eff : Bool} {l : List DIt} {e : Env} {h : KH} {pend : Pend} {K : AV → KH → KC} (hr : kdact call eff k e h K = r)
    (h1 : ∀ v h' pend', K v h' = r → adops P ep K' Kp' l (e.put d v) (toAH h') pend') (h2 : ∀ v h', r = .pan v h' → Kp' v ep (toAH h')) : adops P ep K' Kp' (⟨i, ⟨d, k, none⟩, pre, [], eff⟩ :: l) e (toAH h) pend := by
  cases eff with
  | true => exact p_eff (kact_sound hC hr hb (fun v h' hk => ⟨trivial, h1 v h' pend hk⟩) (fun v h' hk => h2 v h' hk)).1
  | false =>
    have hr : FAct.rec (motive := fun _ => KC) (fun f _ => f e fun v => K v h) (fun f _ => f e h fun v => K v h) (fun f _ => f e fun c g => x_nw c g h K) (fun _ _ => .bad) (toAct k) = r := hr
    generalize toAct k = a at hr
    cases a with
    | pu f ok =>
      obtain ⟨v, g1, g2⟩ := ok _ _ _ hr hb
      exact p_pure g1 (h1 v h pend g2)
    | rd f ok =>
      obtain ⟨v, g0, g1, g2⟩ := ok _ _ _ _ hr hb
      exact p_read g0 g1 (h1 v h _ g2)
    | nw f ok =>
      obtain ⟨c, g, g0, g1, g2, g3, g4⟩ := ok _ _ _ hr hb
      obtain ⟨h', k1, k2⟩ := KH.pushL_inv g4 hb
      refine p_new g0 (g1 _) g2 ?_
      rw [toAH_next, ← k1]
      exact h1 _ h' _ k2
    | ef f ok => exact absurd hr.symm hb
theorem kdseq_sound (hC : CallsOk P call) (hb : r ≠ .bad) {s : Nat} {w : Bool} {K : EK} {rest : List DIt} (h2 : ∀ v h, r = .pan v h → Kp' v ep (toAH h)) : ∀ (its : List DIt) (e : Env) (h : KH) (pend : Pend), its.all fOk = true → e dslot = .tup [] →
    (agd (e s) = some (some w) ∧ its.all (fun it => gSame s w it.o) = true ∨ its.all (fun it => it.o.gd.isNone) = true) → kdseq call its e h K = r →
    (∀ e' h' pend', (∀ t, t ∉ ddsts its → e' t = e t) → e' dslot = .tup [] → K e' h' = r → adops P ep K' Kp' rest e' (toAH h') pend') → adops P ep K' Kp' (its ++ rest) e (toAH h) pend
  | [], e, h, pend, _, hd, _, hr, h1 => h1 e h pend (fun _ _ => rfl) hd hr
  | it :: its, e, h, pend, ho, hd, hg, hr, h1 => by
    have hr : (kdact call it.eff it.o.k e h fun v h' => kdseq call its (e.put it.o.dst v) h' K) = r := hr
    simp only [List.all_cons, Bool.and_eq_true] at ho hg
    obtain ⟨ho1, ho2⟩ := ho
    simp only [fOk, Bool.and_eq_true] at ho1
    have hd' : ∀ v, (e.put it.o.dst v) dslot = .tup [] := fun v => by rw [put_ne (dOk_spec ho1.1)]; exact hd
    have go : ∀ v h' pend', (agd ((e.put it.o.dst v) s) = some (some w) ∧ its.all (fun it => gSame s w it.o) = true ∨ its.all (fun it => it.o.gd.isNone) = true) → kdseq call its (e.put it.o.dst v) h' K = r → adops P ep K' Kp' (its ++ rest) (e.put it.o.dst v) (toAH h') pend' := fun v h' pend' hg' hx =>
      kdseq_sound hC hb h2 its (e.put it.o.dst v) h' pend' ho2 (hd' v) hg' hx fun e' h'' pend'' q1 q2 q3 => h1 e' h'' pend'' (fun t ht => by
        have ht : t ∉ dcons it.o.dst (ddsts its) := ht
        rw [mem_dcons, not_or] at ht
        rw [q1 t ht.2, put_ne ht.1]) q2 q3
    obtain ⟨i, ⟨dst, k, gd⟩, pre, fl, eff⟩ := it
    have hfl := ho1.2
    simp only [List.isEmpty_iff] at hfl
    subst hfl
    rcases hg with ⟨g1, g2, g3⟩ | ⟨g2, g3⟩
    · obtain ⟨hh, g4⟩ := gSame_spec g2
      simp only at hh g4
      subst hh
      refine p_gdO g1 (fun _ => kdact_sound hC hb hr (fun v h' pend' hx => go v h' pend' (.inl ⟨by simp only; rw [put_ne g4]; exact g1, g3⟩) hx) h2) (fun hn => absurd rfl hn)
    · simp only [Option.isNone_iff_eq_none] at g2
      subst g2
      exact kdact_sound hC hb hr (fun v h' pend' hx => go v h' pend' (.inr g3) hx) h2
theorem adops_off [YC] {s : Nat} {w : Bool} {b : Option Bool} (hn : b ≠ some w) {rest : List DIt} : ∀ (its : List DIt) (e : Env) (H : AH) (pend : Pend), its.all (fun it => gSame s w it.o) = true → agd (e s) = some b → adops P ep K' Kp' rest (kset (ddsts its) (fun _ => aud) e) H pend → adops P ep K' Kp' (its ++ rest) e H pend
  | [], e, H, pend, _, _, h => h
  | it :: its, e, H, pend, hg, hs, h => by
    simp only [List.all_cons, Bool.and_eq_true] at hg
    obtain ⟨i, ⟨dst, k, gd⟩, pre, fl, eff⟩ := it
    obtain ⟨hh, g4⟩ := gSame_spec hg.1
    simp only at hh g4
    subst hh
    refine p_gdO hs (fun hw => absurd hw hn) fun _ => adops_off hn its _ H pend hg.2 (by rw [put_ne g4]; exact hs) ?_
    cases dst with
    | none => exact h
    | some d => exact h
theorem ddsts_ok : ∀ {its : List DIt}, its.all fOk = true → dslot ∉ ddsts its
  | [], _, hm => by cases hm
  | it :: its, h, hm => by
    have hm : dslot ∈ dcons it.o.dst (ddsts its) := hm
    simp only [List.all_cons, Bool.and_eq_true, fOk] at h
    rw [mem_dcons] at hm
    rcases hm with hm | hm
    · exact dOk_spec h.1.1 hm
    · exact ddsts_ok h.2 hm
theorem kdops_sound (hC : CallsOk P call) (hb : r ≠ .bad) {K : EK} (h1 : ∀ e h, e dslot = .tup [] → K e h = r → K' e (toAH h)) (h2 : ∀ v h, r = .pan v h → Kp' v ep (toAH h)) :
    ∀ (gs : List GrpD) (e : Env) (h : KH) (pend : Pend), (unGD gs).all fOk = true → e dslot = .tup [] → kdops call gs e h K = r → adops P ep K' Kp' (unGD gs) e (toAH h) pend
  | [], e, h, pend, _, hd, hr => h1 e h hd hr
  | (g, its) :: gs, e, h, pend, ho, hd, hr => by
    have hr : (kdgrp call (g, its) e h fun e' h' => kdops call gs e' h' K) = r := hr
    change (its ++ unGD gs).all fOk = true at ho
    rw [List.all_append, Bool.and_eq_true] at ho
    have rest : ∀ e' h' pend', e' dslot = .tup [] → kdops call gs e' h' K = r → adops P ep K' Kp' (unGD gs) e' (toAH h') pend' := fun e' h' pend' hd' hx => kdops_sound hC hb h1 h2 gs e' h' pend' ho.2 hd' hx
    show adops P ep K' Kp' (its ++ unGD gs) e (toAH h) pend
    cases g with
    | none =>
      obtain ⟨g1, g2⟩ := bif_ok hr hb
      exact kdseq_sound hC hb (s := 0) (w := true) h2 its e h pend ho.1 hd (.inr g1) g2 fun e' h' pend' _ q2 q3 => rest e' h' pend' q2 q3
    | some p =>
      obtain ⟨s, w⟩ := p
      obtain ⟨g1, g2⟩ := bif_ok hr hb
      obtain ⟨b, k1, k2, k3⟩ := x_gd_inv g2 hb
      by_cases hw : b = some w
      · subst hw
        refine kdseq_sound hC hb h2 its e h pend ho.1 hd (.inl ⟨k1, g1⟩) (k2 rfl) fun e' h' pend' q1 q2 q3 => rest e' h' pend' q2 ?_
        rw [jcall_jlam] at q3
        have : kset (ddsts its) e' e = e' := by
          funext t
          rw [kset_get]
          split
          · rfl
          · rename_i hm; exact (q1 t hm).symm
        rw [this] at q3; exact q3
      · have k3 := k3 hw
        simp only [jcall_jlam] at k3
        refine adops_off hw its e (toAH h) pend g1 k1 (rest _ h _ ?_ k3)
        rw [kset_get, if_neg (ddsts_ok ho.1)]
        exact hd
end
abbrev KPend := List (Nat × (KH → Bool))
noncomputable def memN (i : Nat) (l : List Nat) : Bool := List.rec (motive := fun _ => Bool) false (fun j _ ih => bif Nat.beq i j then true else ih) l
theorem memN_of {i : Nat} : ∀ {l : List Nat}, i ∈ l → memN i l = true
  | j :: l, h => by
    show (bif Nat.beq i j then true else memN i l) = true
    cases h with
    | head => rw [Nat.beq_refl]; rfl
    | tail _ h => rw [memN_of h]; cases Nat.beq i j <;> rfl
noncomputable def kchk (fl : List Nat) (pd : KPend) (h : KH) : Bool := List.rec (motive := fun _ => Bool) true (fun p _ ih => bif memN p.1 fl then (bif p.2 h then ih else false) else ih) pd
theorem kchk_of {fl : List Nat} {h : KH} : ∀ {pd : KPend}, kchk fl pd h = true → ∀ p ∈ pd, p.1 ∈ fl → p.2 h = true
  | p :: pd, hk, q, hq, hf => by
    have hk : (bif memN p.1 fl then (bif p.2 h then kchk fl pd h else false) else kchk fl pd h) = true := hk
    cases hq with
    | head =>
      rw [memN_of hf] at hk
      cases hp : p.2 h with
      | true => rfl
      | false => rw [hp] at hk; cases hk
    | tail _ hq =>
      refine kchk_of (pd := pd) ?_ q hq hf
      cases hm : memN p.1 fl with
      | false => rw [hm] at hk; exact hk
      | true =>
        rw [hm] at hk
        cases hp : p.2 h with
        | true => rw [hp] at hk; exact hk
        | false => rw [hp] at hk; cases hk
def PRel (pd : KPend) (pend : Pend) : Prop := ∀ i p, pend.lookup i = some p → ∃ b, (i, b) ∈ pd ∧ ∀ x, b x = true → p (toAH x)
theorem PRel.more {pd : KPend} {pend : Pend} (h : PRel pd pend) (q : Nat × (KH → Bool)) : PRel (q :: pd) pend := fun i p hi => let ⟨b, h1, h2⟩ := h i p hi; ⟨b, .tail _ h1, h2⟩
theorem PRel.cons {pd : KPend} {pend : Pend} (h : PRel pd pend) {i : Nat} {b : KH → Bool} {p : AH → Prop} (hp : ∀ x, b x = true → p (toAH x)) : PRel ((i, b) :: pd) ((i, p) :: pend) := fun j q hj => by
  rw [List.lookup_cons] at hj
  by_cases hij : (j == i) = true
  · rw [hij] at hj
    simp only [Option.some.injEq] at hj
    subst hj
    have : j = i := by simpa using hij
    subst this
    exact ⟨b, .head _, hp⟩
  · simp only [Bool.not_eq_true] at hij
    rw [hij] at hj
    obtain ⟨b', h1, h2⟩ := h j q hj
    exact ⟨b', .tail _ h1, h2⟩
theorem PRel.chk {pd : KPend} {pend : Pend} (hp : PRel pd pend) {h : KH} : ∀ {fl fl' : List Nat}, (∀ i ∈ fl', i ∈ fl) → kchk fl pd h = true → chk fl' pend (toAH h)
  | _, [], _, _ => trivial
  | fl, i :: is, hs, hk => by
    refine ⟨?_, PRel.chk hp (fun j hj => hs j (.tail _ hj)) hk⟩
    cases hl : pend.lookup i with
    | none => trivial
    | some p =>
      obtain ⟨b, h1, h2⟩ := hp i p hl
      exact h2 h (kchk_of hk _ h1 (hs i (.head _)))
def koEq (x : Option AV) (v : AV) : Bool := match x with
  | some y => avEq y v
  | none => false
def klEq (x : Option (List AV)) (v : List AV) : Bool := match x with
  | some y => avsEq y v
  | none => false
noncomputable def kre (k : AK) (e : Env) (v : AV) (h : KH) : Bool := match k with
  | .load g x => koEq (kload g (x.ev e) h) v
  | k => koEq (aread k e (toAH h)) v
theorem kre_sound {k : AK} {e : Env} {v : AV} {h : KH} (hk : kre k e v h = true) : aread k e (toAH h) = some v := by
  have key : ∀ {o : Option AV}, koEq o v = true → o = some v := fun {o} ho => by
    unfold koEq at ho
    split at ho
    · rw [avEq_sound _ _ ho]
    · cases ho
  unfold kre at hk
  split at hk
  · rename_i g x
    have := key hk
    rw [kload_eq] at this; exact this
  · exact key hk
noncomputable def knwc (r : Nat) (c : List AV) : KH → Bool := fun h => klEq (kcells h r) c
noncomputable def kitem (call : KCall) (eff : Bool) (fl : List Nat) (pd : KPend) (k : AK) (e : Env) (h : KH) (K : KG) : KC :=
  Bool.rec (motive := fun _ => KC) (FAct.rec (motive := fun _ => KC) (fun f _ => f e fun v => K v ktt h) (fun f _ => f e h fun v => K v (kre k e v) h) (fun f _ => f e fun c g => x_nw c g h fun v h' => K v (knwc h.nx c) h') (fun _ _ => .bad) (toAct k))
    (kact call k e h fun v h' => x_chk (kchk fl pd h') (K v ktt h')) eff
noncomputable def kslow (call : KCall) (l : List DIt) : Env → KH → KPend → EK → KC :=
  List.rec (motive := fun _ => Env → KH → KPend → EK → KC) (fun e h _ K => K e h) (fun it _ ih e h pd K =>
    Option.rec (motive := fun _ => KC) (kitem call it.eff it.fl pd it.o.k e h fun v c h' => ih (e.put it.o.dst v) h' ((it.i, c) :: pd) K)
      (fun p => x_G3 p.2 (e p.1) h (fun v c h' => ih (e.put it.o.dst v) h' ((it.i, c) :: pd) K) fun J => kitem call it.eff it.fl pd it.o.k e h J) it.o.gd) l
section
variable {P : Program} {call : KCall} {r : KC} {ep : Env} {K' : Env → AH → Prop} {Kp' : AV → Env → AH → Prop}
theorem kitem_sound (hC : CallsOk P call) (hb : r ≠ .bad) {i pre : Nat} {d : Option Nat} {k : AK} {eff : Bool} {fl : List Nat} {pd : KPend} {l : List DIt} {e : Env} {h : KH} {pend : Pend} (hp : PRel pd pend) {K : KG} (hr : kitem call eff fl pd k e h K = r)
    (h1 : ∀ v c h' pend', PRel ((i, c) :: pd) pend' → K v c h' = r → adops P ep K' Kp' l (e.put d v) (toAH h') pend') (h2 : ∀ v h', r = .pan v h' → Kp' v ep (toAH h')) : adops P ep K' Kp' (⟨i, ⟨d, k, none⟩, pre, fl, eff⟩ :: l) e (toAH h) pend := by
  cases eff with
  | true =>
    refine p_eff (kact_sound hC hr hb (fun v h' hk => ?_) (fun v h' hk => h2 v h' hk)).1
    obtain ⟨g1, g2⟩ := bif_ok hk hb
    exact ⟨hp.chk (fun _ hi => hi) g1, h1 v ktt h' pend (hp.more _) g2⟩
  | false =>
    have hr : FAct.rec (motive := fun _ => KC) (fun f _ => f e fun v => K v ktt h) (fun f _ => f e h fun v => K v (kre k e v) h) (fun f _ => f e fun c g => x_nw c g h fun v h' => K v (knwc h.nx c) h') (fun _ _ => .bad) (toAct k) = r := hr
    generalize toAct k = a at hr
    cases a with
    | pu f ok =>
      obtain ⟨v, g1, g2⟩ := ok _ _ _ hr hb
      exact p_pure g1 (h1 v ktt h pend (hp.more _) g2)
    | rd f ok =>
      obtain ⟨v, g0, g1, g2⟩ := ok _ _ _ _ hr hb
      exact p_read g0 g1 (h1 v _ h _ (hp.cons fun x hx => kre_sound hx) g2)
    | nw f ok =>
      obtain ⟨c, g, g0, g1, g2, g3, g4⟩ := ok _ _ _ hr hb
      obtain ⟨h', k1, k2⟩ := KH.pushL_inv g4 hb
      refine p_new g0 (g1 _) g2 ?_
      rw [toAH_next, ← k1]
      refine h1 _ _ h' _ (hp.cons fun x hx => ?_) k2
      unfold knwc klEq at hx
      split at hx
      · rename_i y hy
        rw [kcells_eq] at hy
        have := avsEq_sound _ _ hx
        subst this
        unfold AH.cells? at hy
        split at hy
        · rename_i l' hl'; simp only [Option.some.injEq] at hy; subst hy; exact hl'
        · cases hy
      · cases hx
    | ef f ok => exact absurd hr.symm hb
theorem kslow_sound (hC : CallsOk P call) (hb : r ≠ .bad) {K : EK} (h1 : ∀ e h, e dslot = .tup [] → K e h = r → K' e (toAH h)) (h2 : ∀ v h, r = .pan v h → Kp' v ep (toAH h)) :
    ∀ (l : List DIt) (e : Env) (h : KH) (pd : KPend) (pend : Pend), PRel pd pend → l.all (fun it => dOk it.o) = true → e dslot = .tup [] → kslow call l e h pd K = r → adops P ep K' Kp' l e (toAH h) pend
  | [], e, h, pd, pend, _, _, hd, hr => h1 e h hd hr
  | ⟨i, ⟨dst, k, gd⟩, pre, fl, eff⟩ :: l, e, h, pd, pend, hp, ho, hd, hr => by
    simp only [List.all_cons, Bool.and_eq_true] at ho
    have go : ∀ v c h' pend', PRel ((i, c) :: pd) pend' → kslow call l (e.put dst v) h' ((i, c) :: pd) K = r → adops P ep K' Kp' l (e.put dst v) (toAH h') pend' := fun v c h' pend' hp' hx =>
      kslow_sound hC hb h1 h2 l _ h' _ pend' hp' ho.2 (by rw [put_ne (dOk_spec ho.1)]; exact hd) hx
    cases gd with
    | none =>
      have hr : (kitem call eff fl pd k e h fun v c h' => kslow call l (e.put dst v) h' ((i, c) :: pd) K) = r := hr
      exact kitem_sound hC hb hp hr (fun v c h' pend' q1 q2 => go v c h' pend' q1 q2) h2
    | some p =>
      obtain ⟨s, w⟩ := p
      have hr : (x_gd w (e s) (kitem call eff fl pd k e h fun v c h' => kslow call l (e.put dst v) h' ((i, c) :: pd) K) (kslow call l (e.put dst aud) h ((i, ktt) :: pd) K)) = r := hr
      obtain ⟨b, k1, k2, k3⟩ := x_gd_inv hr hb
      exact p_gdO k1 (fun hw => kitem_sound hC hb hp (k2 hw) (fun v c h' pend' q1 q2 => go v c h' pend' q1 q2) h2) (fun hw => go aud ktt h pend (hp.more _) (k3 hw))
end
noncomputable def kdreg (call : KCall) (plan : List DIt) (e : Env) (h : KH) (K : EK) : KC :=
  Bool.rec (motive := fun _ => KC) (Bool.rec (motive := fun _ => KC) .bad (kslow call plan e h [] K) (plan.all (fun it => dOk it.o))) (kdops call (grpD plan) e h K) (plan.all fOk)
theorem clr_dslot {plan : List DIt} {e : Env} (ho : plan.all (fun it => dOk it.o) = true) : clr plan e dslot = e dslot := by
  unfold clr
  rw [if_neg]
  intro hh
  rw [List.any_eq_true] at hh
  obtain ⟨it, h1, h2⟩ := hh
  rw [List.all_eq_true] at ho
  exact dOk_spec (ho it h1) (by simpa using h2)
theorem kdreg_sound {P : Program} {call : KCall} {r : KC} {K' : Env → AH → Prop} {Kp' : AV → Env → AH → Prop} (hC : CallsOk P call) (hb : r ≠ .bad) {K : EK} (h1 : ∀ e h, e dslot = .tup [] → K e h = r → K' e (toAH h)) (h2 : ∀ v h, r = .pan v h → ∀ e, e dslot = .tup [] → Kp' v e (toAH h))
    {plan : List DIt} {e : Env} {h : KH} (hd : e dslot = .tup []) (hr : kdreg call plan e h K = r) : adops P (clr plan e) K' Kp' plan e (toAH h) [] := by
  unfold kdreg at hr
  cases hf : plan.all fOk with
  | true =>
    rw [hf] at hr
    have hd' : plan.all (fun it => dOk it.o) = true := by
      rw [List.all_eq_true] at hf ⊢
      intro x hx
      have := hf x hx
      simp only [fOk, Bool.and_eq_true] at this
      exact this.1
    have := kdops_sound hC hb (ep := clr plan e) (Kp' := Kp') h1 (fun v h hv => h2 v h hv _ (by rw [clr_dslot hd']; exact hd)) (grpD plan) e h [] (by rw [grpD_flat]; exact hf) hd hr
    rw [grpD_flat] at this; exact this
  | false =>
    rw [hf] at hr
    obtain ⟨g1, g2⟩ := bif_ok hr hb
    exact kslow_sound hC hb h1 (fun v h hv => h2 v h hv _ (by rw [clr_dslot g1]; exact hd)) plan e h [] [] (fun i p hi => by cases hi) g1 hd g2
end Go.AL
namespace Go.AL
variable [GLC]
inductive HT where
  | l
  | s (a b : HT)
  | i (a b : HT)
  | j (l : List Nat) (a b : HT)
noncomputable def jbad (l : List Nat) : JT l := List.rec (motive := fun l => JT l) (fun _ => .bad) (fun _ _ ih _ => ih) l
theorem jcall_jbad : ∀ (l : List Nat) (e : Env) (h : KH), jcall l (jbad l) e h = .bad
  | [], _, _ => rfl
  | _ :: l, e, h => jcall_jbad l e h
noncomputable def jenv : Env := fun i => bif Nat.beq i dslot then .tup [] else .unk
noncomputable def kexi (id : Nat) (K : EK) (ke : Nat → EK) : Nat → EK := (fun (_ : AK → Nat) i => Bool.rec (motive := fun _ => EK) (ke i) K (Nat.beq i id)) xTop
theorem kexi_eq (id : Nat) (K : EK) (ke : Nat → EK) (i : Nat) : kexi id K ke i = if i = id then K else ke i := by
  show Bool.rec (motive := fun _ => EK) (ke i) K (Nat.beq i id) = _
  rw [beq_decide]
  by_cases h : i = id <;> simp [h]
noncomputable def kno : EK := fun _ _ => .bad
noncomputable def run (call : KCall) (c : ACode) : HT → EK → (Nat → EK) → EK → EK :=
  ACode.rec (motive := fun _ => HT → EK → (Nat → EK) → EK → EK)
    (fun _ kn _ _ => kn)
    (fun ops _ kn _ _ e h => kreg call ops e h kn)
    (fun plan _ kn _ _ e h => kdreg call plan e h kn)
    (fun _ _ ra rb t kn ke kr => HT.rec (motive := fun _ => EK) kno (fun x y _ _ => ra x (rb y kn ke kr) ke kr) (fun _ _ _ _ => kno) (fun _ _ _ _ _ => kno) t)
    (fun c _ _ ra rb t kn ke kr e h => HT.rec (motive := fun _ => KC) .bad (fun _ _ _ _ => .bad) (fun x y _ _ => x_if0 (c.ev e) (ra x kn ke kr e h) (rb y kn ke kr e h))
      (fun l x y _ _ => x_if (c.ev e) (jlam l jenv kn) (fun J => ra x (jcall l J) ke kr e h) (fun J => rb y (jcall l J) ke kr e h)) t)
    (fun id _ ra t kn ke kr e h => HT.rec (motive := fun _ => KC) .bad (fun _ _ _ _ => .bad) (fun x _ _ _ => ra x kn (kexi id kn ke) kr e h)
      (fun l x _ _ _ => x_blk (jlam l jenv kn) fun J => ra x (jcall l J) (kexi id (jcall l J) ke) kr e h) t)
    (fun _ ra t _ ke kr e h => HT.rec (motive := fun _ => KC) .bad (fun _ _ _ _ => .bad) (fun _ _ _ _ => .bad)
      (fun l x _ _ _ => jcall l (x_loop (jbad l) fun self => jlam l jenv fun e h => ra x (jcall l self) ke kr e h) e h) t)
    (fun id _ _ ke _ => ke id)
    (fun _ _ _ kr => kr)
    (fun _ _ _ _ _ _ _ _ _ _ => kno) c
def KQ (r : KC) (kn : EK) (ke : Nat → EK) (kr : EK) : Ex → Env → AH → Prop := fun x e H => e dslot = .tup [] ∧ ∃ h, toAH h = H ∧ match x with
  | .normal => kn e h = r
  | .exit i => ke i e h = r
  | .ret => kr e h = r
  | .pan v => r = .pan v h
theorem kset_keep {l : List Nat} {e : Env} (hd : e dslot = .tup []) : (∀ t, kset l e jenv t = e t ∨ kset l e jenv t = .unk) ∧ kset l e jenv dslot = .tup [] := by
  refine ⟨fun t => ?_, ?_⟩
  · rw [kset_get]
    split
    · exact .inl rfl
    · unfold jenv
      rw [beq_decide, cond_dec]
      split
      · rename_i h; subst h; exact .inl hd.symm
      · exact .inr rfl
  · rw [kset_get]
    split
    · exact hd
    · unfold jenv
      rw [Nat.beq_refl]; rfl
theorem kset_vs {l : List Nat} {e : Env} {H : AH} (hd : e dslot = .tup []) : VS e H (kset l e jenv) H := VS.keep (kset_keep hd).1 ((kset_keep hd).2.trans hd.symm)
theorem KQ.join {r : KC} {l : List Nat} {kn : EK} {ke : Nat → EK} {kr : EK} : ∀ x e H, KQ r (jcall l (jlam l jenv kn)) ke kr x e H → vsX (KQ r kn ke kr) x e H := by
  rintro x e H ⟨hd, h, rfl, hx⟩
  cases x with
  | normal =>
    simp only [jcall_jlam] at hx
    exact ⟨_, _, kset_vs (l := l) hd, (kset_keep hd).2, h, rfl, hx⟩
  | exit i => exact vsX_same ⟨hd, h, rfl, hx⟩
  | ret => exact vsX_same ⟨hd, h, rfl, hx⟩
  | pan v => exact ⟨hd, h, rfl, hx⟩
section
variable {P : Program} {call : KCall} {r : KC} {n : Nat} {hs : Hints}
theorem run_sound (hC : CallsOk P call) (hmix : P.follows .mixedOrders = true) (hn : n ≤ dslot) (hb : r ≠ .bad) : ∀ (c : Code) (ac : ACode), comp P hs n c = some ac →
    ∀ (t : HT) (kn : EK) (ke : Nat → EK) (kr : EK) (e : Env) (h : KH), e dslot = .tup [] → run call ac t kn ke kr e h = r → DS P n c (KQ r kn ke kr) e (toAH h) := by
  have hbb : KC.bad ≠ r := fun h => hb h.symm
  intro c
  induction c with
  | skip =>
    intro ac hc t kn ke kr e h hd hr
    simp only [comp, Option.some.injEq] at hc; subst hc
    exact DSr.skip ⟨hd, h, rfl, hr⟩
  | exit id =>
    intro ac hc t kn ke kr e h hd hr
    simp only [comp, Option.some.injEq] at hc; subst hc
    exact DSr.exit ⟨hd, h, rfl, hr⟩
  | ret =>
    intro ac hc t kn ke kr e h hd hr
    simp only [comp, Option.some.injEq] at hc; subst hc
    exact DSr.ret ⟨hd, h, rfl, hr⟩
  | region id ops draw =>
    intro ac hc t kn ke kr e h hd hr
    have h1 : ∀ e' h', e' dslot = .tup [] → kn e' h' = r → vsQ (KQ r kn ke kr) .normal e' (toAH h') := fun e' h' q1 q2 => vs_same ⟨q1, h', rfl, q2⟩
    have h2 : ∀ v h', r = .pan v h' → ∀ e', e' dslot = .tup [] → KQ r kn ke kr (.pan v) e' (toAH h') := fun v h' q1 e' q2 => ⟨q2, h', rfl, q1⟩
    refine DSr.of_D hmix hn hc (.inl rfl) ?_
    cases draw with
    | true =>
      simp only [comp] at hc
      split at hc <;> (try (cases hc; done))
      split at hc <;> (try (cases hc; done))
      rename_i plan hpl
      split at hc <;> (try (cases hc; done))
      simp only [Option.some.injEq] at hc; subst hc
      exact d_dregV (kdreg_sound hC hb (K' := fun e' H' => vsQ (KQ r kn ke kr) .normal e' H') (Kp' := fun v e' H' => KQ r kn ke kr (.pan v) e' H') h1 h2 hd hr)
    | false =>
      simp only [comp, Option.map_eq_some_iff] at hc
      obtain ⟨al, hal, rfl⟩ := hc
      exact d_regV (kreg_sound hC hb (K' := fun e' H' => vsQ (KQ r kn ke kr) .normal e' H') (Kp' := fun v e' H' => KQ r kn ke kr (.pan v) e' H') h1 h2 hd hr)
  | seq x y ihx ihy =>
    intro ac hc t kn ke kr e h hd hr
    simp only [comp] at hc
    split at hc
    · rename_i ax ay hx hy
      simp only [Option.some.injEq] at hc; subst hc
      cases t with
      | l => exact absurd hr hbb
      | i a b => exact absurd hr hbb
      | j l a b => exact absurd hr hbb
      | s a b =>
        have hr : run call ax a (run call ay b kn ke kr) ke kr e h = r := hr
        refine DSr.seq (DSr.post ?_ (ihx ax hx a _ ke kr e h hd hr))
        rintro z e' H' ⟨hd', h', rfl, hz⟩
        refine vsX_same ?_
        cases z with
        | normal => exact ihy ay hy b kn ke kr e' h' hd' hz
        | exit i => exact ⟨hd', h', rfl, hz⟩
        | ret => exact ⟨hd', h', rfl, hz⟩
        | pan v => exact ⟨hd', h', rfl, hz⟩
    · cases hc
  | cond c x y ihx ihy =>
    intro ac hc t kn ke kr e h hd hr
    simp only [comp] at hc
    split at hc
    · rename_i c' ax ay h1 hx hy
      simp only [Option.some.injEq] at hc; subst hc
      have go : ∀ {A B : KC} {Q : Ex → Env → AH → Prop}, x_if0 (c'.ev e) A B = r → (A = r → DS P n x Q e (toAH h)) → (B = r → DS P n y Q e (toAH h)) → DS P n (.cond c x y) Q e (toAH h) := fun {A B Q} hi ha hbq => by
        unfold x_if0 at hi
        cases hv : toBP (c'.ev e) with
        | no => rw [hv] at hi; exact absurd hi hbb
        | «at» b =>
          rw [hv] at hi
          refine DSr.cond h1 (toBP_at hv) (fun ht => ?_) (fun ht => ?_)
          · subst ht; exact ha hi
          · subst ht; exact hbq hi
      cases t with
      | l => exact absurd hr hbb
      | s a b => exact absurd hr hbb
      | i a b => exact go hr (fun q => ihx ax hx a kn ke kr e h hd q) (fun q => ihy ay hy b kn ke kr e h hd q)
      | j l a b => exact go hr (fun q => (ihx ax hx a _ ke kr e h hd q).post KQ.join) (fun q => (ihy ay hy b _ ke kr e h hd q).post KQ.join)
    · cases hc
  | block id x ih =>
    intro ac hc t kn ke kr e h hd hr
    simp only [comp, Option.map_eq_some_iff] at hc
    obtain ⟨ax, hx, rfl⟩ := hc
    cases t with
    | l => exact absurd hr hbb
    | s a b => exact absurd hr hbb
    | i a b =>
      refine DSr.block ((ih ax hx a kn (kexi id kn ke) kr e h hd hr).post ?_)
      rintro z e' H' ⟨hd', h', rfl, hz⟩
      refine vsX_same ?_
      cases z with
      | normal => exact ⟨hd', h', rfl, hz⟩
      | exit i =>
        simp only [kexi_eq] at hz
        simp only []
        by_cases hi : i = id
        · rw [if_pos hi]; rw [if_pos hi] at hz; exact ⟨hd', h', rfl, hz⟩
        · rw [if_neg hi]; rw [if_neg hi] at hz; exact ⟨hd', h', rfl, hz⟩
      | ret => exact ⟨hd', h', rfl, hz⟩
      | pan v => exact ⟨hd', h', rfl, hz⟩
    | j l a b =>
      have hr : run call ax a (jcall l (jlam l jenv kn)) (kexi id (jcall l (jlam l jenv kn)) ke) kr e h = r := hr
      refine DSr.block ((ih ax hx a _ _ kr e h hd hr).post ?_)
      rintro z e' H' ⟨hd', h', rfl, hz⟩
      cases z with
      | normal => exact KQ.join (l := l) .normal e' _ ⟨hd', h', rfl, hz⟩
      | exit i =>
        simp only [kexi_eq] at hz
        by_cases hi : i = id
        · rw [if_pos hi] at hz
          simp only [jcall_jlam] at hz
          refine ⟨_, _, kset_vs (l := l) hd', ?_⟩
          simp only [hi, if_true]
          exact ⟨(kset_keep hd').2, h', rfl, hz⟩
        · rw [if_neg hi] at hz
          refine vsX_same ?_
          simp only []
          rw [if_neg hi]; exact ⟨hd', h', rfl, hz⟩
      | ret => exact vsX_same ⟨hd', h', rfl, hz⟩
      | pan v => exact ⟨hd', h', rfl, hz⟩
  | loop x ih =>
    intro ac hc t kn ke kr e h hd hr
    simp only [comp, Option.map_eq_some_iff] at hc
    obtain ⟨ax, hx, rfl⟩ := hc
    cases t with
    | l => exact absurd hr hbb
    | s a b => exact absurd hr hbb
    | i a b => exact absurd hr hbb
    | j l a b =>
      have hr : jcall l (x_lp (jbad l) (fun self => jlam l jenv fun e h => run call ax a (jcall l self) ke kr e h) kmany) e h = r := hr
      generalize hbody : (fun self : JT l => jlam l jenv fun e h => run call ax a (jcall l self) ke kr e h) = body at hr
      refine DSr.loop (L := fun k e H => e dslot = .tup [] ∧ ∃ h, toAH h = H ∧ jcall l (x_lp (jbad l) body k) e h = r) ⟨hd, h, rfl, hr⟩ ?_
      rintro k e1 H1 ⟨hd1, h1, rfl, hr1⟩
      cases k with
      | zero =>
        have hr1 : jcall l (jbad l) e1 h1 = r := hr1
        rw [jcall_jbad] at hr1
        exact absurd hr1 hbb
      | succ k =>
        have hr1 : jcall l (body (x_lp (jbad l) body k)) e1 h1 = r := hr1
        rw [← hbody, jcall_jlam, hbody] at hr1
        refine DSr.vs (kset_vs (l := l) hd1) ((ih ax hx a _ ke kr _ h1 (kset_keep hd1).2 hr1).post ?_)
        rintro z e' H' ⟨hd', h', rfl, hz⟩
        refine vsX_same ?_
        cases z with
        | normal => exact ⟨k, Nat.lt_succ_self k, hd', h', rfl, hz⟩
        | exit i => exact ⟨hd', h', rfl, hz⟩
        | ret => exact ⟨hd', h', rfl, hz⟩
        | pan v => exact ⟨hd', h', rfl, hz⟩
  | rangeFunc g ps as bd =>
    intro ac hc t kn ke kr e h hd hr
    simp only [comp] at hc
    split at hc <;> (try (cases hc; done))
    split at hc <;> (try (cases hc; done))
    simp only [Option.some.injEq] at hc; subst hc
    exact absurd hr hbb
  | _ => intro ac hc; simp [comp] at hc
end
noncomputable def kres (q : List ARes) (e : Env) (h : KH) : (List AV → KC) → KC :=
  List.rec (motive := fun _ => (List AV → KC) → KC) (fun K => K []) (fun r _ ih K => ARes.rec (motive := fun _ => KC) (fun i => ih fun l => K (e i :: l)) (fun a g => x_ld g (e a) h fun v => ih fun l => K (v :: l)) r) q
noncomputable def kfin (q : List ARes) : EK := fun e h => kres q e h fun l => .ret (retv l) h
theorem kres_inv {e : Env} {h : KH} {r : KC} (hb : r ≠ .bad) : ∀ {q : List ARes} {K : List AV → KC}, kres q e h K = r → ∃ l, aress e (toAH h) q = some l ∧ K l = r
  | [], K, hr => ⟨[], rfl, hr⟩
  | .tmp i :: q, K, hr => by
    obtain ⟨l, h1, h2⟩ := kres_inv hb (q := q) (K := fun l => K (e i :: l)) hr
    exact ⟨_, by simp only [aress, h1]; rfl, h2⟩
  | .cell a g :: q, K, hr => by
    have hr : x_ld g (e a) h (fun v => kres q e h fun l => K (v :: l)) = r := hr
    rw [x_ld_eq] at hr
    obtain ⟨v, g1, g2⟩ := x_o_inv hr hb
    obtain ⟨l, h1, h2⟩ := kres_inv hb (q := q) g2
    exact ⟨_, by simp only [aress, g1, h1]; rfl, h2⟩
theorem kfin_inv {e : Env} {h : KH} {r : KC} {q : List ARes} (hb : r ≠ .bad) (hr : kfin q e h = r) : ∃ l, aress e (toAH h) q = some l ∧ r = .ret (retv l) h := by
  obtain ⟨l, h1, h2⟩ := kres_inv hb hr
  exact ⟨l, h1, h2.symm⟩
noncomputable def x_arg (as : List AV) (K : AV → List AV → KC) : KC := List.rec (motive := fun _ => KC) .bad (fun v t _ => K v t) as
noncomputable def x_ar0 (as : List AV) (K : KC) : KC := List.rec (motive := fun _ => KC) K (fun _ _ _ => .bad) as
noncomputable def kargs (np : Nat) : Nat → Env → List AV → KH → EK → KC :=
  Nat.rec (motive := fun _ => Nat → Env → List AV → KH → EK → KC) (fun _ e as h K => x_ar0 as (K e h)) (fun _ ih i e as h K => x_arg as fun v t => ih (Nat.succ i) (e.set i v) t h K) np
theorem kargs_inv {r : KC} (hb : r ≠ .bad) {h : KH} {K : EK} : ∀ (np i : Nat) (e : Env) (as : List AV), kargs np i e as h K = r → as.length = np ∧ ∃ e', K e' h = r ∧ ∀ t, e' t = if i ≤ t ∧ t < i + np then as.getD (t - i) .unk else e t
  | 0, i, e, [], hr => ⟨rfl, e, hr, fun t => by rw [if_neg (by omega)]⟩
  | 0, i, e, _ :: _, hr => absurd hr.symm hb
  | np + 1, i, e, [], hr => absurd hr.symm hb
  | np + 1, i, e, v :: as, hr => by
    obtain ⟨h1, e', h2, h3⟩ := kargs_inv hb np (i + 1) (e.set i v) as hr
    refine ⟨by rw [List.length_cons, h1], e', h2, fun t => ?_⟩
    rw [h3, Env.set_get]
    by_cases c1 : t = i
    · subst c1
      rw [if_neg (by omega), if_pos rfl, if_pos (by omega)]; simp
    · by_cases c2 : i + 1 ≤ t ∧ t < i + 1 + np
      · rw [if_pos c2, if_pos (by omega)]
        have : t - i = (t - (i + 1)) + 1 := by omega
        rw [this]; simp
      · rw [if_neg c2, if_neg c1, if_neg (by omega)]
noncomputable def kfun (np : Nat) (q : List ARes) (ac : ACode) (t : HT) : KCall → List AV → KH → KC := fun call as h =>
  kargs np 0 jenv as h fun e h => run call ac t (kfin q) (fun _ => kno) (kfin q) e h
abbrev GF := KCall → List AV → KH → KC
def SoundF (P : Program) (g : FuncId) (F : GF) : Prop := ∀ call, CallsOk P call → ∀ as h,
  (∀ v h', F call as h = .ret v h' → ACall P g as (toAH h) (fun o H' => o = .ret v ∧ H' = toAH h')) ∧
  (∀ v h', F call as h = .pan v h' → ACall P g as (toAH h) (fun o H' => o = .pan v ∧ H' = toAH h'))
theorem kfun_sound {P : Program} {g n np : Nat} {q : List ARes} {ac : ACode} {t : HT} (hF : Fun P g n ac q) (hnp : Nat.ble np n = true) {F : GF} (hf : F = kfun np q ac t) : SoundF P g F := by
  subst hf
  intro call hC as h
  have hnp := Nat.le_of_ble_eq_true hnp
  have main : ∀ (r : KC) (post : AOut → AH → Prop), kfun np q ac t call as h = r → r ≠ .bad → (∀ v h', r = .ret v h' → post (.ret v) (toAH h')) → (∀ v h', r = .pan v h' → post (.pan v) (toAH h')) → ACall P g as (toAH h) post := by
    intro r post hr hb p1 p2
    obtain ⟨h1, e, h2, h3⟩ := kargs_inv hb np 0 jenv as hr
    have hle := hF.le
    have he : e = env0 as := by
      funext t
      rw [h3, env0, jenv, beq_decide, cond_dec]
      by_cases c1 : t = dslot
      · subst c1
        rw [if_neg (by omega), if_pos rfl, if_pos rfl]
      · rw [if_neg c1, if_neg c1]
        by_cases c2 : t < np
        · rw [if_pos (by omega)]; rfl
        · rw [if_neg (by omega), List.getD_eq_getElem?_getD, List.getElem?_eq_none (by omega)]; rfl
    subst he
    refine hF.callS (by omega) fun c hs hc => DSr.post ?_ (run_sound hC hF.mix hF.le hb c ac hc t _ _ _ _ h (by simp [env0]) h2)
    rintro x e' H' ⟨hd, h', rfl, hx⟩
    refine vsX_same ⟨⟨[], hd, nilis_nil⟩, ?_⟩
    cases x with
    | normal =>
      obtain ⟨l, g1, g2⟩ := kfin_inv hb hx
      simp only [fpost, g1]
      exact p1 _ _ g2
    | ret =>
      obtain ⟨l, g1, g2⟩ := kfin_inv hb hx
      simp only [fpost, g1]
      exact p1 _ _ g2
    | exit i => exact absurd hx.symm hb
    | pan v => exact p2 _ _ hx
  exact ⟨fun v h' hr => main _ _ hr (by intro hh; cases hh) (fun v' h'' hh => by cases hh; exact ⟨rfl, rfl⟩) (fun v' h'' hh => by cases hh),
    fun v h' hr => main _ _ hr (by intro hh; cases hh) (fun v' h'' hh => by cases hh) (fun v' h'' hh => by cases hh; exact ⟨rfl, rfl⟩)⟩
abbrev GTab := FuncId → Option GF
noncomputable def gcall (tab : GTab) (orc : KCall) (n : Nat) : KCall :=
  Nat.rec (motive := fun _ => KCall) (fun _ _ _ => .bad) (fun _ ih g as h => Option.rec (motive := fun _ => KC) (orc g as h) (fun F => F ih as h) (tab g)) n
def TabOk (P : Program) (tab : GTab) : Prop := ∀ g F, tab g = some F → SoundF P g F
noncomputable def t_br (k : Nat) (l r : GTab) : GTab := fun g => bif Nat.ble k g then r g else l g
noncomputable def t_lf (k : Nat) (F : GF) : GTab := fun g => bif Nat.beq g k then some F else none
noncomputable def t_no : GTab := fun _ => none
theorem t_br_ok {P : Program} {k : Nat} {l r : GTab} (hl : TabOk P l) (hr : TabOk P r) : TabOk P (t_br k l r) := fun g F h => by
  unfold t_br at h
  cases hk : Nat.ble k g with
  | true => rw [hk] at h; exact hr g F h
  | false => rw [hk] at h; exact hl g F h
theorem t_lf_ok {P : Program} {k : Nat} {F : GF} (h : SoundF P k F) : TabOk P (t_lf k F) := fun g F' hh => by
  unfold t_lf at hh
  rw [beq_decide, cond_dec] at hh
  split at hh
  · rename_i hg; subst hg; cases hh; exact h
  · cases hh
theorem t_no_ok {P : Program} : TabOk P t_no := fun _ _ h => by cases h
theorem callsOk_bad {P : Program} : CallsOk P (fun _ _ _ => .bad) := fun _ _ _ => ⟨fun _ _ h => (by cases h), fun _ _ h => (by cases h)⟩
theorem gcall_ok {P : Program} {tab : GTab} {orc : KCall} (hT : TabOk P tab) (hO : CallsOk P orc) : ∀ n, CallsOk P (gcall tab orc n)
  | 0 => callsOk_bad
  | n + 1 => fun g as h => by
    have e0 : gcall tab orc (n + 1) g as h = Option.rec (motive := fun _ => KC) (orc g as h) (fun F => F (gcall tab orc n) as h) (tab g) := rfl
    rw [e0]
    cases ht : tab g with
    | none => exact hO g as h
    | some F => exact hT g F ht _ (gcall_ok hT hO n) as h
theorem gcall_ret {P : Program} {tab : GTab} {orc : KCall} {n : Nat} {g : FuncId} {as : List AV} {h h' : KH} {v : AV} (hT : TabOk P tab) (hO : CallsOk P orc) (hr : gcall tab orc n g as h = .ret v h') : RetF P g as (toAH h) v (toAH h') :=
  (gcall_ok hT hO n g as h).1 v h' hr
noncomputable def acOf (P : Program) (fn : Func) (hs : Hints) (n : Nat) : ACode := Option.rec (motive := fun _ => ACode) .skip (fun c => c) (fn.body.bind (comp P hs n))
theorem kfun_of {P : Program} {g : FuncId} {fn : Func} {n np : Nat} {hs : Hints} {q : List ARes} {t : HT} {F : GF} (hmix : P.follows .mixedOrders = true) (hf : P.funcs[g]? = some fn) (hname : (fn.name == "runtime.NumGoroutine") = false)
    (hn : fn.ntmps = n) (hb : (fn.body.bind (comp P hs n)).isSome = true) (hr : cRess P fn.results.toList = some q) (hle : Nat.ble n dslot = true) (hnp : Nat.ble np n = true) (hF : F = kfun np q (acOf P fn hs n) t) : SoundF P g F := by
  obtain ⟨ac, hac⟩ := Option.isSome_iff_exists.1 hb
  have e : acOf P fn hs n = ac := by unfold acOf; rw [hac]
  rw [e] at hF
  exact kfun_sound (Fun.mk' hmix hf hname hn hac hr hle) hnp hF
def I (n : Nat) : AV := .int .i64 (.ofNat n)
def N (k : IntKind) (n : Nat) : AV := .int k (.ofNat n)
noncomputable def rpl (n : Nat) (x : AV) (l : List AV) : List AV := Nat.rec (motive := fun _ => List AV) l (fun _ ih => x :: ih) n
end Go.AL
namespace Go.AL
variable [GLC]
mutual
def scB (k : Nat) : AV → Bool
  | .unk => true | .bool _ => true | .int _ _ => true | .str _ => true | .nilp => true | .nils => true | .nilm => true | .nilf => true | .nili => true
  | .ptr r _ => Nat.ble (Nat.succ r) k
  | .sl r _ _ _ => Nat.ble (Nat.succ r) k
  | .mp r => Nat.ble (Nat.succ r) k
  | .pim l _ => scsB k l
  | .sim l _ _ => scsB k l
  | .fn _ a b => scsB k a && scsB k b
  | .ifc _ x => scB k x
  | .agg l => scsB k l
  | .tup l => scsB k l
def scsB (k : Nat) : List AV → Bool
  | [] => true
  | x :: l => scB k x && scsB k l
end
mutual
theorem scB_sound {k : Nat} : ∀ x, scB k x = true → Sc k x
  | .unk, _ => .unk | .bool _, _ => .bool _ | .int _ _, _ => .int _ _ | .str _, _ => .str _ | .nilp, _ => .nilp | .nils, _ => .nils | .nilm, _ => .nilm | .nilf, _ => .nilf | .nili, _ => .nili
  | .ptr r _, h => .ptr (Nat.le_of_ble_eq_true h)
  | .sl r _ _ _, h => .sl (Nat.le_of_ble_eq_true h)
  | .mp r, h => .mp (Nat.le_of_ble_eq_true h)
  | .pim l _, h => .pim (scsB_sound l (by simpa [scB] using h))
  | .sim l _ _, h => .sim (scsB_sound l (by simpa [scB] using h))
  | .fn _ a b, h => by
    simp only [scB, Bool.and_eq_true] at h
    exact .fn (scsB_sound a h.1) (scsB_sound b h.2)
  | .ifc _ x, h => .ifc (scB_sound x (by simpa [scB] using h))
  | .agg l, h => .agg (scsB_sound l (by simpa [scB] using h))
  | .tup l, h => .tup (scsB_sound l (by simpa [scB] using h))
theorem scsB_sound {k : Nat} : ∀ l, scsB k l = true → Scs k l
  | [], _ => .nil
  | x :: l, h => by
    simp only [scsB, Bool.and_eq_true] at h
    exact .cons (scB_sound x h.1) (scsB_sound l h.2)
end
mutual
noncomputable def frzB (h : KH) (k : Nat) : AV → AV → Bool
  | y, x => (avEq x y && scB k y) || (match y with
    | .unk => true
    | .pim l' o => (match x with
      | .ptr r o0 => Nat.ble k r && Nat.beq o0 o && (match kcells h r with | some l => frzsB h k l' l | none => false)
      | _ => false)
    | .sim l' n ex => (match x with
      | .sl r o n0 lim => Nat.ble k r && Nat.beq n0 n && (match kcells h r with | some l => Nat.ble (o + l'.length) l.length && frzsB h k l' ((l.drop o).take l'.length) | none => false) && (!(Nat.beq n 0) || l'.isEmpty) && (!ex || limEq lim (.ex n))
      | _ => false)
    | .ifc t y => (match x with
      | .ifc t' x => Nat.beq t' t && frzB h k y x
      | _ => false)
    | .agg l' => (match x with
      | .agg l => frzsB h k l' l
      | _ => false)
    | .tup l' => (match x with
      | .tup l => frzsB h k l' l
      | _ => false)
    | _ => false)
noncomputable def frzsB (h : KH) (k : Nat) : List AV → List AV → Bool
  | [], l => (match l with
    | [] => true
    | _ => false)
  | y :: l', l => (match l with
    | x :: l => frzB h k y x && frzsB h k l' l
    | [] => false)
end
mutual
theorem frzB_sound {h : KH} {k : Nat} : ∀ (y x : AV), frzB h k y x = true → FrzR (toAH h) k x y := by
  intro y x hh
  unfold frzB at hh
  simp only [Bool.or_eq_true, Bool.and_eq_true] at hh
  rcases hh with ⟨h1, h2⟩ | hh
  · rw [avEq_sound _ _ h1]; exact .low (scB_sound _ h2)
  · cases y with
    | unk => exact .unk x
    | pim l' o =>
      cases x <;> try (cases hh; done)
      rename_i r o0
      simp only [Bool.and_eq_true, Nat.beq_eq] at hh
      obtain ⟨⟨h1, rfl⟩, h3⟩ := hh
      split at h3
      · rename_i l hl
        rw [kcells_eq] at hl
        exact .ptr (Nat.le_of_ble_eq_true h1) hl (frzsB_sound l' l h3)
      · cases h3
    | sim l' n ex =>
      cases x <;> try (cases hh; done)
      rename_i r o n0 lim
      simp only [Bool.and_eq_true, Nat.beq_eq, Bool.or_eq_true, Bool.not_eq_true'] at hh
      obtain ⟨⟨⟨⟨h1, rfl⟩, h3⟩, h4⟩, h5⟩ := hh
      split at h3
      · rename_i l hl
        rw [kcells_eq] at hl
        simp only [Bool.and_eq_true] at h3
        refine .sl (Nat.le_of_ble_eq_true h1) hl (Nat.le_of_ble_eq_true h3.1) (frzsB_sound l' _ h3.2) (fun hn => ?_) (fun hx => ?_)
        · subst hn
          rcases h4 with h4 | h4
          · cases h4
          · simpa using h4
        · subst hx
          rcases h5 with h5 | h5
          · cases h5
          · exact limEq_sound h5
      · cases h3
    | ifc t y =>
      cases x <;> try (cases hh; done)
      simp only [Bool.and_eq_true, Nat.beq_eq] at hh
      obtain ⟨rfl, h2⟩ := hh
      exact .ifc (frzB_sound y _ h2)
    | agg l' =>
      cases x <;> try (cases hh; done)
      exact .agg (frzsB_sound l' _ hh)
    | tup l' =>
      cases x <;> try (cases hh; done)
      exact .tup (frzsB_sound l' _ hh)
    | _ => cases hh
theorem frzsB_sound {h : KH} {k : Nat} : ∀ (l' l : List AV), frzsB h k l' l = true → FrzRs (toAH h) k l l'
  | [], l, hh => by
    cases l with
    | nil => exact .nil
    | cons _ _ => simp [frzsB] at hh
  | y :: l', l, hh => by
    cases l with
    | nil => simp [frzsB] at hh
    | cons x l =>
      simp only [frzsB, Bool.and_eq_true] at hh
      exact .cons (frzB_sound y x hh.1) (frzsB_sound l' l hh.2)
end
noncomputable def kgone (h : KH) (r : Nat) : Bool := kobjK h r true (fun _ => false)
theorem kgone_sound {h : KH} {r : Nat} (hk : kgone h r = true) : (toAH h).get r = none := by
  unfold kgone at hk
  rcases kobjK_eq h r true (fun _ => false) with ⟨_, h2⟩ | ⟨o, h1, h2, h3⟩
  · exact h2
  · rw [h3] at hk; cases hk
noncomputable def sameB (h h' : KH) (r : Nat) : Bool := match kcells h r, kcells h' r with
  | some l, some l' => avsEq l' l
  | none, none => kgone h r && kgone h' r
  | _, _ => false
noncomputable def keepB (h h' : KH) (n : Nat) : Bool := Nat.rec (motive := fun _ => Bool) true (fun m ih => sameB h h' m && ih) n
theorem get_of_cells {H : AH} {r : Nat} {l : List AV} (h : H.cells? r = some l) : H.get r = some (.cells l) := by
  unfold AH.cells? at h
  split at h
  · rename_i l' hl; simp only [Option.some.injEq] at h; subst h; exact hl
  · cases h
theorem keepB_sound {h h' : KH} : ∀ {n : Nat}, keepB h h' n = true → ∀ r, r < n → (toAH h').get r = (toAH h).get r
  | n + 1, hk, r, hr => by
    have hk : (sameB h h' n && keepB h h' n) = true := hk
    simp only [Bool.and_eq_true] at hk
    by_cases hrn : r = n
    · subst hrn
      have h1 := hk.1
      unfold sameB at h1
      split at h1
      · rename_i l l' q1 q2
        rw [kcells_eq] at q1 q2
        rw [get_of_cells q1, get_of_cells q2, avsEq_sound _ _ h1]
      · simp only [Bool.and_eq_true] at h1
        rw [kgone_sound h1.1, kgone_sound h1.2]
      · cases h1
    · exact keepB_sound hk.2 r (by omega)
noncomputable def chkPure (h : KH) (R : AV) (r : KC) : Bool := KC.rec (motive := fun _ => Bool) (fun v h' => frzB h' h.nx R v && keepB h h' h.nx) (fun _ _ => false) false r
theorem pure_of_chk {P : Program} {g : FuncId} {as : List AV} {h : KH} {R : AV} {call : KCall} (hC : CallsOk P call) (hk : chkPure h R (call g as h) = true) : RetF P g as (toAH h) R (toAH h) := by
  cases hr : call g as h with
  | pan v h' => rw [hr] at hk; cases hk
  | bad => rw [hr] at hk; cases hk
  | ret v h' =>
    rw [hr] at hk
    have hk : (frzB h' h.nx R v && keepB h h' h.nx) = true := hk
    simp only [Bool.and_eq_true] at hk
    have hA := (hC g as h).1 v h' hr
    have keep := keepB_sound hk.2
    refine ACall.scope (post0 := fun o H' => o = .ret v ∧ H' = toAH h') (fun _ _ => hA) hA.1 ?_
    rintro _ htop out H' ⟨rfl, rfl⟩
    exact ⟨.ret R, frzB_sound R v hk.1, fun r o hr ho => .inl (by rw [← keep r hr]; exact ho), rfl, AH.cut_same htop keep⟩
noncomputable def heqB (h1 h : KH) : Bool := Nat.beq h.nx h1.nx && keepB h1 h h1.nx
theorem heqB_sound {h1 h : KH} (hk : heqB h1 h = true) : toAH h = toAH h1 := by
  simp only [heqB, Bool.and_eq_true, Nat.beq_eq] at hk
  refine AH.ext (fun r => ?_) hk.1 rfl
  by_cases hr : r < h1.nx
  · have := keepB_sound hk.2 r hr
    exact this
  · rw [toAH_get, toAH_get, if_neg (by rw [hk.1]; exact hr), if_neg hr]
noncomputable def o_row (g0 : FuncId) (as0 : List AV) (h1 : KH) (R : AV) (rest : KCall) : KCall := fun g as h => Bool.rec (motive := fun _ => KC) (rest g as h) (.ret R h) (Nat.beq g g0 && (avsEq as as0 && heqB h1 h))
theorem o_row_ok {P : Program} {g0 : FuncId} {as0 : List AV} {h1 : KH} {R : AV} {rest : KCall} (hr : CallsOk P rest) (hR : RetF P g0 as0 (toAH h1) R (toAH h1)) : CallsOk P (o_row g0 as0 h1 R rest) := by
  intro g as h
  unfold o_row
  cases hc : (Nat.beq g g0 && (avsEq as as0 && heqB h1 h)) with
  | false => exact hr g as h
  | true =>
    simp only [Bool.and_eq_true, Nat.beq_eq] at hc
    obtain ⟨rfl, h2, h3⟩ := hc
    have e := avsEq_sound _ _ h2
    subst e
    have e2 := heqB_sound h3
    refine ⟨fun v h' q => ?_, fun v h' q => by cases q⟩
    cases q
    rw [e2]; exact hR
noncomputable def khT (l : List (List AV)) : KH := List.rec (motive := fun _ => KH → KH) (fun h => h) (fun c _ ih h => h.pushL c h fun _ h' => ih h') l KH.emp
end Go.AL
