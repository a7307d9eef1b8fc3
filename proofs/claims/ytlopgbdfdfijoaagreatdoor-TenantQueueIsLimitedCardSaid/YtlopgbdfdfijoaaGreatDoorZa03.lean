import Derived.Test.YtlopgbdfdfijoaaGreatDoorZa02
import Derived.Orders
import Derived.RangeFuncRecord
/-
  plans: a region is sound for every order drawn; loops over functions.
-/
set_option linter.unusedSectionVars false
set_option linter.unusedVariables false
set_option linter.unusedSimpArgs false
namespace Go.AL
section
variable {P : Program} {Z : Zt} {σ : Sg} {H : AH} {w : World} {e : Env} {a : Act}
theorem WR.ghost (h : WR Z σ H w) (o : AObj) : WR Z σ (H.push o) w := by
  have hf : σ H.next = none := h.fresh _ (Nat.le_refl _)
  have hne : ∀ r q, σ r = some q → r ≠ H.next := fun r q hq e => by subst e; rw [hf] at hq; cases hq
  refine ⟨h.z, fun r x p hr hp => ?_, fun r r' o o' p p' h1 h2 h3 h4 he => ?_, fun r hr => h.fresh r (by simp only [AH.next_push] at hr; omega), fun r hr => ?_, h.rest⟩
  · rw [AH.get_push_ne _ _ (hne r p hp)] at hr; exact h.h r x p hr hp
  · rw [AH.get_push_ne _ _ (hne r p h3)] at h1
    rw [AH.get_push_ne _ _ (hne r' p' h4)] at h2
    exact h.inj r r' _ _ p p' h1 h2 h3 h4 he
  · simp only [AH.next_push] at hr
    rw [AH.get_push_ne _ _ (by omega)]; exact h.top r (by omega)
theorem WR.fill (h : WR Z σ H w) {r : Nat} {o : Obj} {ao : AObj} {p : Plc} (hr0 : H.get r = some ao) (hf : σ r = none) (hlt0 : r < H.next) (hp : p.b = w.heap.size) (ho : ObjR Z (σ.add r p) (w.alloc o) p ao) (hfz : Rest w (w.alloc o)) :
    WR Z (σ.add r p) H (w.alloc o) := by
  have hlt : ∀ r o' p', H.get r = some o' → σ r = some p' → p'.b < w.heap.size := fun r o' p' h1 h2 => (h.h r o' p' h1 h2).2.lt
  refine ⟨fun b o' hz => ?_, fun q o' p' hr hp' => ?_, fun q q' o1 o2 p1 p2 h1 h2 h3 h4 he => ?_, fun q hq => ?_, h.top, h.rest.to hfz⟩
  · have := h.z b o' hz
    rw [heap_alloc_lt w o (Array.getElem?_eq_some_iff.1 this).1]; exact this
  · by_cases e : q = r
    · subst e
      rw [hr0] at hr
      simp only [Option.some.injEq] at hr
      simp only [Sg.add_same, Option.some.injEq] at hp'
      subst hr; subst hp'
      refine ⟨?_, ho⟩
      cases hz : Z p.b with
      | none => rfl
      | some x => have := (Array.getElem?_eq_some_iff.1 (h.z _ _ hz)).1; omega
    · have hp'' : σ q = some p' := by simpa [Sg.add, e] using hp'
      obtain ⟨h1, h2⟩ := h.h q o' p' hr hp''
      exact ⟨h1, h2.mono (Zle.refl _) (Sg.add_le hf) (heap_alloc_lt w o h2.lt)⟩
  · by_cases e1 : q = r <;> by_cases e2 : q' = r
    · rw [e1, e2]
    · have h4' : σ q' = some p2 := by simpa [Sg.add, e2] using h4
      subst e1
      simp only [Sg.add_same, Option.some.injEq] at h3
      subst h3
      have := hlt _ _ _ h2 h4'
      omega
    · have h3' : σ q = some p1 := by simpa [Sg.add, e1] using h3
      subst e2
      simp only [Sg.add_same, Option.some.injEq] at h4
      subst h4
      have := hlt _ _ _ h1 h3'
      omega
    · exact h.inj q q' o1 o2 p1 p2 h1 h2 (by simpa [Sg.add, e1] using h3) (by simpa [Sg.add, e2] using h4) he
  · have : q ≠ r := by omega
    simp only [Sg.add, this, if_false]
    exact h.fresh q hq
theorem Nw.add' (σ : Sg) {n r : Nat} (p : Plc) (h : n ≤ r) : Nw σ n (σ.add r p) := by
  intro x hx
  have : x ≠ r := by omega
  simp [Sg.add, this]
def anew (k : AK) (e : Env) : Option (List AV × (Nat → AV)) :=
  match k with
  | .alloc z => some (z, fun r => .ptr r 0)
  | .box x => match (x.ev e).cellsOf with
    | some l => some (l, fun r => .ptr r 0)
    | none => none
  | .buildSlice _ len z ps => match afill e z ps with
    | some out => some (out, fun r => .sl r 0 len (.ex len))
    | none => none
  | .mkSlice _ bytes z l c => match l.ev e, c.ev e with
    | .int _ l, .int _ c => if 0 ≤ l ∧ l ≤ c ∧ c ≤ 9223372036854775807 ∧ (bytes : Int) * c ≤ 281474976710656 then some (repl c.toNat z, fun r => .sl r 0 l.toNat (.ex c.toNat)) else none
    | _, _ => none
  | _ => none
structure NewRow (P : Program) (Z : Zt) (σ : Sg) (s : Sem Next) (l : List AV) (f : Nat → AV) : Prop where
  run : ∀ w : World, ∃ (c : Array Value) (el : TypeId) (cv : Value), s.run P w = .ok (.value cv) (w.alloc (.cells c el)) ∧ l.length ≤ c.size ∧ VRs Z σ l (c.toList.take l.length) ∧
    (∀ u ∈ c.toList.take l.length, u.oneCell' = true) ∧ ∀ (Z' : Zt) (σ' : Sg) (r : Nat), σ' r = some ⟨w.heap.size, 0, c.size⟩ → VR Z' σ' (f r) cv
theorem NewRow.fill {s : Sem Next} {l : List AV} {f : Nat → AV} (hn : NewRow P Z σ s l f) (hW : WR Z σ H w) {r : Nat} (hr : H.get r = some (.cells l)) (hf : σ r = none) (hlt : r < H.next) :
    ∃ cv w' p, s.run P w = .ok (.value cv) w' ∧ WR Z (σ.add r p) H w' ∧ VR Z (σ.add r p) (f r) cv := by
  obtain ⟨c, el, cv, r1, r2, r3, r4, r5⟩ := hn.run w
  refine ⟨cv, _, ⟨w.heap.size, 0, c.size⟩, r1, ?_, r5 _ _ _ (Sg.add_same _ _ _)⟩
  refine hW.fill hr hf hlt rfl (.cells (heap_alloc_eq w _) rfl (.inl rfl) (by simpa using r2) ?_ ?_) (Rest.alloc _ _ _)
  · simp only [List.drop_zero]; exact r3.mono (Zle.refl _) (Sg.add_le hf)
  · simpa using r4
theorem anew_sound {o : Oper} {k : AK} (hk : compOp P o = some k) (he : ER Z σ e a) {l : List AV} {f : Nat → AV} (h : anew k e = some (l, f)) : NewRow P Z σ (execOp a.eval o) l f := by
  have hinv := compOp_inv hk
  unfold anew at h
  split at h
  · rename_i z
    obtain ⟨t, ho, h1⟩ := hinv
    simp only [Option.some.injEq, Prod.mk.injEq] at h
    obtain ⟨rfl, rfl⟩ := h
    obtain ⟨i, zv, h1, h2, h3, h4⟩ := tzero_sound (Z := Z) (σ := σ) h1
    have hl : z.length = zv.cells.size := by simpa using h3.length
    have ht : zv.cells.toList.take z.length = zv.cells.toList := List.take_of_length_le (by simp; omega)
    refine ⟨fun w => ⟨zv.cells, t, .pointer (some ⟨w.heap.size, 0, none⟩), ?_, by omega, by rw [ht]; exact h3, by rw [ht]; exact h4, fun Z' σ' r hr => .ptr (p := ⟨w.heap.size, 0, zv.cells.size⟩) hr⟩⟩
    simp [execOp, ho, Instr.alloc, zeroValue, typeInfo, h1, h2, newVar, newRow]
  · obtain ⟨t, y, ho, h1⟩ := hinv
    split at h <;> simp only [Option.some.injEq, Prod.mk.injEq, reduceCtorEq] at h
    rename_i l' hl
    obtain ⟨rfl, rfl⟩ := h
    obtain ⟨h3, h4⟩ := AV.cellsOf_sound hl (cOpd_sound he h1)
    have hl : l'.length = (a.eval y).cells.size := by simpa using h3.length
    have ht : (a.eval y).cells.toList.take l'.length = (a.eval y).cells.toList := List.take_of_length_le (by simp; omega)
    refine ⟨fun w => ⟨(a.eval y).cells, t, .pointer (some ⟨w.heap.size, 0, none⟩), ?_, by omega, by rw [ht]; exact h3, by rw [ht]; exact h4, fun Z' σ' r hr => .ptr (p := ⟨w.heap.size, 0, (a.eval y).cells.size⟩) hr⟩⟩
    simp [execOp, ho, Instr.box, newVar, newRow]
  · rename_i n len z ps
    obtain ⟨t, qs, el, zz, ho, hu, hn, hz, hnz, h0, hlim, hq, rfl⟩ := hinv
    split at h <;> simp only [Option.some.injEq, Prod.mk.injEq, reduceCtorEq] at h
    rename_i out hf
    obtain ⟨rfl, rfl⟩ := h
    obtain ⟨i, zv, h1, h2, h3, h4⟩ := tzero_sound (Z := Z) (σ := σ) hz
    have hl : zz.length = zv.cells.size := by simpa using h3.length
    obtain ⟨g1, g2⟩ := repl_rel h3 h4 (by omega) len
    obtain ⟨vs', r1, r2, r3⟩ := fill_sound he hq (vs := (Array.range (len * zv.cells.size)).map (zv.cells[· % zv.cells.size]!)) g1 g2 hf
    have hlo : out.length = vs'.size := by simpa using r2.length
    have ht : vs'.toList.take out.length = vs'.toList := List.take_of_length_le (by simp; omega)
    refine ⟨fun w => ⟨vs', el, .slice (some ⟨w.heap.size, 0, none⟩) len len, ?_, by omega, by rw [ht]; exact r2, by rw [ht]; exact r3, fun Z' σ' r hr => .slx (p := ⟨w.heap.size, 0, vs'.size⟩) hr (Nat.le_refl _)⟩⟩
    have hns : n = zv.cells.size := by omega
    by_cases h0 : len * n = 0
    · have e0 : ((Array.range (len * n)).map (#[][· % (#[] : Array Value).size]!)) = (Array.range (len * zv.cells.size)).map (zv.cells[· % zv.cells.size]!) := by
        rw [← hns, h0]; simp
      simp only [execOp, ho, Instr.buildSlice, Sem.run_bind, run_underlying hu, Result.andThen_ok, tsize_sound hn, if_neg (show ¬ (len * n > 2 ^ 24) by omega), if_pos h0, Sem.run_pure, e0, Array.toList_map, r1, newRow, run_newObj]
      rfl
    · have hzv : (zeroValue el).run P w = .ok zv w := by simp [zeroValue, typeInfo, h1, h2]
      subst hns
      simp only [execOp, ho, Instr.buildSlice, Sem.run_bind, run_underlying hu, Result.andThen_ok, tsize_sound hn, if_neg (show ¬ (len * zv.cells.size > 2 ^ 24) by omega), if_neg h0, Sem.run_pure, hzv, Array.toList_map, r1, newRow, run_newObj]
      simp [zeroValue, typeInfo, h1, h2, r1]
  · rename_i sz bytes z lo co
    obtain ⟨t, l', c', el, i, ho, hu, hi, hz, rfl, rfl, hnz, hn0, h1, h2⟩ := hinv
    split at h <;> (try cases h; done)
    rename_i kl l kc c hl hc
    split at h <;> simp only [Option.some.injEq, Prod.mk.injEq, reduceCtorEq] at h
    rename_i hb
    obtain ⟨rfl, rfl⟩ := h
    obtain ⟨h0, hlc, hc9, hb⟩ := hb
    have e1 := cOpd_sound he h1
    have e2 := cOpd_sound he h2
    rw [hl] at e1; rw [hc] at e2
    have e1 := e1.int_inv
    have e2 := e2.int_inv
    obtain ⟨i', zv, h1, h2, h3, h4⟩ := tzero_sound (Z := Z) (σ := σ) hz
    rw [hi] at h1; cases h1
    have hl : z.length = zv.cells.size := by simpa using h3.length
    obtain ⟨g1, g2⟩ := repl_rel h3 h4 (by omega) c.toNat
    have hlo : (repl c.toNat z).length = ((Array.range (c.toNat * zv.cells.size)).map (zv.cells[· % zv.cells.size]!)).size := by simp [repl_length, hl]
    have ht : ((Array.range (c.toNat * zv.cells.size)).map (zv.cells[· % zv.cells.size]!)).toList.take (repl c.toNat z).length = ((Array.range (c.toNat * zv.cells.size)).map (zv.cells[· % zv.cells.size]!)).toList :=
      List.take_of_length_le (by rw [Array.length_toList]; omega)
    refine ⟨fun w => ⟨(Array.range (c.toNat * zv.cells.size)).map (zv.cells[· % zv.cells.size]!), el, .slice (some ⟨w.heap.size, 0, none⟩) l.toNat c.toNat, ?_, by omega, by rw [ht]; exact g1, by rw [ht]; exact g2,
      fun Z' σ' r hr => .slx (p := ⟨w.heap.size, 0, _⟩) hr (by omega)⟩⟩
    have e3 : ¬ (c < 0) := by omega
    have e4 : ¬ (281474976710656 < (i.bytes : Int) * c) := by omega
    have e5 : ¬ (l < 0) := by omega
    have e6 : ¬ (c < l) := by omega
    have hns : i.size = zv.cells.size := by omega
    by_cases hz0 : c.toNat * zv.cells.size = 0
    · have hzz : c.toNat = 0 := by
        rcases Nat.mul_eq_zero.1 hz0 with h | h
        · exact h
        · omega
      simp [execOp, ho, e1, e2, Instr.makeSlice, asInt, asIntOf, run_underlying hu, typeInfo, hi, wrap64_id h0 (by omega), wrap64_id (by omega : 0 ≤ c) hc9, e3, e4, e5, e6, sizeOf, newRow, hzz]
      have : Array.range 0 = #[] := by simp
      rw [this]
      simp
    · simp [execOp, ho, e1, e2, Instr.makeSlice, asInt, asIntOf, run_underlying hu, typeInfo, hi, wrap64_id h0 (by omega), wrap64_id (by omega : 0 ≤ c) hc9, e3, e4, e5, e6, sizeOf, hns, zeroValue, h2, newRow, hz0]
  · cases h
def AOpd.tmps : AOpd → List Nat
  | .tmp t => [t]
  | _ => []
def optTmps : Option AOpd → List Nat
  | some x => x.tmps
  | none => []
def AK.tmps : AK → List Nat
  | .move x | .nilCheck x | .un _ x | .convI _ x | .convS x | .mkIface _ x | .fieldAddr _ x | .field _ _ x | .extract _ x | .len x | .lenStr x | .load _ x | .strOfBytes x | .box x | .panic x | .cap x | .mark x | .bytesOf x | .clr _ _ x | .lenMap x | .tass _ _ x => x.tmps
  | .ext _ x y | .copy _ x y => x.tmps ++ y.tmps
  | .pick c a b => c.tmps ++ (a.tmps ++ b.tmps)
  | .build _ ps | .buildSlice _ _ _ ps => ps.flatMap fun p => p.2.2.tmps
  | .bin _ x y | .indexAddrA _ _ x y | .indexAddrS _ x y | .indexA _ _ _ x y | .indexStr x y | .minmax _ x y | .mkSlice _ _ _ x y | .store _ x y | .append _ _ x y | .eq _ _ x y | .appendZ _ _ _ x y | .lookup _ _ _ x y => x.tmps ++ y.tmps
  | .minmax3 _ x y z | .mapUpd _ x y z => x.tmps ++ (y.tmps ++ z.tmps)
  | .mkFunc _ f c => f.flatMap (·.tmps) ++ c.flatMap (·.tmps)
  | .sliceStr x lo hi => x.tmps ++ (optTmps lo ++ optTmps hi)
  | .sliceS _ x lo hi mx | .sliceA _ _ x lo hi mx => x.tmps ++ (optTmps lo ++ (optTmps hi ++ optTmps mx))
  | .lenA _ | .alloc _ | .recover | .makeMap => []
  | .call f args | .defer f args => f.tmps ++ args.flatMap (·.tmps)
theorem AOpd.ev_congr {e e' : Env} {x : AOpd} (h : ∀ t ∈ x.tmps, e t = e' t) : x.ev e = x.ev e' := by
  cases x with
  | tmp t => exact h t (by simp [AOpd.tmps])
  | _ => rfl
theorem evs_congr {e e' : Env} {l : List AOpd} (h : ∀ t ∈ l.flatMap (·.tmps), e t = e' t) : l.map (·.ev e) = l.map (·.ev e') :=
  List.map_congr_left fun x hx => AOpd.ev_congr fun t ht => h t (List.mem_flatMap.2 ⟨x, hx, ht⟩)
theorem ints_congr {e e' : Env} {x : Option AOpd} (h : ∀ t ∈ optTmps x, e t = e' t) : AOpd.ints e x = AOpd.ints e' x := by
  cases x with
  | none => rfl
  | some x => simp only [AOpd.ints, AOpd.ev_congr (e := e) (e' := e') (x := x) h]
theorem afill_congr {e e' : Env} : ∀ {ps : List (Nat × Nat × AOpd)} {z : List AV}, (∀ t ∈ ps.flatMap (fun p => p.2.2.tmps), e t = e' t) → afill e z ps = afill e' z ps
  | [], z, _ => rfl
  | (off, n, x) :: ps, z, h => by
    simp only [afill, AOpd.ev_congr (e := e) (e' := e') (x := x) fun t ht => h t (by simp [ht])]
    split
    · rfl
    · split
      · exact afill_congr fun t ht => h t (by simp only [List.flatMap_cons]; exact List.mem_append_right _ ht)
      · rfl
theorem apure_congr {e e' : Env} {k : AK} (h : ∀ t ∈ k.tmps, e t = e' t) : apure k e = apure k e' := by
  have opd : ∀ x : AOpd, (∀ t ∈ x.tmps, t ∈ k.tmps) → x.ev e = x.ev e' := fun x hx => AOpd.ev_congr fun t ht => h t (hx t ht)
  have oint : ∀ x : Option AOpd, (∀ t ∈ optTmps x, t ∈ k.tmps) → AOpd.ints e x = AOpd.ints e' x := fun x hx => ints_congr fun t ht => h t (hx t ht)
  cases k <;> simp only [apure] <;> (try rfl)
  case build z ps => rw [afill_congr h]
  case mkFunc f a b => rw [evs_congr fun t ht => h t (by simp only [AK.tmps]; exact List.mem_append_left _ ht), evs_congr fun t ht => h t (by simp only [AK.tmps]; exact List.mem_append_right _ ht)]
  case sliceStr x lo hi => rw [opd x (by simp +contextual [AK.tmps]), oint lo (by simp +contextual [AK.tmps]), oint hi (by simp +contextual [AK.tmps])]
  case sliceS n x lo hi mx => rw [opd x (by simp +contextual [AK.tmps]), oint lo (by simp +contextual [AK.tmps]), oint hi (by simp +contextual [AK.tmps]), oint mx (by simp +contextual [AK.tmps])]
  case sliceA m n x lo hi mx => rw [opd x (by simp +contextual [AK.tmps]), oint lo (by simp +contextual [AK.tmps]), oint hi (by simp +contextual [AK.tmps]), oint mx (by simp +contextual [AK.tmps])]
  case minmax3 m c a b => rw [opd c (by simp +contextual [AK.tmps]), opd a (by simp +contextual [AK.tmps]), opd b (by simp +contextual [AK.tmps])]
  case pick c a b => rw [opd c (by simp +contextual [AK.tmps]), opd a (by simp +contextual [AK.tmps]), opd b (by simp +contextual [AK.tmps])]
  all_goals first
    | (rename_i x y; rw [opd x (by simp +contextual [AK.tmps]), opd y (by simp +contextual [AK.tmps])])
    | (rename_i x; rw [opd x (by simp +contextual [AK.tmps])])
theorem aread_congr {e e' : Env} {k : AK} (h : ∀ t ∈ k.tmps, e t = e' t) : aread k e H = aread k e' H := by
  unfold aread
  split
  · rw [AOpd.ev_congr h]
  · rw [AOpd.ev_congr h]
  · rw [AOpd.ev_congr fun t ht => h t (by simp [AK.tmps, ht]), AOpd.ev_congr fun t ht => h t (by simp [AK.tmps, ht])]
  · rw [AOpd.ev_congr h]
  · rename_i c x y
    rw [AOpd.ev_congr (x := x) fun t ht => h t (by simp [AK.tmps, ht]), AOpd.ev_congr (x := y) fun t ht => h t (by simp [AK.tmps, ht])]
  · rfl
theorem anew_congr {e e' : Env} {k : AK} (h : ∀ t ∈ k.tmps, e t = e' t) : anew k e = anew k e' := by
  unfold anew
  split
  · rfl
  · rw [AOpd.ev_congr h]
  · rw [afill_congr h]
  · rw [AOpd.ev_congr fun t ht => h t (by simp [AK.tmps, ht]), AOpd.ev_congr fun t ht => h t (by simp [AK.tmps, ht])]
  · rfl
theorem aeff_congr {e e' : Env} {k : AK} (h : ∀ t ∈ k.tmps, e t = e' t) : aeff k e H = aeff k e' H := by
  unfold aeff
  split
  · rfl
  · rw [AOpd.ev_congr h]
  · rw [afill_congr h]
  all_goals first
    | rfl
    | rw [AOpd.ev_congr h]
    | rw [AOpd.ev_congr fun t ht => h t (by simp [AK.tmps, ht]), AOpd.ev_congr fun t ht => h t (by simp [AK.tmps, ht]), AOpd.ev_congr fun t ht => h t (by simp [AK.tmps, ht])]
    | rw [AOpd.ev_congr fun t ht => h t (by simp [AK.tmps, ht]), AOpd.ev_congr fun t ht => h t (by simp [AK.tmps, ht])]
theorem aone_congr {e e' : Env} {k : AK} (h : ∀ t ∈ k.tmps, e t = e' t) : aone k e H = aone k e' H := by
  unfold aone
  rw [apure_congr h, aread_congr h, aeff_congr h]
theorem aop_congr [YC] {e e' : Env} {k : AK} {K Kp : AV → AH → Prop} (h : ∀ t ∈ k.tmps, e t = e' t) : aop P k e H K Kp ↔ aop P k e' H K Kp := by
  cases k with
  | call f args =>
    simp only [aop]
    rw [AOpd.ev_congr (e := e) (e' := e') fun t ht => h t (by simp only [AK.tmps]; exact List.mem_append_left _ ht), evs_congr fun t ht => h t (by simp only [AK.tmps]; exact List.mem_append_right _ ht)]
  | panic x => simp only [aop]; rw [AOpd.ev_congr (e := e) (e' := e') h]
  | defer f args => exact Iff.rfl
  | recover => exact Iff.rfl
  | _ => simp only [aop]; rw [aone_congr h]
end
end Go.AL
namespace Go.AL
structure DIt where
  i : Nat
  o : AOper
  pre : Nat
  fl : List Nat
  eff : Bool
def AOper.tmps (o : AOper) : List Nat := o.k.tmps ++ (match o.gd with | some (s, _) => [s] | none => [])
abbrev Pend := List (Nat × (AH → Prop))
def chk : List Nat → Pend → AH → Prop
  | [], _, _ => True
  | i :: is, ps, H => (match ps.lookup i with | some p => p H | none => True) ∧ chk is ps H
def adops [YC] (P : Program) (ep : Env) (K : Env → AH → Prop) (Kp : AV → Env → AH → Prop) : List DIt → Env → AH → Pend → Prop
  | [], e, H, _ => K e H
  | it :: l, e, H, pend =>
    let step : Prop :=
      if it.eff then aop P it.o.k e H (fun v H' => chk it.fl pend H' ∧ adops P ep K Kp l (e.put it.o.dst v) H' pend) (fun v H' => Kp v ep H')
      else match apure it.o.k e with
        | some v => adops P ep K Kp l (e.put it.o.dst v) H pend
        | none => match aread it.o.k e H with
          | some v => adops P ep K Kp l (e.put it.o.dst v) H ((it.i, fun H' => aread it.o.k e H' = some v) :: pend)
          | none => match anew it.o.k e with
            | some (c, f) => adops P ep K Kp l (e.put it.o.dst (f H.next)) (H.push (.cells c)) ((it.i, fun H' => H'.get H.next = some (.cells c)) :: pend)
            | none => False
    match it.o.gd with
    | none => step
    | some (s, want) => match agd (e s) with
      | some b => (b = some want → step) ∧ (b ≠ some want → adops P ep K Kp l (e.put it.o.dst aud) H pend)
      | none => False
def clr (plan : List DIt) (e : Env) : Env := fun t => if plan.any (fun it => it.o.dst == some t) then .unk else e t
def dirs (ops : Array Oper) (i : Nat) : List Nat := match ops[i]? with
  | some o => (o.after.toList.filter (Region.binds .any)).map (·.on)
  | none => []
def preOf (plan : List DIt) (i : Nat) : Nat := match plan.find? (fun it => it.i == i) with
  | some it => it.pre
  | none => 0
def preMask (plan : List DIt) : List Nat → Nat
  | [] => 0
  | p :: ps => (1 <<< p ||| preOf plan p) ||| preMask plan ps
def AK.isMem : AK → Bool
  | .load _ _ | .strOfBytes _ | .lookup .. | .lenMap _ | .ext .. | .alloc _ | .box _ | .buildSlice .. | .mkSlice .. => true
  | _ => false
def pairOk (ops : Array Oper) (a b : DIt) : Bool :=
  a.i != b.i && !((dirs ops a.i).contains b.i) &&
  (match b.o.dst with
   | some t => a.o.dst != some t && (!(a.o.tmps.contains t) || b.pre.testBit a.i)
   | none => true) &&
  (match a.o.dst with
   | some t => !(b.o.tmps.contains t) || b.pre.testBit a.i
   | none => true) &&
  (!a.eff || b.pre.testBit a.i) &&
  (!b.eff || a.eff || !a.o.k.isMem || b.pre.testBit a.i || b.fl.contains a.i)
def ownOk (ops : Array Oper) (plan : List DIt) (a : DIt) : Bool :=
  decide (a.i < ops.size) && !((dirs ops a.i).contains a.i) && (match a.o.dst with | some t => !(a.o.tmps.contains t) | none => true) &&
  a.pre == preMask plan (dirs ops a.i) && !a.o.k.isDefer && (dirs ops a.i).all (fun p => decide (p < ops.size))
def pairsOk (ops : Array Oper) : List DIt → Bool
  | [] => true
  | a :: l => l.all (pairOk ops a) && pairsOk ops l
def planOk (ops : Array Oper) (plan : List DIt) : Bool :=
  plan.all (ownOk ops plan) && pairsOk ops plan && (List.range ops.size).all (fun i => plan.any (fun it => it.i == i))
def mkPlan (P : Program) (n : Nat) (ops : Array Oper) : List (Nat × Nat × List Nat × Bool) → Option (List DIt)
  | [] => some []
  | (i, pre, fl, eff) :: l => match (ops[i]?).bind (compOper P n ops), mkPlan P n ops l with
    | some o, some r => some (⟨i, o, pre, fl, eff⟩ :: r)
    | _, _ => none
theorem pairsOk_spec {ops : Array Oper} : ∀ {l : List DIt}, pairsOk ops l = true → l.Pairwise (fun a b => pairOk ops a b = true)
  | [], _ => .nil
  | a :: l, h => by
    simp only [pairsOk, Bool.and_eq_true, List.all_eq_true] at h
    exact .cons h.1 (pairsOk_spec h.2)
theorem mkPlan_spec {P : Program} {n : Nat} {ops : Array Oper} : ∀ {hs : List (Nat × Nat × List Nat × Bool)} {plan : List DIt}, mkPlan P n ops hs = some plan →
    ∀ it ∈ plan, ∃ o, ops[it.i]? = some o ∧ compOper P n ops o = some it.o
  | [], plan, h => by simp only [mkPlan, Option.some.injEq] at h; subst h; simp
  | (i, pre, fl, eff) :: l, plan, h => by
    simp only [mkPlan] at h
    split at h <;> simp only [Option.some.injEq, reduceCtorEq] at h
    rename_i o r h1 h2
    subst h
    intro it hit
    cases hit with
    | head => simpa only [Option.bind_eq_some_iff] using h1
    | tail _ hit => exact mkPlan_spec h2 it hit
theorem preMask_spec {plan : List DIt} {j : Nat} : ∀ {ps : List Nat}, (preMask plan ps).testBit j = true → ∃ p ∈ ps, j = p ∨ (preOf plan p).testBit j = true
  | [], h => by simp [preMask] at h
  | p :: ps, h => by
    simp only [preMask, Nat.testBit_or, Bool.or_eq_true] at h
    rcases h with (h | h) | h
    · refine ⟨p, by simp, .inl ?_⟩
      rw [Nat.one_shiftLeft, Nat.testBit_two_pow] at h
      simpa using (of_decide_eq_true h).symm
    · exact ⟨p, by simp, .inr h⟩
    · obtain ⟨q, hq, hh⟩ := preMask_spec h
      exact ⟨q, List.mem_cons_of_mem _ hq, hh⟩
structure PairR (ops : Array Oper) (a b : DIt) : Prop where
  ne : a.i ≠ b.i
  dir : b.i ∉ dirs ops a.i
  dst : ∀ t, b.o.dst = some t → a.o.dst ≠ some t
  r1 : ∀ t, b.o.dst = some t → t ∈ a.o.tmps → b.pre.testBit a.i = true
  r2 : ∀ t, a.o.dst = some t → t ∈ b.o.tmps → b.pre.testBit a.i = true
  eff : a.eff = true → b.pre.testBit a.i = true
  fl : b.eff = true → a.eff = false → a.o.k.isMem = true → b.pre.testBit a.i = true ∨ a.i ∈ b.fl
theorem pairOk_spec {ops : Array Oper} {a b : DIt} (h : pairOk ops a b = true) : PairR ops a b := by
  unfold pairOk at h
  simp only [Bool.and_eq_true, bne_iff_ne, ne_eq, Bool.not_eq_true', Bool.or_eq_true, Bool.not_eq_true] at h
  obtain ⟨⟨⟨⟨⟨h1, h2⟩, h3⟩, h4⟩, h5⟩, h6⟩ := h
  refine ⟨h1, by simpa using h2, fun t ht => ?_, fun t ht hm => ?_, fun t ht hm => ?_, fun he => ?_, fun hb ha hm => ?_⟩
  · rw [ht] at h3
    simp only [Bool.and_eq_true, bne_iff_ne, ne_eq] at h3
    exact h3.1
  · rw [ht] at h3
    simp only [Bool.and_eq_true, bne_iff_ne, ne_eq, Bool.or_eq_true, Bool.not_eq_true'] at h3
    rcases h3.2 with h | h
    · simp at h; exact absurd hm h
    · exact h
  · rw [ht] at h4
    simp only [Bool.or_eq_true, Bool.not_eq_true'] at h4
    rcases h4 with h | h
    · simp at h; exact absurd hm h
    · exact h
  · rcases h5 with h | h
    · rw [he] at h; cases h
    · exact h
  · rcases h6 with (((h | h) | h) | h) | h
    · rw [hb] at h; cases h
    · rw [ha] at h; cases h
    · rw [hm] at h; cases h
    · exact .inl h
    · exact .inr (by simpa using h)
structure OwnR (ops : Array Oper) (plan : List DIt) (a : DIt) : Prop where
  lt : a.i < ops.size
  dir : a.i ∉ dirs ops a.i
  own : ∀ t, a.o.dst = some t → t ∉ a.o.tmps
  pre : a.pre = preMask plan (dirs ops a.i)
  nd : a.o.k.isDefer = false
  dlt : ∀ p ∈ dirs ops a.i, p < ops.size
theorem ownOk_spec {ops : Array Oper} {plan : List DIt} {a : DIt} (h : ownOk ops plan a = true) : OwnR ops plan a := by
  unfold ownOk at h
  simp only [Bool.and_eq_true, decide_eq_true_eq, Bool.not_eq_true', beq_iff_eq, List.all_eq_true] at h
  obtain ⟨⟨⟨⟨⟨h1, h2⟩, h3⟩, h4⟩, h5⟩, h6⟩ := h
  refine ⟨h1, by simpa using h2, fun t ht => ?_, h4, h5, h6⟩
  rw [ht] at h3
  simpa using h3
structure PlanR (P : Program) (n : Nat) (ops : Array Oper) (plan : List DIt) : Prop where
  own : ∀ a ∈ plan, OwnR ops plan a
  pair : plan.Pairwise (PairR ops)
  all : ∀ i, i < ops.size → ∃ a ∈ plan, a.i = i
  op : ∀ a ∈ plan, ∃ o, ops[a.i]? = some o ∧ compOper P n ops o = some a.o
theorem planOk_spec {P : Program} {n : Nat} {ops : Array Oper} {hs : List (Nat × Nat × List Nat × Bool)} {plan : List DIt} (h : planOk ops plan = true) (hm : mkPlan P n ops hs = some plan) : PlanR P n ops plan := by
  unfold planOk at h
  simp only [Bool.and_eq_true, List.all_eq_true, List.any_eq_true, beq_iff_eq, List.mem_range] at h
  exact ⟨fun a ha => ownOk_spec (h.1.1 a ha), (pairsOk_spec h.1.2).imp pairOk_spec, fun i hi => h.2 i hi, mkPlan_spec hm⟩
theorem PlanR.uniq {P : Program} {n : Nat} {ops : Array Oper} {plan : List DIt} (h : PlanR P n ops plan) {a b : DIt} (ha : a ∈ plan) (hb : b ∈ plan) (hi : a.i = b.i) : a = b := by
  have : ∀ (l : List DIt), l.Pairwise (PairR ops) → a ∈ l → b ∈ l → a = b := by
    intro l hl
    induction hl with
    | nil => intro h; simp at h
    | cons h1 _ ih =>
      intro ha hb
      cases ha with
      | head => cases hb with
        | head => rfl
        | tail _ hb => exact absurd hi (h1 _ hb).ne
      | tail _ ha => cases hb with
        | head => exact absurd hi.symm (h1 _ ha).ne
        | tail _ hb => exact ih ha hb
  exact this plan h.pair ha hb
theorem PlanR.preOf_eq {P : Program} {n : Nat} {ops : Array Oper} {plan : List DIt} (h : PlanR P n ops plan) {a : DIt} (ha : a ∈ plan) : preOf plan a.i = a.pre := by
  unfold preOf
  cases hf : plan.find? (fun it => it.i == a.i) with
  | none => have := List.find?_eq_none.1 hf a ha; simp at this
  | some b =>
    have hb := List.mem_of_find?_eq_some hf
    have hi := List.find?_some hf
    have : b = a := h.uniq hb ha (by simpa using hi)
    simp [this]
end Go.AL
namespace Go.AL
inductive UMd where
  | skip
  | pure
  | read
  | new (id : Nat) (l : List AV) (f : Nat → AV)
def UMd.mem : UMd → Bool
  | .read | .new .. => true
  | _ => false
structure UIt where
  it : DIt
  ee : Env
  v : AV
  md : UMd
def Wnt (o : AOper) (e : Env) : Prop := o.gd = none ∨ ∃ s want, o.gd = some (s, want) ∧ agd (e s) = some (some want)
def CapH (x : UIt) (H : AH) : Prop := match x.md with
  | .read => aread x.it.o.k x.ee H = some x.v
  | .new id l _ => H.get id = some (.cells l)
  | _ => True
def CapS (m : Nat) (x : UIt) (H : AH) (σ : Sg) : Prop := match x.md with
  | .skip => x.v = aud ∧ ∃ s want b, x.it.o.gd = some (s, want) ∧ agd (x.ee s) = some b ∧ b ≠ some want
  | .pure => Wnt x.it.o x.ee ∧ apure x.it.o.k x.ee = some x.v
  | .read => Wnt x.it.o x.ee ∧ apure x.it.o.k x.ee = none
  | .new id l f => Wnt x.it.o x.ee ∧ anew x.it.o.k x.ee = some (l, f) ∧ x.v = f id ∧ σ id = none ∧ m ≤ id ∧ id < H.next
def maskE (U : List UIt) (e0 e : Env) : Env := fun t => if U.any (fun x => x.it.o.dst == some t) then e0 t else e t
theorem maskE_in {U : List UIt} {e0 e : Env} {t : Nat} {x : UIt} (hx : x ∈ U) (h : x.it.o.dst = some t) : maskE U e0 e t = e0 t := by
  unfold maskE; rw [if_pos]; exact List.any_eq_true.2 ⟨x, hx, by simp [h]⟩
theorem maskE_out {U : List UIt} {e0 e : Env} {t : Nat} (h : ∀ x ∈ U, x.it.o.dst ≠ some t) : maskE U e0 e t = e t := by
  unfold maskE; rw [if_neg]; intro hh
  obtain ⟨x, hx, he⟩ := List.any_eq_true.1 hh
  exact h x hx (by simpa using he)
section
variable {P : Program} {n : Nat} {ops : Array Oper} {Z : Zt} {σ : Sg} {H : AH} {w : World} {a : Act}
theorem wanted_of {o : Oper} {x : AOper} (hx : compOper P n ops o = some x) {e eS : Env} (hn : n ≤ dslot) (he : FR Z σ n eS a) (hag : ∀ t ∈ x.tmps, e t = eS t) (h : Wnt x e) :
    Region.wanted o (yielded ops a.tmps) = true := by
  obtain ⟨hk, hd, hdn, hg⟩ := compOper_inv hx
  rcases hg with ⟨hg, hgx⟩ | ⟨j, want, s, hg, hgx, hs, hsn, hnd⟩
  · simp [Region.wanted, hg]
  · rcases h with h | ⟨s', want', h1, h2⟩
    · rw [hgx] at h; cases h
    · rw [hgx] at h1; cases h1
      have hm : s ∈ x.tmps := by simp [AOper.tmps, hgx]
      have hv := he.er s (by omega)
      rw [hag s hm] at h2
      have hy := yielded_of (ops := ops) hs hv h2
      simp [Region.wanted, hg, hy]
theorem unwanted_of {o : Oper} {x : AOper} (hx : compOper P n ops o = some x) {e eS : Env} (hn : n ≤ dslot) (he : FR Z σ n eS a) (hag : ∀ t ∈ x.tmps, e t = eS t) {s : Nat} {want : Bool} {b : Option Bool}
    (h1 : x.gd = some (s, want)) (h2 : agd (e s) = some b) (h3 : b ≠ some want) : Region.wanted o (yielded ops a.tmps) = false := by
  obtain ⟨hk, hd, hdn, hg⟩ := compOper_inv hx
  rcases hg with ⟨hg, hgx⟩ | ⟨j, want', s', hg, hgx, hs, hsn, hnd⟩
  · rw [hgx] at h1; cases h1
  · rw [hgx] at h1; cases h1
    have hm : s ∈ x.tmps := by simp [AOper.tmps, hgx]
    have hv := he.er s (by omega)
    rw [hag s hm] at h2
    have hy := yielded_of (ops := ops) hs hv h2
    simp [Region.wanted, hg, hy, h3]
theorem nd_pure {k : AK} {e : Env} {v : AV} (h : apure k e = some v) : k.isDefer = false ∧ k ≠ .panic (.cst .unk) := by
  refine ⟨?_, fun hp => by subst hp; cases h⟩
  unfold AK.isDefer; split
  · cases h
  · rfl
theorem nd_read {k : AK} {e : Env} {v : AV} (h : aread k e H = some v) : k.isDefer = false ∧ k ≠ .panic (.cst .unk) := by
  refine ⟨?_, fun hp => by subst hp; cases h⟩
  unfold AK.isDefer; split
  · cases h
  · rfl
theorem nd_new {k : AK} {e : Env} {v : List AV × (Nat → AV)} (h : anew k e = some v) : k.isDefer = false ∧ k ≠ .panic (.cst .unk) := by
  refine ⟨?_, fun hp => by subst hp; cases h⟩
  unfold AK.isDefer; split
  · cases h
  · rfl
theorem cap_run {ro : Option Nat} {m : Nat} {x : UIt} {o : Oper} {eS : Env} (hops : ops[x.it.i]? = some o) (hc : compOper P n ops o = some x.it.o) (hn : n ≤ dslot) (hW : WR Z σ H w) (he : FR Z σ n eS a)
    (hag : ∀ t ∈ x.it.o.tmps, x.ee t = eS t) (hh : CapH x H) (hs : CapS m x H σ) {Qc : Exit → Act → World → Prop} {K : Act → World → Prop}
    (hK : ∀ cv w' σ', WR Z σ' H w' → (σ' = σ ∨ ∃ id l f p, x.md = .new id l f ∧ σ' = σ.add id p) → VR Z σ' x.v cv → K (a.put o.dst cv) w') : wpOpIn (RF ro) 0 P ops Qc x.it.i K a w := by
  unfold wpOpIn
  simp only [hops]
  obtain ⟨hk, hd, hdn, hg⟩ := compOper_inv hc
  have hagk : ∀ t ∈ x.it.o.k.tmps, x.ee t = eS t := fun t ht => hag t (List.mem_append_left _ ht)
  unfold CapS at hs
  split at hs
  · obtain ⟨hv, s, want, b, h1, h2, h3⟩ := hs
    rw [unwanted_of hc hn he hag h1 h2 h3]
    simp only [Bool.false_eq_true, if_false]
    exact ⟨fun _ _ => trivial, hK undef w σ hW (.inl rfl) (by rw [hv]; exact aud_VR)⟩
  · obtain ⟨hw, hv⟩ := hs
    rw [wanted_of hc hn he hag hw]
    simp only [if_true]
    obtain ⟨cv, r1, r2⟩ := apure_sound hk he.er (by rw [← apure_congr hagk]; exact hv) w
    unfold Oper.wpIn
    refine ⟨fun _ _ => trivial, ?_⟩
    rw [semAt_nd hk (nd_pure hv).1 (nd_pure hv).2, r1, Oper.uponIn_value]
    exact hK cv w σ hW (.inl rfl) r2
  · rename_i hmd
    obtain ⟨hw, hp⟩ := hs
    have hv : aread x.it.o.k x.ee H = some x.v := by simpa only [CapH, hmd] using hh
    rw [wanted_of hc hn he hag hw]
    simp only [if_true]
    have hv' : aread x.it.o.k eS H = some x.v := by rw [← aread_congr hagk]; exact hv
    obtain ⟨cv, r1, r2⟩ := aread_sound (P := P) hk hW he.er hv'
    unfold Oper.wpIn
    refine ⟨fun _ _ => trivial, ?_⟩
    rw [semAt_nd hk (nd_read hv).1 (nd_read hv).2, r1, Oper.uponIn_value]
    exact hK cv w σ hW (.inl rfl) r2
  · rename_i id l f hmd
    obtain ⟨hw, hv, hxv, hid, _, hlt⟩ := hs
    have hget : H.get id = some (.cells l) := by simpa only [CapH, hmd] using hh
    rw [wanted_of hc hn he hag hw]
    simp only [if_true]
    have hr := anew_sound hk he.er (by rw [← anew_congr hagk]; exact hv)
    obtain ⟨cv, w', p, r1, r2, r3⟩ := hr.fill hW hget hid hlt
    unfold Oper.wpIn
    refine ⟨fun _ _ => trivial, ?_⟩
    rw [semAt_nd hk (nd_new hv).1 (nd_new hv).2, r1, Oper.uponIn_value]
    exact hK cv w' _ r2 (.inr ⟨id, l, f, p, hmd, rfl⟩) (by rw [hxv]; exact r3)
structure Sim (P : Program) (n : Nat) (ops : Array Oper) (plan : List DIt) (Z0 : Zt) (σ0 : Sg) (m : Nat) (e0 : Env) (listed : Array Bool) (Z : Zt) (σ : Sg) (a : Act) (w : World)
    (U : List UIt) (rest : List DIt) (e : Env) (H : AH) (pend : Pend) : Prop where
  hZ : Zle Z0 Z
  hS : Nw σ0 m σ
  hm : m ≤ H.next
  hW : WR Z σ H w
  fr : FR Z σ n (maskE U e0 e) a
  lsz : listed.size = ops.size
  mem : ∀ i, i < ops.size → (listed.getD i true = false ↔ i ∈ (U.map (·.it) ++ rest).map (·.i))
  sub : (U.map (·.it) ++ rest).Sublist plan
  pre : ∀ j x, j < ops.size → listed.getD j true = true → (preOf plan j).testBit x = true → listed.getD x false = true
  eB : ∀ y ∈ rest, ∀ t, y.o.dst = some t → e t = e0 t
  eE : ∀ t, (∀ y ∈ plan, y.o.dst ≠ some t) → e t = e0 t
  eA : ∀ x ∈ U, ∀ t ∈ x.it.o.tmps, (∃ x' ∈ U, x'.it.o.dst = some t ∧ x'.it.pre.testBit x.it.i = true ∧ x.ee t = e0 t) ∨ (x.ee t = e t ∧ ∀ x' ∈ U, x'.it.o.dst = some t → x.it.pre.testBit x'.it.i = true)
  eD : ∀ x ∈ U, ∀ t, x.it.o.dst = some t → e t = x.v
  capH : ∀ x ∈ U, CapH x H
  capS : ∀ x ∈ U, CapS m x H σ
  ids : U.Pairwise (fun x y => ∀ i l f j l' f', x.md = .new i l f → y.md = .new j l' f' → i ≠ j)
  pnd : ∀ x ∈ U, x.it.o.k.isMem = false → x.md.mem = false
  pnd' : ∀ x ∈ U, x.md.mem = false ∨ ∃ p, pend.lookup x.it.i = some p ∧ ∀ H', p H' → CapH x H'
  neff : ∀ x ∈ U, x.it.eff = false
end
end Go.AL
namespace Go.AL
theorem Env.put_eq {e : Env} {d : Option Nat} {t : Nat} {v : AV} (h : d = some t) : e.put d v t = v := by subst h; simp [Env.put]
theorem Env.put_ne {e : Env} {d : Option Nat} {t : Nat} {v : AV} (h : d ≠ some t) : e.put d v t = e t := by
  cases d with
  | none => rfl
  | some d => simp only [Env.put]; exact Env.set_ne _ _ (fun e => h (by rw [e]))
theorem getD_both {l : Array Bool} {x : Nat} (h : l.getD x false = true) (h' : l.getD x true = false) : False := by
  rw [Array.getD_eq_getD_getElem?] at h h'
  cases hh : l[x]? with
  | none => rw [hh] at h; simp at h
  | some b => rw [hh] at h h'; simp at h h'; rw [h] at h'; cases h'
theorem getD_lt {l : Array Bool} {x : Nat} (h : l.getD x false = true) : x < l.size := by
  rw [Array.getD_eq_getD_getElem?] at h
  cases hh : l[x]? with
  | none => rw [hh] at h; simp at h
  | some b => exact (Array.getElem?_eq_some_iff.1 hh).1
theorem getD_swap {l : Array Bool} {x : Nat} (hx : x < l.size) : l.getD x true = l.getD x false := by
  simp [Array.getD_eq_getD_getElem?, hx]
section
variable {P : Program} {n : Nat} {ops : Array Oper} {plan : List DIt} {Z0 : Zt} {σ0 : Sg} {m : Nat} {e0 : Env} {listed : Array Bool} {Z : Zt} {σ : Sg} {a : Act} {w : World}
  {U : List UIt} {rest : List DIt} {e : Env} {H : AH} {pend : Pend}
theorem Sim.pw (hP : PlanR P n ops plan) (S : Sim P n ops plan Z0 σ0 m e0 listed Z σ a w U rest e H pend) : (U.map (·.it) ++ rest).Pairwise (PairR ops) := hP.pair.sublist S.sub
theorem Sim.uMem (S : Sim P n ops plan Z0 σ0 m e0 listed Z σ a w U rest e H pend) {x : UIt} (hx : x ∈ U) : x.it ∈ plan := S.sub.mem (List.mem_append_left _ (List.mem_map_of_mem hx))
theorem Sim.rMem (S : Sim P n ops plan Z0 σ0 m e0 listed Z σ a w U rest e H pend) {y : DIt} (hy : y ∈ rest) : y ∈ plan := S.sub.mem (List.mem_append_right _ hy)
theorem Sim.ur (hP : PlanR P n ops plan) (S : Sim P n ops plan Z0 σ0 m e0 listed Z σ a w U rest e H pend) {x : UIt} (hx : x ∈ U) {y : DIt} (hy : y ∈ rest) : PairR ops x.it y :=
  (List.pairwise_append.1 (S.pw hP)).2.2 _ (List.mem_map_of_mem hx) _ hy
theorem Sim.pass {it : DIt} (hP : PlanR P n ops plan) (S : Sim P n ops plan Z0 σ0 m e0 listed Z σ a w U (it :: rest) e H pend) (heff : it.eff = false) {v : AV} {md : UMd} {H' : AH} {pend' : Pend}
    (hc : CapH ⟨it, e, v, md⟩ H') (hs : CapS m ⟨it, e, v, md⟩ H' σ) (hW' : WR Z σ H' w) (hnx : H.next ≤ H'.next) (hold : ∀ y ∈ U, CapH y H → CapH y H')
    (hid : ∀ i l f, md = .new i l f → i = H.next) (hmem : it.o.k.isMem = false → md.mem = false)
    (hp' : md.mem = false ∨ ∃ p, pend'.lookup it.i = some p ∧ ∀ H', p H' → CapH ⟨it, e, v, md⟩ H')
    (hpo : ∀ i, i ≠ it.i → pend'.lookup i = pend.lookup i) : Sim P n ops plan Z0 σ0 m e0 listed Z σ a w (U ++ [⟨it, e, v, md⟩]) rest (e.put it.o.dst v) H' pend' := by
  have hu : ∀ x ∈ U, PairR ops x.it it := fun x hx => S.ur hP hx (List.mem_cons_self ..)
  have hr : ∀ y ∈ rest, PairR ops it y := fun y hy => by
    have := (List.pairwise_append.1 (S.pw hP)).2.1
    exact (List.pairwise_cons.1 this).1 y hy
  have hown := hP.own it (S.rMem (List.mem_cons_self ..))
  have hm0 : ∀ t, it.o.dst = some t → e t = e0 t := S.eB it (List.mem_cons_self ..)
  have hassoc : (U ++ [(⟨it, e, v, md⟩ : UIt)]).map (·.it) ++ rest = U.map (·.it) ++ it :: rest := by simp
  have hmask : maskE (U ++ [⟨it, e, v, md⟩]) e0 (e.put it.o.dst v) = maskE U e0 e := by
    funext t
    by_cases h1 : ∃ x ∈ U, x.it.o.dst = some t
    · obtain ⟨x, hx, hd⟩ := h1
      rw [maskE_in (List.mem_append_left _ hx) hd, maskE_in hx hd]
    · have h1' : ∀ x ∈ U, x.it.o.dst ≠ some t := fun x hx hd => h1 ⟨x, hx, hd⟩
      rw [maskE_out h1']
      by_cases h2 : it.o.dst = some t
      · rw [maskE_in (x := ⟨it, e, v, md⟩) (by simp) h2, hm0 t h2]
      · rw [maskE_out, Env.put_ne h2]
        intro x hx
        rcases List.mem_append.1 hx with hx | hx
        · exact h1' x hx
        · simp only [List.mem_singleton] at hx; subst hx; exact h2
  refine ⟨S.hZ, S.hS, Nat.le_trans S.hm hnx, hW', by rw [hmask]; exact S.fr, S.lsz, by rw [hassoc]; exact S.mem, by rw [hassoc]; exact S.sub, S.pre, fun y hy t ht => ?_, fun t ht => ?_, fun x hx t ht => ?_, fun x hx t ht => ?_, fun x hx => ?_, fun x hx => ?_, ?_, fun x hx hxm => ?_, fun x hx => ?_, fun x hx => ?_⟩
  · rw [Env.put_ne ((hr y hy).dst t ht)]; exact S.eB y (List.mem_cons_of_mem _ hy) t ht
  · rw [Env.put_ne (ht it (S.rMem (List.mem_cons_self ..)))]; exact S.eE t ht
  · rcases List.mem_append.1 hx with hx | hx
    · by_cases hd : it.o.dst = some t
      · left
        refine ⟨⟨it, e, v, md⟩, by simp, hd, (hu x hx).r1 t hd ht, ?_⟩
        rcases S.eA x hx t ht with ⟨x', hx', h1, _, _⟩ | ⟨h1, _⟩
        · exact absurd h1 ((hu x' hx').dst t hd)
        · rw [h1, hm0 t hd]
      · rcases S.eA x hx t ht with ⟨x', hx', h1, h2, h3⟩ | ⟨h1, h2⟩
        · exact .inl ⟨x', List.mem_append_left _ hx', h1, h2, h3⟩
        · refine .inr ⟨by rw [Env.put_ne hd]; exact h1, fun x' hx' hd' => ?_⟩
          rcases List.mem_append.1 hx' with hx' | hx'
          · exact h2 x' hx' hd'
          · simp only [List.mem_singleton] at hx'; subst hx'; exact absurd hd' hd
    · simp only [List.mem_singleton] at hx; subst hx
      have hd : it.o.dst ≠ some t := fun hd => hown.own t hd ht
      refine .inr ⟨by rw [Env.put_ne hd], fun x' hx' hd' => ?_⟩
      rcases List.mem_append.1 hx' with hx' | hx'
      · exact (hu x' hx').r2 t hd' ht
      · simp only [List.mem_singleton] at hx'; subst hx'; exact absurd hd' hd
  · rcases List.mem_append.1 hx with hx | hx
    · have : it.o.dst ≠ some t := fun h => (hu x hx).dst t h ht
      rw [Env.put_ne this]; exact S.eD x hx t ht
    · simp only [List.mem_singleton] at hx; subst hx
      exact Env.put_eq ht
  · rcases List.mem_append.1 hx with hx | hx
    · exact hold x hx (S.capH x hx)
    · simp only [List.mem_singleton] at hx; subst hx; exact hc
  · rcases List.mem_append.1 hx with hx | hx
    · have := S.capS x hx
      unfold CapS at this ⊢
      split at this
      · exact this
      · exact this
      · exact this
      · obtain ⟨h1, h2, h3, h4, h5, h6⟩ := this; exact ⟨h1, h2, h3, h4, h5, by omega⟩
    · simp only [List.mem_singleton] at hx; subst hx; exact hs
  · refine List.pairwise_append.2 ⟨S.ids, by simp, fun x hx y hy i l f j l' f' h1 h2 => ?_⟩
    simp only [List.mem_singleton] at hy; subst hy
    have := S.capS x hx
    unfold CapS at this
    rw [h1] at this
    have hj := hid _ _ _ h2
    have := this.2.2.2.2.2
    omega
  · rcases List.mem_append.1 hx with hx | hx
    · exact S.pnd x hx hxm
    · simp only [List.mem_singleton] at hx; subst hx; exact hmem hxm
  · rcases List.mem_append.1 hx with hx | hx
    · rcases S.pnd' x hx with h | ⟨p, h1, h2⟩
      · exact .inl h
      · exact .inr ⟨p, by rw [hpo _ (hu x hx).ne]; exact h1, h2⟩
    · simp only [List.mem_singleton] at hx; subst hx; exact hp'
  · rcases List.mem_append.1 hx with hx | hx
    · exact S.neff x hx
    · simp only [List.mem_singleton] at hx; subst hx; exact heff
theorem Sim.ready (hP : PlanR P n ops plan) (S : Sim P n ops plan Z0 σ0 m e0 listed Z σ a w U rest e H pend) {b : DIt} (hb : b ∈ plan) (hr : b.i ∈ Region.ready .any ops listed) :
    listed.getD b.i true = false ∧ (∀ p ∈ dirs ops b.i, listed.getD p false = true) ∧ ∀ x, b.pre.testBit x = true → listed.getD x false = true := by
  obtain ⟨h0, o, ho, hall⟩ := mem_ready.1 hr
  have hd : ∀ p ∈ dirs ops b.i, listed.getD p false = true := by
    intro p hp
    simp only [dirs, ho, List.mem_map, List.mem_filter, Array.mem_toList_iff] at hp
    obtain ⟨e, ⟨he, hbd⟩, rfl⟩ := hp
    exact hall e he hbd
  refine ⟨h0, hd, fun x hx => ?_⟩
  rw [(hP.own b hb).pre] at hx
  obtain ⟨p, hp, h⟩ := preMask_spec hx
  rcases h with rfl | h
  · exact hd _ hp
  · have hl := hd p hp
    have hlt : p < listed.size := getD_lt hl
    exact S.pre p x (by rw [← S.lsz]; exact hlt) (by rw [getD_swap hlt]; exact hl) h
theorem Sim.pre' (hP : PlanR P n ops plan) (S : Sim P n ops plan Z0 σ0 m e0 listed Z σ a w U rest e H pend) {b : DIt} (hb : b ∈ plan) (hr : b.i ∈ Region.ready .any ops listed) :
    ∀ j x, j < ops.size → (listed.setIfInBounds b.i true).getD j true = true → (preOf plan j).testBit x = true → (listed.setIfInBounds b.i true).getD x false = true := by
  intro j x hj hl hx
  by_cases hjb : b.i = j
  · subst hjb
    rw [hP.preOf_eq hb] at hx
    exact getD_set_true ((S.ready hP hb hr).2.2 x hx)
  · rw [getD_set_ne true hjb] at hl
    exact getD_set_true (S.pre j x hj hl hx)
theorem Sim.unl (hP : PlanR P n ops plan) (S : Sim P n ops plan Z0 σ0 m e0 listed Z σ a w U rest e H pend) {b : DIt} (hb : b ∈ U.map (·.it) ++ rest) : listed.getD b.i true = false :=
  (S.mem b.i (hP.own b (S.sub.mem hb)).lt).2 (List.mem_map_of_mem hb)
theorem set_self {l : Array Bool} {i : Nat} (h : i < l.size) : (l.setIfInBounds i true).getD i true = true := by simp [h]
theorem Sim.effect {it : DIt} (hP : PlanR P n ops plan) (hn : n ≤ dslot) (S : Sim P n ops plan Z0 σ0 m e0 listed Z σ a w U (it :: rest) e H pend) (heff : it.eff = true) (hr : it.i ∈ Region.ready .any ops listed)
    {v : AV} {cv : Value} {Z' : Zt} {σ' : Sg} {H' : AH} {w' : World} (hZ : Zle Z0 Z') (hS : Nw σ0 m σ') (hσ : ∀ r, r < H.next → σ' r = σ r) (hnx : H.next ≤ H'.next) (hW : WR Z' σ' H' w')
    (hfr : FR Z' σ' n (maskE U e0 e) a) (hv : VR Z' σ' v cv) (hchk : ∀ x ∈ U, x.it.o.k.isMem = true → x.it.i ∈ it.fl → CapH x H') (hdn : ∀ t, it.o.dst = some t → t < n) :
    Sim P n ops plan Z0 σ0 m e0 (listed.setIfInBounds it.i true) Z' σ' (a.put it.o.dst cv) w' U rest (e.put it.o.dst v) H' pend := by
  have hit := S.rMem (List.mem_cons_self ..)
  obtain ⟨r1, r2, r3⟩ := S.ready hP hit hr
  have hu : ∀ x ∈ U, PairR ops x.it it := fun x hx => S.ur hP hx (List.mem_cons_self ..)
  have hnot : ∀ x ∈ U, it.pre.testBit x.it.i = true → False := fun x hx h => getD_both (r3 _ h) (S.unl hP (List.mem_append_left _ (List.mem_map_of_mem hx)))
  have hrr : ∀ y ∈ rest, PairR ops it y := fun y hy => by
    have := (List.pairwise_append.1 (S.pw hP)).2.1
    exact (List.pairwise_cons.1 this).1 y hy
  have hmask : maskE U e0 (e.put it.o.dst v) = (maskE U e0 e).put it.o.dst v := by
    funext t
    by_cases h2 : it.o.dst = some t
    · rw [Env.put_eq h2, maskE_out (fun x hx => (hu x hx).dst t h2), Env.put_eq h2]
    · rw [Env.put_ne h2]
      by_cases h1 : ∃ x ∈ U, x.it.o.dst = some t
      · obtain ⟨x, hx, hd⟩ := h1
        rw [maskE_in hx hd, maskE_in hx hd]
      · have h1' : ∀ x ∈ U, x.it.o.dst ≠ some t := fun x hx hd => h1 ⟨x, hx, hd⟩
        rw [maskE_out h1', maskE_out h1', Env.put_ne h2]
  have hlt : it.i < listed.size := by rw [S.lsz]; exact (hP.own it hit).lt
  have hnd : ∀ b ∈ U.map (·.it) ++ rest, b.i ≠ it.i := by
    intro b hb
    rcases List.mem_append.1 hb with hb | hb
    · obtain ⟨x, hx, rfl⟩ := List.mem_map.1 hb; exact (hu x hx).ne
    · exact ((hrr b hb).ne).symm
  refine ⟨hZ, hS, Nat.le_trans S.hm hnx, hW, ?_, by simp [S.lsz], fun i hi => ?_, ((List.Sublist.refl _).append (List.sublist_cons_self _ _)).trans S.sub, S.pre' hP hit hr, fun y hy t ht => ?_, fun t ht => ?_, fun x hx t ht => ?_, fun x hx t ht => ?_, fun x hx => ?_, fun x hx => ?_, S.ids, S.pnd, S.pnd', S.neff⟩
  · rw [hmask]; exact hfr.put hn hdn hv
  · by_cases hie : it.i = i
    · subst hie
      rw [set_self hlt]
      simp only [Bool.true_eq_false, false_iff]
      intro hm
      obtain ⟨b, hb, hbi⟩ := List.mem_map.1 hm
      exact hnd b hb hbi
    · rw [getD_set_ne true hie, S.mem i hi]
      simp only [List.map_append, List.map_cons, List.mem_append, List.mem_cons]
      constructor
      · rintro (h | h | h)
        · exact .inl h
        · exact absurd h.symm hie
        · exact .inr h
      · rintro (h | h)
        · exact .inl h
        · exact .inr (.inr h)
  · rw [Env.put_ne ((hrr y hy).dst t ht)]; exact S.eB y (List.mem_cons_of_mem _ hy) t ht
  · rw [Env.put_ne (ht it hit)]; exact S.eE t ht
  · have hd : it.o.dst ≠ some t := fun hd => hnot x hx ((hu x hx).r1 t hd ht)
    rw [Env.put_ne hd]; exact S.eA x hx t ht
  · have : it.o.dst ≠ some t := fun h => (hu x hx).dst t h ht
    rw [Env.put_ne this]; exact S.eD x hx t ht
  · have h0 := S.capH x hx
    by_cases hm : x.it.o.k.isMem = true
    · rcases (hu x hx).fl heff (S.neff x hx) hm with h | h
      · exact (hnot x hx h).elim
      · exact hchk x hx hm h
    · have := S.pnd x hx (by simpa using hm)
      unfold CapH
      cases hmd : x.md <;> rw [hmd] at this <;> first | trivial | cases this
  · have := S.capS x hx
    unfold CapS at this ⊢
    split at this
    · exact this
    · exact this
    · exact this
    · obtain ⟨h1, h2, h3, h4, h5, h6⟩ := this; exact ⟨h1, h2, h3, by rw [hσ _ h6]; exact h4, h5, by omega⟩
end
end Go.AL
namespace Go.AL
section
variable {P : Program} {n : Nat} {ops : Array Oper} {plan : List DIt} {Z0 : Zt} {σ0 : Sg} {m : Nat} {e0 : Env} {listed : Array Bool} {Z : Zt} {σ : Sg} {a : Act} {w : World}
  {U : List UIt} {rest : List DIt} {e : Env} {H : AH} {pend : Pend}
theorem Sim.done {U1 U2 : List UIt} {x : UIt} (hP : PlanR P n ops plan) (hn : n ≤ dslot) (S : Sim P n ops plan Z0 σ0 m e0 listed Z σ a w (U1 ++ x :: U2) rest e H pend) (hr : x.it.i ∈ Region.ready .any ops listed)
    {cv : Value} {σ' : Sg} {w' : World} (hW : WR Z σ' H w') (hσ : σ' = σ ∨ ∃ id l f p, x.md = .new id l f ∧ σ' = σ.add id p) (hv : VR Z σ' x.v cv) (hdn : ∀ t, x.it.o.dst = some t → t < n) :
    Sim P n ops plan Z0 σ0 m e0 (listed.setIfInBounds x.it.i true) Z σ' (a.put x.it.o.dst cv) w' (U1 ++ U2) rest e H pend := by
  have hxU : x ∈ U1 ++ x :: U2 := by simp
  have hin : ∀ y ∈ U1 ++ U2, y ∈ U1 ++ x :: U2 := fun y hy => by
    rcases List.mem_append.1 hy with h | h
    · exact List.mem_append_left _ h
    · exact List.mem_append_right _ (List.mem_cons_of_mem _ h)
  have hit := S.uMem hxU
  obtain ⟨r1, r2, r3⟩ := S.ready hP hit hr
  have hpw := S.pw hP
  have hpu : ((U1 ++ x :: U2).map (·.it)).Pairwise (PairR ops) := (List.pairwise_append.1 hpw).1
  have hne : ∀ y ∈ U1 ++ U2, y.it.i ≠ x.it.i ∧ ∀ t, y.it.o.dst = some t → x.it.o.dst ≠ some t := by
    intro y hy
    rw [List.map_append, List.map_cons] at hpu
    obtain ⟨_, h2, h3⟩ := List.pairwise_append.1 hpu
    rcases List.mem_append.1 hy with h | h
    · have := h3 y.it (List.mem_map_of_mem h) x.it (List.mem_cons_self ..)
      exact ⟨this.ne, fun t ht hx => this.dst t hx ht⟩
    · have := (List.pairwise_cons.1 h2).1 y.it (List.mem_map_of_mem h)
      exact ⟨this.ne.symm, fun t ht hx => this.dst t ht hx⟩
  have hner : ∀ y ∈ rest, y.i ≠ x.it.i := fun y hy => (S.ur hP hxU hy).ne.symm
  have hSle : Sle σ σ' := by
    rcases hσ with rfl | ⟨id, l, f, p, hmd, rfl⟩
    · exact Sle.refl _
    · have := S.capS x hxU
      unfold CapS at this
      rw [hmd] at this
      exact Sg.add_le this.2.2.2.1
  have hNw : Nw σ0 m σ' := by
    rcases hσ with rfl | ⟨id, l, f, p, hmd, rfl⟩
    · exact S.hS
    · have := S.capS x hxU
      unfold CapS at this
      rw [hmd] at this
      exact S.hS.trans (Nw.add' σ p this.2.2.2.2.1) (Nat.le_refl _)
  have hmask : maskE (U1 ++ U2) e0 e = (maskE (U1 ++ x :: U2) e0 e).put x.it.o.dst x.v := by
    funext t
    by_cases h2 : x.it.o.dst = some t
    · rw [Env.put_eq h2, maskE_out (fun y hy h => (hne y hy).2 t h h2)]
      exact S.eD x hxU t h2
    · rw [Env.put_ne h2]
      by_cases h1 : ∃ y ∈ U1 ++ U2, y.it.o.dst = some t
      · obtain ⟨y, hy, hd⟩ := h1
        rw [maskE_in hy hd, maskE_in (hin y hy) hd]
      · have h1' : ∀ y ∈ U1 ++ U2, y.it.o.dst ≠ some t := fun y hy hd => h1 ⟨y, hy, hd⟩
        rw [maskE_out h1', maskE_out]
        intro y hy hd
        rcases List.mem_append.1 hy with h | h
        · exact h1' y (List.mem_append_left _ h) hd
        · cases h with
          | head => exact h2 hd
          | tail _ h => exact h1' y (List.mem_append_right _ h) hd
  have hlt : x.it.i < listed.size := by rw [S.lsz]; exact (hP.own _ hit).lt
  have hsub : ((U1 ++ U2).map (·.it) ++ rest).Sublist ((U1 ++ x :: U2).map (·.it) ++ rest) := by
    refine List.Sublist.append ?_ (List.Sublist.refl _)
    exact (List.Sublist.append (List.Sublist.refl U1) (List.sublist_cons_self x U2)).map _
  refine ⟨S.hZ, hNw, S.hm, hW, ?_, by simp [S.lsz], fun i hi => ?_, hsub.trans S.sub, S.pre' hP hit hr, S.eB, S.eE, fun y hy t ht => ?_, fun y hy => S.eD y (hin y hy), fun y hy => S.capH y (hin y hy), fun y hy => ?_, ?_,
    fun y hy => S.pnd y (hin y hy), fun y hy => S.pnd' y (hin y hy), fun y hy => S.neff y (hin y hy)⟩
  · rw [hmask]; exact (S.fr.mono (Zle.refl _) hSle).put hn hdn hv
  · by_cases hie : x.it.i = i
    · subst hie
      rw [set_self hlt]
      simp only [Bool.true_eq_false, false_iff]
      intro hm
      obtain ⟨b, hb, hbi⟩ := List.mem_map.1 hm
      rcases List.mem_append.1 hb with hb | hb
      · obtain ⟨y, hy, rfl⟩ := List.mem_map.1 hb; exact (hne y hy).1 hbi
      · exact hner b hb hbi
    · rw [getD_set_ne true hie, S.mem i hi]
      simp only [List.map_append, List.map_cons, List.mem_append, List.mem_cons]
      constructor
      · rintro ((h | h | h) | h)
        · exact .inl (.inl h)
        · exact absurd h.symm hie
        · exact .inl (.inr h)
        · exact .inr h
      · rintro ((h | h) | h)
        · exact .inl (.inl h)
        · exact .inl (.inr (.inr h))
        · exact .inr h
  · rcases S.eA y (hin y hy) t ht with ⟨x', hx', h1, h2, h3⟩ | ⟨h1, h2⟩
    · left
      refine ⟨x', ?_, h1, h2, h3⟩
      rcases List.mem_append.1 hx' with h | h
      · exact List.mem_append_left _ h
      · cases h with
        | head => exact (getD_both (r3 _ h2) (S.unl hP (List.mem_append_left _ (List.mem_map_of_mem (hin y hy))))).elim
        | tail _ h => exact List.mem_append_right _ h
    · exact .inr ⟨h1, fun x' hx' => h2 x' (hin x' hx')⟩
  · have := S.capS y (hin y hy)
    unfold CapS at this ⊢
    split at this
    · exact this
    · exact this
    · exact this
    · rename_i id l f hmd
      obtain ⟨h1, h2, h3, h4, h5, h6⟩ := this
      refine ⟨h1, h2, h3, ?_, h5, h6⟩
      rcases hσ with rfl | ⟨id', l', f', p, hmd', rfl⟩
      · exact h4
      · have hid : id ≠ id' := by
          obtain ⟨_, k2, k3⟩ := List.pairwise_append.1 S.ids
          rcases List.mem_append.1 hy with h | h
          · exact k3 y h x (List.mem_cons_self ..) _ _ _ _ _ _ hmd hmd'
          · exact ((List.pairwise_cons.1 k2).1 y h _ _ _ _ _ _ hmd' hmd).symm
        simp only [Sg.add, hid, if_false]; exact h4
  · exact S.ids.sublist (List.Sublist.append (List.Sublist.refl U1) (List.sublist_cons_self x U2))
theorem aread_mem {k : AK} {v : AV} (h : aread k e H = some v) : k.isMem = true := by
  unfold aread at h; split at h
  · rfl
  · rfl
  · rfl
  · rfl
  · rfl
  · cases h
theorem anew_mem {k : AK} {c : List AV × (Nat → AV)} (h : anew k e = some c) : k.isMem = true := by
  unfold anew at h; split at h <;> first | rfl | cases h
theorem ames_push {x : AV} {es : List (AV × AV × Nat)} {o : AObj} (htop : H.get H.next = none) (h : ames x H = some es) : ames x (H.push o) = some es := by
  unfold ames at h ⊢
  split at h
  · exact h
  · rename_i r
    split at h <;> (try cases h; done)
    rename_i es' cl hl
    have hne : r ≠ H.next := fun hh => by subst hh; rw [htop] at hl; cases hl
    rw [AH.get_push_ne _ _ hne, hl]; exact h
  · cases h
theorem aslcells_push {z m : Nat} {xs : List AV} {x : AV} {o : AObj} (htop : H.get H.next = none) (hx : aslcells z x H = some (m, xs)) : aslcells z x (H.push o) = some (m, xs) := by
  unfold aslcells at hx ⊢
  split at hx
  · exact hx
  · exact hx
  · rename_i r off n lim
    split at hx <;> (try cases hx; done)
    rename_i l hl
    have hne : r ≠ H.next := fun hh => by subst hh; unfold AH.cells? at hl; rw [htop] at hl; cases hl
    have : (H.push o).cells? r = some l := by unfold AH.cells? at hl ⊢; rw [AH.get_push_ne _ _ hne]; exact hl
    rw [this]; exact hx
  · cases hx
theorem abys_push {x : AV} {l : List UInt8} {o : AObj} (htop : H.get H.next = none) (h : abys x H = some l) : abys x (H.push o) = some l := by
  unfold abys at h ⊢
  split at h <;> (try cases h; done)
  rename_i m xs hx
  rw [aslcells_push htop hx]; exact h
theorem aread_push {k : AK} {v : AV} {o : AObj} (htop : H.get H.next = none) (h : aread k e H = some v) : aread k e (H.push o) = some v := by
  unfold aread at h ⊢
  split at h
  · unfold aload at h ⊢
    split at h
    · rename_i r off hx
      split at h
      · rename_i l hl
        have hne : r ≠ H.next := fun hh => by subst hh; unfold AH.cells? at hl; rw [htop] at hl; cases hl
        have : (H.push o).cells? r = some l := by unfold AH.cells? at hl ⊢; rw [AH.get_push_ne _ _ hne]; exact hl
        rw [this]; exact h
      · cases h
    · exact h
    · cases h
  · rename_i x0
    split at h <;> (try cases h; done)
    rename_i m xs hx
    have : aslcells 1 (AOpd.ev e x0) (H.push o) = some (m, xs) := by
      unfold aslcells at hx ⊢
      split at hx
      · exact hx
      · exact hx
      · rename_i r off n lim hev
        split at hx <;> (try cases hx; done)
        rename_i l hl
        have hne : r ≠ H.next := fun hh => by subst hh; unfold AH.cells? at hl; rw [htop] at hl; cases hl
        have : (H.push o).cells? r = some l := by unfold AH.cells? at hl ⊢; rw [AH.get_push_ne _ _ hne]; exact hl
        rw [this]; exact hx
      · cases hx
    rw [this]; exact h
  · rename_i ty z ok m0 k0
    have hames : ∀ es, ames (AOpd.ev e m0) H = some es → ames (AOpd.ev e m0) (H.push o) = some es := fun es => ames_push htop
    split at h <;> (try cases h; done)
    rename_i L es hL hes
    rw [hames es hes]; simp only [hL]; exact h
  · rename_i m0
    split at h <;> (try cases h; done)
    rename_i es hes
    rw [ames_push htop hes]; exact h
  · rename_i c x y
    split at h <;> (try cases h; done)
    rename_i l hl
    rw [abys_push htop hl]
    cases c with
    | false => exact h
    | true =>
      simp only [aextv, Option.map_eq_some_iff] at h ⊢
      obtain ⟨m, hm, he⟩ := h
      exact ⟨m, abys_push htop hm, he⟩
  · cases h
theorem lookup_eq {α : Type} {i : Nat} {p : α} {l : List (Nat × α)} : ((i, p) :: l).lookup i = some p := by simp [List.lookup]
theorem lookup_ne {α : Type} {i j : Nat} {p : α} {l : List (Nat × α)} (h : j ≠ i) : ((i, p) :: l).lookup j = l.lookup j := by
  have : (j == i) = false := by simpa using h
  simp [List.lookup, this]
theorem Sim.advance [YC] (hP : PlanR P n ops plan) {ep : Env} {K : Env → AH → Prop} {Kp : AV → Env → AH → Prop} : ∀ (rest : List DIt) (U : List UIt) (e : Env) (H : AH) (pend : Pend),
    Sim P n ops plan Z0 σ0 m e0 listed Z σ a w U rest e H pend → adops P ep K Kp rest e H pend →
    ∃ U' rest' e' H' pend', U'.length + rest'.length = U.length + rest.length ∧ Sim P n ops plan Z0 σ0 m e0 listed Z σ a w U' rest' e' H' pend' ∧ adops P ep K Kp rest' e' H' pend' ∧
      (rest' = [] ∨ ∃ it l, rest' = it :: l ∧ it.eff = true) := by
  intro rest
  induction rest with
  | nil => intro U e H pend S h; exact ⟨U, [], e, H, pend, rfl, S, h, .inl rfl⟩
  | cons it l ih =>
    intro U e H pend S h
    by_cases heff : it.eff = true
    · exact ⟨U, it :: l, e, H, pend, rfl, S, h, .inr ⟨it, l, rfl, heff⟩⟩
    · have heff' : it.eff = false := by simpa using heff
      have same : ∀ {v : AV} {md : UMd}, md.mem = false → CapS m ⟨it, e, v, md⟩ H σ → adops P ep K Kp l (e.put it.o.dst v) H pend →
          ∃ U' rest' e' H' pend', U'.length + rest'.length = U.length + (it :: l).length ∧ Sim P n ops plan Z0 σ0 m e0 listed Z σ a w U' rest' e' H' pend' ∧ adops P ep K Kp rest' e' H' pend' ∧
            (rest' = [] ∨ ∃ it l, rest' = it :: l ∧ it.eff = true) := by
        intro v md hmd hs h
        have hc : CapH ⟨it, e, v, md⟩ H := by
          unfold CapH; cases md <;> first | trivial | cases hmd
        obtain ⟨U', rest', e', H', pend', g1, g2⟩ := ih _ _ _ _ (S.pass hP heff' (md := md) hc hs S.hW (Nat.le_refl _) (fun _ _ h => h) (fun i l f hh => by subst hh; cases hmd) (fun _ => hmd) (.inl hmd) (fun _ _ => rfl)) h
        exact ⟨U', rest', e', H', pend', by rw [g1]; simp; omega, g2⟩
      have step : Wnt it.o e → (match apure it.o.k e with
        | some v => adops P ep K Kp l (e.put it.o.dst v) H pend
        | none => match aread it.o.k e H with
          | some v => adops P ep K Kp l (e.put it.o.dst v) H ((it.i, fun H' => aread it.o.k e H' = some v) :: pend)
          | none => match anew it.o.k e with
            | some (c, f) => adops P ep K Kp l (e.put it.o.dst (f H.next)) (H.push (.cells c)) ((it.i, fun H' => H'.get H.next = some (.cells c)) :: pend)
            | none => False) →
          ∃ U' rest' e' H' pend', U'.length + rest'.length = U.length + (it :: l).length ∧ Sim P n ops plan Z0 σ0 m e0 listed Z σ a w U' rest' e' H' pend' ∧ adops P ep K Kp rest' e' H' pend' ∧
            (rest' = [] ∨ ∃ it l, rest' = it :: l ∧ it.eff = true) := by
        intro hw h
        split at h
        · rename_i v hv
          exact same (md := .pure) rfl ⟨hw, hv⟩ h
        · rename_i hv0
          split at h
          · rename_i v hv
            obtain ⟨U', rest', e', H', pend', g1, g2⟩ := ih _ _ _ _ (S.pass hP heff' (v := v) (md := .read) (H' := H) (pend' := (it.i, fun H' => aread it.o.k e H' = some v) :: pend)
              (by simpa only [CapH] using hv) ⟨hw, hv0⟩ S.hW (Nat.le_refl _) (fun _ _ h => h) (fun i l f hh => by cases hh) (fun hm => by rw [aread_mem hv] at hm; cases hm)
              (.inr ⟨_, lookup_eq, fun H' h => by simpa only [CapH] using h⟩) (fun i hi => lookup_ne hi)) h
            exact ⟨U', rest', e', H', pend', by rw [g1]; simp; omega, g2⟩
          · split at h
            · rename_i c f hv
              have htop := S.hW.top H.next (Nat.le_refl _)
              obtain ⟨U', rest', e', H', pend', g1, g2⟩ := ih _ _ _ _ (S.pass hP heff' (v := f H.next) (md := .new H.next c f) (H' := H.push (.cells c)) (pend' := (it.i, fun H' => H'.get H.next = some (.cells c)) :: pend)
                (by simp [CapH]) ⟨hw, hv, rfl, S.hW.fresh _ (Nat.le_refl _), S.hm, by simp⟩ (S.hW.ghost _) (by simp)
                (fun y hy hc => by
                  have hs := S.capS y hy
                  unfold CapH at hc ⊢
                  unfold CapS at hs
                  cases hmd : y.md <;> rw [hmd] at hc hs <;> first | trivial | skip
                  · exact aread_push htop hc
                  · simp only [] at hc hs ⊢
                    rw [AH.get_push_ne _ _ (by have := hs.2.2.2.2.2; omega)]; exact hc)
                (fun i l' f' hh => by cases hh; rfl) (fun hm => by rw [anew_mem hv] at hm; cases hm)
                (.inr ⟨_, lookup_eq, fun H' h => by simpa only [CapH] using h⟩) (fun i hi => lookup_ne hi)) h
              exact ⟨U', rest', e', H', pend', by rw [g1]; simp; omega, g2⟩
            · exact h.elim
      simp only [adops] at h
      split at h
      · rename_i hg
        rw [heff'] at h
        exact step (.inl hg) h
      · rename_i s want hg
        split at h
        · rename_i b hb
          rw [heff'] at h
          by_cases hbw : b = some want
          · subst hbw
            exact step (.inr ⟨s, want, hg, hb⟩) (h.1 rfl)
          · exact same (md := .skip) rfl ⟨rfl, s, want, b, hg, hb, hbw⟩ (h.2 hbw)
        · exact h.elim
theorem chk_spec {fl : List Nat} {ps : Pend} (h : chk fl ps H) {i : Nat} (hi : i ∈ fl) {p : AH → Prop} (hp : ps.lookup i = some p) : p H := by
  induction fl with
  | nil => simp at hi
  | cons j js ih =>
    simp only [chk] at h
    cases hi with
    | head => have := h.1; rw [hp] at this; exact this
    | tail _ hi => exact ih h.2 hi
theorem aop_run [YC] {o : Oper} {k : AK} (hk : compOp P o = some k) (hnd : k.isDefer = false) {Z : Zt} {σ : Sg} {H : AH} {eS : Env} {a : Act} {w : World} (hW : WR Z σ H w) (he : ER Z σ eS a)
    {K Kp : AV → AH → Prop} (h : aop P k eS H K Kp) {next : Act → World → Prop} {Qc : Exit → Act → World → Prop}
    (hK : ∀ cv Z' σ' v H' w', Zle Z Z' → Nw σ H.next σ' → H.next ≤ H'.next → WR Z' σ' H' w' → VR Z' σ' v cv → K v H' → next (a.put o.dst cv) w')
    (hQ : ∀ cv Z' σ' v H' w', Zle Z Z' → Nw σ H.next σ' → H.next ≤ H'.next → WR Z' σ' H' w' → VR Z' σ' v cv → Kp v H' → Qc (.panic [{ v := cv, recovered := false }]) a w')
    {ro : Option Nat} {Z0 : Zt} {σ0 : Sg} {m : Nat} (hY : YOk P Z0 σ0 m) (hZ : Zle Z0 Z) (hS : Nw σ0 m σ) (hm : m ≤ H.next) : o.wpIn (RF ro) 0 P a w next Qc := by
  unfold Oper.wpIn
  refine ⟨fun _ _ => trivial, ?_⟩
  rw [semAt_nd hk hnd (fun hp => aop_no hp h)]
  have plain : (match aone k eS H with | some (v, H') => K v H' | none => False) → o.uponIn (RF ro) 0 P a next Qc ((execOp a.eval o).run P w) := by
    intro h
    split at h
    · rename_i v H' hone
      obtain ⟨cv, w', σ', r1, r2, r3, r4⟩ := aone_run hk hW he hone
      have := hK cv Z σ' v H' w' (Zle.refl _) r2 (aone_next hone) r3 r4 h
      rcases r1 with r1 | ⟨r1, rfl⟩
      · rw [r1]; exact this
      · rw [r1]; exact this
    · exact h.elim
  cases k with
  | call f args =>
    rcases acall_run hk hW he h with ⟨g, vs, r1, r2⟩ | ⟨l, vs, r1, r2, r3⟩
    · rw [r1, Oper.uponIn_enter]
      refine ⟨rf_depth, callsIn_rf (r2.mono fun x w' hx => ?_)⟩
      obtain ⟨Z', σ', H', out, g1, g2, g3, g4, g5, g6⟩ := hx
      cases out with
      | ret v => obtain ⟨cv, rfl, hv⟩ := g5; exact hK cv Z' σ' v H' w' g1 g2 g3 g4 hv g6
      | pan v => obtain ⟨cv, rfl, hv⟩ := g5; exact hQ cv Z' σ' v H' w' g1 g2 g3 g4 hv g6
    · obtain ⟨fn, tmps, as, bd, y1, y2⟩ := hY _ _ _ _ r3 Z σ w vs hZ hS hm hW r2
      rw [r1, y1, Oper.uponIn_round]
      refine ⟨rf_depth, roundIn_rf (y2.mono fun x w' hx => ?_)⟩
      obtain ⟨Z', σ', H', out, g1, g2, g3, g4, g5, g6⟩ := hx
      cases out with
      | ret v => obtain ⟨cv, rfl, hv⟩ := g5; exact hK cv Z' σ' v H' w' g1 g2 g3 g4 hv g6
      | pan v => obtain ⟨cv, rfl, hv⟩ := g5; exact hQ cv Z' σ' v H' w' g1 g2 g3 g4 hv g6
  | panic x =>
    simp only [aop] at h
    split at h
    · rename_i t v hx
      obtain ⟨cv, r1, r2⟩ := apanic_run (w := w) hk he hx
      rw [r1, Oper.uponIn_panic]
      exact hQ cv Z σ _ H w (Zle.refl _) (Nw.refl _ _) (Nat.le_refl _) hW r2 h
    · exact h.elim
  | defer f args => cases hnd
  | recover => exact h.elim
  | _ => exact plain h
theorem clr_out {t : Nat} (h : ∀ y ∈ plan, y.o.dst ≠ some t) : clr plan e0 t = e0 t := by
  unfold clr; rw [if_neg]; intro hh
  obtain ⟨x, hx, he⟩ := List.any_eq_true.1 hh
  exact h x hx (by simpa using he)
theorem Sim.clear (hP : PlanR P n ops plan) (hn : n ≤ dslot) (S : Sim P n ops plan Z0 σ0 m e0 listed Z σ a w U rest e H pend) : FR Z σ n (clr plan e0) a := by
  have key : ∀ t, clr plan e0 t = .unk ∨ clr plan e0 t = maskE U e0 e t := by
    intro t
    by_cases h : ∃ y ∈ plan, y.o.dst = some t
    · obtain ⟨y, hy, hd⟩ := h
      left; unfold clr; rw [if_pos]; exact List.any_eq_true.2 ⟨y, hy, by simp [hd]⟩
    · have h' : ∀ y ∈ plan, y.o.dst ≠ some t := fun y hy hd => h ⟨y, hy, hd⟩
      right
      rw [clr_out h', maskE_out (fun x hx => h' _ (S.uMem hx)), S.eE t h']
  have hds : clr plan e0 dslot = maskE U e0 e dslot := by
    have h' : ∀ y ∈ plan, y.o.dst ≠ some dslot := fun y hy hd => by
      obtain ⟨o, ho, hc⟩ := hP.op y hy
      obtain ⟨_, h2, h3, _⟩ := compOper_inv hc
      exact absurd (h3 dslot (by rw [← h2]; exact hd)) (Nat.not_lt.2 hn)
    rw [clr_out h', maskE_out (fun x hx => h' _ (S.uMem hx)), S.eE _ h']
  refine ⟨fun t ht => ?_, by rw [hds]; exact S.fr.ds, S.fr.sz⟩
  rcases key t with h | h
  · rw [h]; exact .unk _
  · rw [h]; exact S.fr.er t ht
theorem plan_any [YC] {ro : Option Nat} (hY : YOk P Z0 σ0 m) {Q : Ex → Env → AH → Prop} (hP : PlanR P n ops plan) (hn : n ≤ dslot) : ∀ (fuel : Nat) (listed : Array Bool) (Z : Zt) (σ : Sg) (a : Act) (w : World) (U : List UIt) (rest : List DIt) (e : Env) (H : AH) (pend : Pend),
    fuel = U.length + rest.length → Sim P n ops plan Z0 σ0 m e0 listed Z σ a w U rest e H pend →
    adops P (clr plan e0) (fun e' H' => Q .normal e' H') (fun v e' H' => Q (.pan v) e' H') rest e H pend → wpAnyIn (RF ro) 0 P .any ops (QR Z0 σ0 n m Q) fuel listed a w := by
  intro fuel
  induction fuel with
  | zero =>
    intro listed Z σ a w U rest e H pend hf S h
    have hU : U = [] := List.eq_nil_of_length_eq_zero (by omega)
    have hR : rest = [] := List.eq_nil_of_length_eq_zero (by omega)
    subst hU hR
    refine ⟨?_, ?_⟩
    · cases hr : Region.ready .any ops listed with
      | nil => rfl
      | cons j js =>
        have hj : j ∈ Region.ready .any ops listed := by rw [hr]; exact List.mem_cons_self ..
        obtain ⟨h0, o, ho, _⟩ := mem_ready.1 hj
        have := (S.mem j (Array.getElem?_eq_some_iff.1 ho).1).1 h0
        simp at this
    · have : maskE [] e0 e = e := by funext t; exact maskE_out (by simp)
      have hfr := S.fr
      rw [this] at hfr
      exact ⟨Z, σ, .normal, e, H, S.hZ, S.hS, S.hm, S.hW, hfr, rfl, h⟩
  | succ fuel ih =>
    intro listed Z σ a w U0 rest0 e0' H0 pend0 hf0 S0 h0
    obtain ⟨U, rest, e, H, pend, hlen, S, h, hfront⟩ := Sim.advance hP rest0 U0 e0' H0 pend0 S0 h0
    have hf : fuel + 1 = U.length + rest.length := by omega
    refine ⟨fun hnil => ?_, fun i hi => ?_⟩
    ·
      exfalso
      have hpw := S.pw hP
      cases hl : U.map (·.it) ++ rest with
      | nil =>
        have := congrArg List.length hl
        simp only [List.length_append, List.length_map, List.length_nil] at this
        omega
      | cons b bs =>
        rw [hl] at hpw
        have hb : b ∈ U.map (·.it) ++ rest := by rw [hl]; exact List.mem_cons_self ..
        have hbp := S.sub.mem hb
        have hown := hP.own b hbp
        obtain ⟨o, ho, _⟩ := hP.op b hbp
        have : b.i ∈ Region.ready .any ops listed := by
          refine mem_ready.2 ⟨S.unl hP hb, o, ho, fun ed hed hbd => ?_⟩
          have hd : ed.on ∈ dirs ops b.i := by
            simp only [dirs, ho, List.mem_map, List.mem_filter, Array.mem_toList_iff]
            exact ⟨ed, ⟨hed, hbd⟩, rfl⟩
          cases hg : listed.getD ed.on false with
          | true => rfl
          | false =>
            exfalso
            by_cases hlt : ed.on < ops.size
            · have h1 : listed.getD ed.on true = false := by rw [getD_swap (by rw [S.lsz]; exact hlt)]; exact hg
              have h2 := (S.mem _ hlt).1 h1
              rw [hl] at h2
              obtain ⟨c, hc, hci⟩ := List.mem_map.1 h2
              cases hc with
              | head => exact hown.dir (hci ▸ hd : b.i ∈ dirs ops b.i)
              | tail _ hc => exact ((List.pairwise_cons.1 hpw).1 c hc).dir (by rw [hci]; exact hd)
            · exact hlt (hown.dlt _ hd)
        rw [hnil] at this
        cases this
    · obtain ⟨hi0, o', ho', _⟩ := mem_ready.1 hi
      have hmem := (S.mem i (Array.getElem?_eq_some_iff.1 ho').1).1 hi0
      obtain ⟨b, hb, rfl⟩ := List.mem_map.1 hmem
      have hbp := S.sub.mem hb
      obtain ⟨o, ho, hc⟩ := hP.op b hbp
      obtain ⟨hk, hd, hdn, hg⟩ := compOper_inv hc
      have hdn' : ∀ t, b.o.dst = some t → t < n := fun t ht => hdn t (by rw [← hd]; exact ht)
      rcases List.mem_append.1 hb with hbU | hbR
      · obtain ⟨x, hx, rfl⟩ := List.mem_map.1 hbU
        obtain ⟨U1, U2, rfl⟩ := List.append_of_mem hx
        have hag : ∀ t ∈ x.it.o.tmps, x.ee t = maskE (U1 ++ x :: U2) e0 e t := by
          intro t ht
          rcases S.eA x hx t ht with ⟨x', hx', h1, h2, h3⟩ | ⟨h1, h2⟩
          · rw [maskE_in hx' h1, h3]
          · rw [maskE_out, h1]
            intro x' hx' hd'
            have hpre := h2 x' hx' hd'
            exact getD_both ((S.ready hP hbp hi).2.2 _ hpre) (S.unl hP (List.mem_append_left _ (List.mem_map_of_mem hx')))
        refine cap_run ho hc hn S.hW S.fr hag (S.capH x hx) (S.capS x hx) fun cv w' σ' g1 g2 g3 => ?_
        rw [← hd]
        exact ih _ _ _ _ _ (U1 ++ U2) rest e H pend (by simp at hf ⊢; omega) (S.done hP hn hi g1 g2 g3 hdn') h
      · rcases hfront with rfl | ⟨it, l, rfl, heff⟩
        · cases hbR
        · have hbe : b = it := by
            cases hbR with
            | head => rfl
            | tail _ hbl =>
              have hpr := (List.pairwise_append.1 (S.pw hP)).2.1
              have := ((List.pairwise_cons.1 hpr).1 b hbl).eff heff
              exact (getD_both ((S.ready hP hbp hi).2.2 _ this) (S.unl hP (List.mem_append_right _ (List.mem_cons_self ..)))).elim
          subst hbe
          have hnotU : ∀ x ∈ U, b.pre.testBit x.it.i = true → False := fun x hx h => getD_both ((S.ready hP hbp hi).2.2 _ h) (S.unl hP (List.mem_append_left _ (List.mem_map_of_mem hx)))
          have hag : ∀ t ∈ b.o.tmps, e t = maskE U e0 e t := by
            intro t ht
            rw [maskE_out]
            intro x hx hd'
            exact hnotU x hx ((S.ur hP hx (List.mem_cons_self ..)).r2 t hd' ht)
          have hagk : ∀ t ∈ b.o.k.tmps, e t = maskE U e0 e t := fun t ht => hag t (List.mem_append_left _ ht)
          have run : Wnt b.o e → aop P b.o.k e H (fun v H' => chk b.fl pend H' ∧ adops P (clr plan e0) (fun e' H' => Q .normal e' H') (fun v e' H' => Q (.pan v) e' H') l (e.put b.o.dst v) H' pend) (fun v H' => Q (.pan v) (clr plan e0) H') →
              wpOpIn (RF ro) 0 P ops (QR Z0 σ0 n m Q) b.i (wpAnyIn (RF ro) 0 P .any ops (QR Z0 σ0 n m Q) fuel (listed.setIfInBounds b.i true)) a w := by
            intro hw h
            unfold wpOpIn
            simp only [ho]
            rw [wanted_of hc hn S.fr hag hw]
            simp only [if_true]
            refine aop_run hk (hP.own b hbp).nd S.hW S.fr.er ((aop_congr hagk).1 h) ?_ ?_ hY S.hZ S.hS S.hm
            · intro cv Z' σ' v H' w' g1 g2 g3 g4 g5 ⟨g6, g7⟩
              rw [← hd]
              refine ih _ Z' σ' _ w' U l (e.put b.o.dst v) H' pend (by simp at hf ⊢; omega) (S.effect hP hn heff hi (S.hZ.trans g1) (S.hS.trans g2 S.hm) g2 g3 g4 (S.fr.mono g1 (S.hW.sle g2)) g5 ?_ hdn') g7
              intro x hx hm hfl
              rcases S.pnd' x hx with hmm | ⟨p, h1, h2⟩
              · unfold CapH; cases hmd : x.md <;> rw [hmd] at hmm <;> first | trivial | cases hmm
              · exact h2 _ (chk_spec g6 hfl h1)
            · intro cv Z' σ' v H' w' g1 g2 g3 g4 g5 g6
              exact ⟨Z', σ', .pan v, clr plan e0, H', S.hZ.trans g1, S.hS.trans g2 S.hm, Nat.le_trans S.hm g3, g4, (S.clear hP hn).mono g1 (S.hW.sle g2), ⟨cv, rfl, g5⟩, g6⟩
          simp only [adops, heff, if_true] at h
          split at h
          · rename_i hgd; exact run (.inl hgd) h
          · rename_i s want hgd
            split at h
            · rename_i bb hbb
              by_cases hbw : bb = some want
              · subst hbw
                exact run (.inr ⟨s, want, hgd, hbb⟩) (h.1 rfl)
              · unfold wpOpIn
                simp only [ho]
                rw [unwanted_of hc hn S.fr hag hgd hbb hbw]
                simp only [Bool.false_eq_true, if_false]
                rw [← hd]
                have h := h.2 hbw
                refine ⟨fun _ _ => trivial, ?_⟩
                refine ih _ Z σ _ w U l (e.put b.o.dst aud) H pend (by simp at hf ⊢; omega) (S.effect hP hn heff hi S.hZ S.hS (fun _ _ => rfl) (Nat.le_refl _) S.hW S.fr aud_VR ?_ hdn') h
                intro x hx _ _; exact S.capH x hx
            · exact h.elim
theorem plan_region [YC] {ro : Option Nat} (hY : YOk P Z0 σ0 m) {Q : Ex → Env → AH → Prop} (hm : P.follows .mixedOrders = true) (hP : PlanR P n ops plan) (hlen : plan.length = ops.size) (hn : n ≤ dslot) {id : Nat} (hZ : Zle Z0 Z) (hS : Nw σ0 m σ) (hmm : m ≤ H.next) (hW : WR Z σ H w) (he : FR Z σ n e a)
    (h : adops P (clr plan e) (fun e' H' => Q .normal e' H') (fun v e' H' => Q (.pan v) e' H') plan e H []) : (Code.region id ops true).wpIn (RF ro) 0 P (QR Z0 σ0 n m Q) a w := by
  refine wpIn_region_any hm (plan_any hY (e0 := e) hP hn ops.size _ Z σ a _ [] plan e H [] (by simp [hlen]) ?_ h)
  refine ⟨hZ, hS, hmm, hW.congr rfl rfl rfl, ?_, by simp, fun i hi => ?_, by simp, fun j x hj hl => ?_, fun _ _ _ _ => rfl, fun _ _ => rfl, by simp, by simp, by simp, by simp, .nil, by simp, by simp, by simp⟩
  · have : maskE [] e e = e := by funext t; exact maskE_out (by simp)
    rw [this]; exact he
  · obtain ⟨b, hb, hbi⟩ := hP.all i hi
    simp only [List.map_nil, List.nil_append]
    constructor
    · intro _; exact List.mem_map.2 ⟨b, hb, hbi⟩
    · intro _; simp [Array.getD_eq_getD_getElem?, hi]
  · simp [Array.getD_eq_getD_getElem?, hj] at hl
end
end Go.AL
namespace Go.AL
def Zt.at (Z : Zt) (l : Nat) (o : Obj) : Zt := { Z with blk := fun b => if b = l then some o else Z b }
theorem Zt.at_same (Z : Zt) (l : Nat) (o : Obj) : Z.at l o l = some o := by simp [Zt.at]
theorem Zt.at_ne (Z : Zt) {l b : Nat} (o : Obj) (h : b ≠ l) : Z.at l o b = Z b := by simp [Zt.at, h]
theorem Zt.at_c {Z : Zt} {l : Nat} (o' : Obj) (hl : ∀ x, Z l = some x → ¬ isC x) : Zc Z (Z.at l o') := fun b c e fr hb => by
  rw [Zt.at_ne _ _ (fun h => hl _ (by rw [← h]; exact hb) ⟨_, _, _, rfl⟩)]; exact hb
theorem Zt.at_le {Z0 Z : Zt} {l : Nat} (o' : Obj) (h : Zle Z0 Z) (hl : Z0 l = none ∨ Z0 l = some o') : Zle Z0 (Z.at l o') := by
  refine ⟨fun b o hb => ?_, h.os, h.out, h.frz, h.old⟩
  by_cases hbl : b = l
  · subst hbl
    rw [Zt.at_same]
    rcases hl with hl | hl <;> rw [hl] at hb
    · cases hb
    · exact hb
  · rw [Zt.at_ne _ _ hbl]; exact h.le b o hb
theorem OldOk.at {Z : Zt} {l : Nat} {o : Obj} (h : OldOk Z) : OldOk (Z.at l o) := fun b hb => by
  obtain ⟨x, hx⟩ := h b hb
  by_cases hbl : b = l
  · subst hbl; exact ⟨o, Zt.at_same ..⟩
  · exact ⟨x, by rw [Zt.at_ne _ _ hbl]; exact hx⟩
section
variable {Z : Zt} {σ : Sg} {H : AH} {W : World} {l : Nat} {o : Obj}
theorem notC_loop {r : Loop} : ¬ isC (.loop r) := fun ⟨_, _, _, h⟩ => by cases h
theorem notC_def {d : Option (List Deferred)} : ¬ isC (.deferred d) := fun ⟨_, _, _, h⟩ => by cases h
theorem ObjR.turn {Z' : Zt} {w' : World} (hc : Zc Z Z') {p : Plc} {x : AObj} (hh : w'.heap[p.b]? = W.heap[p.b]?) (h : ObjR Z σ W p x) : ObjR Z' σ w' p x := by
  cases h with
  | cells hb hs hf hl hv h1 => exact .cells (by rw [hh]; exact hb) hs hf hl (hv.monoC hc (fun _ _ h => h)) h1
  | map hb hn he =>
    refine .map (by rw [hh]; exact hb) hn fun i k x n hi => ?_
    obtain ⟨m, h1, h2, h3, h4⟩ := he i k x n hi
    exact ⟨m, h1, h2.monoC hc (fun _ _ h => h), h3.monoC hc (fun _ _ h => h), h4⟩
theorem WR.turn (hW : WR Z σ H W) (hl : Z l = some o) (ho : ¬ isC o) (o' : Obj) : WR (Z.at l o') σ H (W.putObj l o') := by
  have hn : ∀ x, Z l = some x → ¬ isC x := fun x hx => by rw [hl] at hx; cases hx; exact ho
  have hlt : l < W.heap.size := (Array.getElem?_eq_some_iff.1 (hW.z _ _ hl)).1
  have hne : ∀ {r o1 p}, H.get r = some o1 → σ r = some p → p.b ≠ l := fun h1 h2 h3 => by
    have := (hW.h _ _ _ h1 h2).1
    rw [h3, hl] at this; cases this
  refine ⟨fun b x hb => ?_, fun r x p h1 h2 => ⟨?_, ?_⟩, hW.inj, hW.fresh, hW.top, hW.rest.1, hW.rest.2.1, fun b x hb => ?_⟩
  · by_cases hbl : b = l
    · subst hbl
      rw [Zt.at_same] at hb; cases hb
      exact World.putObj_heap_same hlt
    · rw [Zt.at_ne _ _ hbl] at hb
      rw [World.putObj_heap_other hbl]; exact hW.z b x hb
  · rw [Zt.at_ne _ _ (hne h1 h2)]; exact (hW.h r x p h1 h2).1
  · exact ((hW.h r x p h1 h2).2).turn (Zt.at_c o' hn) (World.putObj_heap_other (hne h1 h2))
  · obtain ⟨q1, q2⟩ := hW.rest.2.2 b x hb
    refine ⟨?_, q2⟩
    rw [Zt.at_ne _ _ (fun h => hn _ (by rw [← h]; exact q1) q2)]; exact q1
theorem WR.lay (hW : WR Z σ H W) (o' : Obj) : WR (Z.at W.heap.size o') σ H (W.alloc o') ∧ Zle Z (Z.at W.heap.size o') := by
  have hz : Z W.heap.size = none := by
    cases h : Z W.heap.size with
    | none => rfl
    | some x => have := (Array.getElem?_eq_some_iff.1 (hW.z _ _ h)).1; omega
  have hle : Zle Z (Z.at W.heap.size o') := Zt.at_le o' (Zle.refl _) (.inl hz)
  have hh : ∀ k, k < W.heap.size → (W.alloc o').heap[k]? = W.heap[k]? := fun k hk => heap_alloc_lt W o' hk
  refine ⟨⟨fun b x hb => ?_, fun r x p h1 h2 => ⟨?_, ?_⟩, hW.inj, hW.fresh, hW.top, (hW.rest.le hle).to ⟨rfl, rfl⟩⟩, hle⟩
  · by_cases hbl : b = W.heap.size
    · subst hbl
      rw [Zt.at_same] at hb; cases hb
      exact World.alloc_heap_new W _
    · rw [Zt.at_ne _ _ hbl] at hb
      have := hW.z b x hb
      rw [hh b (Array.getElem?_eq_some_iff.1 this).1]; exact this
  · rw [Zt.at_ne _ _ (fun h => by have := (hW.h r x p h1 h2).2.lt; omega)]; exact (hW.h r x p h1 h2).1
  · exact ((hW.h r x p h1 h2).2).mono hle (fun _ _ h => h) (hh _ (hW.h r x p h1 h2).2.lt)
end
theorem DR.turn {Z : Zt} {σ : Sg} {l : Nat} {r : Loop} (hl : Z l = some (.loop r)) (o' : Obj) {ds : List AV} {dd : List Deferred} (h : DR Z σ ds dd) : DR (Z.at l o') σ ds dd := by
  have hc : Zc Z (Z.at l o') := Zt.at_c o' fun x hx => by rw [hl] at hx; cases hx; exact notC_loop
  induction h with
  | nil => exact .nil
  | cons h _ ih => exact .cons (h.monoC hc (fun _ _ h => h)) ih
  | mark h h2 h3 _ ih => exact .mark (by rw [Zt.at_ne _ _ (fun hb => by rw [hb, hl] at h; cases h)]; exact h) h2 h3 ih
theorem FR.turn {Z : Zt} {σ : Sg} {n l : Nat} {r : Loop} (hl : Z l = some (.loop r)) (o' : Obj) {e : Env} {a : Act} (h : FR Z σ n e a) : FR (Z.at l o') σ n e a :=
  ⟨fun t ht => (h.er t ht).monoC (Zt.at_c o' fun x hx => by rw [hl] at hx; cases hx; exact notC_loop) (fun _ _ h => h), let ⟨d, h1, h2⟩ := h.ds; ⟨d, h1, h2.turn hl o'⟩, h.sz⟩
def setAll (e : Env) : List Nat → List AV → Env
  | p :: ps, v :: vs => setAll (e.set p v) ps vs
  | _, _ => e
def rndE (e : Env) (ps : List Nat) (x : List AV) : Env := (setAll e ps x).set dslot (.tup [])
theorem FR.setAll {Z : Zt} {σ : Sg} {n : Nat} (hn : n ≤ dslot) : ∀ (ps : List Nat) (x : List AV) (vs : List Value) (e : Env) (a : Act), x.length = ps.length → (∀ p ∈ ps, p < n) → VRs Z σ x vs → FR Z σ n e a →
    FR Z σ n (setAll e ps x) { a with tmps := (ps.zip vs).foldl (fun t (p, v) => t.setIfInBounds p v) a.tmps }
  | [], [], _, e, a, _, _, hv, h => by cases hv; exact h
  | p :: ps, v :: x, vs, e, a, hl, hp, hv, h => by
    cases hv with
    | cons h1 h2 =>
      exact FR.setAll hn ps x _ (e.set p v) (a.put (some p) _) (by simpa using hl) (fun q hq => hp q (List.mem_cons_of_mem _ hq)) h2 (h.put hn (d := some p) (fun q hq => by cases hq; exact hp p (List.mem_cons_self ..)) h1)
theorem FR.rnd {Z : Zt} {σ : Sg} {n : Nat} (hn : n ≤ dslot) {ps : Array Tmp} {x : List AV} {vs : List Value} {e : Env} {a : Act} (hl : x.length = ps.size) (hp : ∀ p ∈ ps.toList, p < n) (hv : VRs Z σ x vs) (h : FR Z σ n e a) :
    FR Z σ n (rndE e ps.toList x) { tmps := (ps.zip vs.toArray).foldl (fun t (p, v) => t.setIfInBounds p v) a.tmps, defers := [] } := by
  have h1 := FR.setAll hn ps.toList x vs e a (by simpa using hl) hp hv h
  have e1 : (ps.zip vs.toArray).foldl (fun t (p, v) => t.setIfInBounds p v) a.tmps = (ps.toList.zip vs).foldl (fun t (p, v) => t.setIfInBounds p v) a.tmps := by
    rw [← Array.foldl_toList, Array.toList_zip]
  rw [e1]
  refine ⟨fun t ht => ?_, ⟨[], Env.set_same .., .nil⟩, h1.sz⟩
  unfold rndE
  rw [Env.set_ne _ _ (by omega)]
  exact h1.er t ht
def AIt (P : Program) (g : FuncId) (caps : List AV) (H : AH) (xs : List (List AV)) : Prop :=
  Enters P g ∧ ∀ (Z : Zt) (σ : Sg) (w : World) (vc : List Value) (l : Nat) (I : Nat → AH → Prop), WR Z σ H w → VRs Z σ caps vc → I 0 H →
    (∀ (i : Nat) (x : List AV) (Hi : AH), xs[i]? = some x → I i Hi → ∀ (Z' : Zt) (σ' : Sg) (W : World) (vs : List Value), Zle Z Z' → Nw σ H.next σ' → H.next ≤ Hi.next → WR Z' σ' Hi W → VRs Z' σ' x vs →
      YieldAt Fence.wide 0 P l vs.toArray W fun y W' => ∃ Z'' σ'' H'', Zle Z' Z'' ∧ Nw σ' Hi.next σ'' ∧ Hi.next ≤ H''.next ∧ WR Z'' σ'' H'' W' ∧ y = .returned (.bool true) ∧ I (i + 1) H'') →
    Calls P g (#[.func (.yield l) #[] #[]] ++ vc.toArray) w fun y W => ∃ v Z' σ' H', y = .returned v ∧ Zle Z Z' ∧ Nw σ H.next σ' ∧ H.next ≤ H'.next ∧ WR Z' σ' H' W ∧ I xs.length H'
section
variable {P : Program}
theorem round_sound {n : Nat} (hn : n ≤ dslot) {ps : Array Tmp} (hps : ∀ p ∈ ps.toList, p < n) {as bd : Code} {l : Nat} {fn : FuncId} {D : Nat} {a : Act} {e : Env}
    {Z : Zt} {σ : Sg} {Hi : AH} {W : World} {x : List AV} {vs : List Value} (hx : x.length = ps.size) (hW : WR Z σ Hi W) (hv : VRs Z σ x vs) (he : FR Z σ n e a)
    (hl : Z l = some (.loop { state := .ready, pending := none, fn, tmps := a.tmps, params := ps, assign := as, body := bd, defers := D })) {Qa : Env → AH → Prop} {J : AH → Prop}
    (ha : ∀ a1, FR Z σ n (rndE e ps.toList x) a1 → as.wpIn (RF (some l)) 0 P (QR Z σ n Hi.next fun y e' H' => y = .normal ∧ Qa e' H') a1 W)
    (hb : ∀ e' H' Z' σ' a1 w1, Qa e' H' → Zle (Z.at l (.loop { state := .busy, pending := none, fn, tmps := a.tmps, params := ps, assign := as, body := bd, defers := D })) Z' → Nw σ Hi.next σ' → Hi.next ≤ H'.next → WR Z' σ' H' w1 → FR Z' σ' n e' a1 →
      bd.wpIn (RF (some l)) 0 P (QR Z' σ' n H'.next fun y _ H'' => y = .normal ∧ J H'') a1 w1) :
    YieldAt Fence.wide 0 P l vs.toArray W fun y W' => ∃ Z'' σ'' H'', Zle Z Z'' ∧ Nw σ Hi.next σ'' ∧ Hi.next ≤ H''.next ∧ WR Z'' σ'' H'' W' ∧ y = .returned (.bool true) ∧ J H'' := by
  have hlw := hW.z _ _ hl
  have hvl := hv.length
  refine ⟨fn, _, as, bd, run_yield hlw (by simp [← hvl, hx]), roundIn_of_wpIn trivial ?_⟩
  refine wpIn_mono (ha _ (he.rnd hn hx hps hv)) ?_
  rintro y a1 w1 ⟨Z1, σ1, z, e1, H1, g1, g2, g3, g4, g5, g6, rfl, g7⟩
  cases g6
  have hl1 := g1.le _ _ hl
  have hlw1 := g4.z _ _ hl1
  refine ⟨_, run_beginRound hlw1 rfl, ?_⟩
  have hlt := (Array.getElem?_eq_some_iff.1 hlw1).1
  have hb1 := hb e1 H1 (Z1.at l (.loop { state := .busy, pending := none, fn, tmps := a.tmps, params := ps, assign := as, body := bd, defers := D })) σ1 a1 _ g7
    (by
      refine ⟨fun b o hbo => ?_, g1.os, g1.out, g1.frz, g1.old⟩
      by_cases hbl : b = l
      · subst hbl; rw [Zt.at_same] at hbo ⊢; exact hbo
      · rw [Zt.at_ne _ _ hbl] at hbo ⊢; exact g1.le b o hbo) g2 g3 (g4.turn hl1 notC_loop _) (g5.turn hl1 _)
  refine wpIn_mono hb1 ?_
  rintro y a2 w2 ⟨Z2, σ2, z, e2, H2, k1, k2, k3, k4, k5, k6, rfl, k8⟩
  cases k6
  have hl2 := k1.le _ _ (Zt.at_same _ _ _)
  have hlw2 := k4.z _ _ hl2
  refine ⟨_, _, run_endRound none hlw2, Z2.at l (.loop { state := .ready, pending := none, fn, tmps := a.tmps, params := ps, assign := as, body := bd, defers := D }), σ2, H2, ?_, g2.trans k2 g3, Nat.le_trans g3 k3, k4.turn hl2 notC_loop _, rfl, k8⟩
  refine ⟨fun b o hbo => ?_, k1.os.trans g1.os, k1.out.trans g1.out, k1.frz.trans g1.frz, k1.old.trans g1.old⟩
  by_cases hbl : b = l
  · subst hbl; rw [hl] at hbo; rw [Zt.at_same]; exact hbo
  · rw [Zt.at_ne _ _ hbl]
    refine k1.le b o ?_
    rw [Zt.at_ne _ _ hbl]; exact g1.le b o hbo
theorem rng_sound {n : Nat} (hn : n ≤ dslot) {g : Operand} {g' : AOpd} (hg : cOpd g = some g') {ps : Array Tmp} (hps : ∀ p ∈ ps.toList, p < n) {as bd : Code} {Z : Zt} {σ : Sg} {H : AH} {e : Env} {a : Act} {w : World} {Z0 : Zt} {σ0 : Sg} {m : Nat} {Q : Ex → Env → AH → Prop}
    (hO : OldOk Z0) (hZ : Zle Z0 Z) (hS : Nw σ0 m σ) (hm : m ≤ H.next) (hW : WR Z σ H w) (he : FR Z σ n e a) {f : FuncId} {caps : List AV} {xs : List (List AV)} {ds : List AV} {I : Nat → AH → Prop}
    (h1 : g'.ev e = .fn (.func f) [] caps) (h2 : e dslot = .tup ds) (h3 : AIt P f caps H xs) (h4 : I 0 H)
    (h5 : ∀ i x Hi, xs[i]? = some x → I i Hi → H.next ≤ Hi.next → x.length = ps.size ∧ ∃ Qa : Nat → Env → AH → Prop,
      (∀ l Z' σ' a1 W, Zle Z0 Z' → Nw σ0 m σ' → m ≤ Hi.next → WR Z' σ' Hi W → FR Z' σ' n (rndE e ps.toList x) a1 → as.wpIn (RF (some l)) 0 P (QR Z' σ' n Hi.next fun y e' H' => y = .normal ∧ Qa l e' H') a1 W) ∧
      (∀ l e' H' Z' σ' a1 W, Qa l e' H' → Zle Z0 Z' → Nw σ0 m σ' → m ≤ H'.next → WR Z' σ' H' W → FR Z' σ' n e' a1 → bd.wpIn (RF (some l)) 0 P (QR Z' σ' n H'.next fun y _ H'' => y = .normal ∧ I (i + 1) H'') a1 W))
    (h6 : ∀ Hn, I xs.length Hn → Q .normal (e.set dslot (.tup (.nili :: ds))) Hn) : (Code.rangeFunc g ps as bd).wpIn (RF none) 0 P (QR Z0 σ0 n m Q) a w := by
  have hfv := cOpd_sound he.er hg
  rw [h1] at hfv
  obtain ⟨vf, vc, e1, e2, e3⟩ := hfv.fn_inv
  have e2 : vf = #[] := by
    generalize hl : vf.toList = l2 at e2
    cases e2; exact Array.ext' (by simpa using hl)
  subst e2
  refine wpIn_rangeFunc ?_
  intro fn _
  obtain ⟨L1, z1⟩ := hW.lay (.deferred (some []))
  obtain ⟨L2, z2⟩ := L1.lay (.loop { state := .ready, pending := none, fn, tmps := a.tmps, params := ps, assign := as, body := bd, defers := w.heap.size })
  have hsz : (w.alloc (.deferred (some []))).heap.size = w.heap.size + 1 := World.size_alloc ..
  rw [hsz] at L2 z2
  generalize hrec : (.loop { state := .ready, pending := none, fn, tmps := a.tmps, params := ps, assign := as, body := bd, defers := w.heap.size } : Obj) = rec at L2 z2
  generalize hW1 : (w.alloc (.deferred (some []))).alloc rec = W1 at L2
  refine ⟨w.heap.size + 1, [{ target := .collected w.heap.size, args := #[] }], W1, { target := .fn (.func f) vc, args := #[.func (.yield (w.heap.size + 1)) #[] #[]] }, W1, f, #[.func (.yield (w.heap.size + 1)) #[] #[]] ++ vc, W1, ?_, ?_, fun _ _ => trivial, ?_, rf_depth, ?_⟩
  · rw [← hW1, ← hrec]; exact run_enterLoop_outer _ _ _ _ _
  · simp only [resolve, e1]
    simp [go_sem]
  · simp [invoke, go_sem, run_callFunc h3.1]
  have zz := z1.trans z2
  have hl0 : ((Z.at w.heap.size (.deferred (some []))).at (w.heap.size + 1) rec) (w.heap.size + 1) = some rec := Zt.at_same _ _ _
  have hd0 : ((Z.at w.heap.size (.deferred (some []))).at (w.heap.size + 1) rec) w.heap.size = some (.deferred (some [])) := by
    rw [Zt.at_ne _ _ (by omega), Zt.at_same]
  generalize hZ1 : (Z.at w.heap.size (.deferred (some []))).at (w.heap.size + 1) rec = Z1 at L2 zz hl0 hd0
  have hZ0l : Z0 (w.heap.size + 1) = none := by
    cases hq : Z0 (w.heap.size + 1) with
    | none => rfl
    | some x => have := (Array.getElem?_eq_some_iff.1 (hW.z _ _ (hZ.le _ _ hq))).1; omega
  have hfr := he.mono zz (fun _ _ h => h)
  have key := h3.2 Z1 σ W1 vc.toList (w.heap.size + 1) I L2 (e3.mono zz (fun _ _ h => h)) h4 ?_
  · have ev : vc.toList.toArray = vc := by simp
    rw [ev] at key
    refine callsIn_rf (key.mono ?_)
    rintro y W2 ⟨v, Z2, σ2, H2, rfl, k1, k2, k3, k4, k5⟩
    have hl2 := k1.le _ _ hl0
    have hlw := k4.z _ _ hl2
    rw [← hrec] at hlw hl2
    refine ⟨none, _, run_endLoop hlw (by simp), ?_⟩
    have t2 := k4.turn hl2 notC_loop (.loop { state := .exhausted, pending := none, fn, tmps := a.tmps, params := ps, assign := as, body := bd, defers := w.heap.size })
    refine ⟨_, σ2, .normal, e.set dslot (.tup (.nili :: ds)), H2, Zt.at_le _ (hZ.trans (zz.trans k1)) (.inl hZ0l), hS.trans k2 hm, Nat.le_trans hm k3, t2, ?_, rfl, h6 H2 k5⟩
    have f2 := (hfr.mono k1 (L2.sle k2)).turn hl2 (.loop { state := .exhausted, pending := none, fn, tmps := a.tmps, params := ps, assign := as, body := bd, defers := w.heap.size })
    obtain ⟨dl, d1, d2⟩ := f2.ds
    rw [h2] at d1
    simp only [AV.tup.injEq] at d1; subst d1
    refine ⟨fun t ht => ?_, ⟨_, Env.set_same .., ?_⟩, f2.sz⟩
    · rw [Env.set_ne _ _ (by omega)]; exact f2.er t ht
    · refine .mark ?_ (fun ho => ?_) (fun d hd ht => ?_) d2
      · rw [Zt.at_ne _ _ (by omega)]
        exact k1.le _ _ hd0
      · have ho : Z2.old w.heap.size := ho
        rw [k1.old, zz.old] at ho
        obtain ⟨x, hx⟩ := (hO.le hZ) _ ho
        have := (Array.getElem?_eq_some_iff.1 (hW.z _ _ hx)).1
        omega
      · obtain ⟨dl0, q1, q2⟩ := he.ds
        have hx := q2.marks d hd ht
        have := (Array.getElem?_eq_some_iff.1 (hW.z _ _ hx)).1
        omega
  · intro i x Hi hx hI Z' σ' W vs q1 q2 q3 q4 q5
    obtain ⟨r1, Qa, r2, r3⟩ := h5 i x Hi hx hI q3
    have hl' := q1.le _ _ hl0
    rw [← hrec] at hl'
    have hZ0' : Zle Z0 Z' := hZ.trans (zz.trans q1)
    have hS0' : Nw σ0 m σ' := hS.trans q2 hm
    have hm0 : m ≤ Hi.next := Nat.le_trans hm q3
    exact round_sound hn hps r1 q4 q5 (hfr.mono q1 (L2.sle q2)) hl' (fun a1 f1 => r2 _ Z' σ' a1 W hZ0' hS0' hm0 q4 f1)
      (fun e' H' Z3 σ3 a1 w1 hh p1 p2 p3 p4 p5 => r3 _ e' H' Z3 σ3 a1 w1 hh ((Zt.at_le _ hZ0' (.inl hZ0l)).trans p1) (hS0'.trans p2 hm0) (Nat.le_trans hm0 p3) p4 p5)
end
end Go.AL
namespace Go.AL
inductive ACode where
  | skip
  | reg (ops : List AOper)
  | dreg (plan : List DIt)
  | seq (a b : ACode)
  | cond (c : AOpd) (a b : ACode)
  | block (id : Nat) (a : ACode)
  | loop (a : ACode)
  | exit (id : Nat)
  | ret
  | rng (g : AOpd) (ps : List Nat) (as bd : ACode)
def VS (e : Env) (H : AH) (e' : Env) (H' : AH) : Prop := ∀ (n : Nat) (Z : Zt) (σ : Sg) (w : World) (a : Act), WR Z σ H w → FR Z σ n e a →
  ∃ Z' σ', Zle Z Z' ∧ Nw σ H.next σ' ∧ H.next ≤ H'.next ∧ WR Z' σ' H' w ∧ FR Z' σ' n e' a
theorem VS.refl (e : Env) (H : AH) : VS e H e H := fun _ Z σ _ _ h1 h2 => ⟨Z, σ, Zle.refl _, Nw.refl _ _, Nat.le_refl _, h1, h2⟩
def vsQ (Q : Ex → Env → AH → Prop) : Ex → Env → AH → Prop := fun x e H => match x with
  | .normal => ∃ e'' H'', VS e H e'' H'' ∧ Q .normal e'' H''
  | x => Q x e H
theorem QR.vs {Z0 : Zt} {σ0 : Sg} {n m : Nat} {Q : Ex → Env → AH → Prop} {x : Exit} {a : Act} {w : World} (h : QR Z0 σ0 n m (vsQ Q) x a w) : QR Z0 σ0 n m Q x a w := by
  obtain ⟨Z, σ, y, e, H, h1, h2, h3, h4, h5, h6, h7⟩ := h
  cases y with
  | normal =>
    obtain ⟨e'', H'', g1, g2⟩ := h7
    obtain ⟨Z', σ', k1, k2, k3, k4, k5⟩ := g1 n Z σ w a h4 h5
    exact ⟨Z', σ', .normal, e'', H'', h1.trans k1, h2.trans k2 h3, Nat.le_trans h3 k3, k4, k5, h6, g2⟩
  | exit i => exact ⟨Z, σ, .exit i, e, H, h1, h2, h3, h4, h5, h6, h7⟩
  | ret => exact ⟨Z, σ, .ret, e, H, h1, h2, h3, h4, h5, h6, h7⟩
  | pan v => exact ⟨Z, σ, .pan v, e, H, h1, h2, h3, h4, h5, h6, h7⟩
def rOk : ACode → Bool
  | .reg ops => ops.all (fun o => !o.k.isDefer)
  | .seq a b | .cond _ a b => rOk a && rOk b
  | .block _ a | .loop a => rOk a
  | .rng _ _ _ _ => false
  | _ => true
def D [YC] (P : Program) : ACode → (Ex → Env → AH → Prop) → Env → AH → Prop
  | .skip, Q, e, H => Q .normal e H
  | .reg ops, Q, e, H => aops P ops e H (fun e' H' => vsQ Q .normal e' H') (fun v e' H' => Q (.pan v) e' H')
  | .dreg plan, Q, e, H => adops P (clr plan e) (fun e' H' => vsQ Q .normal e' H') (fun v e' H' => Q (.pan v) e' H') plan e H []
  | .seq a b, Q, e, H => D P a (fun x e' H' => match x with
    | .normal => D P b Q e' H'
    | x => Q x e' H') e H
  | .cond c a b, Q, e, H => match c.ev e with
    | .bool t => (t = true → D P a Q e H) ∧ (t = false → D P b Q e H)
    | _ => False
  | .block id a, Q, e, H => D P a (fun x e' H' => match x with
    | .exit i => if i = id then Q .normal e' H' else Q (.exit i) e' H'
    | x => Q x e' H') e H
  | .loop a, Q, e, H => ∃ (I : Env → AH → Prop) (μ : Env → AH → Nat), I e H ∧ ∀ e H, I e H → D P a (fun x e' H' => match x with
    | .normal => I e' H' ∧ μ e' H' < μ e H
    | x => Q x e' H') e H
  | .exit id, Q, e, H => Q (.exit id) e H
  | .ret, Q, e, H => Q .ret e H
  | .rng g ps as bd, Q, e, H => ∃ (f : FuncId) (caps : List AV) (xs : List (List AV)) (ds : List AV) (I : Nat → AH → Prop), g.ev e = .fn (.func f) [] caps ∧ e dslot = .tup ds ∧ AIt P f caps H xs ∧ I 0 H ∧
      (∀ i x Hi, xs[i]? = some x → I i Hi → H.next ≤ Hi.next → x.length = ps.length ∧ D P as (fun y e' H' => match y with
        | .normal => D P bd (fun z _ H'' => z = .normal ∧ I (i + 1) H'') e' H'
        | _ => False) (rndE e ps x) Hi) ∧
      ∀ Hn, I xs.length Hn → Q .normal (e.set dslot (.tup (.nili :: ds))) Hn
abbrev Hints := List (Nat × List (Nat × Nat × List Nat × Bool))
def comp (P : Program) (hs : Hints) (n : Nat) : Code → Option ACode
  | .skip => some .skip
  | .region _ ops false => (compOpers P n ops ops.toList).map .reg
  | .region id ops true => match hs.lookup id with
    | some h => match mkPlan P n ops h with
      | some plan => if planOk ops plan = true ∧ plan.length = ops.size then some (.dreg plan) else none
      | none => none
    | none => none
  | .seq a b => match comp P hs n a, comp P hs n b with
    | some x, some y => some (.seq x y)
    | _, _ => none
  | .cond c a b => match cOpd c, comp P hs n a, comp P hs n b with
    | some c, some x, some y => some (.cond c x y)
    | _, _, _ => none
  | .block id a => (comp P hs n a).map (.block id)
  | .loop a => (comp P hs n a).map .loop
  | .exit id => some (.exit id)
  | .ret => some .ret
  | .rangeFunc g ps as bd => match cOpd g, comp P hs n as, comp P hs n bd with
    | some g, some x, some y => if ps.toList.all (fun p => decide (p < n)) = true ∧ rOk x = true ∧ rOk y = true then some (.rng g ps.toList x y) else none
    | _, _, _ => none
  | _ => none
section
variable {P : Program}
theorem D_soundR [YC] {hs : Hints} {n : Nat} (hmix : P.follows .mixedOrders = true) (hn : n ≤ dslot) : ∀ (c : Code) (ac : ACode), comp P hs n c = some ac → ∀ (ro : Option Nat), (ro = none ∨ rOk ac = true) →
    ∀ (Z : Zt) (σ : Sg) (H : AH) (e : Env) (a : Act) (w : World) (Z0 : Zt) (σ0 : Sg) (m : Nat) (Q : Ex → Env → AH → Prop), Zle Z0 Z → Nw σ0 m σ → m ≤ H.next → WR Z σ H w → FR Z σ n e a →
      OldOk Z0 → YOk P Z0 σ0 m → D P ac Q e H → c.wpIn (RF ro) 0 P (QR Z0 σ0 n m Q) a w := by
  intro c
  induction c with
  | skip =>
    intro ac hc ro hro Z σ H e a w Z0 σ0 m Q hZ hS hm hW he hO hY h
    simp only [comp, Option.some.injEq] at hc; subst hc
    exact wpIn_skip ⟨Z, σ, .normal, e, H, hZ, hS, hm, hW, he, rfl, h⟩
  | region id ops draw =>
    intro ac hc ro hro Z σ H e a w Z0 σ0 m Q hZ hS hm hW he hO hY h
    cases draw with
    | true =>
      simp only [comp] at hc
      split at hc <;> (try (cases hc; done))
      split at hc <;> (try (cases hc; done))
      rename_i plan hpl
      split at hc <;> (try (cases hc; done))
      rename_i hok
      simp only [Option.some.injEq] at hc; subst hc
      exact Code.wpIn_mono (fun _ _ _ h => h.vs) (plan_region hY (Q := vsQ Q) hmix (planOk_spec hok.1 hpl) hok.2 hn hZ hS hm hW he h)
    | false =>
      simp only [comp, Option.map_eq_some_iff] at hc
      obtain ⟨al, hal, rfl⟩ := hc
      exact Code.wpIn_mono (fun _ _ _ h => h.vs) (wpIn_region_list (aops_sound (Q := vsQ Q) hn hY ops.toList al hal hro Z σ H e a w hZ hS hm hW he h))
  | seq x y ihx ihy =>
    intro ac hc ro hro Z σ H e a w Z0 σ0 m Q hZ hS hm hW he hO hY h
    simp only [comp] at hc
    split at hc
    · rename_i ax ay hx hy
      simp only [Option.some.injEq] at hc; subst hc
      have h1 : ro = none ∨ rOk ax = true := hro.imp_right fun h => by simp only [rOk, Bool.and_eq_true] at h; exact h.1
      have h2 : ro = none ∨ rOk ay = true := hro.imp_right fun h => by simp only [rOk, Bool.and_eq_true] at h; exact h.2
      refine wpIn_seq (Code.wpIn_mono ?_ (ihx ax hx ro h1 Z σ H e a w Z0 σ0 m _ hZ hS hm hW he hO hY h))
      intro ex a' w' hq
      obtain ⟨Z', σ', z, e', H', g1, g2, g3, g4, g5, g6, g7⟩ := hq
      cases z with
      | normal => cases g6; exact ihy ay hy ro h2 Z' σ' H' e' a' w' Z0 σ0 m Q g1 g2 g3 g4 g5 hO hY g7
      | exit i => cases g6; exact ⟨Z', σ', .exit i, e', H', g1, g2, g3, g4, g5, rfl, g7⟩
      | ret => cases g6; exact ⟨Z', σ', .ret, e', H', g1, g2, g3, g4, g5, rfl, g7⟩
      | pan v => obtain ⟨cv, rfl, g6⟩ := g6; exact ⟨Z', σ', .pan v, e', H', g1, g2, g3, g4, g5, ⟨cv, rfl, g6⟩, g7⟩
    · cases hc
  | cond c x y ihx ihy =>
    intro ac hc ro hro Z σ H e a w Z0 σ0 m Q hZ hS hm hW he hO hY h
    simp only [comp] at hc
    split at hc
    · rename_i c' ax ay h1 hx hy
      simp only [Option.some.injEq] at hc; subst hc
      simp only [D] at h
      split at h
      · rename_i t ht
        have hv := cOpd_sound he.er h1
        rw [ht] at hv
        have k1 : ro = none ∨ rOk ax = true := hro.imp_right fun h => by simp only [rOk, Bool.and_eq_true] at h; exact h.1
        have k2 : ro = none ∨ rOk ay = true := hro.imp_right fun h => by simp only [rOk, Bool.and_eq_true] at h; exact h.2
        exact wpIn_cond_split hv.bool_inv (fun ht => ihx ax hx ro k1 Z σ H e a w Z0 σ0 m Q hZ hS hm hW he hO hY (h.1 ht)) (fun ht => ihy ay hy ro k2 Z σ H e a w Z0 σ0 m Q hZ hS hm hW he hO hY (h.2 ht))
      · exact h.elim
    · cases hc
  | block id x ih =>
    intro ac hc ro hro Z σ H e a w Z0 σ0 m Q hZ hS hm hW he hO hY h
    simp only [comp, Option.map_eq_some_iff] at hc
    obtain ⟨ax, hx, rfl⟩ := hc
    refine wpIn_block (Code.wpIn_mono ?_ (ih ax hx ro hro Z σ H e a w Z0 σ0 m _ hZ hS hm hW he hO hY h))
    intro ex a' w' hq
    obtain ⟨Z', σ', z, e', H', g1, g2, g3, g4, g5, g6, g7⟩ := hq
    cases z with
    | normal => cases g6; exact ⟨Z', σ', .normal, e', H', g1, g2, g3, g4, g5, rfl, g7⟩
    | exit i =>
      cases g6
      simp only [] at g7
      by_cases hi : i = id
      · subst hi
        rw [if_pos rfl] at g7
        simp only [Exit.inBlock, if_true]
        exact ⟨Z', σ', .normal, e', H', g1, g2, g3, g4, g5, rfl, g7⟩
      · rw [if_neg hi] at g7
        have hi' : ¬ id = i := fun h => hi h.symm
        simp only [Exit.inBlock, hi, hi', if_false]
        exact ⟨Z', σ', .exit i, e', H', g1, g2, g3, g4, g5, rfl, g7⟩
    | ret => cases g6; exact ⟨Z', σ', .ret, e', H', g1, g2, g3, g4, g5, rfl, g7⟩
    | pan v => obtain ⟨cv, rfl, g6⟩ := g6; exact ⟨Z', σ', .pan v, e', H', g1, g2, g3, g4, g5, ⟨cv, rfl, g6⟩, g7⟩
  | loop x ih =>
    intro ac hc ro hro Z σ H e a w Z0 σ0 m Q hZ hS hm hW he hO hY h
    simp only [comp, Option.map_eq_some_iff] at hc
    obtain ⟨ax, hx, rfl⟩ := hc
    obtain ⟨I, μ, hI, hstep⟩ := h
    refine wpIn_loop_rel (fun k a w => ∃ Z σ H e, Zle Z0 Z ∧ Nw σ0 m σ ∧ m ≤ H.next ∧ WR Z σ H w ∧ FR Z σ n e a ∧ I e H ∧ μ e H = k) ?_ (μ e H) a w ⟨Z, σ, H, e, hZ, hS, hm, hW, he, hI, rfl⟩
    rintro k a w ⟨Z, σ, H, e, hZ, hS, hm, hW, he, hI, rfl⟩
    refine Code.wpIn_mono ?_ (ih ax hx ro hro Z σ H e a w Z0 σ0 m _ hZ hS hm hW he hO hY (hstep e H hI))
    intro ex a' w' hq
    obtain ⟨Z', σ', z, e', H', g1, g2, g3, g4, g5, g6, g7⟩ := hq
    cases z with
    | normal => cases g6; exact ⟨μ e' H', g7.2, Z', σ', H', e', g1, g2, g3, g4, g5, g7.1, rfl⟩
    | exit i => cases g6; exact ⟨Z', σ', .exit i, e', H', g1, g2, g3, g4, g5, rfl, g7⟩
    | ret => cases g6; exact ⟨Z', σ', .ret, e', H', g1, g2, g3, g4, g5, rfl, g7⟩
    | pan v => obtain ⟨cv, rfl, g6⟩ := g6; exact ⟨Z', σ', .pan v, e', H', g1, g2, g3, g4, g5, ⟨cv, rfl, g6⟩, g7⟩
  | exit id =>
    intro ac hc ro hro Z σ H e a w Z0 σ0 m Q hZ hS hm hW he hO hY h
    simp only [comp, Option.some.injEq] at hc; subst hc
    exact wpIn_exit ⟨Z, σ, .exit id, e, H, hZ, hS, hm, hW, he, rfl, h⟩
  | ret =>
    intro ac hc ro hro Z σ H e a w Z0 σ0 m Q hZ hS hm hW he hO hY h
    simp only [comp, Option.some.injEq] at hc; subst hc
    exact wpIn_ret ⟨Z, σ, .ret, e, H, hZ, hS, hm, hW, he, rfl, h⟩
  | rangeFunc g ps as bd iha ihb =>
    intro ac hc ro hro Z σ H e a w Z0 σ0 m Q hZ hS hm hW he hO hY h
    simp only [comp] at hc
    split at hc <;> (try (cases hc; done))
    rename_i g' aa ab hg ha hb
    split at hc <;> (try (cases hc; done))
    rename_i hok
    simp only [Option.some.injEq] at hc; subst hc
    obtain ⟨hps, ra, rb⟩ := hok
    have hps : ∀ p ∈ ps.toList, p < n := fun p hp => by simpa using List.all_eq_true.1 hps p hp
    have hro : ro = none := hro.resolve_right (by simp [rOk])
    subst hro
    obtain ⟨f, caps, xs, ds, I, h1, h2, h3, h4, h5, h6⟩ := h
    refine rng_sound hn hg hps hO hZ hS hm hW he h1 h2 h3 h4 (fun i x Hi hx hI hle => ?_) h6
    obtain ⟨r1, r2⟩ := h5 i x Hi hx hI hle
    refine ⟨by simpa using r1, fun _ e' H' => D P ab (fun z _ H'' => z = .normal ∧ I (i + 1) H'') e' H', fun l Z' σ' a1 W q1 q2 q3 q4 q5 => ?_, fun l e' H' Z' σ' a1 W hh q1 q2 q3 q4 q5 => ?_⟩
    · refine wpIn_mono (iha aa ha _ (.inr ra) Z' σ' Hi _ a1 W Z' σ' Hi.next _ (Zle.refl _) (Nw.refl _ _) (Nat.le_refl _) q4 q5 (hO.le q1) (hY.up q1 q2 q3) r2) ?_
      rintro y a2 w2 ⟨Z2, σ2, z, e2, H2, k1, k2, k3, k4, k5, k6, k7⟩
      refine ⟨Z2, σ2, z, e2, H2, k1, k2, k3, k4, k5, k6, ?_⟩
      cases z <;> first | exact ⟨rfl, k7⟩ | exact k7.elim
    · exact ihb ab hb _ (.inr rb) Z' σ' H' e' a1 W Z' σ' H'.next _ (Zle.refl _) (Nw.refl _ _) (Nat.le_refl _) q4 q5 (hO.le q1) (hY.up q1 q2 q3) hh
  | _ => intro ac hc; simp [comp] at hc
theorem D_sound {hs : Hints} {n : Nat} (hmix : P.follows .mixedOrders = true) (hn : n ≤ dslot) (c : Code) (ac : ACode) (hc : comp P hs n c = some ac) (Z : Zt) (σ : Sg) (H : AH) (e : Env) (a : Act) (w : World) (Z0 : Zt) (σ0 : Sg) (m : Nat) (Q : Ex → Env → AH → Prop)
    (hO : OldOk Z0) (hZ : Zle Z0 Z) (hS : Nw σ0 m σ) (hm : m ≤ H.next) (hW : WR Z σ H w) (he : FR Z σ n e a) (h : D P ac Q e H) : c.wp P (QR Z0 σ0 n m Q) a w :=
  wpIn_wide.1 (D_soundR hmix hn c ac hc none (.inl rfl) Z σ H e a w Z0 σ0 m Q hZ hS hm hW he hO yok_none h)
end
end Go.AL
