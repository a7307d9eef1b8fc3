import Derived.Test.YtlopgbdfdfijoaaGreatDoorZu05
import Derived.Test.YtlopgbdfdfijoaaGreatDoorRows
import Derived.JoinedOf
import Derived.KernelRfl
import GoSem.ClaimGoes
/-
  closed facts of the row.
-/
set_option linter.unusedSectionVars false
set_option linter.unusedVariables false
set_option linter.unusedSimpArgs false
namespace Go.Proofs.YtlopgbdfdfijoaaGreatDoor
open Go
abbrev rw0 : OpenClaim := Rows.tenantQueueIsLimitedRow
abbrev sp0 : ChangeSpec := (OpenSpec.ofChange Rows.tenantQueueIsLimitedSpec).bare
theorem ts1 : Tryz.f3.params.toList ++ sp0.plain.varTypes Tryz.prog = [5, 5, 3] := by kernel_rfl
theorem ts2 : Tryz.f3.resultTypes.toList = [4] := by kernel_rfl
theorem ps1 : Tryz.f3.params = #[5, 5, 3] := by kernel_rfl
theorem rs1 : Tryz.f3.resultTypes = #[4] := by kernel_rfl
theorem lt4 : decide (4 < Tryz.prog.types.size) = true := by rw [types_size]; rfl
theorem q4 : Tryz.f3.params.all (Tryz.prog.readableRec ·) = true := by
 rw [ps1]
 simp [readableRec3, readableRec5]
theorem q14 : (rw0.maps == (Tryz.f3.params.toList ++ sp0.plain.varTypes Tryz.prog).any (Tryz.prog.mapsRec ·)) = true := by
 rw [ts1]; simp only [List.any_cons, List.any_nil, mapsRec3, mapsRec5]; rfl
theorem q15 : (rw0.ifaces == (Tryz.f3.params.toList ++ sp0.plain.varTypes Tryz.prog).any (Tryz.prog.ifacesRec ·)) = true := by
 rw [ts1]; simp only [List.any_cons, List.any_nil, ifacesRec3, ifacesRec5]; rfl
theorem q17 : (rw0.loops == (Tryz.f3.params.toList ++ sp0.plain.varTypes Tryz.prog).any (Tryz.prog.loopsFrom ·)) = true := by
 rw [ts1]; simp only [List.any_cons, List.any_nil, loopsFrom3, loopsFrom5]; rfl
theorem q18 : (rw0.wideKeys == (Tryz.f3.params.toList ++ sp0.plain.varTypes Tryz.prog ++ Tryz.f3.resultTypes.toList).any (Tryz.prog.wideKeysFrom ·)) = true := by
 rw [ts1, ts2]; simp only [List.cons_append, List.nil_append, List.any_cons, List.any_nil, wideKeysFrom3, wideKeysFrom4, wideKeysFrom5]; rfl
theorem q20 : Tryz.f3.resultTypes.all (fun t => Tryz.prog.readableRec t && decide (t < Tryz.prog.types.size)) = true := by
 rw [rs1]
 simp [readableRec4, types_size]
theorem q21 : (rw0.ifacesOut == Tryz.f3.resultTypes.toList.any (Tryz.prog.ifacesRec ·)) = true := by
 rw [ts2]; simp only [List.any_cons, List.any_nil, ifacesRec4]; rfl
theorem q22 : (rw0.loopsOut == Tryz.f3.resultTypes.toList.any (Tryz.prog.loopsFrom ·)) = true := by
 rw [ts2]; simp only [List.any_cons, List.any_nil, loopsFrom4]; rfl
theorem q31 : (rw0.veiled == (Tryz.f3.params.toList ++ sp0.plain.varTypes Tryz.prog ++ Tryz.f3.resultTypes.toList).any (Tryz.prog.veiledRec ·)) = true := by
 rw [ts1, ts2]; simp only [List.cons_append, List.nil_append, List.any_cons, List.any_nil, veiledRec3, veiledRec4, veiledRec5]; rfl
theorem laidTypes : (rw0.laid.filterMap fun x => (Tryz.prog.globalNamed x.1).bind fun g => (Tryz.prog.globals[g]?).map (·.type)) = [521, 750, 48, 869, 869, 795] := by kernel_rfl
theorem q32 : rw0.veiledFits Tryz.prog Tryz.f3.params.toList (Tryz.f3.params.toList ++ sp0.plain.varTypes Tryz.prog ++ Tryz.f3.resultTypes.toList) = true := by
 unfold OpenClaim.veiledFits
 rw [laidTypes, ts1, ts2]
 have h : (([5, 5, 3] ++ [4] ++ [521, 750, 48, 869, 869, 795] : List TypeId).all (Tryz.prog.veiledOwn ·)) = true := by
  simp only [List.cons_append, List.nil_append, List.all_cons, List.all_nil, own_of veiledRec3, own_of veiledRec4, own_of veiledRec5, own_of veil521, own_of veil750, own_of veil48, own_of veil869, own_of veil795, Bool.and_self]
 rw [h]; rfl
set_option maxHeartbeats 100000000 in
theorem cj : joinedFacts Tryz.prog 3 Tryz.f3 (OpenSpec.ofChange Rows.tenantQueueIsLimitedSpec).bare Rows.tenantQueueIsLimitedRow = true := by
 unfold joinedFacts
 simp only [Bool.and_eq_true]
 refine ⟨⟨⟨⟨⟨⟨⟨⟨⟨⟨⟨⟨⟨⟨⟨⟨⟨⟨⟨⟨⟨⟨⟨⟨⟨⟨⟨⟨⟨⟨⟨?k1, laidOK⟩, ?k3⟩, q4⟩, ?k5⟩, ?k6⟩, ?k7⟩, ?k8⟩, ?k9⟩, ?k10⟩, ?k11⟩, ?k12⟩, ?k13⟩, q14⟩, q15⟩, ?k16⟩, q17⟩, q18⟩, ?k19⟩, q20⟩, q21⟩, q22⟩, ?k23⟩, ?k24⟩, ?k25⟩, ?k26⟩, ?k27⟩, ?k28⟩, ?k29⟩, ?k30⟩, q31⟩, q32⟩
 case k10 => rw [inPlace3]; rfl
 case k11 => rw [unf3]; rfl
 case k12 => rw [rec3]; rfl
 case k13 => rw [named3]; rfl
 all_goals as_aux_lemma => kernel_rfl
end Go.Proofs.YtlopgbdfdfijoaaGreatDoor
namespace Go.Proofs.YtlopgbdfdfijoaaGreatDoor
open Go
theorem noGo : Tryz.prog.funcs.any Func.goes = false := by kernel_rfl
theorem noGoes (f : FuncId) : Tryz.prog.goes f = false := by
  unfold Program.goes
  rw [Bool.or_eq_false_iff, noGo, Bool.and_false]
  refine ⟨?_, rfl⟩
  rw [List.any_eq_false]
  intro g _ hg
  cases hf : Tryz.prog.funcs[g]? with
  | none => rw [hf] at hg; cases hg
  | some fn =>
    rw [hf] at hg
    have h1 : fn.goes = true := hg
    have h2 := Array.any_eq_false'.1 noGo fn (Array.mem_of_getElem? hf)
    exact h2 h1
theorem goes_gen (P : Program) (c : OpenClaim) (hs : c.start = .entering) (h : ∀ f, P.goes f = false) : false = c.goesBy P := by
  unfold OpenClaim.goesBy Program.goesAt Program.goesFrom
  rw [hs]
  cases P.funcNamed c.func <;> simp [h]
theorem goesNo : false = Rows.tenantQueueIsLimitedRow.goesBy Tryz.prog := goes_gen _ _ rfl noGoes
end Go.Proofs.YtlopgbdfdfijoaaGreatDoor
