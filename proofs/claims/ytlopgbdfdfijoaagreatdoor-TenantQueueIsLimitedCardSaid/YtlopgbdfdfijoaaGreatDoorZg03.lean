import Derived.Test.YtlopgbdfdfijoaaGreatDoorZg01
import Derived.Test.YtlopgbdfdfijoaaGreatDoorZt02
import Derived.Test.YtlopgbdfdfijoaaGreatDoorZg02
/-
  This text proves that the law TenantQueueIsLimited returns true, and that its arguments read as before, for all arguments; its conditions: the table math/bits.deBruijn64tab holds what it is laid with, and those that the given statement names.
-/
set_option linter.unusedSectionVars false
set_option linter.unusedVariables false
set_option linter.unusedSimpArgs false
namespace Go.Proofs.YtlopgbdfdfijoaaGreatDoor
open Go Go.AL Go.ChangeShapes Go.WideShapes Go.ChangeAt Go.RowKit
def cellOf : DataW Unit → Value
 | .lit (.int k z) => .int k z
 | _ => .bool false
def rowOf : DataW Unit → Array Value
 | .agg l => (l.map cellOf).toArray
 | _ => #[]
noncomputable def low : Nat := (World.holding Tryz.prog default ⟨#[], #[], []⟩).heap.size
noncomputable def layAt (h : Array Obj) (g : Nat) (cs : Array Value) : Array Obj := h.modify g fun
 | .cells _ t frozen => .cells cs t frozen
 | o => o
abbrev textS : ByteArray := { data := #[105, 110, 118, 97, 108, 105, 100, 32, 115, 121, 110, 116, 97, 120] }
abbrev textR : ByteArray := { data := #[118, 97, 108, 117, 101, 32, 111, 117, 116, 32, 111, 102, 32, 114, 97, 110, 103, 101] }
noncomputable def laidWorld (os : Os) : World :=
 let w0 := World.holding Tryz.prog os ⟨#[.cells #[.string textS] 897, .cells #[.string textR] 897], #[], []⟩
 { w0 with heap := layAt (layAt (layAt (layAt (layAt (layAt w0.heap 0 (rowOf Rows.laid_math_bits_deBruijn64tab)) 2 (rowOf Rows.laid_internal_strconv_uint64pow10)) 4 (rowOf Rows.laid_math_bits_deBruijn32tab)) 3 (rowOf Rows.laid_univocal_digest_rounds))
  5 #[.iface 895 (.pointer (some ⟨low, 0, none⟩))]) 6 #[.iface 895 (.pointer (some ⟨low + 1, 0, none⟩))] }
def wArgs : Array Value := #[.int .u8 0, .int .u8 0, .int .i64 0]
theorem laid_met (os : Os) : laidMet Tryz.prog Rows.tenantQueueIsLimitedRow.laid ((laidWorld os).forCall (fun _ _ => 0) ⟨#[], wArgs, []⟩).memory :=
  laidMet_of_run' 8 (by kernel_rfl) (by kernel_rfl)
theorem reads (os : Os) {H : Type} (enc : TypeId × Value → H) : ∃ places, DataW.whole enc Tryz.prog ((laidWorld os).forCall (fun _ _ => 0) ⟨#[], wArgs, []⟩).memory Tryz.f3.params.toList Rows.tenantQueueIsLimitedSpec.vars false wArgs.toList 8 = some ([.lit (.int .u8 0), .lit (.int .u8 0), .lit (.int .i64 0)], [], places) :=
  ⟨[], by kernel_rfl⟩
set_option maxRecDepth 100000 in
theorem lifted (os : Os) (started : os.Started) (H : Type) (enc : TypeId × Value → H) (F : Stop.Interp) :
    ReturnsInHanded {} Tryz.checked os 3 .any ((OpenSpec.ofChange Rows.tenantQueueIsLimitedSpec).preRow enc Tryz.prog Tryz.f3 Rows.tenantQueueIsLimitedRow.domain false Rows.tenantQueueIsLimitedRow.laid) (((OpenSpec.ofChange Rows.tenantQueueIsLimitedSpec).at F).post enc Tryz.prog Tryz.f3 false true false false) := by
  obtain ⟨places, hx⟩ := reads os enc
  refine returnsInHanded_of_row (C := Tryz.checked) (s := OpenSpec.ofChange Rows.tenantQueueIsLimitedSpec) own started (by kernel_rfl) Tryz.func3
    (witness_row_at (enc := enc) (C := Tryz.checked) false (laidWorld os) wArgs rfl (by kernel_rfl) (by kernel_rfl) (by kernel_rfl)
      (OpenSpec.preRow_of_cond 8 hx (by kernel_rfl) (fun k hk => by cases hk) (by kernel_rfl) (laid_met os))) ?_
  intro W base args ds gs before hval hW _ _ _ hL _ _
  exact contract H enc W base args ds gs before hval hW hL
theorem hinst : Tryz.f3.isInstance Tryz.prog Rows.tenantQueueIsLimitedRow.origin Rows.tenantQueueIsLimitedRow.targs := of_decide_eq_true (by kernel_rfl)
theorem hwrap : Tryz.f3.isWrapper Tryz.prog Rows.tenantQueueIsLimitedRow.wrapper Rows.tenantQueueIsLimitedRow.mainSum := by
  unfold Func.isWrapper
  first | (rw [if_pos (by decide +kernel)]; kernel_rfl) | (rw [if_neg (by decide +kernel)]; exact ⟨rfl, rfl⟩)
theorem hname : Tryz.prog.funcNamed Rows.tenantQueueIsLimitedRow.func = some 3 := by kernel_rfl
theorem said : Rows.TenantQueueIsLimitedSaid :=
  OpenClaim.holds_of_cond 3 Tryz.f3 rfl rfl rfl rfl rfl rfl rfl ⟨rfl, rfl, rfl, rfl, rfl⟩ rfl rfl rfl rfl rfl hname Tryz.func3 cj hinst hwrap
    (fun os started H enc _ F => by rw [OpenClaim.pre_eq_preRow]; exact lifted os started H enc F)
theorem plain (f : FuncId) (fn : Func) (hf : Tryz.pinned.checked.prog.funcNamed "univocal/univocallaw35.TenantQueueIsLimited" = some f) (hfn : Tryz.pinned.checked.prog.funcs[f]? = some fn) :
    true = Tryz.pinned.checked.prog.looks [] ∧ ∀ (j : Nat) t, fn.params[j]? = some t → Tryz.pinned.checked.prog.wantsStandIn t = false := by
  obtain rfl : f = 3 := Option.some.inj ((show Tryz.prog.funcNamed "univocal/univocallaw35.TenantQueueIsLimited" = some 3 by kernel_rfl).symm.trans hf) |>.symm
  obtain rfl : fn = Tryz.f3 := (Option.some.inj (Tryz.func3.symm.trans hfn)).symm
  refine ⟨by kernel_rfl, fun j t ht => ?_⟩
  rw [Tryz.params3] at ht
  have hm := Array.mem_of_getElem? ht
  simp only [List.mem_toArray, List.mem_cons, List.not_mem_nil, or_false] at hm
  rcases hm with rfl | rfl | rfl
  · exact (show Tryz.prog.wantsStandIn 5 = false by kernel_rfl)
  · exact (show Tryz.prog.wantsStandIn 5 = false by kernel_rfl)
  · exact (show Tryz.prog.wantsStandIn 3 = false by kernel_rfl)
theorem card : Rows.TenantQueueIsLimitedCardSaid :=
  Claim7.holds_tied_plain_at .later [] _ _ _ _ said (fun _ h => by cases h) (by kernel_rfl) (fun _ h => by cases h) tenantQueueIsLimited_row_tie rfl ⟨rfl, rfl⟩ (by kernel_rfl) rfl plain goesNo
end Go.Proofs.YtlopgbdfdfijoaaGreatDoor
