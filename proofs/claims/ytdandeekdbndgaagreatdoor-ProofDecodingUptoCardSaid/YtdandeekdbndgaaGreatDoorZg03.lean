import Derived.Test.YtdandeekdbndgaaGreatDoorRows
import Derived.JoinedOf
import Derived.KernelRfl
/-
  closed facts of the row.
-/
namespace Go.Proofs.YtdandeekdbndgaaGreatDoor
open Go
set_option maxHeartbeats 100000000 in
theorem cj:joinedFacts Tryz.prog 3 Tryz.f3 (Rows.OpenSpec.upto Rows.proofDecodingSpec).bare Rows.proofDecodingUptoRow=true:=by
 unfold joinedFacts
 simp only[Bool.and_eq_true]
 repeat' apply And.intro
 all_goals as_aux_lemma=>kernel_rfl
end Go.Proofs.YtdandeekdbndgaaGreatDoor
