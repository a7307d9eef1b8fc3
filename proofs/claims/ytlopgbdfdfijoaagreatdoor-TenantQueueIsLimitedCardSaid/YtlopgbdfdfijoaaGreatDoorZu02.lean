import Derived.Test.YtlopgbdfdfijoaaGreatDoorZu01
/-
  the types, in parts.
-/
set_option linter.unusedSectionVars false
set_option linter.unusedVariables false
set_option linter.unusedSimpArgs false
namespace Go.Proofs.YtlopgbdfdfijoaaGreatDoor
open Go
theorem rf0 : ((List.range 100).all fun j => !Nat.blt (100 * 0 + j) 912 || rowFine Tryz.prog (100 * 0 + j)) = true := by kernel_rfl
theorem rf1 : ((List.range 100).all fun j => !Nat.blt (100 * 1 + j) 912 || rowFine Tryz.prog (100 * 1 + j)) = true := by kernel_rfl
theorem rf2 : ((List.range 100).all fun j => !Nat.blt (100 * 2 + j) 912 || rowFine Tryz.prog (100 * 2 + j)) = true := by kernel_rfl
theorem rf3 : ((List.range 100).all fun j => !Nat.blt (100 * 3 + j) 912 || rowFine Tryz.prog (100 * 3 + j)) = true := by kernel_rfl
theorem rf4 : ((List.range 100).all fun j => !Nat.blt (100 * 4 + j) 912 || rowFine Tryz.prog (100 * 4 + j)) = true := by kernel_rfl
end Go.Proofs.YtlopgbdfdfijoaaGreatDoor
