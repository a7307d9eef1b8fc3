import Derived.Test.YtlopgbdfdfijoaaGreatDoorProg
import Derived.JoinedOf
import Derived.KernelRfl
/-
  the types, in parts.
-/
set_option linter.unusedSectionVars false
set_option linter.unusedVariables false
set_option linter.unusedSimpArgs false
namespace Go.Proofs.YtlopgbdfdfijoaaGreatDoor
open Go
theorem grown_fix {P : Program} {l : List TypeId} (h : P.grow l = l) : ∀ n, P.grown n l = l
  | 0 => rfl
  | n + 1 => by unfold Program.grown; rw [h]; exact grown_fix h n
theorem book5 : Tryz.prog.book 5 = [5] := grown_fix (by kernel_rfl) _
theorem book3 : Tryz.prog.book 3 = [3] := grown_fix (by kernel_rfl) _
theorem book4 : Tryz.prog.book 4 = [4] := grown_fix (by kernel_rfl) _
theorem types_size : Tryz.prog.types.size = 912 := by kernel_rfl
theorem all_parts {p : Nat → Bool} {n : Nat} (k : Nat) (hk : n ≤ 100 * k) (h : ∀ i, i < k → ((List.range 100).all fun j => !Nat.blt (100 * i + j) n || p (100 * i + j)) = true) : (List.range n).all p = true := by
  refine List.all_eq_true.2 fun t ht => ?_
  have ht := List.mem_range.1 ht
  have h1 := List.all_eq_true.1 (h (t / 100) (by omega)) (t % 100) (List.mem_range.2 (by omega))
  have e : 100 * (t / 100) + t % 100 = t := by omega
  rw [e] at h1
  have h2 : Nat.blt t n = true := by rw [Nat.blt_eq]; exact ht
  rw [h2] at h1
  simpa using h1
end Go.Proofs.YtlopgbdfdfijoaaGreatDoor
