import Derived.Test.YtlopgbdfdfijoaaGreatDoorZu02
/-
  the types, in parts.
-/
set_option linter.unusedSectionVars false
set_option linter.unusedVariables false
set_option linter.unusedSimpArgs false
namespace Go.Proofs.YtlopgbdfdfijoaaGreatDoor
open Go
theorem rf5 : ((List.range 100).all fun j => !Nat.blt (100 * 5 + j) 912 || rowFine Tryz.prog (100 * 5 + j)) = true := by kernel_rfl
theorem rf6 : ((List.range 100).all fun j => !Nat.blt (100 * 6 + j) 912 || rowFine Tryz.prog (100 * 6 + j)) = true := by kernel_rfl
theorem rf7 : ((List.range 100).all fun j => !Nat.blt (100 * 7 + j) 912 || rowFine Tryz.prog (100 * 7 + j)) = true := by kernel_rfl
theorem rf8 : ((List.range 100).all fun j => !Nat.blt (100 * 8 + j) 912 || rowFine Tryz.prog (100 * 8 + j)) = true := by kernel_rfl
theorem rf9 : ((List.range 100).all fun j => !Nat.blt (100 * 9 + j) 912 || rowFine Tryz.prog (100 * 9 + j)) = true := by kernel_rfl
theorem laidOK : laidOutB Tryz.prog = true := by
 unfold laidOutB
 rw [types_size]
 simp only [Bool.and_eq_true]
 refine ⟨⟨all_parts 10 (by omega) fun i hi => ?_, by kernel_rfl⟩, by kernel_rfl⟩
 match i, hi with
 | 0, _ => exact rf0
 | 1, _ => exact rf1
 | 2, _ => exact rf2
 | 3, _ => exact rf3
 | 4, _ => exact rf4
 | 5, _ => exact rf5
 | 6, _ => exact rf6
 | 7, _ => exact rf7
 | 8, _ => exact rf8
 | 9, _ => exact rf9
 | n + 10, h => omega
theorem mapsRec3 : Tryz.prog.mapsRec 3 = false := by
 unfold Program.mapsRec
 rw [book3]
 kernel_rfl
theorem mapsRec4 : Tryz.prog.mapsRec 4 = false := by
 unfold Program.mapsRec
 rw [book4]
 kernel_rfl
theorem mapsRec5 : Tryz.prog.mapsRec 5 = false := by
 unfold Program.mapsRec
 rw [book5]
 kernel_rfl
theorem ifacesRec3 : Tryz.prog.ifacesRec 3 = false := by
 unfold Program.ifacesRec
 rw [book3]
 kernel_rfl
theorem ifacesRec4 : Tryz.prog.ifacesRec 4 = false := by
 unfold Program.ifacesRec
 rw [book4]
 kernel_rfl
theorem ifacesRec5 : Tryz.prog.ifacesRec 5 = false := by
 unfold Program.ifacesRec
 rw [book5]
 kernel_rfl
theorem loopsFrom3 : Tryz.prog.loopsFrom 3 = false := by
 unfold Program.loopsFrom
 rw [book3]
 kernel_rfl
theorem loopsFrom4 : Tryz.prog.loopsFrom 4 = false := by
 unfold Program.loopsFrom
 rw [book4]
 kernel_rfl
theorem loopsFrom5 : Tryz.prog.loopsFrom 5 = false := by
 unfold Program.loopsFrom
 rw [book5]
 kernel_rfl
theorem wideKeysFrom3 : Tryz.prog.wideKeysFrom 3 = false := by
 unfold Program.wideKeysFrom
 rw [book3]
 kernel_rfl
theorem wideKeysFrom4 : Tryz.prog.wideKeysFrom 4 = false := by
 unfold Program.wideKeysFrom
 rw [book4]
 kernel_rfl
theorem wideKeysFrom5 : Tryz.prog.wideKeysFrom 5 = false := by
 unfold Program.wideKeysFrom
 rw [book5]
 kernel_rfl
theorem veiledRec3 : Tryz.prog.veiledRec 3 = false := by
 unfold Program.veiledRec
 rw [book3]
 kernel_rfl
theorem veiledRec4 : Tryz.prog.veiledRec 4 = false := by
 unfold Program.veiledRec
 rw [book4]
 kernel_rfl
theorem veiledRec5 : Tryz.prog.veiledRec 5 = false := by
 unfold Program.veiledRec
 rw [book5]
 kernel_rfl
theorem readableRec3 : Tryz.prog.readableRec 3 = true := by
 unfold Program.readableRec
 rw [book3]
 kernel_rfl
theorem readableRec4 : Tryz.prog.readableRec 4 = true := by
 unfold Program.readableRec
 rw [book4]
 kernel_rfl
theorem readableRec5 : Tryz.prog.readableRec 5 = true := by
 unfold Program.readableRec
 rw [book5]
 kernel_rfl
noncomputable def fullB (t : Nat) : Bool := match Tryz.prog.underlying t with
 | some (.slice e) => decide (0 < Tryz.prog.cellsOf e)
 | _ => true
theorem fu0 : ((List.range 100).all fun j => !Nat.blt (100 * 0 + j) 912 || fullB (100 * 0 + j)) = true := by kernel_rfl
theorem fu1 : ((List.range 100).all fun j => !Nat.blt (100 * 1 + j) 912 || fullB (100 * 1 + j)) = true := by kernel_rfl
theorem fu2 : ((List.range 100).all fun j => !Nat.blt (100 * 2 + j) 912 || fullB (100 * 2 + j)) = true := by kernel_rfl
theorem fu3 : ((List.range 100).all fun j => !Nat.blt (100 * 3 + j) 912 || fullB (100 * 3 + j)) = true := by kernel_rfl
theorem fu4 : ((List.range 100).all fun j => !Nat.blt (100 * 4 + j) 912 || fullB (100 * 4 + j)) = true := by kernel_rfl
theorem fu5 : ((List.range 100).all fun j => !Nat.blt (100 * 5 + j) 912 || fullB (100 * 5 + j)) = true := by kernel_rfl
theorem fu6 : ((List.range 100).all fun j => !Nat.blt (100 * 6 + j) 912 || fullB (100 * 6 + j)) = true := by kernel_rfl
theorem fu7 : ((List.range 100).all fun j => !Nat.blt (100 * 7 + j) 912 || fullB (100 * 7 + j)) = true := by kernel_rfl
theorem fu8 : ((List.range 100).all fun j => !Nat.blt (100 * 8 + j) 912 || fullB (100 * 8 + j)) = true := by kernel_rfl
theorem fu9 : ((List.range 100).all fun j => !Nat.blt (100 * 9 + j) 912 || fullB (100 * 9 + j)) = true := by kernel_rfl
theorem fullAll : (List.range 912).all fullB = true := by
 refine all_parts 10 (by omega) fun i hi => ?_
 match i, hi with
 | 0, _ => exact fu0
 | 1, _ => exact fu1
 | 2, _ => exact fu2
 | 3, _ => exact fu3
 | 4, _ => exact fu4
 | 5, _ => exact fu5
 | 6, _ => exact fu6
 | 7, _ => exact fu7
 | 8, _ => exact fu8
 | 9, _ => exact fu9
 | n + 10, h => omega
theorem fullOK (t e : TypeId) (hl : t < Tryz.prog.types.size) (ht : Tryz.prog.underlying t = some (.slice e)) : 0 < Tryz.prog.cellsOf e := by
 rw [types_size] at hl
 have h := List.all_eq_true.1 fullAll t (List.mem_range.2 hl)
 unfold fullB at h
 rw [ht] at h
 simpa using h
end Go.Proofs.YtlopgbdfdfijoaaGreatDoor
