/-
  DERIVED. GIVEN WITH THE SEED: THE CARDS: each row of YtdcdbabponelcaaGreatDoorRows.lean that lists a variable, with what it lists TIED to the program's text (the seventh form; the later family's looks); each row that meets fmt, with fmt's text TOLD by the authors' own Lean function (tested against real Go, not proved from fmt's source: count such statements apart). THE CARD IS WHAT COUNTS. Prove the row's statement (the work); the ties are given (YtdcdbabponelcaaGreatDoorTie.lean); close each card by the builder's one call (the guide's Derived/Test/ToyasCard.lean, 'card_holds'). Laid BY PROGRAM, IN A SANDBOX (cutbox-door.mjs). By AI agents, Wed Nov 11 2026. No macro, syntax, notation, axiom, sorry.
-/
import Derived.Test.YtdcdbabponelcaaGreatDoorRows
import GoSem.ClaimSeven
namespace Go.Proofs.YtdcdbabponelcaaGreatDoor
namespace Rows

/-- THE TIED CARD OF 'univocallaw16.SolverMatchesReference'. -/
def solverMatchesReferenceCard : Claim7 := { stood := { row := solverMatchesReferenceRow, standIns := [], harness := (true, "8c059e5443ff7454bfd96bb07483a1d6a9a5a444315d4ea49f2fcd4f6959e0bf"), looks := true }, kinds := [], alts := [], laidByText := true, laidKinds := [.data], laidTests := true, laidLooks := .later }
def SolverMatchesReferenceCardSaid : Prop := Claim7.holds Tryz.pinned (.plain (OpenSpec.ofChange solverMatchesReferenceSpec)) solverMatchesReferenceCard

/-- THE TIED CARD OF 'univocallaw16.SolverRejectsInvalid'. -/
def solverRejectsInvalidCard : Claim7 := { stood := { row := solverRejectsInvalidRow, standIns := [], harness := (true, "8c059e5443ff7454bfd96bb07483a1d6a9a5a444315d4ea49f2fcd4f6959e0bf"), looks := true }, kinds := [], alts := [], laidByText := true, laidKinds := [.data], laidTests := true, laidLooks := .later }
def SolverRejectsInvalidCardSaid : Prop := Claim7.holds Tryz.pinned (.plain (OpenSpec.ofChange solverRejectsInvalidSpec)) solverRejectsInvalidCard

/-- THE SECOND FORM's CARD OF 'univocallaw16.SolverMatchesReference'. -/
def solverMatchesReferenceUptoCard : Claim7 := { stood := { row := solverMatchesReferenceUptoRow, standIns := [], harness := (true, "8c059e5443ff7454bfd96bb07483a1d6a9a5a444315d4ea49f2fcd4f6959e0bf"), looks := true }, kinds := [], alts := [], laidByText := true, laidKinds := [.data], laidTests := true, laidLooks := .later }
def SolverMatchesReferenceUptoCardSaid : Prop := Claim7.holds Tryz.pinned (.plain (OpenSpec.upto solverMatchesReferenceSpec)) solverMatchesReferenceUptoCard

/-- THE SECOND FORM's CARD OF 'univocallaw16.SolverRejectsInvalid'. -/
def solverRejectsInvalidUptoCard : Claim7 := { stood := { row := solverRejectsInvalidUptoRow, standIns := [], harness := (true, "8c059e5443ff7454bfd96bb07483a1d6a9a5a444315d4ea49f2fcd4f6959e0bf"), looks := true }, kinds := [], alts := [], laidByText := true, laidKinds := [.data], laidTests := true, laidLooks := .later }
def SolverRejectsInvalidUptoCardSaid : Prop := Claim7.holds Tryz.pinned (.plain (OpenSpec.upto solverRejectsInvalidSpec)) solverRejectsInvalidUptoCard
end Rows
end Go.Proofs.YtdcdbabponelcaaGreatDoor
