/-
  DERIVED. GIVEN WITH THE SEED: THE CARDS: each row of YtdandeekdbndgaaGreatDoorRows.lean that lists a variable, with what it lists TIED to the program's text (the seventh form; the later family's looks); each row that meets fmt, with fmt's text TOLD by the authors' own Lean function (tested against real Go, not proved from fmt's source: count such statements apart). THE CARD IS WHAT COUNTS. Prove the row's statement (the work); the ties are given (YtdandeekdbndgaaGreatDoorTie.lean); close each card by the builder's one call (the guide's Derived/Test/ToyasCard.lean, 'card_holds'). Laid BY PROGRAM, IN A SANDBOX (cutbox-door.mjs). By AI agents, Wed Nov 11 2026. No macro, syntax, notation, axiom, sorry.
-/
import Derived.Test.YtdandeekdbndgaaGreatDoorRows
import GoSem.ClaimSeven
namespace Go.Proofs.YtdandeekdbndgaaGreatDoor
namespace Rows

/-- THE TIED CARD OF 'univocallaw14.ProofDecoding'. -/
def proofDecodingCard : Claim7 := { stood := { row := proofDecodingRow, standIns := [], harness := (true, "bea78dfbfcfda388ec3e697a3a07fcc9ef1eb18babd9c0830b742a127bbd2283"), looks := true }, kinds := [], alts := [], laidByText := true, laidKinds := [.data], laidTests := true, laidLooks := .later }
def ProofDecodingCardSaid : Prop := Claim7.holds Tryz.pinned (.plain (OpenSpec.ofChange proofDecodingSpec)) proofDecodingCard

/-- THE SECOND FORM's CARD OF 'univocallaw14.ProofDecoding'. -/
def proofDecodingUptoCard : Claim7 := { stood := { row := proofDecodingUptoRow, standIns := [], harness := (true, "bea78dfbfcfda388ec3e697a3a07fcc9ef1eb18babd9c0830b742a127bbd2283"), looks := true }, kinds := [], alts := [], laidByText := true, laidKinds := [.data], laidTests := true, laidLooks := .later }
def ProofDecodingUptoCardSaid : Prop := Claim7.holds Tryz.pinned (.plain (OpenSpec.upto proofDecodingSpec)) proofDecodingUptoCard
end Rows
end Go.Proofs.YtdandeekdbndgaaGreatDoor
