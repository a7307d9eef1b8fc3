/-
  DERIVED. GIVEN WITH THE SEED: THE CARDS: each row of YtlmkmpomgdbjhaaGreatDoorRows.lean that lists a variable, with what it lists TIED to the program's text (the seventh form; the later family's looks); each row that meets fmt, with fmt's text TOLD by the authors' own Lean function (tested against real Go, not proved from fmt's source: count such statements apart). THE CARD IS WHAT COUNTS. Prove the row's statement (the work); the ties are given (YtlmkmpomgdbjhaaGreatDoorTie.lean); close each card by the builder's one call (the guide's Derived/Test/ToyasCard.lean, 'card_holds'). Laid BY PROGRAM, IN A SANDBOX (cutbox-door.mjs). By AI agents, Wed Nov 11 2026. No macro, syntax, notation, axiom, sorry.
-/
import Derived.Test.YtlmkmpomgdbjhaaGreatDoorRows
import GoSem.ClaimSeven
namespace Go.Proofs.YtlmkmpomgdbjhaaGreatDoor
namespace Rows

/-- THE TIED CARD OF 'univocallaw28.SliceOpenMatchesReference'. -/
def sliceOpenMatchesReferenceCard : Claim7 := { stood := { row := sliceOpenMatchesReferenceRow, standIns := [], harness := (true, "421757404299b8229e1eb4e01cdff9182e1eb9ba98026958d5299631272d576f"), looks := true }, kinds := [], alts := [], laidByText := true, laidKinds := [.data, .data, .data, .sentinel, .sentinel, .data], laidTests := true, laidLooks := .later }
def SliceOpenMatchesReferenceCardSaid : Prop := Claim7.holds Tryz.pinned (.plain (OpenSpec.ofChange sliceOpenMatchesReferenceSpec)) sliceOpenMatchesReferenceCard

/-- THE TIED CARD OF 'univocallaw28.SliceRoundTrip'. -/
def sliceRoundTripCard : Claim7 := { stood := { row := sliceRoundTripRow, standIns := [], harness := (true, "421757404299b8229e1eb4e01cdff9182e1eb9ba98026958d5299631272d576f"), looks := true }, kinds := [], alts := [], laidByText := true, laidKinds := [.data, .data, .data, .sentinel, .sentinel, .data], laidTests := true, laidLooks := .later }
def SliceRoundTripCardSaid : Prop := Claim7.holds Tryz.pinned (.plain (OpenSpec.ofChange sliceRoundTripSpec)) sliceRoundTripCard

/-- THE TIED CARD OF 'univocallaw28.SliceIntegrity'. -/
def sliceIntegrityCard : Claim7 := { stood := { row := sliceIntegrityRow, standIns := [], harness := (true, "421757404299b8229e1eb4e01cdff9182e1eb9ba98026958d5299631272d576f"), looks := true }, kinds := [], alts := [], laidByText := true, laidKinds := [.data, .data, .data, .sentinel, .sentinel, .data], laidTests := true, laidLooks := .later }
def SliceIntegrityCardSaid : Prop := Claim7.holds Tryz.pinned (.plain (OpenSpec.ofChange sliceIntegritySpec)) sliceIntegrityCard

/-- THE SECOND FORM's CARD OF 'univocallaw28.SliceOpenMatchesReference'. -/
def sliceOpenMatchesReferenceUptoCard : Claim7 := { stood := { row := sliceOpenMatchesReferenceUptoRow, standIns := [], harness := (true, "421757404299b8229e1eb4e01cdff9182e1eb9ba98026958d5299631272d576f"), looks := true }, kinds := [], alts := [], laidByText := true, laidKinds := [.data, .data, .data, .sentinel, .sentinel, .data], laidTests := true, laidLooks := .later }
def SliceOpenMatchesReferenceUptoCardSaid : Prop := Claim7.holds Tryz.pinned (.plain (OpenSpec.upto sliceOpenMatchesReferenceSpec)) sliceOpenMatchesReferenceUptoCard

/-- THE SECOND FORM's CARD OF 'univocallaw28.SliceRoundTrip'. -/
def sliceRoundTripUptoCard : Claim7 := { stood := { row := sliceRoundTripUptoRow, standIns := [], harness := (true, "421757404299b8229e1eb4e01cdff9182e1eb9ba98026958d5299631272d576f"), looks := true }, kinds := [], alts := [], laidByText := true, laidKinds := [.data, .data, .data, .sentinel, .sentinel, .data], laidTests := true, laidLooks := .later }
def SliceRoundTripUptoCardSaid : Prop := Claim7.holds Tryz.pinned (.plain (OpenSpec.upto sliceRoundTripSpec)) sliceRoundTripUptoCard

/-- THE SECOND FORM's CARD OF 'univocallaw28.SliceIntegrity'. -/
def sliceIntegrityUptoCard : Claim7 := { stood := { row := sliceIntegrityUptoRow, standIns := [], harness := (true, "421757404299b8229e1eb4e01cdff9182e1eb9ba98026958d5299631272d576f"), looks := true }, kinds := [], alts := [], laidByText := true, laidKinds := [.data, .data, .data, .sentinel, .sentinel, .data], laidTests := true, laidLooks := .later }
def SliceIntegrityUptoCardSaid : Prop := Claim7.holds Tryz.pinned (.plain (OpenSpec.upto sliceIntegritySpec)) sliceIntegrityUptoCard
end Rows
end Go.Proofs.YtlmkmpomgdbjhaaGreatDoor
