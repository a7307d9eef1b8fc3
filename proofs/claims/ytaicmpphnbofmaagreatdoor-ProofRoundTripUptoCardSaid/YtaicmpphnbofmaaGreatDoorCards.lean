/-
  DERIVED. GIVEN WITH THE SEED: THE CARDS: each row of YtaicmpphnbofmaaGreatDoorRows.lean that lists a variable, with what it lists TIED to the program's text (the seventh form; the later family's looks); each row that meets fmt, with fmt's text TOLD by the authors' own Lean function (tested against real Go, not proved from fmt's source: count such statements apart). THE CARD IS WHAT COUNTS. Prove the row's statement (the work); the ties are given (YtaicmpphnbofmaaGreatDoorTie.lean); close each card by the builder's one call (the guide's Derived/Test/ToyasCard.lean, 'card_holds'). Laid BY PROGRAM, IN A SANDBOX (cutbox-door.mjs). By AI agents, Wed Nov 11 2026. No macro, syntax, notation, axiom, sorry.
-/
import Derived.Test.YtaicmpphnbofmaaGreatDoorRows
import GoSem.ClaimSeven
namespace Go.Proofs.YtaicmpphnbofmaaGreatDoor
namespace Rows

/-- THE TIED CARD OF 'univocallaw14.ProofRoundTrip'. -/
def proofRoundTripCard : Claim7 := { stood := { row := proofRoundTripRow, standIns := [], harness := (true, "f6dd14041e79ebefdc58a5d0a378607122b79385ae4747cac74867138e2983eb"), looks := true }, kinds := [], alts := [], laidByText := true, laidKinds := [.data], laidTests := true, laidLooks := .later }
def ProofRoundTripCardSaid : Prop := Claim7.holds Tryz.pinned (.plain (OpenSpec.ofChange proofRoundTripSpec)) proofRoundTripCard

/-- THE SECOND FORM's CARD OF 'univocallaw14.ProofRoundTrip'. -/
def proofRoundTripUptoCard : Claim7 := { stood := { row := proofRoundTripUptoRow, standIns := [], harness := (true, "f6dd14041e79ebefdc58a5d0a378607122b79385ae4747cac74867138e2983eb"), looks := true }, kinds := [], alts := [], laidByText := true, laidKinds := [.data], laidTests := true, laidLooks := .later }
def ProofRoundTripUptoCardSaid : Prop := Claim7.holds Tryz.pinned (.plain (OpenSpec.upto proofRoundTripSpec)) proofRoundTripUptoCard
end Rows
end Go.Proofs.YtaicmpphnbofmaaGreatDoor
