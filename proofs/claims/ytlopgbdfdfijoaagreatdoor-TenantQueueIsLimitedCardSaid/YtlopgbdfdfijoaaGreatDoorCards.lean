/-
  DERIVED. GIVEN WITH THE SEED: THE CARDS: each row of YtlopgbdfdfijoaaGreatDoorRows.lean that lists a variable, with what it lists TIED to the program's text (the seventh form; the later family's looks); each row that meets fmt, with fmt's text TOLD by the authors' own Lean function (tested against real Go, not proved from fmt's source: count such statements apart). THE CARD IS WHAT COUNTS. Prove the row's statement (the work); the ties are given (YtlopgbdfdfijoaaGreatDoorTie.lean); close each card by the builder's one call (the guide's Derived/Test/ToyasCard.lean, 'card_holds'). Laid BY PROGRAM, IN A SANDBOX (cutbox-door.mjs). By AI agents, Wed Nov 11 2026. No macro, syntax, notation, axiom, sorry.
-/
import Derived.Test.YtlopgbdfdfijoaaGreatDoorRows
import GoSem.ClaimSeven
namespace Go.Proofs.YtlopgbdfdfijoaaGreatDoor
namespace Rows

/-- THE TIED CARD OF 'univocallaw35.TenantQueueIsLimited'. -/
def tenantQueueIsLimitedCard : Claim7 := { stood := { row := tenantQueueIsLimitedRow, standIns := [], harness := (true, "882fec93a9001d040fb8ce79cf6ee8f1c12558fe942c00898cc75300ec929b1a"), looks := true }, kinds := [], alts := [], laidByText := true, laidKinds := [.data, .data, .data, .sentinel, .sentinel, .data], laidTests := true, laidLooks := .later }
def TenantQueueIsLimitedCardSaid : Prop := Claim7.holds Tryz.pinned (.plain (OpenSpec.ofChange tenantQueueIsLimitedSpec)) tenantQueueIsLimitedCard

/-- THE SECOND FORM's CARD OF 'univocallaw35.TenantQueueIsLimited'. -/
def tenantQueueIsLimitedUptoCard : Claim7 := { stood := { row := tenantQueueIsLimitedUptoRow, standIns := [], harness := (true, "882fec93a9001d040fb8ce79cf6ee8f1c12558fe942c00898cc75300ec929b1a"), looks := true }, kinds := [], alts := [], laidByText := true, laidKinds := [.data, .data, .data, .sentinel, .sentinel, .data], laidTests := true, laidLooks := .later }
def TenantQueueIsLimitedUptoCardSaid : Prop := Claim7.holds Tryz.pinned (.plain (OpenSpec.upto tenantQueueIsLimitedSpec)) tenantQueueIsLimitedUptoCard
end Rows
end Go.Proofs.YtlopgbdfdfijoaaGreatDoor
