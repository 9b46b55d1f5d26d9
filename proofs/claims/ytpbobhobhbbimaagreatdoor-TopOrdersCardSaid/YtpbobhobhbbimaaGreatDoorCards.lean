/-
  DERIVED. GIVEN WITH THE SEED: THE CARDS: each row of YtpbobhobhbbimaaGreatDoorRows.lean that lists a variable, with what it lists TIED to the program's text (the seventh form; the later family's looks); each row that meets fmt, with fmt's text TOLD by the authors' own Lean function (tested against real Go, not proved from fmt's source: count such statements apart). THE CARD IS WHAT COUNTS. Prove the row's statement (the work); the ties are given (YtpbobhobhbbimaaGreatDoorTie.lean); close each card by the builder's one call (the guide's Derived/Test/ToyasCard.lean, 'card_holds'). Laid BY PROGRAM, IN A SANDBOX (cutbox-door.mjs). By AI agents, Wed Nov 11 2026. No macro, syntax, notation, axiom, sorry.
-/
import Derived.Test.YtpbobhobhbbimaaGreatDoorRows
import GoSem.ClaimSeven
namespace Go.Proofs.YtpbobhobhbbimaaGreatDoor
namespace Rows

/-- THE TIED CARD OF 'slipstreamtop.TopOrders'. -/
def topOrdersCard : Claim7 := { stood := { row := topOrdersRow, standIns := [], harness := (true, "f962b5c05d6f83b41c52440f9f465f727ba8ab9938e42084498216c4062f565d"), looks := false }, kinds := [], alts := [], laidByText := true, laidKinds := [.data, .data, .data], laidTests := true, laidLooks := .later }
def TopOrdersCardSaid : Prop := Claim7.holds Tryz.pinned (.plain (OpenSpec.ofChange topOrdersSpec)) topOrdersCard

/-- THE SECOND FORM's CARD OF 'slipstreamtop.TopOrders'. -/
def topOrdersUptoCard : Claim7 := { stood := { row := topOrdersUptoRow, standIns := [], harness := (true, "f962b5c05d6f83b41c52440f9f465f727ba8ab9938e42084498216c4062f565d"), looks := false }, kinds := [], alts := [], laidByText := true, laidKinds := [.data, .data, .data], laidTests := true, laidLooks := .later }
def TopOrdersUptoCardSaid : Prop := Claim7.holds Tryz.pinned (.plain (OpenSpec.upto topOrdersSpec)) topOrdersUptoCard
end Rows
end Go.Proofs.YtpbobhobhbbimaaGreatDoor
