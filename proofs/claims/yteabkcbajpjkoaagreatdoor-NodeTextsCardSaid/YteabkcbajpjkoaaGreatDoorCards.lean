/-
  DERIVED. GIVEN WITH THE SEED: THE CARDS: each row of YteabkcbajpjkoaaGreatDoorRows.lean that lists a variable, with what it lists TIED to the program's text (the seventh form; the later family's looks); each row that meets fmt, with fmt's text TOLD by the authors' own Lean function (tested against real Go, not proved from fmt's source: count such statements apart). THE CARD IS WHAT COUNTS. Prove the row's statement (the work); the ties are given (YteabkcbajpjkoaaGreatDoorTie.lean); close each card by the builder's one call (the guide's Derived/Test/ToyasCard.lean, 'card_holds'). Laid BY PROGRAM, IN A SANDBOX (cutbox-door.mjs). By AI agents, Wed Nov 11 2026. No macro, syntax, notation, axiom, sorry.
-/
import Derived.Test.YteabkcbajpjkoaaGreatDoorRows
import GoSem.ClaimSeven
namespace Go.Proofs.YteabkcbajpjkoaaGreatDoor
namespace Rows

/-- THE TIED CARD OF 'slipstreamlaw05.NodeTexts'. -/
def nodeTextsCard : Claim7 := { stood := { row := nodeTextsRow, standIns := [], harness := (true, "39233a4c18337c8c728eb6a3f4f8e44a61ef5dbcc702bd1c374d471ee9ac0737"), looks := true }, kinds := [], alts := [], laidByText := true, laidKinds := [.data, .data, .data, .data, .sentinel, .sentinel, .pinned], laidTests := true, laidLooks := .later }
def NodeTextsCardSaid : Prop := Claim7.holds Tryz.pinned (.plain (OpenSpec.ofChange nodeTextsSpec)) nodeTextsCard

/-- THE SECOND FORM's CARD OF 'slipstreamlaw05.NodeTexts'. -/
def nodeTextsUptoCard : Claim7 := { stood := { row := nodeTextsUptoRow, standIns := [], harness := (true, "39233a4c18337c8c728eb6a3f4f8e44a61ef5dbcc702bd1c374d471ee9ac0737"), looks := true }, kinds := [], alts := [], laidByText := true, laidKinds := [.data, .data, .data, .data, .sentinel, .sentinel, .pinned], laidTests := true, laidLooks := .later }
def NodeTextsUptoCardSaid : Prop := Claim7.holds Tryz.pinned (.plain (OpenSpec.upto nodeTextsSpec)) nodeTextsUptoCard
end Rows
end Go.Proofs.YteabkcbajpjkoaaGreatDoor
