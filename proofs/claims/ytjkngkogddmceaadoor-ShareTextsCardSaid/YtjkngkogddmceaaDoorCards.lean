/-
  DERIVED. GIVEN WITH THE SEED: THE CARDS: each row of YtjkngkogddmceaaDoorRows.lean that lists a variable, with what it lists TIED to the program's text (the seventh form; the later family's looks); each row that meets fmt, with fmt's text TOLD by the authors' own Lean function (tested against real Go, not proved from fmt's source: count such statements apart). THE CARD IS WHAT COUNTS. Prove the row's statement (the work); the ties are given (YtjkngkogddmceaaDoorTie.lean); close each card by the builder's one call (the guide's Derived/Test/ToyasCard.lean, 'card_holds'). Laid BY PROGRAM, IN A SANDBOX (cutbox-door.mjs). By AI agents, Wed Nov 11 2026. No macro, syntax, notation, axiom, sorry.
-/
import Derived.Test.YtjkngkogddmceaaDoorRows
import GoSem.ClaimSeven
namespace Go.Proofs.YtjkngkogddmceaaDoor
namespace Rows

/-- THE TIED CARD OF 'slipstreamlaw09.ShareTexts'. -/
def shareTextsCard : Claim7 := { stood := { row := shareTextsRow, standIns := [], harness := (true, "068d3ecee4ac5c010677d2ff1239bd6fdf94e8de3e528848b61cfd3a60007598"), looks := true }, kinds := [], alts := [], laidByText := true, laidKinds := [.data, .data, .data, .data, .sentinel, .sentinel, .pinned], laidTests := true, laidLooks := .later }
def ShareTextsCardSaid : Prop := Claim7.holds Tryd.pinned (.plain (OpenSpec.ofChange shareTextsSpec)) shareTextsCard

/-- THE SECOND FORM's CARD OF 'slipstreamlaw09.ShareTexts'. -/
def shareTextsUptoCard : Claim7 := { stood := { row := shareTextsUptoRow, standIns := [], harness := (true, "068d3ecee4ac5c010677d2ff1239bd6fdf94e8de3e528848b61cfd3a60007598"), looks := true }, kinds := [], alts := [], laidByText := true, laidKinds := [.data, .data, .data, .data, .sentinel, .sentinel, .pinned], laidTests := true, laidLooks := .later }
def ShareTextsUptoCardSaid : Prop := Claim7.holds Tryd.pinned (.plain (OpenSpec.upto shareTextsSpec)) shareTextsUptoCard
end Rows
end Go.Proofs.YtjkngkogddmceaaDoor
