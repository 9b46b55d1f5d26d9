/- Walks: wall.clone and the reference's Copy: a wall in new memory. -/
import Derived.Test.YthlbmlfkmfheiaaRow
import Derived.Deep.DrawnRows
namespace Go.Proofs.Ythlbmlfkmfheiaa
open Go.RowKit
attribute [local go_sem ↓] Go.wp_at_zero Go.wp_at_succ
set_option linter.unusedVariables false
/-- a wall in new memory, that may be written -/
def ClonePost (n : Nat) (K B : Nat → Int) (w : World) (e : Ending) (w' : World) : Prop :=
  ∃ gk ck gb cb, e = .returned (.agg #[.slice (some ⟨gk, 0, none⟩) n ck, .slice (some ⟨gb, 0, none⟩) n cb]) ∧ w.heap.size ≤ gk ∧ w.heap.size ≤ gb ∧ gk ≠ gb ∧ Ro w' gk n K ∧ Ro w' gb n B ∧ Below w.heap.size w w'
end Go.Proofs.Ythlbmlfkmfheiaa
