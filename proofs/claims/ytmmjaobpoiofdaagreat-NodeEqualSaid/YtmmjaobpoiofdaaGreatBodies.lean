/- Walks: lists of ints that are made by append: the reference's own; wall.Cells, ref.Cells. Walks: wall.Cells and the reference's. Walks: the reference's Bodies and wall.Bodies. -/
import Derived.Test.YtmmjaobpoiofdaaGreatR3Valid
import Derived.Test.YtmmjaobpoiofdaaGreatCRow
import Derived.Laws.MakeOwn
import Derived.Maps.AppendAt
import Derived.Maps.OwnOps
import Derived.Maps.OwnSet
namespace Go.Proofs.YtmmjaobpoiofdaaGreat
open Go.RowKit
set_option linter.unusedVariables false
/-- the places below n at which B is the body -/
def ownL (B : Nat → Int) (body : Int) : Nat → List Int
  | 0 => []
  | k + 1 => if B k = body then ownL B body k ++ [(k : Int)] else ownL B body k
theorem ownL_length (B : Nat → Int) (body : Int) : ∀ n, (ownL B body n).length ≤ n
  | 0 => by simp [ownL]
  | k + 1 => by have := ownL_length B body k; simp only [ownL]; split <;> simp <;> omega
end Go.Proofs.YtmmjaobpoiofdaaGreat
namespace Go.Proofs.YtmmjaobpoiofdaaGreat
open Go.RowKit Go.Maps
set_option linter.unusedVariables false
theorem keyedInt : Keyed Tryz.prog 3 := int_keyed Tryz.underlying3
end Go.Proofs.YtmmjaobpoiofdaaGreat
