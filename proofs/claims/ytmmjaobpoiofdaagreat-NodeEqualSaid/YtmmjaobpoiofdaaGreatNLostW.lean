/- Plain words and laws: which nodes are stuck, which notes are lost; where some nodes are stuck, some notes are lost. No program in sight but for a map of ints. Walks: Stuck, of the program and of the reference. Walks: stepOf and Lost, of the reference. Walk: Lost, of the program. -/
import Derived.Test.YtmmjaobpoiofdaaGreatNMergeF
import Derived.Test.YtmmjaobpoiofdaaGreatNSortP
import Derived.Test.YtmmjaobpoiofdaaGreatSeq
import Derived.Test.YtmmjaobpoiofdaaGreatNRefSort
import Derived.Test.YtmmjaobpoiofdaaGreatNSorted
import Derived.Test.YtmmjaobpoiofdaaGreatNDueF
import Derived.Deep.Cut
namespace Go.Proofs.YtmmjaobpoiofdaaGreat
open Go Go.RowKit Go.Maps Go.ChangeMaps
set_option linter.unusedVariables false
section
variable (W H : Nat) (o : Nat → Int) (no q : Nat) (p : Nat → N6) (F : Nat → SiteR) (m : Nat)
end
/-- the same notes for another step -/
def N6.at (x : N6) (st : Int) : N6 := ⟨st, x.fr, x.to, x.ce, x.di, x.co⟩
/-! ### a map from nodes to steps -/
end Go.Proofs.YtmmjaobpoiofdaaGreat
