/- Walks: the reference's shapeError. -/
import Derived.Test.YthlbmlfkmfheiaaReady
import Derived.Test.YthlbmlfkmfheiaaBodies
import Derived.Deep.CutRange
namespace Go.Proofs.Ythlbmlfkmfheiaa
open Go.RowKit
set_option linter.unusedVariables false
end Go.Proofs.Ythlbmlfkmfheiaa
