/- Walks: the reference's met, step and back of a grid in walls. -/
import Derived.Test.YthlbmlfkmfheiaaRefGrid
import Derived.Test.YthlbmlfkmfheiaaSeq
import Derived.Test.YthlbmlfkmfheiaaWStepPlain
namespace Go.Proofs.Ythlbmlfkmfheiaa
open Go Go.RowKit
set_option linter.unusedVariables false
end Go.Proofs.Ythlbmlfkmfheiaa
