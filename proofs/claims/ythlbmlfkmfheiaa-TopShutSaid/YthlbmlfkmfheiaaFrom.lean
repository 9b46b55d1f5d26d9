/- Walk: the reference's From: from which place particles come. -/
import Derived.Test.YthlbmlfkmfheiaaTorus
namespace Go.Proofs.Ythlbmlfkmfheiaa
open Go.RowKit
set_option linter.unusedVariables false
end Go.Proofs.Ythlbmlfkmfheiaa
