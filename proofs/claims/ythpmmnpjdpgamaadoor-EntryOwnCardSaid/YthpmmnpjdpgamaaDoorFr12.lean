/- The document's Whole. -/
import Derived.Test.YthpmmnpjdpgamaaDoorFr11
namespace Go.Proofs.YthpmmnpjdpgamaaDoor
open Go.RowKit
set_option linter.unusedVariables false

end Go.Proofs.YthpmmnpjdpgamaaDoor
