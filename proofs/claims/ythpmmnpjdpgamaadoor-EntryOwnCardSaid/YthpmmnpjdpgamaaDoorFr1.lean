/- Num: the code's and the document's. -/
import Derived.Test.YthpmmnpjdpgamaaDoorWire2
import Derived.Test.YthpmmnpjdpgamaaDoorRef1
import Derived.Test.YthpmmnpjdpgamaaDoorWire1
import Derived.Test.YthpmmnpjdpgamaaDoorBlksB
namespace Go.Proofs.YthpmmnpjdpgamaaDoor
open Go.RowKit
set_option linter.unusedVariables false

section
variable {w : World} {base g c : Nat} {bs : List UInt8} {zs : List Int}
end

end Go.Proofs.YthpmmnpjdpgamaaDoor
