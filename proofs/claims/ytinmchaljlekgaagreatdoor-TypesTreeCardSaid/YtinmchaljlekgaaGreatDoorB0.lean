/- PtItoa -/
import Derived.Shelf.Strconv.Itoa3
import Derived.Test.YtinmchaljlekgaaGreatDoorProg
import Derived.KernelRfl
namespace Go.Proofs
open Go.Shelf
set_option linter.unusedVariables false
end Go.Proofs

