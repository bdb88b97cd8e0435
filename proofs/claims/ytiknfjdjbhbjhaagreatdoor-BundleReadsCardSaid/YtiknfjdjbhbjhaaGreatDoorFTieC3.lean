/-
  The program's tie, a part of it. (Printed by mkbufin.py.)
-/
import Derived.Test.YtiknfjdjbhbjhaaGreatDoorFTieK3
set_option linter.unusedVariables false
set_option maxRecDepth 100000
namespace Go.Proofs.YtiknfjdjbhbjhaaGreatDoor
open Go
theorem but_n3 : varsNamedLaterB Tryz.prog (varsId Tryz.prog) butL3 = true := by kernel_rfl
end Go.Proofs.YtiknfjdjbhbjhaaGreatDoor
