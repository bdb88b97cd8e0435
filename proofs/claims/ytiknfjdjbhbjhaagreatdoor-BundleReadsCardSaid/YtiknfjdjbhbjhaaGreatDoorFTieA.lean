/-
  The program's tie, a part of it. (Printed by mkbufin.py.)
-/
import Derived.Test.YtiknfjdjbhbjhaaGreatDoorProg
import Derived.LaidByTextLater
import Derived.KernelRfl
set_option linter.unusedVariables false
set_option maxRecDepth 100000
namespace Go.Proofs.YtiknfjdjbhbjhaaGreatDoor
open Go
theorem but_w : Tryz.prog.worded (varsWordLater true) = true := by kernel_rfl
end Go.Proofs.YtiknfjdjbhbjhaaGreatDoor
