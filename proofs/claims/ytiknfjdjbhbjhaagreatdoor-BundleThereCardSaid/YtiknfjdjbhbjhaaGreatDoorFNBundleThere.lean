/-
  The number of the function halyard/halyardlaw23.BundleThere. (Printed by mkburow.py.)
-/
import Derived.Test.YtiknfjdjbhbjhaaGreatDoorProg
import GoSem.Claims
import Derived.KernelRfl
set_option maxRecDepth 100000
namespace Go.Proofs.YtiknfjdjbhbjhaaGreatDoor
open Go
theorem bundleThere_named : Tryz.prog.funcNamed "halyard/halyardlaw23.BundleThere" = some 5 := by kernel_rfl
end Go.Proofs.YtiknfjdjbhbjhaaGreatDoor
