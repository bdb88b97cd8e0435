/-
  The number of the function halyard/halyardlaw23.BundlePacks. (Printed by mkburow.py.)
-/
import Derived.Test.YtiknfjdjbhbjhaaGreatDoorProg
import GoSem.Claims
import Derived.KernelRfl
set_option maxRecDepth 100000
namespace Go.Proofs.YtiknfjdjbhbjhaaGreatDoor
open Go
theorem bundlePacks_named : Tryz.prog.funcNamed "halyard/halyardlaw23.BundlePacks" = some 3 := by kernel_rfl
end Go.Proofs.YtiknfjdjbhbjhaaGreatDoor
