/-
  The number of the function halyard/halyardlaw23.BundleBack. (Printed by mkburow.py.)
-/
import Derived.Test.YtiknfjdjbhbjhaaGreatDoorProg
import GoSem.Claims
import Derived.KernelRfl
set_option maxRecDepth 100000
namespace Go.Proofs.YtiknfjdjbhbjhaaGreatDoor
open Go
theorem bundleBack_named : Tryz.prog.funcNamed "halyard/halyardlaw23.BundleBack" = some 7 := by kernel_rfl
end Go.Proofs.YtiknfjdjbhbjhaaGreatDoor
