/-
  The number of the function halyard/halyardlaw23.BundleReads. (Printed by mkburow.py.)
-/
import Derived.Test.YtiknfjdjbhbjhaaGreatDoorProg
import GoSem.Claims
import Derived.KernelRfl
set_option maxRecDepth 100000
namespace Go.Proofs.YtiknfjdjbhbjhaaGreatDoor
open Go
theorem bundleReads_named : Tryz.prog.funcNamed "halyard/halyardlaw23.BundleReads" = some 6 := by kernel_rfl
end Go.Proofs.YtiknfjdjbhbjhaaGreatDoor
