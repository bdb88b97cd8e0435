/-
  Facts of the program's text.
-/
import Derived.Test.YtiknfjdjbhbjhaaGreatDoorProg
import Derived.JoinedCond
import Derived.KernelRfl
set_option maxRecDepth 100000
namespace Go.Proofs.YtiknfjdjbhbjhaaGreatDoor
open Go
theorem stopsH : Tryz.prog.stopsHeard = true := by kernel_rfl
end Go.Proofs.YtiknfjdjbhbjhaaGreatDoor
