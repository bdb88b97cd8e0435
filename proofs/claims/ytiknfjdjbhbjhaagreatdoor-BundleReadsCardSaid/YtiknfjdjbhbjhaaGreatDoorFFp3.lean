/-
  Facts of the program's text. (Printed by hand.)
-/
import Derived.Test.YtiknfjdjbhbjhaaGreatDoorRows
import Derived.JoinedCond
import Derived.KernelRfl
set_option maxRecDepth 100000
namespace Go.Proofs.YtiknfjdjbhbjhaaGreatDoor
open Go
theorem plainK : Tryz.prog.plainKeys = Rows.bundlePacksRow.plainKeys := by kernel_rfl
end Go.Proofs.YtiknfjdjbhbjhaaGreatDoor
