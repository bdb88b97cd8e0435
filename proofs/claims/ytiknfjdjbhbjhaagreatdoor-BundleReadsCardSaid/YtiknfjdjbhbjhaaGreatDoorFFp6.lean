/-
  Facts of the program's text. (Printed by hand.)
-/
import Derived.Test.YtiknfjdjbhbjhaaGreatDoorRows
import Derived.JoinedCond
import Derived.KernelRfl
set_option maxRecDepth 100000
namespace Go.Proofs.YtiknfjdjbhbjhaaGreatDoor
open Go
theorem noStops : (Tryz.prog.stops == []) = true := by kernel_rfl
theorem noKnobs : (Tryz.prog.stopKnobs == []) = true := by kernel_rfl
theorem liftsF : Tryz.prog.liftsFinal = Rows.bundlePacksRow.lifted := by kernel_rfl
theorem makeF : Tryz.prog.make = some Rows.bundlePacksRow.make := by kernel_rfl
end Go.Proofs.YtiknfjdjbhbjhaaGreatDoor
