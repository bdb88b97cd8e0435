/-
  Facts of the program's text. (Printed by hand.)
-/
import Derived.Test.YtiknfjdjbhbjhaaGreatDoorRows
import Derived.JoinedCond
import Derived.KernelRfl
import Derived.Test.YtiknfjdjbhbjhaaGreatDoorCards
import Derived.SevenTiedAt
set_option maxRecDepth 100000
namespace Go.Proofs.YtiknfjdjbhbjhaaGreatDoor
open Go
theorem mainF : Tryz.prog.mainIs = some (true, "f838440ed992274a2b01fc523eb15eeb823bda8dee6870377d25f9b1898c98ff".toList) := by kernel_rfl
theorem looksT : true = Tryz.prog.looks [] := by kernel_rfl
end Go.Proofs.YtiknfjdjbhbjhaaGreatDoor
