/-
  Facts of the program's text. (Printed by hand.)
-/
import Derived.Test.YtiknfjdjbhbjhaaGreatDoorFFp1
import Derived.Test.YtiknfjdjbhbjhaaGreatDoorFFp2
import Derived.Test.YtiknfjdjbhbjhaaGreatDoorFFp3
import Derived.Test.YtiknfjdjbhbjhaaGreatDoorFFp4
import Derived.Test.YtiknfjdjbhbjhaaGreatDoorFFp5
import Derived.Test.YtiknfjdjbhbjhaaGreatDoorFFp6
import Derived.Test.YtiknfjdjbhbjhaaGreatDoorFFp7
set_option maxRecDepth 100000
namespace Go.Proofs.YtiknfjdjbhbjhaaGreatDoor
open Go
theorem and_t {a b : Bool} (h : a = true) (h2 : b = true) : (a && b) = true := by rw [h, h2]; rfl
end Go.Proofs.YtiknfjdjbhbjhaaGreatDoor
