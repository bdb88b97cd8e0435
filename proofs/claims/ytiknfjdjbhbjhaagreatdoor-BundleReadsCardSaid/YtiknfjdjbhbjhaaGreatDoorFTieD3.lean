/-
  The program's tie, a part of it. (Printed by mkbufin.py.)
-/
import Derived.Test.YtiknfjdjbhbjhaaGreatDoorFTieK3
set_option linter.unusedVariables false
set_option maxRecDepth 100000
namespace Go.Proofs.YtiknfjdjbhbjhaaGreatDoor
open Go
theorem but_d3 : ∀ os tape, doorLeaves Tryz.prog 72 8 65 butL3 os tape = some (butL3.filter fun x => x.2.handleName?.isNone, (funcsListed butL3).map (·.2.funcsOut)) := fun _ _ => by kernel_rfl
end Go.Proofs.YtiknfjdjbhbjhaaGreatDoor
