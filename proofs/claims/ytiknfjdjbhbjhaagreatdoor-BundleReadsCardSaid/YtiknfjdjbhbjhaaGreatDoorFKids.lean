/-
  Facts of the program's types.
-/
import Derived.Test.YtiknfjdjbhbjhaaGreatDoorB6
import Derived.ChangeStays
import Derived.RowKit3
import Derived.ProofKit
set_option linter.unusedVariables false
set_option maxRecDepth 100000
namespace Go.Proofs.YtiknfjdjbhbjhaaGreatDoor
open Go.ChangeShapes Go.WideShapes Go.ChangeAt Go.RowKit Go.Sep
theorem own : ownKnob Tryz.prog.godebug = none := by kernel_rfl
theorem kids : Kids Tryz.prog (· < Tryz.prog.types.size) := kids_rows (by kernel_rfl) (by kernel_rfl)
theorem full : ∀ t e, t < Tryz.prog.types.size → Tryz.prog.underlying t = some (.slice e) → 0 < Tryz.prog.cellsOf e := slices_full_of Tryz.prog (by kernel_rfl)
theorem in_ (t : TypeId) (h : decide (t < Tryz.prog.types.size) = true) : t < Tryz.prog.types.size := of_decide_eq_true h
end Go.Proofs.YtiknfjdjbhbjhaaGreatDoor
