/-
  SlotsApart returns true for every input, and its arguments read behind the call as they read before. No condition.
-/
import Derived.Test.YtggfaplmdcpccaaB12
namespace Go.Proofs.Ytggfaplmdcpccaa
open Go.ChangeShapes Go.WideShapes Go.ChangeAt Go.RowKit Go.Sep
set_option linter.unusedVariables false

set_option maxRecDepth 100000 in
theorem slotsApart_lifted (os : Os) (started : os.Started) (H : Type) (enc : TypeId × Value → H) :
    ReturnsInHanded {} Try.checked os 6 .any (Rows.slotsApartSpec.pre6 enc Try.prog Try.f6 Rows.slotsApartRow.domain false) (Rows.slotsApartSpec.post enc Try.prog Try.f6 false true false false) := by
  refine returnsInHanded_of_change_sized (C := Try.checked) own started (by kernel_rfl) Try.func6
    (ChangeSpec.witness6 (enc := enc) (C := Try.checked) false ⟨#[], #[.slice none 0 0], []⟩ 8 (by kernel_rfl) (by kernel_rfl) (by kernel_rfl) (by kernel_rfl)) ?_
  intro W base args ds gs before hval hW _ hsz _
  exact lawRg rfl Try.params6 rfl (fun _ _ => rfl) apartW_law H enc W base args ds gs before hval hW hsz

theorem slotsApart_holds : Rows.SlotsApartSaid :=
  OpenClaim.holds_of_wide 6 Try.f6 rfl rfl rfl rfl rfl rfl rfl ⟨rfl, rfl, rfl, rfl, rfl⟩ rfl rfl rfl rfl rfl (by kernel_rfl) Try.func6 (by kernel_rfl)
    (of_decide_eq_true (by kernel_rfl)) (by unfold Func.isWrapper; first | (rw [if_pos (by decide +kernel)]; kernel_rfl) | (rw [if_neg (by decide +kernel)]; exact ⟨rfl, rfl⟩))
    (fun os started H enc _ => slotsApart_lifted os started H enc)
end Go.Proofs.Ytggfaplmdcpccaa
