/-
  TypesTell returns true for every two types that are together of bulk at most 1048576, and its arguments read behind the call as they read before.
-/
import Derived.Test.YtlpcakplpnpaeaaTyRow2
import Derived.Test.YtlpcakplpnpaeaaTyLaw2
namespace Go.Proofs.Ytlpcakplpnpaeaa
open Go.ChangeShapes Go.WideShapes Go.ChangeAt Go.RowKit Go.Sep
set_option linter.unusedVariables false

set_option maxRecDepth 100000 in
theorem typesTell_lifted (os : Os) (started : os.Started) (H : Type) (enc : TypeId × Value → H) (F : Stop.Interp) :
    ReturnsInHanded {} Try.checked os 4 .any ((Rows.OpenSpec.upto Rows.typesTellSpec).pre6 enc Try.prog Try.f4 Rows.typesTellUptoRow.domain false) (((Rows.OpenSpec.upto Rows.typesTellSpec).at F).post enc Try.prog Try.f4 false true false false) := by
  refine returnsInHanded_of_cond_sized (C := Try.checked) (s := Rows.OpenSpec.upto Rows.typesTellSpec) (k := Rows.uptoSmall) rfl own started (by kernel_rfl) Try.func4
    (OpenSpec.witness (enc := enc) (C := Try.checked) (s := Rows.OpenSpec.upto Rows.typesTellSpec) (k := Rows.uptoSmall) rfl false ⟨#[], #[.agg #[.int .i64 0, .string ⟨#[]⟩, .int .i64 0, .slice none 0 0], .agg #[.int .i64 0, .string ⟨#[]⟩, .int .i64 0, .slice none 0 0]], []⟩ 8 (by kernel_rfl) (by kernel_rfl) (by kernel_rfl)
      (x := ([.agg [.lit (.int .i64 0), .lit (.string []), .lit (.int .i64 0), .nil], .agg [.lit (.int .i64 0), .lit (.string []), .lit (.int .i64 0), .nil]], [], [])) (by kernel_rfl) rfl (by kernel_rfl)) ?_
  intro W base args ds gs before hval hW _ hk hsz _
  exact law2 (s := Rows.typesTellSpec) rfl Try.params4 rfl (fun _ _ _ => rfl) (fun m L h g a c hr gr hB gB => typesTell_law a c m L h g hr gr hB gB) H enc W base args ds gs before hval hW hk hsz

theorem typesTell_holds : Rows.TypesTellUptoSaid :=
  OpenClaim.holds_of_cond 4 Try.f4 rfl rfl rfl rfl rfl rfl rfl ⟨rfl, rfl, rfl, rfl, rfl⟩ rfl rfl rfl rfl rfl (by kernel_rfl) Try.func4 (by kernel_rfl)
    (of_decide_eq_true (by kernel_rfl)) (by unfold Func.isWrapper; first | (rw [if_pos (by decide +kernel)]; kernel_rfl) | (rw [if_neg (by decide +kernel)]; exact ⟨rfl, rfl⟩))
    (fun os started H enc _ F => typesTell_lifted os started H enc F)
end Go.Proofs.Ytlpcakplpnpaeaa
