/-
  TypesSound returns true for every table and type that are together of bulk at most 1048576, and its arguments read behind the call as they read before.
-/
import Derived.Test.YtlpcakplpnpaeaaB10
namespace Go.Proofs.Ytlpcakplpnpaeaa
open Go.ChangeShapes Go.WideShapes Go.ChangeAt Go.RowKit Go.Sep
set_option linter.unusedVariables false

set_option maxRecDepth 100000 in
theorem typesSound_lifted (os : Os) (started : os.Started) (H : Type) (enc : TypeId × Value → H) (F : Stop.Interp) :
    ReturnsInHanded {} Try.checked os 5 .any ((Rows.OpenSpec.upto Rows.typesSoundSpec).pre6 enc Try.prog Try.f5 Rows.typesSoundUptoRow.domain false) (((Rows.OpenSpec.upto Rows.typesSoundSpec).at F).post enc Try.prog Try.f5 false true false false) := by
  refine returnsInHanded_of_cond_sized (C := Try.checked) (s := Rows.OpenSpec.upto Rows.typesSoundSpec) (k := Rows.uptoSmall) rfl own started (by kernel_rfl) Try.func5
    (OpenSpec.witness (enc := enc) (C := Try.checked) (s := Rows.OpenSpec.upto Rows.typesSoundSpec) (k := Rows.uptoSmall) rfl false ⟨#[], #[.slice none 0 0, .agg #[.int .i64 0, .string ⟨#[]⟩, .int .i64 0, .slice none 0 0]], []⟩ 8 (by kernel_rfl) (by kernel_rfl) (by kernel_rfl)
      (x := ([.nil, .agg [.lit (.int .i64 0), .lit (.string []), .lit (.int .i64 0), .nil]], [], [])) (by kernel_rfl) rfl (by kernel_rfl)) ?_
  intro W base args ds gs before hval hW _ hk hsz _
  exact lawT1 (s := Rows.typesSoundSpec) rfl Try.params5 rfl (fun _ _ _ => rfl) (fun m L t l h a hs hl hS hr hB => typesSound_law a m L t l hs hS h hr hB) H enc W base args ds gs before hval hW hk hsz

theorem typesSound_holds : Rows.TypesSoundUptoSaid :=
  OpenClaim.holds_of_cond 5 Try.f5 rfl rfl rfl rfl rfl rfl rfl ⟨rfl, rfl, rfl, rfl, rfl⟩ rfl rfl rfl rfl rfl (by kernel_rfl) Try.func5 (by kernel_rfl)
    (of_decide_eq_true (by kernel_rfl)) (by unfold Func.isWrapper; first | (rw [if_pos (by decide +kernel)]; kernel_rfl) | (rw [if_neg (by decide +kernel)]; exact ⟨rfl, rfl⟩))
    (fun os started H enc _ F => typesSound_lifted os started H enc F)
end Go.Proofs.Ytlpcakplpnpaeaa
