/-
  TypesAdds returns true for every table and two types that are together of bulk at most 1048576, and its arguments read behind the call as they read before.
-/
import Derived.Test.YtlpcakplpnpaeaaB8
namespace Go.Proofs.Ytlpcakplpnpaeaa
open Go.ChangeShapes Go.WideShapes Go.ChangeAt Go.RowKit Go.Sep
set_option linter.unusedVariables false

set_option maxRecDepth 100000 in
theorem typesAdds_lifted (os : Os) (started : os.Started) (H : Type) (enc : TypeId × Value → H) (F : Stop.Interp) :
    ReturnsInHanded {} Try.checked os 8 .any ((Rows.OpenSpec.upto Rows.typesAddsSpec).pre6 enc Try.prog Try.f8 Rows.typesAddsUptoRow.domain false) (((Rows.OpenSpec.upto Rows.typesAddsSpec).at F).post enc Try.prog Try.f8 false true false false) := by
  refine returnsInHanded_of_cond_sized (C := Try.checked) (s := Rows.OpenSpec.upto Rows.typesAddsSpec) (k := Rows.uptoSmall) rfl own started (by kernel_rfl) Try.func8
    (OpenSpec.witness (enc := enc) (C := Try.checked) (s := Rows.OpenSpec.upto Rows.typesAddsSpec) (k := Rows.uptoSmall) rfl false ⟨#[], #[.slice none 0 0, .agg #[.int .i64 0, .string ⟨#[]⟩, .int .i64 0, .slice none 0 0], .agg #[.int .i64 0, .string ⟨#[]⟩, .int .i64 0, .slice none 0 0]], []⟩ 8 (by kernel_rfl) (by kernel_rfl) (by kernel_rfl)
      (x := ([.nil, .agg [.lit (.int .i64 0), .lit (.string []), .lit (.int .i64 0), .nil], .agg [.lit (.int .i64 0), .lit (.string []), .lit (.int .i64 0), .nil]], [], [])) (by kernel_rfl) rfl (by kernel_rfl)) ?_
  intro W base args ds gs before hval hW _ hk hsz _
  exact lawT2 (s := Rows.typesAddsSpec) rfl Try.params8 rfl (fun _ _ _ _ => rfl) (fun m L t l h1 a1 h2 a2 hs hl hS r1 b1 r2 b2 => typesAdds_law a1 a2 m L t l hs hl hS h1 h2 r1 r2 b1 b2) H enc W base args ds gs before hval hW hk hsz

theorem typesAdds_holds : Rows.TypesAddsUptoSaid :=
  OpenClaim.holds_of_cond 8 Try.f8 rfl rfl rfl rfl rfl rfl rfl ⟨rfl, rfl, rfl, rfl, rfl⟩ rfl rfl rfl rfl rfl (by kernel_rfl) Try.func8 (by kernel_rfl)
    (of_decide_eq_true (by kernel_rfl)) (by unfold Func.isWrapper; first | (rw [if_pos (by decide +kernel)]; kernel_rfl) | (rw [if_neg (by decide +kernel)]; exact ⟨rfl, rfl⟩))
    (fun os started H enc _ F => typesAdds_lifted os started H enc F)
end Go.Proofs.Ytlpcakplpnpaeaa
