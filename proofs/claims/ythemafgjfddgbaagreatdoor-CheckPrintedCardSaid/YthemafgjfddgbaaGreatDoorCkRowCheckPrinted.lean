/-
  CheckPrinted returns true for every string, with what the row lists tied to the program's text.
-/
import Derived.Test.YthemafgjfddgbaaGreatDoorB14
namespace Go.Proofs.YthemafgjfddgbaaGreatDoor
open Go.ChangeShapes Go.WideShapes Go.ChangeAt Go.RowKit Go.Sep
set_option linter.unusedVariables false

theorem checkPrinted_reads (os : Os) {H : Type} (enc : TypeId × Value → H) : ∃ places, DataW.whole enc Tryz.prog ((laidWorld os).forCall (fun _ _ => 0) ⟨#[], #[.string ⟨#[]⟩], []⟩).memory Tryz.f7.params.toList Rows.checkPrintedSpec.vars false #[Value.string ⟨#[]⟩].toList 8 = some ([.lit (.string [])], [], places) :=
  ⟨[], by kernel_rfl⟩

set_option maxRecDepth 100000 in
theorem checkPrinted_lifted (os : Os) (started : os.Started) (H : Type) (enc : TypeId × Value → H) (F : Stop.Interp) :
    ReturnsInHanded {} Tryz.checked os 7 .any ((OpenSpec.ofChange Rows.checkPrintedSpec).preRow enc Tryz.prog Tryz.f7 Rows.checkPrintedRow.domain false Rows.checkPrintedRow.laid) (((OpenSpec.ofChange Rows.checkPrintedSpec).at F).post enc Tryz.prog Tryz.f7 false true false false) := by
  obtain ⟨places, hx⟩ := checkPrinted_reads os enc
  refine returnsInHanded_of_row (C := Tryz.checked) (s := OpenSpec.ofChange Rows.checkPrintedSpec) own started (by kernel_rfl) Tryz.func7
    (witness_row_atRef (enc := enc) (C := Tryz.checked) false (laidWorld os) #[.string ⟨#[]⟩] rfl (by kernel_rfl) (by kernel_rfl) (by kernel_rfl)
      (OpenSpec.preRow_of_cond 8 hx (by kernel_rfl) (fun k hk => by cases hk) (by kernel_rfl) (laid_met os _))) ?_
  intro W base args ds gs before hval hW _ hcond _ hL _ _
  exact lawS (s := Rows.checkPrintedSpec) rfl Tryz.params7 rfl (fun _ _ => rfl) (fun _ => True) (fun m L t hE hT _ => checkPrinted_walk m L t hE hT) H enc W base args ds gs before hval hW (fun _ _ => trivial) hL

theorem checkPrinted_said : Rows.CheckPrintedSaid :=
  OpenClaim.holds_of_cond 7 Tryz.f7 rfl rfl rfl rfl rfl rfl rfl ⟨rfl, rfl, rfl, rfl, rfl⟩ rfl rfl rfl rfl rfl (by kernel_rfl) Tryz.func7 (by kernel_rfl)
    (of_decide_eq_true (by kernel_rfl)) (by unfold Func.isWrapper; first | (rw [if_pos (by decide +kernel)]; kernel_rfl) | (rw [if_neg (by decide +kernel)]; exact ⟨rfl, rfl⟩))
    (fun os started H enc _ F => by rw [OpenClaim.pre_eq_preRow]; exact checkPrinted_lifted os started H enc F)

theorem checkPrinted_plain (f : FuncId) (fn : Func) (hf : Tryz.pinned.checked.prog.funcNamed "halyard/halyardlaw05.CheckPrinted" = some f) (hfn : Tryz.pinned.checked.prog.funcs[f]? = some fn) :
    true = Tryz.pinned.checked.prog.looks [] ∧ ∀ (j : Nat) t, fn.params[j]? = some t → Tryz.pinned.checked.prog.wantsStandIn t = false := by
  obtain rfl : f = 7 := Option.some.inj ((show Tryz.prog.funcNamed "halyard/halyardlaw05.CheckPrinted" = some 7 by kernel_rfl).symm.trans hf) |>.symm
  obtain rfl : fn = Tryz.f7 := (Option.some.inj (Tryz.func7.symm.trans hfn)).symm
  refine ⟨by kernel_rfl, fun j t ht => ?_⟩
  rw [Tryz.params7] at ht
  obtain rfl : t = 9 := by simpa using Array.mem_of_getElem? ht
  exact (show Tryz.prog.wantsStandIn 9 = false by kernel_rfl)

theorem checkPrinted_card : Rows.CheckPrintedCardSaid :=
  Claim7.holds_tied_plain_at .later [] _ _ _ _ checkPrinted_said (fun _ h => by cases h) (by kernel_rfl) (fun _ h => by cases h) checkPrinted_row_tie rfl ⟨rfl, rfl⟩ (by kernel_rfl) rfl checkPrinted_plain (by kernel_rfl)
end Go.Proofs.YthemafgjfddgbaaGreatDoor
