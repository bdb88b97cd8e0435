/-
  CheckOrder returns true for every node and number, with what the row lists tied to the program's text.
-/
import Derived.Test.YthemafgjfddgbaaGreatDoorB15
namespace Go.Proofs.YthemafgjfddgbaaGreatDoor
open Go.ChangeShapes Go.WideShapes Go.ChangeAt Go.RowKit Go.Sep
set_option linter.unusedVariables false

theorem checkOrder_reads (os : Os) {H : Type} (enc : TypeId × Value → H) : ∃ places, DataW.whole enc Tryz.prog ((laidWorld os).forCall (fun _ _ => 0) ⟨#[], #[.agg #[.int .i64 0, .string ⟨#[]⟩, .int .i64 0, .slice none 0 0], .int .u8 0], []⟩).memory Tryz.f5.params.toList Rows.checkOrderSpec.vars false #[.agg #[.int .i64 0, .string ⟨#[]⟩, .int .i64 0, .slice none 0 0], .int .u8 0].toList 8 = some ([.agg [.lit (.int .i64 0), .lit (.string []), .lit (.int .i64 0), .nil], .lit (.int .u8 0)], [], places) :=
  ⟨[], by kernel_rfl⟩

set_option maxRecDepth 100000 in
theorem checkOrder_lifted (os : Os) (started : os.Started) (H : Type) (enc : TypeId × Value → H) (F : Stop.Interp) :
    ReturnsInHanded {} Tryz.checked os 5 .any ((OpenSpec.ofChange Rows.checkOrderSpec).preRow enc Tryz.prog Tryz.f5 Rows.checkOrderRow.domain false Rows.checkOrderRow.laid) (((OpenSpec.ofChange Rows.checkOrderSpec).at F).post enc Tryz.prog Tryz.f5 false true false false) := by
  obtain ⟨places, hx⟩ := checkOrder_reads os enc
  refine returnsInHanded_of_row (C := Tryz.checked) (s := OpenSpec.ofChange Rows.checkOrderSpec) own started (by kernel_rfl) Tryz.func5
    (witness_row_atRef (enc := enc) (C := Tryz.checked) false (laidWorld os) #[.agg #[.int .i64 0, .string ⟨#[]⟩, .int .i64 0, .slice none 0 0], .int .u8 0] rfl (by kernel_rfl) (by kernel_rfl) (by kernel_rfl)
      (OpenSpec.preRow_of_cond 8 hx (by kernel_rfl) (fun k hk => by cases hk) (by kernel_rfl) (laid_met os _))) ?_
  intro W base args ds gs before hval hW _ hcond hsz hL _ _
  exact lawNB (s := Rows.checkOrderSpec) rfl Tryz.params5 rfl (fun _ _ _ => rfl) (fun a => a.inR = true) (fun m L h a c hc hE hr hok => checkOrder_walk m L a h c hc hE hr (inR_wide a hok)) H enc W base args ds gs before hval hW (fun _ _ _ _ _ hR => hR) hL hsz

theorem checkOrder_said : Rows.CheckOrderSaid :=
  OpenClaim.holds_of_cond 5 Tryz.f5 rfl rfl rfl rfl rfl rfl rfl ⟨rfl, rfl, rfl, rfl, rfl⟩ rfl rfl rfl rfl rfl (by kernel_rfl) Tryz.func5 (by kernel_rfl)
    (of_decide_eq_true (by kernel_rfl)) (by unfold Func.isWrapper; first | (rw [if_pos (by decide +kernel)]; kernel_rfl) | (rw [if_neg (by decide +kernel)]; exact ⟨rfl, rfl⟩))
    (fun os started H enc _ F => by rw [OpenClaim.pre_eq_preRow]; exact checkOrder_lifted os started H enc F)

theorem checkOrder_plain (f : FuncId) (fn : Func) (hf : Tryz.pinned.checked.prog.funcNamed "halyard/halyardlaw05.CheckOrder" = some f) (hfn : Tryz.pinned.checked.prog.funcs[f]? = some fn) :
    true = Tryz.pinned.checked.prog.looks [] ∧ ∀ (j : Nat) t, fn.params[j]? = some t → Tryz.pinned.checked.prog.wantsStandIn t = false := by
  obtain rfl : f = 5 := Option.some.inj ((show Tryz.prog.funcNamed "halyard/halyardlaw05.CheckOrder" = some 5 by kernel_rfl).symm.trans hf) |>.symm
  obtain rfl : fn = Tryz.f5 := (Option.some.inj (Tryz.func5.symm.trans hfn)).symm
  refine ⟨by kernel_rfl, fun j t ht => ?_⟩
  rw [Tryz.params5] at ht
  have h2 : t = 24 ∨ t = 5 := by simpa using Array.mem_of_getElem? ht
  rcases h2 with rfl | rfl
  · exact (show Tryz.prog.wantsStandIn 24 = false by kernel_rfl)
  · exact (show Tryz.prog.wantsStandIn 5 = false by kernel_rfl)

theorem checkOrder_card : Rows.CheckOrderCardSaid :=
  Claim7.holds_tied_plain_at .later [] _ _ _ _ checkOrder_said (fun _ h => by cases h) (by kernel_rfl) (fun _ h => by cases h) checkOrder_row_tie rfl ⟨rfl, rfl⟩ (by kernel_rfl) rfl checkOrder_plain (by kernel_rfl)
end Go.Proofs.YthemafgjfddgbaaGreatDoor
