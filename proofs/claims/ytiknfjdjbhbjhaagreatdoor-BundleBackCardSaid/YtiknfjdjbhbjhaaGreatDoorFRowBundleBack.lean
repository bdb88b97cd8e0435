/-
  BundleBack returns true for every input, with what the row lists tied to the program's text. (Printed by mkburow.py.)
-/
import Derived.Test.YtiknfjdjbhbjhaaGreatDoorFRow
import Derived.Test.YtiknfjdjbhbjhaaGreatDoorFTieR0
import Derived.Test.YtiknfjdjbhbjhaaGreatDoorFJBundleBack
import Derived.Test.YtiknfjdjbhbjhaaGreatDoorB18
import Derived.Test.YtiknfjdjbhbjhaaGreatDoorCards
set_option linter.unusedVariables false
set_option maxRecDepth 100000
namespace Go.Proofs.YtiknfjdjbhbjhaaGreatDoor
open Go.ChangeShapes Go.WideShapes Go.ChangeAt Go.RowKit Go.Sep
theorem bundleBack_reads (os : Os) {H : Type} (enc : TypeId × Value → H) : ∃ places, DataW.whole enc Tryz.prog ((laidWorld os).forCall (fun _ _ => 0) ⟨#[], #[.slice none 0 0, .int .u8 0], []⟩).memory Tryz.f7.params.toList Rows.bundleBackSpec.vars false (#[.slice none 0 0, .int .u8 0] : Array Value).toList 8 = some ([.nil, .lit (.int .u8 0)], [], places) :=
  ⟨[], by kernel_rfl⟩
theorem bundleBack_lifted (os : Os) (started : os.Started) (H : Type) (enc : TypeId × Value → H) (F : Stop.Interp) :
    ReturnsInHanded {} Tryz.checked os 7 .any ((OpenSpec.ofChange Rows.bundleBackSpec).preRow enc Tryz.prog Tryz.f7 Rows.bundleBackRow.domain false Rows.bundleBackRow.laid) (((OpenSpec.ofChange Rows.bundleBackSpec).at F).post enc Tryz.prog Tryz.f7 false true false false) := by
  obtain ⟨places, hx⟩ := bundleBack_reads os enc
  refine returnsInHanded_of_row (C := Tryz.checked) (s := OpenSpec.ofChange Rows.bundleBackSpec) own started (by kernel_rfl) Tryz.func7
    (witness_row_atRef (enc := enc) (C := Tryz.checked) false (laidWorld os) #[.slice none 0 0, .int .u8 0] rfl (by kernel_rfl) (by kernel_rfl) (by kernel_rfl)
      (OpenSpec.preRow_of_cond 8 hx (by kernel_rfl) (fun k hk => by cases hk) (by kernel_rfl) (laid_met0 os _))) ?_
  intro W base args ds gs before hval hW _ hcond hsz hL _ _
  exact lawFU8 (s := Rows.bundleBackSpec) rfl Tryz.params7 rfl (fun _ _ _ => rfl) (fun m => Go.Sep.Tb m ∧ Eb m) (fun m L hk s l h w z hz => bundleBack_walk s l z m L h w hz hk.1 hk.2) H enc W base args ds gs before hval hW (tbeb_of0 hL) hsz
theorem bundleBack_said : Rows.BundleBackSaid :=
  OpenClaim.holds_of_cond 7 Tryz.f7 rfl rfl rfl rfl rfl rfl rfl ⟨rfl, rfl, rfl, rfl, rfl⟩ rfl rfl rfl rfl rfl bundleBack_named Tryz.func7 bundleBack_closed bundleBack_inst bundleBack_wrap
    (fun os started H enc _ F => by rw [OpenClaim.pre_eq_preRow]; exact bundleBack_lifted os started H enc F)
theorem bundleBack_plain (f : FuncId) (fn : Func) (hf : Tryz.prog.funcNamed "halyard/halyardlaw23.BundleBack" = some f) (hfn : Tryz.prog.funcs[f]? = some fn) :
    true = Tryz.prog.looks [] ∧ ∀ (j : Nat) t, fn.params[j]? = some t → Tryz.prog.wantsStandIn t = false := by
  obtain rfl : f = 7 := Option.some.inj (bundleBack_named.symm.trans hf) |>.symm
  obtain rfl : fn = Tryz.f7 := (Option.some.inj (Tryz.func7.symm.trans hfn)).symm
  refine ⟨looksT, fun j t ht => ?_⟩
  rw [Tryz.params7] at ht
  have hm : t = 22 ∨ t = 5 := by simpa using Array.mem_of_getElem? ht
  rcases hm with rfl | rfl
  · exact (show Tryz.prog.wantsStandIn 22 = false by kernel_rfl)
  · exact (show Tryz.prog.wantsStandIn 5 = false by kernel_rfl)
theorem bundleBack_card : Rows.BundleBackCardSaid :=
  Claim7.holds_tied_plain_at .later [] _ _ _ _ bundleBack_said (fun _ h => by cases h) bundleBack_wf (fun _ h => by cases h) bundleBack_row_tie rfl ⟨rfl, rfl⟩ mainF rfl bundleBack_plain bundleBack_goes
end Go.Proofs.YtiknfjdjbhbjhaaGreatDoor
