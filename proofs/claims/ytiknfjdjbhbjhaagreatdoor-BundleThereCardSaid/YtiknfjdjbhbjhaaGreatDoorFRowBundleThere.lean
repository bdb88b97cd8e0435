/-
  BundleThere returns true for every input, with what the row lists tied to the program's text. (Printed by mkburow.py.)
-/
import Derived.Test.YtiknfjdjbhbjhaaGreatDoorFRow
import Derived.Test.YtiknfjdjbhbjhaaGreatDoorFTieR2
import Derived.Test.YtiknfjdjbhbjhaaGreatDoorFJBundleThere
import Derived.Test.YtiknfjdjbhbjhaaGreatDoorB16
import Derived.Test.YtiknfjdjbhbjhaaGreatDoorCards
set_option linter.unusedVariables false
set_option maxRecDepth 100000
namespace Go.Proofs.YtiknfjdjbhbjhaaGreatDoor
open Go.ChangeShapes Go.WideShapes Go.ChangeAt Go.RowKit Go.Sep
theorem bundleThere_reads (os : Os) {H : Type} (enc : TypeId × Value → H) : ∃ places, DataW.whole enc Tryz.prog ((laidWorld os).forCall (fun _ _ => 0) ⟨#[], #[.slice none 0 0, .int .u16 0], []⟩).memory Tryz.f5.params.toList Rows.bundleThereSpec.vars false (#[.slice none 0 0, .int .u16 0] : Array Value).toList 8 = some ([.nil, .lit (.int .u16 0)], [], places) :=
  ⟨[], by kernel_rfl⟩
theorem bundleThere_lifted (os : Os) (started : os.Started) (H : Type) (enc : TypeId × Value → H) (F : Stop.Interp) :
    ReturnsInHanded {} Tryz.checked os 5 .any ((OpenSpec.ofChange Rows.bundleThereSpec).preRow enc Tryz.prog Tryz.f5 Rows.bundleThereRow.domain false Rows.bundleThereRow.laid) (((OpenSpec.ofChange Rows.bundleThereSpec).at F).post enc Tryz.prog Tryz.f5 false true false false) := by
  obtain ⟨places, hx⟩ := bundleThere_reads os enc
  refine returnsInHanded_of_row (C := Tryz.checked) (s := OpenSpec.ofChange Rows.bundleThereSpec) own started (by kernel_rfl) Tryz.func5
    (witness_row_atRef (enc := enc) (C := Tryz.checked) false (laidWorld os) #[.slice none 0 0, .int .u16 0] rfl (by kernel_rfl) (by kernel_rfl) (by kernel_rfl)
      (OpenSpec.preRow_of_cond 8 hx (by kernel_rfl) (fun k hk => by cases hk) (by kernel_rfl) (laid_met2 os _))) ?_
  intro W base args ds gs before hval hW _ hcond hsz hL _ _
  exact lawFU16 (s := Rows.bundleThereSpec) rfl Tryz.params5 rfl (fun _ _ _ => rfl) (fun _ => True) (fun m L hk s l h w z hz => bundleThere_walk s l z m L h w hz) H enc W base args ds gs before hval hW trivial hsz
theorem bundleThere_said : Rows.BundleThereSaid :=
  OpenClaim.holds_of_cond 5 Tryz.f5 rfl rfl rfl rfl rfl rfl rfl ⟨rfl, rfl, rfl, rfl, rfl⟩ rfl rfl rfl rfl rfl bundleThere_named Tryz.func5 bundleThere_closed bundleThere_inst bundleThere_wrap
    (fun os started H enc _ F => by rw [OpenClaim.pre_eq_preRow]; exact bundleThere_lifted os started H enc F)
theorem bundleThere_plain (f : FuncId) (fn : Func) (hf : Tryz.prog.funcNamed "halyard/halyardlaw23.BundleThere" = some f) (hfn : Tryz.prog.funcs[f]? = some fn) :
    true = Tryz.prog.looks [] ∧ ∀ (j : Nat) t, fn.params[j]? = some t → Tryz.prog.wantsStandIn t = false := by
  obtain rfl : f = 5 := Option.some.inj (bundleThere_named.symm.trans hf) |>.symm
  obtain rfl : fn = Tryz.f5 := (Option.some.inj (Tryz.func5.symm.trans hfn)).symm
  refine ⟨looksT, fun j t ht => ?_⟩
  rw [Tryz.params5] at ht
  have hm : t = 22 ∨ t = 43 := by simpa using Array.mem_of_getElem? ht
  rcases hm with rfl | rfl
  · exact (show Tryz.prog.wantsStandIn 22 = false by kernel_rfl)
  · exact (show Tryz.prog.wantsStandIn 43 = false by kernel_rfl)
theorem bundleThere_card : Rows.BundleThereCardSaid :=
  Claim7.holds_tied_plain_at .later [] _ _ _ _ bundleThere_said (fun _ h => by cases h) bundleThere_wf (fun _ h => by cases h) bundleThere_row_tie rfl ⟨rfl, rfl⟩ mainF rfl bundleThere_plain bundleThere_goes
end Go.Proofs.YtiknfjdjbhbjhaaGreatDoor
