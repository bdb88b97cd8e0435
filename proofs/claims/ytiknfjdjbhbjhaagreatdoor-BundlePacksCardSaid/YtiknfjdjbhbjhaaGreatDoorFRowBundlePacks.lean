/-
  BundlePacks returns true for every input, with what the row lists tied to the program's text. (Printed by mkburow.py.)
-/
import Derived.Test.YtiknfjdjbhbjhaaGreatDoorFRow
import Derived.Test.YtiknfjdjbhbjhaaGreatDoorFTieR0
import Derived.Test.YtiknfjdjbhbjhaaGreatDoorFJBundlePacks
import Derived.Test.YtiknfjdjbhbjhaaGreatDoorB16
import Derived.Test.YtiknfjdjbhbjhaaGreatDoorCards
set_option linter.unusedVariables false
set_option maxRecDepth 100000
namespace Go.Proofs.YtiknfjdjbhbjhaaGreatDoor
open Go.ChangeShapes Go.WideShapes Go.ChangeAt Go.RowKit Go.Sep
theorem bundlePacks_reads (os : Os) {H : Type} (enc : TypeId × Value → H) : ∃ places, DataW.whole enc Tryz.prog ((laidWorld os).forCall (fun _ _ => 0) ⟨#[], #[.slice none 0 0], []⟩).memory Tryz.f3.params.toList Rows.bundlePacksSpec.vars false (#[.slice none 0 0] : Array Value).toList 8 = some ([.nil], [], places) :=
  ⟨[], by kernel_rfl⟩
theorem bundlePacks_lifted (os : Os) (started : os.Started) (H : Type) (enc : TypeId × Value → H) (F : Stop.Interp) :
    ReturnsInHanded {} Tryz.checked os 3 .any ((OpenSpec.ofChange Rows.bundlePacksSpec).preRow enc Tryz.prog Tryz.f3 Rows.bundlePacksRow.domain false Rows.bundlePacksRow.laid) (((OpenSpec.ofChange Rows.bundlePacksSpec).at F).post enc Tryz.prog Tryz.f3 false true false false) := by
  obtain ⟨places, hx⟩ := bundlePacks_reads os enc
  refine returnsInHanded_of_row (C := Tryz.checked) (s := OpenSpec.ofChange Rows.bundlePacksSpec) own started (by kernel_rfl) Tryz.func3
    (witness_row_atRef (enc := enc) (C := Tryz.checked) false (laidWorld os) #[.slice none 0 0] rfl (by kernel_rfl) (by kernel_rfl) (by kernel_rfl)
      (OpenSpec.preRow_of_cond 8 hx (by kernel_rfl) (fun k hk => by cases hk) (by kernel_rfl) (laid_met0 os _))) ?_
  intro W base args ds gs before hval hW _ hcond hsz hL _ _
  exact lawF (s := Rows.bundlePacksSpec) rfl Tryz.params3 rfl (fun _ _ => rfl) (fun m => Go.Sep.Tb m ∧ Eb m) (fun m L hk s l h w => bundlePacks_walk s l m L h w hk.1) H enc W base args ds gs before hval hW (tbeb_of0 hL) hsz
theorem bundlePacks_said : Rows.BundlePacksSaid :=
  OpenClaim.holds_of_cond 3 Tryz.f3 rfl rfl rfl rfl rfl rfl rfl ⟨rfl, rfl, rfl, rfl, rfl⟩ rfl rfl rfl rfl rfl bundlePacks_named Tryz.func3 bundlePacks_closed bundlePacks_inst bundlePacks_wrap
    (fun os started H enc _ F => by rw [OpenClaim.pre_eq_preRow]; exact bundlePacks_lifted os started H enc F)
theorem bundlePacks_plain (f : FuncId) (fn : Func) (hf : Tryz.prog.funcNamed "halyard/halyardlaw23.BundlePacks" = some f) (hfn : Tryz.prog.funcs[f]? = some fn) :
    true = Tryz.prog.looks [] ∧ ∀ (j : Nat) t, fn.params[j]? = some t → Tryz.prog.wantsStandIn t = false := by
  obtain rfl : f = 3 := Option.some.inj (bundlePacks_named.symm.trans hf) |>.symm
  obtain rfl : fn = Tryz.f3 := (Option.some.inj (Tryz.func3.symm.trans hfn)).symm
  refine ⟨looksT, fun j t ht => ?_⟩
  rw [Tryz.params3] at ht
  obtain rfl : t = 22 := by simpa using Array.mem_of_getElem? ht
  exact (show Tryz.prog.wantsStandIn 22 = false by kernel_rfl)
theorem bundlePacks_card : Rows.BundlePacksCardSaid :=
  Claim7.holds_tied_plain_at .later [] _ _ _ _ bundlePacks_said (fun _ h => by cases h) bundlePacks_wf (fun _ h => by cases h) bundlePacks_row_tie rfl ⟨rfl, rfl⟩ mainF rfl bundlePacks_plain bundlePacks_goes
end Go.Proofs.YtiknfjdjbhbjhaaGreatDoor
