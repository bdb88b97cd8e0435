/-
  BundleReads returns true for every input, with what the row lists tied to the program's text. (Printed by mkburow.py.)
-/
import Derived.Test.YtiknfjdjbhbjhaaGreatDoorFRow
import Derived.Test.YtiknfjdjbhbjhaaGreatDoorFReadB
import Derived.Test.YtiknfjdjbhbjhaaGreatDoorFTieR3
import Derived.Test.YtiknfjdjbhbjhaaGreatDoorFJBundleReads
import Derived.Test.YtiknfjdjbhbjhaaGreatDoorB18
import Derived.Test.YtiknfjdjbhbjhaaGreatDoorCards
set_option linter.unusedVariables false
set_option maxRecDepth 100000
namespace Go.Proofs.YtiknfjdjbhbjhaaGreatDoor
open Go.ChangeShapes Go.WideShapes Go.ChangeAt Go.RowKit Go.Sep
theorem bundleReads_reads (os : Os) {H : Type} (enc : TypeId × Value → H) : ∃ places, DataW.whole enc Tryz.prog ((laidWorld os).forCall (fun _ _ => 0) ⟨#[], #[.slice none 0 0], []⟩).memory Tryz.f6.params.toList Rows.bundleReadsSpec.vars false (#[.slice none 0 0] : Array Value).toList 8 = some ([.nil], [], places) :=
  ⟨[], by kernel_rfl⟩
theorem bundleReads_lifted (os : Os) (started : os.Started) (H : Type) (enc : TypeId × Value → H) (F : Stop.Interp) :
    ReturnsInHanded {} Tryz.checked os 6 .any ((OpenSpec.ofChange Rows.bundleReadsSpec).preRow enc Tryz.prog Tryz.f6 Rows.bundleReadsRow.domain false Rows.bundleReadsRow.laid) (((OpenSpec.ofChange Rows.bundleReadsSpec).at F).post enc Tryz.prog Tryz.f6 false true false false) := by
  obtain ⟨places, hx⟩ := bundleReads_reads os enc
  refine returnsInHanded_of_row (C := Tryz.checked) (s := OpenSpec.ofChange Rows.bundleReadsSpec) own started (by kernel_rfl) Tryz.func6
    (witness_row_atRef (enc := enc) (C := Tryz.checked) false (laidWorld os) #[.slice none 0 0] rfl (by kernel_rfl) (by kernel_rfl) (by kernel_rfl)
      (OpenSpec.preRow_of_cond 8 hx (by kernel_rfl) (fun k hk => by cases hk) (by kernel_rfl) (laid_met3 os _))) ?_
  intro W base args ds gs before hval hW _ hcond hsz hL _ _
  exact lawB (s := Rows.bundleReadsSpec) rfl Tryz.params6 rfl (fun _ _ => rfl) (fun m => Go.Sep.Tb m ∧ Eb m) (fun m L hk s b h => bundleReads_walk s b m L h hk.1 hk.2) H enc W base args ds gs before hval hW (tbeb_of3 hL) hsz
theorem bundleReads_said : Rows.BundleReadsSaid :=
  OpenClaim.holds_of_cond 6 Tryz.f6 rfl rfl rfl rfl rfl rfl rfl ⟨rfl, rfl, rfl, rfl, rfl⟩ rfl rfl rfl rfl rfl bundleReads_named Tryz.func6 bundleReads_closed bundleReads_inst bundleReads_wrap
    (fun os started H enc _ F => by rw [OpenClaim.pre_eq_preRow]; exact bundleReads_lifted os started H enc F)
theorem bundleReads_plain (f : FuncId) (fn : Func) (hf : Tryz.prog.funcNamed "halyard/halyardlaw23.BundleReads" = some f) (hfn : Tryz.prog.funcs[f]? = some fn) :
    true = Tryz.prog.looks [] ∧ ∀ (j : Nat) t, fn.params[j]? = some t → Tryz.prog.wantsStandIn t = false := by
  obtain rfl : f = 6 := Option.some.inj (bundleReads_named.symm.trans hf) |>.symm
  obtain rfl : fn = Tryz.f6 := (Option.some.inj (Tryz.func6.symm.trans hfn)).symm
  refine ⟨looksT, fun j t ht => ?_⟩
  rw [Tryz.params6] at ht
  obtain rfl : t = 23 := by simpa using Array.mem_of_getElem? ht
  exact (show Tryz.prog.wantsStandIn 23 = false by kernel_rfl)
theorem bundleReads_card : Rows.BundleReadsCardSaid :=
  Claim7.holds_tied_plain_at .later [] _ _ _ _ bundleReads_said (fun _ h => by cases h) bundleReads_wf (fun _ h => by cases h) bundleReads_row_tie rfl ⟨rfl, rfl⟩ mainF rfl bundleReads_plain bundleReads_goes
end Go.Proofs.YtiknfjdjbhbjhaaGreatDoor
