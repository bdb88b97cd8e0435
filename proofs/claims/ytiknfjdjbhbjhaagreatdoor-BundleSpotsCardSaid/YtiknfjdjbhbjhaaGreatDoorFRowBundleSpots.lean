/-
  BundleSpots returns true for every input, with what the row lists tied to the program's text. (Printed by mkburow.py.)
-/
import Derived.Test.YtiknfjdjbhbjhaaGreatDoorFRow
import Derived.Test.YtiknfjdjbhbjhaaGreatDoorFTieR1
import Derived.Test.YtiknfjdjbhbjhaaGreatDoorFJBundleSpots
import Derived.Test.YtiknfjdjbhbjhaaGreatDoorB16
import Derived.Test.YtiknfjdjbhbjhaaGreatDoorCards
set_option linter.unusedVariables false
set_option maxRecDepth 100000
namespace Go.Proofs.YtiknfjdjbhbjhaaGreatDoor
open Go.ChangeShapes Go.WideShapes Go.ChangeAt Go.RowKit Go.Sep
theorem bundleSpots_reads (os : Os) {H : Type} (enc : TypeId × Value → H) : ∃ places, DataW.whole enc Tryz.prog ((laidWorld os).forCall (fun _ _ => 0) ⟨#[], #[.slice none 0 0, .int .i64 0, .agg #[.int .i64 0, .int .i64 0, .int .i64 0]], []⟩).memory Tryz.f4.params.toList Rows.bundleSpotsSpec.vars false (#[.slice none 0 0, .int .i64 0, .agg #[.int .i64 0, .int .i64 0, .int .i64 0]] : Array Value).toList 8 = some ([.nil, .lit (.int .i64 0), .agg [.lit (.int .i64 0), .lit (.int .i64 0), .lit (.int .i64 0)]], [], places) :=
  ⟨[], by kernel_rfl⟩
theorem bundleSpots_lifted (os : Os) (started : os.Started) (H : Type) (enc : TypeId × Value → H) (F : Stop.Interp) :
    ReturnsInHanded {} Tryz.checked os 4 .any ((OpenSpec.ofChange Rows.bundleSpotsSpec).preRow enc Tryz.prog Tryz.f4 Rows.bundleSpotsRow.domain false Rows.bundleSpotsRow.laid) (((OpenSpec.ofChange Rows.bundleSpotsSpec).at F).post enc Tryz.prog Tryz.f4 false true false false) := by
  obtain ⟨places, hx⟩ := bundleSpots_reads os enc
  refine returnsInHanded_of_row (C := Tryz.checked) (s := OpenSpec.ofChange Rows.bundleSpotsSpec) own started (by kernel_rfl) Tryz.func4
    (witness_row_atRef (enc := enc) (C := Tryz.checked) false (laidWorld os) #[.slice none 0 0, .int .i64 0, .agg #[.int .i64 0, .int .i64 0, .int .i64 0]] rfl (by kernel_rfl) (by kernel_rfl) (by kernel_rfl)
      (OpenSpec.preRow_of_cond 8 hx (by kernel_rfl) (fun k hk => by cases hk) (by kernel_rfl) (laid_met1 os _))) ?_
  intro W base args ds gs before hval hW _ hcond hsz hL _ _
  exact lawFIP (s := Rows.bundleSpotsSpec) rfl Tryz.params4 rfl (fun _ _ _ _ => rfl) (fun _ => True) (fun m L hk s l h w t pf pl pb hp => bundleSpots_walk s l t pf pl pb m L h w hp) H enc W base args ds gs before hval hW trivial hsz
theorem bundleSpots_said : Rows.BundleSpotsSaid :=
  OpenClaim.holds_of_cond 4 Tryz.f4 rfl rfl rfl rfl rfl rfl rfl ⟨rfl, rfl, rfl, rfl, rfl⟩ rfl rfl rfl rfl rfl bundleSpots_named Tryz.func4 bundleSpots_closed bundleSpots_inst bundleSpots_wrap
    (fun os started H enc _ F => by rw [OpenClaim.pre_eq_preRow]; exact bundleSpots_lifted os started H enc F)
theorem bundleSpots_plain (f : FuncId) (fn : Func) (hf : Tryz.prog.funcNamed "halyard/halyardlaw23.BundleSpots" = some f) (hfn : Tryz.prog.funcs[f]? = some fn) :
    true = Tryz.prog.looks [] ∧ ∀ (j : Nat) t, fn.params[j]? = some t → Tryz.prog.wantsStandIn t = false := by
  obtain rfl : f = 4 := Option.some.inj (bundleSpots_named.symm.trans hf) |>.symm
  obtain rfl : fn = Tryz.f4 := (Option.some.inj (Tryz.func4.symm.trans hfn)).symm
  refine ⟨looksT, fun j t ht => ?_⟩
  rw [Tryz.params4] at ht
  have hm : t = 22 ∨ t = 3 ∨ t = 35 := by simpa using Array.mem_of_getElem? ht
  rcases hm with rfl | rfl | rfl
  · exact (show Tryz.prog.wantsStandIn 22 = false by kernel_rfl)
  · exact (show Tryz.prog.wantsStandIn 3 = false by kernel_rfl)
  · exact (show Tryz.prog.wantsStandIn 35 = false by kernel_rfl)
theorem bundleSpots_card : Rows.BundleSpotsCardSaid :=
  Claim7.holds_tied_plain_at .later [] _ _ _ _ bundleSpots_said (fun _ h => by cases h) bundleSpots_wf (fun _ h => by cases h) bundleSpots_row_tie rfl ⟨rfl, rfl⟩ mainF rfl bundleSpots_plain bundleSpots_goes
end Go.Proofs.YtiknfjdjbhbjhaaGreatDoor
