/-
  ScanPlaces returns true for every string, with what the row lists tied to the program's text.
-/
import Derived.Test.YtdejeeooegekiaaDoorB8
namespace Go.Proofs.YtdejeeooegekiaaDoor
open Go.ChangeShapes Go.WideShapes Go.ChangeAt Go.RowKit Go.Sep
set_option linter.unusedVariables false

theorem scanPlaces_reads (os : Os) {H : Type} (enc : TypeId × Value → H) : ∃ places, DataW.whole enc Tryd.prog ((laidWorld os).forCall (fun _ _ => 0) ⟨#[], #[.string ⟨#[]⟩], []⟩).memory Tryd.f7.params.toList Rows.scanPlacesSpec.vars false #[Value.string ⟨#[]⟩].toList 8 = some ([.lit (.string [])], [], places) :=
  ⟨[], by kernel_rfl⟩

set_option maxRecDepth 100000 in
theorem scanPlaces_lifted (os : Os) (started : os.Started) (H : Type) (enc : TypeId × Value → H) (F : Stop.Interp) :
    ReturnsInHanded {} Tryd.checked os 7 .any ((OpenSpec.ofChange Rows.scanPlacesSpec).preRow enc Tryd.prog Tryd.f7 Rows.scanPlacesRow.domain false Rows.scanPlacesRow.laid) (((OpenSpec.ofChange Rows.scanPlacesSpec).at F).post enc Tryd.prog Tryd.f7 false true false false) := by
  obtain ⟨places, hx⟩ := scanPlaces_reads os enc
  refine returnsInHanded_of_row (C := Tryd.checked) (s := OpenSpec.ofChange Rows.scanPlacesSpec) own started (by kernel_rfl) Tryd.func7
    (witness_row_atRef (enc := enc) (C := Tryd.checked) false (laidWorld os) #[.string ⟨#[]⟩] rfl (by kernel_rfl) (by kernel_rfl) (by kernel_rfl)
      (OpenSpec.preRow_of_cond 8 hx (by kernel_rfl) (fun k hk => by cases hk) (by kernel_rfl) (laid_met os _))) ?_
  intro W base args ds gs before hval hW _ hcond _ hL _ _
  exact lawS (s := Rows.scanPlacesSpec) rfl Tryd.params7 rfl (fun _ _ => rfl) (fun _ => True) (fun m L t hE _ => scanPlaces_walk m L t hE) H enc W base args ds gs before hval hW (fun _ _ => trivial) hL

theorem scanPlaces_said : Rows.ScanPlacesSaid :=
  OpenClaim.holds_of_cond 7 Tryd.f7 rfl rfl rfl rfl rfl rfl rfl ⟨rfl, rfl, rfl, rfl, rfl⟩ rfl rfl rfl rfl rfl (by kernel_rfl) Tryd.func7 (by kernel_rfl)
    (of_decide_eq_true (by kernel_rfl)) (by unfold Func.isWrapper; first | (rw [if_pos (by decide +kernel)]; kernel_rfl) | (rw [if_neg (by decide +kernel)]; exact ⟨rfl, rfl⟩))
    (fun os started H enc _ F => by rw [OpenClaim.pre_eq_preRow]; exact scanPlaces_lifted os started H enc F)

theorem scanPlaces_plain (f : FuncId) (fn : Func) (hf : Tryd.pinned.checked.prog.funcNamed "halyard/halyardlaw01.ScanPlaces" = some f) (hfn : Tryd.pinned.checked.prog.funcs[f]? = some fn) :
    true = Tryd.pinned.checked.prog.looks [] ∧ ∀ (j : Nat) t, fn.params[j]? = some t → Tryd.pinned.checked.prog.wantsStandIn t = false := by
  obtain rfl : f = 7 := Option.some.inj ((show Tryd.prog.funcNamed "halyard/halyardlaw01.ScanPlaces" = some 7 by kernel_rfl).symm.trans hf) |>.symm
  obtain rfl : fn = Tryd.f7 := (Option.some.inj (Tryd.func7.symm.trans hfn)).symm
  refine ⟨by kernel_rfl, fun j t ht => ?_⟩
  rw [Tryd.params7] at ht
  obtain rfl : t = 9 := by simpa using Array.mem_of_getElem? ht
  exact (show Tryd.prog.wantsStandIn 9 = false by kernel_rfl)

theorem scanPlaces_card : Rows.ScanPlacesCardSaid :=
  Claim7.holds_tied_plain_at .later [] _ _ _ _ scanPlaces_said (fun _ h => by cases h) (by kernel_rfl) (fun _ h => by cases h) scanPlaces_row_tie rfl ⟨rfl, rfl⟩ (by kernel_rfl) rfl scanPlaces_plain (by kernel_rfl)
end Go.Proofs.YtdejeeooegekiaaDoor
