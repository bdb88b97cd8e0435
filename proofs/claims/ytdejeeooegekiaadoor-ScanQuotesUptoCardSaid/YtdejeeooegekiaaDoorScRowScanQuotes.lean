/-
  ScanQuotes returns true for every string of bulk at most 1048576, with what the row lists tied to the program's text.
-/
import Derived.Test.YtdejeeooegekiaaDoorB8
namespace Go.Proofs.YtdejeeooegekiaaDoor
open Go.ChangeShapes Go.WideShapes Go.ChangeAt Go.RowKit Go.Sep
set_option linter.unusedVariables false

theorem scanQuotes_reads (os : Os) {H : Type} (enc : TypeId × Value → H) : ∃ places, DataW.whole enc Tryd.prog ((laidWorld os).forCall (fun _ _ => 0) ⟨#[], #[.string ⟨#[]⟩], []⟩).memory Tryd.f5.params.toList Rows.scanQuotesSpec.vars false #[Value.string ⟨#[]⟩].toList 8 = some ([.lit (.string [])], [], places) :=
  ⟨[], by kernel_rfl⟩

set_option maxRecDepth 100000 in
theorem scanQuotes_lifted (os : Os) (started : os.Started) (H : Type) (enc : TypeId × Value → H) (F : Stop.Interp) :
    ReturnsInHanded {} Tryd.checked os 5 .any ((Rows.OpenSpec.upto Rows.scanQuotesSpec).preRow enc Tryd.prog Tryd.f5 Rows.scanQuotesUptoRow.domain false Rows.scanQuotesUptoRow.laid) (((Rows.OpenSpec.upto Rows.scanQuotesSpec).at F).post enc Tryd.prog Tryd.f5 false true false false) := by
  obtain ⟨places, hx⟩ := scanQuotes_reads os enc
  refine returnsInHanded_of_row (C := Tryd.checked) (s := Rows.OpenSpec.upto Rows.scanQuotesSpec) own started (by kernel_rfl) Tryd.func5
    (witness_row_atRef (enc := enc) (C := Tryd.checked) false (laidWorld os) #[.string ⟨#[]⟩] rfl (by kernel_rfl) (by kernel_rfl) (by kernel_rfl)
      (OpenSpec.preRow_of_cond 8 hx (by kernel_rfl) (fun k hk => by cases hk; kernel_rfl) (by kernel_rfl) (laid_met os _))) ?_
  intro W base args ds gs before hval hW _ hcond _ hL _ _
  exact lawS (s := Rows.scanQuotesSpec) rfl Tryd.params5 rfl (fun _ _ => rfl) (fun t => t.length ≤ 1048576) (fun m L t hE hok => scanQuotes_walk m L t hok hE) H enc W base args ds gs before hval hW (fun t e => by have h := hcond _ rfl; rw [e] at h; have h2 : Rows.uptoBulkAll [(.lit (.string t) : DataW H)] ≤ 1048576 := of_decide_eq_true h; simp only [Rows.uptoBulkAll, Rows.uptoBulk] at h2; show t.length ≤ _; omega) hL

theorem scanQuotes_said : Rows.ScanQuotesUptoSaid :=
  OpenClaim.holds_of_cond 5 Tryd.f5 rfl rfl rfl rfl rfl rfl rfl ⟨rfl, rfl, rfl, rfl, rfl⟩ rfl rfl rfl rfl rfl (by kernel_rfl) Tryd.func5 (by kernel_rfl)
    (of_decide_eq_true (by kernel_rfl)) (by unfold Func.isWrapper; first | (rw [if_pos (by decide +kernel)]; kernel_rfl) | (rw [if_neg (by decide +kernel)]; exact ⟨rfl, rfl⟩))
    (fun os started H enc _ F => by rw [OpenClaim.pre_eq_preRow]; exact scanQuotes_lifted os started H enc F)

theorem scanQuotes_plain (f : FuncId) (fn : Func) (hf : Tryd.pinned.checked.prog.funcNamed "halyard/halyardlaw01.ScanQuotes" = some f) (hfn : Tryd.pinned.checked.prog.funcs[f]? = some fn) :
    true = Tryd.pinned.checked.prog.looks [] ∧ ∀ (j : Nat) t, fn.params[j]? = some t → Tryd.pinned.checked.prog.wantsStandIn t = false := by
  obtain rfl : f = 5 := Option.some.inj ((show Tryd.prog.funcNamed "halyard/halyardlaw01.ScanQuotes" = some 5 by kernel_rfl).symm.trans hf) |>.symm
  obtain rfl : fn = Tryd.f5 := (Option.some.inj (Tryd.func5.symm.trans hfn)).symm
  refine ⟨by kernel_rfl, fun j t ht => ?_⟩
  rw [Tryd.params5] at ht
  obtain rfl : t = 9 := by simpa using Array.mem_of_getElem? ht
  exact (show Tryd.prog.wantsStandIn 9 = false by kernel_rfl)

theorem scanQuotes_card : Rows.ScanQuotesUptoCardSaid :=
  Claim7.holds_tied_plain_at .later [] _ _ _ _ scanQuotes_said (fun _ h => by cases h) (by kernel_rfl) (fun _ h => by cases h) scanQuotesUpto_row_tie rfl ⟨rfl, rfl⟩ (by kernel_rfl) rfl scanQuotes_plain (by kernel_rfl)
end Go.Proofs.YtdejeeooegekiaaDoor
