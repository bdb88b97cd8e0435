/-
  The rows of one argument: from a walk's contract to the row's.
-/
import Derived.Test.YtopkiglcemcjnaaCxRead
import Derived.Test.YtopkiglcemcjnaaRows
import Derived.ProofKit
import Derived.OpenShut
import Derived.JoinedOf
namespace Go.Proofs.Ytopkiglcemcjnaa
open Go.ChangeShapes Go.WideShapes Go.ChangeAt Go.RowKit Go.Sep
set_option linter.unusedVariables false
set_option linter.unusedSimpArgs false

theorem own : ownKnob Try.prog.godebug = none := by kernel_rfl
theorem kids : Kids Try.prog (· < Try.prog.types.size) := kids_rows (by kernel_rfl) (by kernel_rfl)
theorem full : ∀ t e, t < Try.prog.types.size → Try.prog.underlying t = some (.slice e) → 0 < Try.prog.cellsOf e := slices_full_of Try.prog (by kernel_rfl)
theorem in26 : (26 : TypeId) < Try.prog.types.size := of_decide_eq_true (by kernel_rfl)
theorem in3 : (3 : TypeId) < Try.prog.types.size := of_decide_eq_true (by kernel_rfl)

/-- an argument reads as it read -/
theorem stays {H : Type} {enc : TypeId × Value → H} {W w' : World} {m' : Mem} {L' : List Sep.Item} (h : St m' w' L') (hm : memOf W ≤ m') {t : TypeId} (ht : t < Try.prog.types.size) {v : Value} {d : DataW H} {ps : List MemPlace}
    (hd : DataW.Trod enc Try.prog W 0 (fun _ => true) true t v d ps) (hlt : ∀ p ∈ ps, p.block < W.heap.size) {sp' : Nat → Bool} (hs : ∀ p ∈ ps, sp' p.block = true) : DataW.Trod enc Try.prog w' 0 sp' true t v d ps := by
  obtain ⟨n, hn⟩ := hd
  exact ⟨n, DataW.trod_stays kids (fun h1 h2 => full _ _ h1 h2) (fun e => by cases e) ht hn (fun p hp => h.same hm (hlt p hp)) hs⟩

theorem law1 {f : FuncId} {fn : Func} {s : ChangeSpec} (hvars : s.vars = []) (hpar : fn.params = #[26]) (hres : fn.resultTypes = #[4])
    (hfn : ∀ (H : Type) (d : DataW H), s.fn H [d] = { results := [.lit (.bool true)], args := [d] })
    (hT : ∀ (m : Mem) (L : List Sep.Item) (hh : HHier) (h : Hier), HierRep m hh h → TCall Try.prog f ⟨[hierV hh]⟩ m L (Made m L fun r m' => r = .bool true))
    {fresh handsOn again : Bool} (H : Type) (enc : TypeId × Value → H) (W : World) (base : Nat) (args : Array Value) (ds gs : List (DataW H)) (before : List MemPlace)
    (hval : ∀ (j : Nat) t v, fn.params[j]? = some t → args[j]? = some v → Value.okWide Try.prog W .any base t v)
    (hW : DataW.Whole enc Try.prog fn.params.toList s.vars false W args.toList ds gs before)
    (hsz : (DataW.weightsEach Try.prog (fn.params.toList ++ s.plain.varTypes Try.prog) (ds ++ gs)).all (· ≤ reachBytes) = true) :
    Calls Try.prog f args W fun e W' => ∃ v, e = .returned v ∧ s.post enc Try.prog fn false fresh handsOn again W args v W' := by
  have hlt : ∀ p ∈ before, p.block < W.heap.size := fun p hp => hW.lt p hp
  have hW' := hW
  obtain ⟨p, q, hA0, hV, rfl, hfz, hnd⟩ := hW
  rw [hvars] at hV
  obtain ⟨rfl, rfl⟩ := trodVars_none hV
  rw [hpar] at hA0 hval hsz
  obtain ⟨v, d, rfl, rfl, h0⟩ := trodAll_one hA0
  simp only [List.append_nil] at hW' hlt hsz
  have hv := hval 0 26 v rfl rfl
  obtain ⟨n, hn⟩ := h0
  have hwts : ∀ w ∈ d.weights Try.prog 26, w ≤ reachBytes := fun w hw => by
    have := List.all_eq_true.1 hsz w (DataW.weights_mem_each (j := 0) (t := 26) (d := d) rfl rfl w hw)
    simpa using this
  obtain ⟨hh, a, he, hr⟩ := reads_hier hn hwts
  have hv26 : v = hierV hh := by
    unfold Value.okWide at hv
    rw [Try.underlying26] at hv
    obtain ⟨cs, rfl, _, _⟩ := hv
    have : cs.toList = hierC hh := he
    exact congrArg Value.agg (Array.ext' this)
  subst hv26
  refine (hT (memOf W) [] hh a hr W (St.start W)).mono fun e W' hX => ?_
  cases e with
  | returned r =>
    obtain ⟨m', L', hst, hle, _, rfl⟩ := hX
    have hg := hst.grown hle
    refine ⟨_, rfl, post_of_same (pa := p) (pv := []) hW' (fun _ _ _ => ?_) (fun sp hsp => ?_) (fun _ _ => ?_) (by simp) (hg.frame _) hg.2.1 (ok_one hres rfl (okWide_bool_mk Try.underlying4 _))⟩
    · rw [hres, show ([d] ++ [] : List (DataW H)) = [d] from rfl, hfn]
      exact trodAll_mk1 (shut_bool Try.underlying4 _)
    · rw [hpar, show ([d] ++ [] : List (DataW H)) = [d] from rfl, hfn]
      exact trodAll_mk1 (stays hst hle in26 ⟨n, hn⟩ hlt hsp)
    · rw [hvars, show ([d] ++ [] : List (DataW H)) = [d] from rfl, hfn]
      rfl
  | panicked ch =>
    obtain ⟨_, _, _, hf⟩ := hX
    exact hf.elim
  | outgrown => exact hX.elim
end Go.Proofs.Ytopkiglcemcjnaa
