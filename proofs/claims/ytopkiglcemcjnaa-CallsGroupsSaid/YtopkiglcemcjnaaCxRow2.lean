/-
  The rows of two arguments (a hierarchy and a number): from a walk's contract to the row's.
-/
import Derived.Test.YtopkiglcemcjnaaCxRow1
namespace Go.Proofs.Ytopkiglcemcjnaa
open Go.ChangeShapes Go.WideShapes Go.ChangeAt Go.RowKit Go.Sep
set_option linter.unusedVariables false
set_option linter.unusedSimpArgs false

theorem law2 {f : FuncId} {fn : Func} {s : ChangeSpec} (hvars : s.vars = []) (hpar : fn.params = #[26, 3]) (hres : fn.resultTypes = #[4])
    (hfn : ∀ (H : Type) (d1 d2 : DataW H), s.fn H [d1, d2] = { results := [.lit (.bool true)], args := [d1, d2] })
    (hT : ∀ (m : Mem) (L : List Sep.Item) (hh : HHier) (h : Hier), HierRep m hh h → ∀ n : Int, TCall Try.prog f ⟨[hierV hh, .int .i64 n]⟩ m L (Made m L fun r m' => r = .bool true))
    {fresh handsOn again : Bool} (H : Type) (enc : TypeId × Value → H) (W : World) (base : Nat) (args : Array Value) (ds gs : List (DataW H)) (before : List MemPlace)
    (hval : ∀ (j : Nat) t v, fn.params[j]? = some t → args[j]? = some v → Value.okWide Try.prog W .any base t v)
    (hW : DataW.Whole enc Try.prog fn.params.toList s.vars false W args.toList ds gs before)
    (hsz : (DataW.weightsEach Try.prog (fn.params.toList ++ s.plain.varTypes Try.prog) (ds ++ gs)).all (· ≤ reachBytes) = true) :
    Calls Try.prog f args W fun e W' => ∃ v, e = .returned v ∧ s.post enc Try.prog fn false fresh handsOn again W args v W' := by
  have hlt : ∀ p ∈ before, p.block < W.heap.size := fun p hp => hW.lt p hp
  have hW' := hW
  obtain ⟨p, q, hA0, hV, rfl, hfz, hnd⟩ := hW
  rw [hvars] at hV
  obtain ⟨rfl, rfl⟩ := trodVars_none hV
  rw [hpar] at hA0 hval hsz
  obtain ⟨v, v2, d, d2, p1, p2, rfl, rfl, rfl, h0, h2⟩ := trodAll_two hA0
  simp only [List.append_nil] at hW' hlt hsz
  have hv := hval 0 26 v rfl rfl
  obtain ⟨n, hn⟩ := h0
  obtain ⟨n2, hn2⟩ := h2
  have hwts : ∀ w ∈ d.weights Try.prog 26, w ≤ reachBytes := fun w hw => by
    have := List.all_eq_true.1 hsz w (DataW.weights_mem_each (j := 0) (t := 26) (d := d) rfl rfl w hw)
    simpa using this
  obtain ⟨hh, a, he, hr⟩ := reads_hier hn hwts
  have hv26 : v = hierV hh := by
    unfold Value.okWide at hv
    rw [Try.underlying26] at hv
    obtain ⟨cs, rfl, _, _⟩ := hv
    have : cs.toList = hierC hh := he
    exact congrArg Value.agg (Array.ext' this)
  subst hv26
  obtain ⟨z, hz, _, _⟩ := open_int Try.underlying3 (hval 1 3 v2 rfl rfl) ⟨n2, hn2⟩
  subst hz
  refine (hT (memOf W) [] hh a hr z W (St.start W)).mono fun e W' hX => ?_
  cases e with
  | returned r =>
    obtain ⟨m', L', hst, hle, _, rfl⟩ := hX
    have hg := hst.grown hle
    refine ⟨_, rfl, post_of_same (pa := p1 ++ p2) (pv := []) hW' (fun _ _ _ => ?_) (fun sp hsp => ?_) (fun _ _ => ?_) (by simp) (hg.frame _) hg.2.1 (ok_one hres rfl (okWide_bool_mk Try.underlying4 _))⟩
    · rw [hres, show ([d, d2] ++ [] : List (DataW H)) = [d, d2] from rfl, hfn]
      exact trodAll_mk1 (shut_bool Try.underlying4 _)
    · rw [hpar, show ([d, d2] ++ [] : List (DataW H)) = [d, d2] from rfl, hfn]
      exact trodAll_mk2 (stays hst hle in26 ⟨n, hn⟩ (fun x hx => hlt x (List.mem_append_left _ hx)) (fun x hx => hsp x (List.mem_append_left _ hx)))
        (stays hst hle in3 ⟨n2, hn2⟩ (fun x hx => hlt x (List.mem_append_right _ hx)) (fun x hx => hsp x (List.mem_append_right _ hx)))
    · rw [hvars, show ([d, d2] ++ [] : List (DataW H)) = [d, d2] from rfl, hfn]
      rfl
  | panicked ch =>
    obtain ⟨_, _, _, hf⟩ := hX
    exact hf.elim
  | outgrown => exact hX.elim
end Go.Proofs.Ytopkiglcemcjnaa
