/-
  The rows of two arguments (two types): from a walk's contract to the row's.
-/
import Derived.Test.YtlpcakplpnpaeaaTyRow1
namespace Go.Proofs.Ytlpcakplpnpaeaa
open Go.ChangeShapes Go.WideShapes Go.ChangeAt Go.RowKit Go.Sep
set_option linter.unusedVariables false
set_option linter.unusedSimpArgs false

set_option maxRecDepth 100000 in
theorem law2 {f : FuncId} {fn : Func} {s : ChangeSpec} (hvars : s.vars = []) (hpar : fn.params = #[27, 27]) (hres : fn.resultTypes = #[4])
    (hfn : ∀ (H : Type) (d1 d2 : DataW H), s.fn H [d1, d2] = { results := [.lit (.bool true)], args := [d1, d2] })
    (hT : ∀ (m : Mem) (L : List Sep.Item) (h g : HTree) (a c : Tree), TreeRep m h a → TreeRep m g c → a.bulk ≤ 1048576 → c.bulk ≤ 1048576 → TCall Try.prog f ⟨[treeV h, treeV g]⟩ m L (Ret (.bool true) m L))
    {fresh handsOn : Bool} (H : Type) (enc : TypeId × Value → H) (W : World) (base : Nat) (args : Array Value) (ds gs : List (DataW H)) (before : List MemPlace)
    (hval : ∀ (j : Nat) t v, fn.params[j]? = some t → args[j]? = some v → Value.okWide Try.prog W .any base t v)
    (hW : DataW.Whole enc Try.prog fn.params.toList s.vars false W args.toList ds gs before) (hk : Rows.uptoSmall H (ds ++ gs) = true)
    (hsz : (DataW.weightsEach Try.prog (fn.params.toList ++ s.plain.varTypes Try.prog) (ds ++ gs)).all (· ≤ reachBytes) = true) :
    Calls Try.prog f args W fun e W' => ∃ v, e = .returned v ∧ s.post enc Try.prog fn false fresh handsOn false W args v W' := by
  have hlt : ∀ p ∈ before, p.block < W.heap.size := fun p hp => hW.lt p hp
  have hW' := hW
  obtain ⟨p, q, hA0, hV, rfl, hfz, hnd⟩ := hW
  rw [hvars] at hV
  obtain ⟨rfl, rfl⟩ := trodVars_none hV
  rw [hpar] at hA0 hval hsz
  obtain ⟨v, v2, d, d2, p1, p2, rfl, rfl, rfl, h0, h2⟩ := trodAll_two hA0
  simp only [List.append_nil] at hW' hlt hsz hk
  have hv := hval 0 27 v rfl rfl
  have hv2 := hval 1 27 v2 rfl rfl
  obtain ⟨n, hn⟩ := h0
  obtain ⟨n2, hn2⟩ := h2
  have hwts : ∀ w ∈ d.weights Try.prog 27, w ≤ reachBytes := fun w hw => by
    have := List.all_eq_true.1 hsz w (DataW.weights_mem_each (j := 0) (t := 27) (d := d) rfl rfl w hw)
    simpa using this
  have hwts2 : ∀ w ∈ d2.weights Try.prog 27, w ≤ reachBytes := fun w hw => by
    have := List.all_eq_true.1 hsz w (DataW.weights_mem_each (j := 1) (t := 27) (d := d2) rfl rfl w hw)
    simpa using this
  have hkb : Rows.uptoBulkAll [d, d2] ≤ 1048576 := of_decide_eq_true hk
  simp only [Rows.uptoBulkAll] at hkb
  obtain ⟨h, a, he, hr, hB⟩ := reads_tree27 _ n _ _ (Nat.le_refl _) hn hwts
  obtain ⟨g, c, ge, gr, gB⟩ := reads_tree27 _ n2 _ _ (Nat.le_refl _) hn2 hwts2
  have hv27 : v = treeV h := by
    unfold Value.okWide at hv
    rw [Try.underlying27] at hv
    obtain ⟨cs, rfl, _, _⟩ := hv
    have : cs.toList = treeC h := he
    exact congrArg Value.agg (Array.ext' this)
  have hv27' : v2 = treeV g := by
    unfold Value.okWide at hv2
    rw [Try.underlying27] at hv2
    obtain ⟨cs, rfl, _, _⟩ := hv2
    have : cs.toList = treeC g := ge
    exact congrArg Value.agg (Array.ext' this)
  subst hv27
  subst hv27'
  simp only at hB gB
  refine (hT (memOf W) [] h g a c hr gr (by omega) (by omega) W (St.start W)).mono fun e W' hX => ?_
  cases e with
  | returned r =>
    obtain ⟨m', L', hst, rfl, _, rfl⟩ := hX
    have hle := Mem.le_refl (memOf W)
    refine ⟨_, rfl, post_old (pa := p1 ++ p2) (pv := []) hW' (fun _ _ _ => ?_) (fun sp hsp => ?_) (fun _ _ => ?_) (hst.kept hle)⟩
    · rw [hres, show ([d, d2] ++ [] : List (DataW H)) = [d, d2] from rfl, hfn]
      exact trodAll_mk1 (shut_bool Try.underlying4 _)
    · rw [hpar, show ([d, d2] ++ [] : List (DataW H)) = [d, d2] from rfl, hfn]
      exact trodAll_mk2 (stays hst hle in27 ⟨n, hn⟩ (fun x hx => hlt x (List.mem_append_left _ hx)) (fun x hx => hsp x (List.mem_append_left _ hx)))
        (stays hst hle in27 ⟨n2, hn2⟩ (fun x hx => hlt x (List.mem_append_right _ hx)) (fun x hx => hsp x (List.mem_append_right _ hx)))
    · rw [hvars, show ([d, d2] ++ [] : List (DataW H)) = [d, d2] from rfl, hfn]
      rfl
  | panicked ch =>
    obtain ⟨_, _, _, hf⟩ := hX
    exact hf.elim
  | outgrown => exact hX.elim
end Go.Proofs.Ytlpcakplpnpaeaa
