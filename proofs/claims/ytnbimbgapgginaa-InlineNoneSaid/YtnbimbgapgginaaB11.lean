/-
  The rows: from a walk's contract to the row's (the inline seat).
-/
import Derived.Test.YtnbimbgapgginaaRows
import Derived.ProofKit
import Derived.OpenShut
import Derived.JoinedOf
import Derived.Test.YtnbimbgapgginaaB10
namespace Go.Proofs.Ytnbimbgapgginaa
open Go.ChangeShapes Go.WideShapes Go.ChangeAt Go.RowKit Go.Sep
set_option linter.unusedVariables false
set_option linter.unusedSimpArgs false

theorem own : ownKnob Try.prog.godebug = none := by kernel_rfl
theorem kids : Kids Try.prog (· < Try.prog.types.size) := kids_rows (by kernel_rfl) (by kernel_rfl)
theorem full : ∀ t e, t < Try.prog.types.size → Try.prog.underlying t = some (.slice e) → 0 < Try.prog.cellsOf e := slices_full_of Try.prog (by kernel_rfl)
theorem in26 : (26 : TypeId) < Try.prog.types.size := of_decide_eq_true (by kernel_rfl)
theorem in27 : (27 : TypeId) < Try.prog.types.size := of_decide_eq_true (by kernel_rfl)
theorem in3 : (3 : TypeId) < Try.prog.types.size := of_decide_eq_true (by kernel_rfl)
theorem cells27 (v : Value) : True := trivial
theorem slice_val {W : World} {base : Nat} {v : Value} {ss : Sl} (hv : Value.okWide Try.prog W .any base 27 v) (he : v.cells.toList = [ss.v]) : v = ss.v := by
  unfold Value.okWide at hv
  rw [Try.underlying27] at hv
  cases v <;> simp_all [Value.cells, Cell.okWide, Cell.ok, Try.underlying27]

/-- an argument reads as1 it read -/
theorem stays {H : Type} {enc : TypeId × Value → H} {W w' : World} {m' : Mem} {L' : List Sep.Item} (h : St m' w' L') (hm : memOf W ≤ m') {t : TypeId} (ht : t < Try.prog.types.size) {v : Value} {d : DataW H} {ps : List MemPlace}
    (hd : DataW.Trod enc Try.prog W 0 (fun _ => true) true t v d ps) (hlt : ∀ p ∈ ps, p.block < W.heap.size) {sp' : Nat → Bool} (hs : ∀ p ∈ ps, sp' p.block = true) : DataW.Trod enc Try.prog w' 0 sp' true t v d ps := by
  obtain ⟨n, hn⟩ := hd
  exact ⟨n, DataW.trod_stays kids (fun h1 h2 => full _ _ h1 h2) (fun e => by cases e) ht hn (fun p hp => h.same hm (hlt p hp)) hs⟩

/-- behind the call all is as1 it was; what is new may be frozen -/
theorem post_old {H : Type} {enc : TypeId × Value → H} {f : Func} {s : ChangeSpec} {apart fresh handsOn : Bool} {W W' : World} {args : Array Value} {v : Value} {ds gs : List (DataW H)} {before pa pv : List MemPlace}
    (hW : DataW.Whole enc Try.prog f.params.toList s.vars apart W args.toList ds gs before)
    (hres : ∀ (b : Nat) (sp : Nat → Bool) (hd : Bool), DataW.TrodAll enc Try.prog W' b sp hd f.resultTypes.toList (v.resultList f.resultTypes.size) (s.fn H (ds ++ gs)).results [])
    (hargs : ∀ sp : Nat → Bool, (∀ p ∈ before, sp p.block = true) → DataW.TrodAll enc Try.prog W' 0 sp true f.params.toList args.toList (s.fn H (ds ++ gs)).args pa)
    (hvars : ∀ sp : Nat → Bool, (∀ p ∈ before, sp p.block = true) → DataW.TrodVars enc Try.prog W' sp s.vars (s.fn H (ds ++ gs)).vars pv)
    (hk : W.keptBut W' (fun _ => False)) : s.post enc Try.prog f apart fresh handsOn false W args v W' := by
  have hold : ∀ p ∈ before, (fun b => decide (b < W.heap.size)) p.block = true := fun p hp => by simpa using hW.lt p hp
  exact ⟨ds, gs, before, [], pa, pv, hW, hres _ _ _, hargs _ hold, hvars _ hold, World.keptBut_mono (fun _ hp => hp.elim) hk, fun h => by cases h⟩


set_option maxRecDepth 100000 in
theorem law4 {f : FuncId} {fn : Func} {s : ChangeSpec} (hvars : s.vars = []) (hpar : fn.params = #[26, 27, 3, 3]) (hres : fn.resultTypes = #[4])
    (hfn : ∀ (H : Type) (d d1 d2 d3 : DataW H), s.fn H [d, d1, d2, d3] = { results := [.lit (.bool true)], args := [d, d1, d2, d3] })
    (hT : ∀ (m : Mem) (L : List Sep.Item) (hh : HHier) (h : Hier), HierRep m hh h → ∀ (ss : Sl) (sizes : List Int), SlRep rInt m ss sizes → ∀ n n2 : Int, TCall Try.prog f ⟨[hierV hh, ss.v, .int .i64 n, .int .i64 n2]⟩ m L (Made m L fun r m' => r = .bool true))
    {fresh handsOn : Bool} (H : Type) (enc : TypeId × Value → H) (W : World) (base : Nat) (args : Array Value) (ds gs : List (DataW H)) (before : List MemPlace)
    (hval : ∀ (j : Nat) t v, fn.params[j]? = some t → args[j]? = some v → Value.okWide Try.prog W .any base t v)
    (hW : DataW.Whole enc Try.prog fn.params.toList s.vars false W args.toList ds gs before)
    (hsz : (DataW.weightsEach Try.prog (fn.params.toList ++ s.plain.varTypes Try.prog) (ds ++ gs)).all (· ≤ reachBytes) = true) :
    Calls Try.prog f args W fun e W' => ∃ v, e = .returned v ∧ s.post enc Try.prog fn false fresh handsOn false W args v W' := by
  have hlt : ∀ p ∈ before, p.block < W.heap.size := fun p hp => hW.lt p hp
  have hW' := hW
  obtain ⟨p, q, hA0, hV, rfl, hfz, hnd⟩ := hW
  rw [hvars] at hV
  obtain ⟨rfl, rfl⟩ := trodVars_none hV
  rw [hpar] at hA0 hval hsz
  obtain ⟨v, v1, v2, v3, d, d1, d2, d3, p0, p1, p2, p3, rfl, rfl, rfl, g0, g1, g2, g3⟩ := trodAll_four hA0
  simp only [List.append_nil] at hW' hlt hsz
  have hv := hval 0 26 v rfl rfl
  obtain ⟨n0, hn0⟩ := g0
  obtain ⟨n1, hn1⟩ := g1
  have hw0 : ∀ w ∈ d.weights Try.prog 26, w ≤ reachBytes := fun w hw => by
    have := List.all_eq_true.1 hsz w (DataW.weights_mem_each (j := 0) (t := 26) (d := d) rfl rfl w hw)
    simpa using this
  have hw1 : ∀ w ∈ d1.weights Try.prog 27, w ≤ reachBytes := fun w hw => by
    have := List.all_eq_true.1 hsz w (DataW.weights_mem_each (j := 1) (t := 27) (d := d1) rfl rfl w hw)
    simpa using this
  obtain ⟨hh, a, he, hr⟩ := reads_hier hn0 hw0
  have hv26 : v = hierV hh := by
    unfold Value.okWide at hv
    rw [Try.underlying26] at hv
    obtain ⟨cs, rfl, _, _⟩ := hv
    have : cs.toList = hierC hh := he
    exact congrArg Value.agg (Array.ext' this)
  subst hv26
  have r1 : Reads enc W (rSl rInt) 27 := reads_slice Try.underlying27 (by kernel_rfl) (by decide) (by kernel_rfl) (reads_int Try.underlying3)
  have hc1 := cells27 v1
  obtain ⟨ss, sizes, e1, hs⟩ := r1 n1 _ _ hn1 hw1
  have hv1 : v1 = ss.v := by
    have hv := hval 1 27 v1 rfl rfl
    exact slice_val hv e1
  subst hv1
  obtain ⟨z, hz, _, _⟩ := open_int Try.underlying3 (hval 2 3 v2 rfl rfl) g2
  subst hz
  obtain ⟨z2, hz2, _, _⟩ := open_int Try.underlying3 (hval 3 3 v3 rfl rfl) g3
  subst hz2
  refine (hT (memOf W) [] hh a hr ss sizes hs z z2 W (St.start W)).mono fun e W' hX => ?_
  cases e with
  | returned r =>
    obtain ⟨m', L', hst, hle, _, rfl⟩ := hX
    refine ⟨_, rfl, post_old (pa := p0 ++ (p1 ++ (p2 ++ p3))) (pv := []) hW' (fun _ _ _ => ?_) (fun sp hsp => ?_) (fun _ _ => ?_) (hst.kept hle)⟩
    · rw [hres, show ([d, d1, d2, d3] ++ [] : List (DataW H)) = [d, d1, d2, d3] from rfl, hfn]
      exact trodAll_mk1 (shut_bool Try.underlying4 _)
    · rw [hpar, show ([d, d1, d2, d3] ++ [] : List (DataW H)) = [d, d1, d2, d3] from rfl, hfn]
      exact trodAll_mk4 (stays hst hle in26 ⟨n0, hn0⟩ (fun x hx => hlt x (List.mem_append_left _ (List.mem_append_left _ (List.mem_append_left _ hx)))) (fun x hx => hsp x (List.mem_append_left _ (List.mem_append_left _ (List.mem_append_left _ hx))))) (stays hst hle in27 ⟨n1, hn1⟩ (fun x hx => hlt x (List.mem_append_left _ (List.mem_append_left _ (List.mem_append_right _ hx)))) (fun x hx => hsp x (List.mem_append_left _ (List.mem_append_left _ (List.mem_append_right _ hx))))) (stays hst hle in3 g2 (fun x hx => hlt x (List.mem_append_left _ (List.mem_append_right _ hx))) (fun x hx => hsp x (List.mem_append_left _ (List.mem_append_right _ hx)))) (stays hst hle in3 g3 (fun x hx => hlt x (List.mem_append_right _ hx)) (fun x hx => hsp x (List.mem_append_right _ hx)))
    · rw [hvars, show ([d, d1, d2, d3] ++ [] : List (DataW H)) = [d, d1, d2, d3] from rfl, hfn]
      rfl
  | panicked ch =>
    obtain ⟨_, _, _, hf⟩ := hX
    exact hf.elim
  | outgrown => exact hX.elim

set_option maxRecDepth 100000 in
theorem law2 {f : FuncId} {fn : Func} {s : ChangeSpec} (hvars : s.vars = []) (hpar : fn.params = #[26, 27]) (hres : fn.resultTypes = #[4])
    (hfn : ∀ (H : Type) (d d1 : DataW H), s.fn H [d, d1] = { results := [.lit (.bool true)], args := [d, d1] })
    (hT : ∀ (m : Mem) (L : List Sep.Item) (hh : HHier) (h : Hier), HierRep m hh h → ∀ (ss : Sl) (sizes : List Int), SlRep rInt m ss sizes → TCall Try.prog f ⟨[hierV hh, ss.v]⟩ m L (Made m L fun r m' => r = .bool true))
    {fresh handsOn : Bool} (H : Type) (enc : TypeId × Value → H) (W : World) (base : Nat) (args : Array Value) (ds gs : List (DataW H)) (before : List MemPlace)
    (hval : ∀ (j : Nat) t v, fn.params[j]? = some t → args[j]? = some v → Value.okWide Try.prog W .any base t v)
    (hW : DataW.Whole enc Try.prog fn.params.toList s.vars false W args.toList ds gs before)
    (hsz : (DataW.weightsEach Try.prog (fn.params.toList ++ s.plain.varTypes Try.prog) (ds ++ gs)).all (· ≤ reachBytes) = true) :
    Calls Try.prog f args W fun e W' => ∃ v, e = .returned v ∧ s.post enc Try.prog fn false fresh handsOn false W args v W' := by
  have hlt : ∀ p ∈ before, p.block < W.heap.size := fun p hp => hW.lt p hp
  have hW' := hW
  obtain ⟨p, q, hA0, hV, rfl, hfz, hnd⟩ := hW
  rw [hvars] at hV
  obtain ⟨rfl, rfl⟩ := trodVars_none hV
  rw [hpar] at hA0 hval hsz
  obtain ⟨v, v1, d, d1, p0, p1, rfl, rfl, rfl, g0, g1⟩ := trodAll_two hA0
  simp only [List.append_nil] at hW' hlt hsz
  have hv := hval 0 26 v rfl rfl
  obtain ⟨n0, hn0⟩ := g0
  obtain ⟨n1, hn1⟩ := g1
  have hw0 : ∀ w ∈ d.weights Try.prog 26, w ≤ reachBytes := fun w hw => by
    have := List.all_eq_true.1 hsz w (DataW.weights_mem_each (j := 0) (t := 26) (d := d) rfl rfl w hw)
    simpa using this
  have hw1 : ∀ w ∈ d1.weights Try.prog 27, w ≤ reachBytes := fun w hw => by
    have := List.all_eq_true.1 hsz w (DataW.weights_mem_each (j := 1) (t := 27) (d := d1) rfl rfl w hw)
    simpa using this
  obtain ⟨hh, a, he, hr⟩ := reads_hier hn0 hw0
  have hv26 : v = hierV hh := by
    unfold Value.okWide at hv
    rw [Try.underlying26] at hv
    obtain ⟨cs, rfl, _, _⟩ := hv
    have : cs.toList = hierC hh := he
    exact congrArg Value.agg (Array.ext' this)
  subst hv26
  have r1 : Reads enc W (rSl rInt) 27 := reads_slice Try.underlying27 (by kernel_rfl) (by decide) (by kernel_rfl) (reads_int Try.underlying3)
  have hc1 := cells27 v1
  obtain ⟨ss, sizes, e1, hs⟩ := r1 n1 _ _ hn1 hw1
  have hv1 : v1 = ss.v := by
    have hv := hval 1 27 v1 rfl rfl
    exact slice_val hv e1
  subst hv1
  refine (hT (memOf W) [] hh a hr ss sizes hs W (St.start W)).mono fun e W' hX => ?_
  cases e with
  | returned r =>
    obtain ⟨m', L', hst, hle, _, rfl⟩ := hX
    refine ⟨_, rfl, post_old (pa := p0 ++ p1) (pv := []) hW' (fun _ _ _ => ?_) (fun sp hsp => ?_) (fun _ _ => ?_) (hst.kept hle)⟩
    · rw [hres, show ([d, d1] ++ [] : List (DataW H)) = [d, d1] from rfl, hfn]
      exact trodAll_mk1 (shut_bool Try.underlying4 _)
    · rw [hpar, show ([d, d1] ++ [] : List (DataW H)) = [d, d1] from rfl, hfn]
      exact trodAll_mk2 (stays hst hle in26 ⟨n0, hn0⟩ (fun x hx => hlt x (List.mem_append_left _ hx)) (fun x hx => hsp x (List.mem_append_left _ hx))) (stays hst hle in27 ⟨n1, hn1⟩ (fun x hx => hlt x (List.mem_append_right _ hx)) (fun x hx => hsp x (List.mem_append_right _ hx)))
    · rw [hvars, show ([d, d1] ++ [] : List (DataW H)) = [d, d1] from rfl, hfn]
      rfl
  | panicked ch =>
    obtain ⟨_, _, _, hf⟩ := hX
    exact hf.elim
  | outgrown => exact hX.elim
end Go.Proofs.Ytnbimbgapgginaa
