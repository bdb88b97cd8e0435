/-
  The rows: from a walk's contract to the row's (the slots seat).
-/
import Derived.Test.YtggfaplmdcpccaaRows
import Derived.ProofKit
import Derived.OpenShut
import Derived.JoinedOf
import Derived.Test.YtggfaplmdcpccaaB8
namespace Go.Proofs.Ytggfaplmdcpccaa
open Go.ChangeShapes Go.WideShapes Go.ChangeAt Go.RowKit Go.Sep
set_option linter.unusedVariables false
set_option linter.unusedSimpArgs false

theorem own : ownKnob Try.prog.godebug = none := by kernel_rfl
theorem kids : Kids Try.prog (· < Try.prog.types.size) := kids_rows (by kernel_rfl) (by kernel_rfl)
theorem full : ∀ t e, t < Try.prog.types.size → Try.prog.underlying t = some (.slice e) → 0 < Try.prog.cellsOf e := slices_full_of Try.prog (by kernel_rfl)
theorem in_ (t : TypeId) (h : decide (t < Try.prog.types.size) = true) : t < Try.prog.types.size := of_decide_eq_true h
theorem slice_val {W : World} {base : Nat} {t e : TypeId} {v : Value} {ss : Sl} (hu : Try.prog.underlying t = some (.slice e)) (hv : Value.okWide Try.prog W .any base t v) (he : v.cells.toList = [ss.v]) : v = ss.v := by
  unfold Value.okWide at hv
  rw [hu] at hv
  cases v <;> simp_all [Value.cells, Cell.okWide, Cell.ok]

/-- an argument reads as1 it read -/
theorem stays {H : Type} {enc : TypeId × Value → H} {W w' : World} {m' : Mem} {L' : List Sep.Item} (h : St m' w' L') (hm : memOf W ≤ m') {t : TypeId} (ht : t < Try.prog.types.size) {v : Value} {d : DataW H} {ps : List MemPlace}
    (hd : DataW.Trod enc Try.prog W 0 (fun _ => true) true t v d ps) (hlt : ∀ p ∈ ps, p.block < W.heap.size) {sp' : Nat → Bool} (hs : ∀ p ∈ ps, sp' p.block = true) : DataW.Trod enc Try.prog w' 0 sp' true t v d ps := by
  obtain ⟨n, hn⟩ := hd
  exact ⟨n, DataW.trod_stays kids (fun h1 h2 => full _ _ h1 h2) (fun e => by cases e) ht hn (fun p hp => h.same hm (hlt p hp)) hs⟩

/-- behind the call all is as1 it was; what is new may be frozen -/
theorem post_old {H : Type} {enc : TypeId × Value → H} {f : Func} {s : ChangeSpec} {apart fresh handsOn : Bool} {W W' : World} {args : Array Value} {v : Value} {ds gs : List (DataW H)} {before pa pv : List MemPlace}
    (hW : DataW.Whole enc Try.prog f.params.toList s.vars apart W args.toList ds gs before)
    (hres : ∀ (b : Nat) (sp : Nat → Bool) (hd : Bool), DataW.TrodAll enc Try.prog W' b sp hd f.resultTypes.toList (v.resultList f.resultTypes.size) (s.fn H (ds ++ gs)).results [])
    (hargs : ∀ sp : Nat → Bool, (∀ p ∈ before, sp p.block = true) → DataW.TrodAll enc Try.prog W' 0 sp true f.params.toList args.toList (s.fn H (ds ++ gs)).args pa)
    (hvars : ∀ sp : Nat → Bool, (∀ p ∈ before, sp p.block = true) → DataW.TrodVars enc Try.prog W' sp s.vars (s.fn H (ds ++ gs)).vars pv)
    (hk : W.keptBut W' (fun _ => False)) : s.post enc Try.prog f apart fresh handsOn false W args v W' := by
  have hold : ∀ p ∈ before, (fun b => decide (b < W.heap.size)) p.block = true := fun p hp => by simpa using hW.lt p hp
  exact ⟨ds, gs, before, [], pa, pv, hW, hres _ _ _, hargs _ hold, hvars _ hold, World.keptBut_mono (fun _ hp => hp.elim) hk, fun h => by cases h⟩



set_option maxRecDepth 100000 in
theorem lawMoved {f : FuncId} {fn : Func} {s : ChangeSpec} (hvars : s.vars = []) (hpar : fn.params = #[22, 23]) (hres : fn.resultTypes = #[4])
    (hfn : ∀ (H : Type) (d d1 : DataW H), s.fn H [d, d1] = { results := [.lit (.bool true)], args := [d, d1] })
    (hT : ∀ (m : Mem) (L : List Sep.Item), ∀ (s0 : Sl) (l0 : List Rg), SlRep rRg m s0 l0 → ∀ z1 : Int, 0 ≤ z1 ∧ z1 < 65536 → TCall Try.prog f ⟨[s0.v, .int .u16 z1]⟩ m L (Made m L fun r m' => r = .bool true))
    {fresh handsOn : Bool} (H : Type) (enc : TypeId × Value → H) (W : World) (base : Nat) (args : Array Value) (ds gs : List (DataW H)) (before : List MemPlace)
    (hval : ∀ (j : Nat) t v, fn.params[j]? = some t → args[j]? = some v → Value.okWide Try.prog W .any base t v)
    (hW : DataW.Whole enc Try.prog fn.params.toList s.vars false W args.toList ds gs before)
    (hsz : (DataW.weightsEach Try.prog (fn.params.toList ++ s.plain.varTypes Try.prog) (ds ++ gs)).all (· ≤ reachBytes) = true) :
    Calls Try.prog f args W fun e W' => ∃ v, e = .returned v ∧ s.post enc Try.prog fn false fresh handsOn false W args v W' := by
  have hlt : ∀ p ∈ before, p.block < W.heap.size := fun p hp => hW.lt p hp
  have hW' := hW
  obtain ⟨p, q, hA0, hV, rfl, hfz, hnd⟩ := hW
  rw [hvars] at hV
  obtain ⟨rfl, rfl⟩ := trodVars_none hV
  rw [hpar] at hA0 hval hsz
  obtain ⟨v, v1, d, d1, p0, p1, rfl, rfl, rfl, g0, g1⟩ := trodAll_two hA0
  simp only [List.append_nil] at hW' hlt hsz
  obtain ⟨n0, hn0⟩ := g0
  have hw0 : ∀ w ∈ d.weights Try.prog 22, w ≤ reachBytes := fun w hw => by
    have := List.all_eq_true.1 hsz w (DataW.weights_mem_each (j := 0) (t := 22) (d := d) rfl rfl w hw)
    simpa using this
  have r0 : Reads enc W (rSl rRg) 22 := reads_slice Try.underlying22 (by kernel_rfl) (by decide) (by kernel_rfl) reads_rg
  obtain ⟨s0, l0, e0, hs0⟩ := r0 n0 _ _ hn0 hw0
  have hv0 : v = s0.v := slice_val Try.underlying22 (hval 0 22 v rfl rfl) e0
  subst hv0
  obtain ⟨z1, hzz1, _, _, hw1⟩ := open_int Try.underlying23 (hval 1 23 v1 rfl rfl) g1
  subst hzz1
  have hz1 := u16_wf hw1
  refine (hT (memOf W) [] s0 l0 hs0 z1 hz1 W (St.start W)).mono fun e W' hX => ?_
  cases e with
  | returned r =>
    obtain ⟨m', L', hst, hle, _, rfl⟩ := hX
    refine ⟨_, rfl, post_old (pa := p0 ++ p1) (pv := []) hW' (fun _ _ _ => ?_) (fun sp hsp => ?_) (fun _ _ => ?_) (hst.kept hle)⟩
    · rw [hres, show ([d, d1] ++ [] : List (DataW H)) = [d, d1] from rfl, hfn]
      exact trodAll_mk1 (shut_bool Try.underlying4 _)
    · rw [hpar, show ([d, d1] ++ [] : List (DataW H)) = [d, d1] from rfl, hfn]
      exact trodAll_mk2 (stays hst hle (in_ 22 (by kernel_rfl)) ⟨n0, hn0⟩ (fun x hx => hlt x (List.mem_append_left _ hx)) (fun x hx => hsp x (List.mem_append_left _ hx))) (stays hst hle (in_ 23 (by kernel_rfl)) g1 (fun x hx => hlt x (List.mem_append_right _ hx)) (fun x hx => hsp x (List.mem_append_right _ hx)))
    · rw [hvars, show ([d, d1] ++ [] : List (DataW H)) = [d, d1] from rfl, hfn]
      rfl
  | panicked ch =>
    obtain ⟨_, _, _, hf⟩ := hX
    exact hf.elim
  | outgrown => exact hX.elim

set_option maxRecDepth 100000 in
theorem lawRg {f : FuncId} {fn : Func} {s : ChangeSpec} (hvars : s.vars = []) (hpar : fn.params = #[22]) (hres : fn.resultTypes = #[4])
    (hfn : ∀ (H : Type) (d : DataW H), s.fn H [d] = { results := [.lit (.bool true)], args := [d] })
    (hT : ∀ (m : Mem) (L : List Sep.Item), ∀ (s0 : Sl) (l0 : List Rg), SlRep rRg m s0 l0 → TCall Try.prog f ⟨[s0.v]⟩ m L (Made m L fun r m' => r = .bool true))
    {fresh handsOn : Bool} (H : Type) (enc : TypeId × Value → H) (W : World) (base : Nat) (args : Array Value) (ds gs : List (DataW H)) (before : List MemPlace)
    (hval : ∀ (j : Nat) t v, fn.params[j]? = some t → args[j]? = some v → Value.okWide Try.prog W .any base t v)
    (hW : DataW.Whole enc Try.prog fn.params.toList s.vars false W args.toList ds gs before)
    (hsz : (DataW.weightsEach Try.prog (fn.params.toList ++ s.plain.varTypes Try.prog) (ds ++ gs)).all (· ≤ reachBytes) = true) :
    Calls Try.prog f args W fun e W' => ∃ v, e = .returned v ∧ s.post enc Try.prog fn false fresh handsOn false W args v W' := by
  have hlt : ∀ p ∈ before, p.block < W.heap.size := fun p hp => hW.lt p hp
  have hW' := hW
  obtain ⟨p, q, hA0, hV, rfl, hfz, hnd⟩ := hW
  rw [hvars] at hV
  obtain ⟨rfl, rfl⟩ := trodVars_none hV
  rw [hpar] at hA0 hval hsz
  obtain ⟨v, d, rfl, rfl, g0⟩ := trodAll_one hA0
  simp only [List.append_nil] at hW' hlt hsz
  obtain ⟨n0, hn0⟩ := g0
  have hw0 : ∀ w ∈ d.weights Try.prog 22, w ≤ reachBytes := fun w hw => by
    have := List.all_eq_true.1 hsz w (DataW.weights_mem_each (j := 0) (t := 22) (d := d) rfl rfl w hw)
    simpa using this
  have r0 : Reads enc W (rSl rRg) 22 := reads_slice Try.underlying22 (by kernel_rfl) (by decide) (by kernel_rfl) reads_rg
  obtain ⟨s0, l0, e0, hs0⟩ := r0 n0 _ _ hn0 hw0
  have hv0 : v = s0.v := slice_val Try.underlying22 (hval 0 22 v rfl rfl) e0
  subst hv0
  refine (hT (memOf W) [] s0 l0 hs0 W (St.start W)).mono fun e W' hX => ?_
  cases e with
  | returned r =>
    obtain ⟨m', L', hst, hle, _, rfl⟩ := hX
    refine ⟨_, rfl, post_old (pa := p) (pv := []) hW' (fun _ _ _ => ?_) (fun sp hsp => ?_) (fun _ _ => ?_) (hst.kept hle)⟩
    · rw [hres, show ([d] ++ [] : List (DataW H)) = [d] from rfl, hfn]
      exact trodAll_mk1 (shut_bool Try.underlying4 _)
    · rw [hpar, show ([d] ++ [] : List (DataW H)) = [d] from rfl, hfn]
      exact trodAll_mk1 (stays hst hle (in_ 22 (by kernel_rfl)) ⟨n0, hn0⟩ hlt hsp)
    · rw [hvars, show ([d] ++ [] : List (DataW H)) = [d] from rfl, hfn]
      rfl
  | panicked ch =>
    obtain ⟨_, _, _, hf⟩ := hX
    exact hf.elim
  | outgrown => exact hX.elim

set_option maxRecDepth 100000 in
theorem lawU16 {f : FuncId} {fn : Func} {s : ChangeSpec} (hvars : s.vars = []) (hpar : fn.params = #[33]) (hres : fn.resultTypes = #[4])
    (hfn : ∀ (H : Type) (d : DataW H), s.fn H [d] = { results := [.lit (.bool true)], args := [d] })
    (hT : ∀ (m : Mem) (L : List Sep.Item), ∀ (s0 : Sl) (l0 : List Int), SlRep rU16 m s0 l0 → TCall Try.prog f ⟨[s0.v]⟩ m L (Made m L fun r m' => r = .bool true))
    {fresh handsOn : Bool} (H : Type) (enc : TypeId × Value → H) (W : World) (base : Nat) (args : Array Value) (ds gs : List (DataW H)) (before : List MemPlace)
    (hval : ∀ (j : Nat) t v, fn.params[j]? = some t → args[j]? = some v → Value.okWide Try.prog W .any base t v)
    (hW : DataW.Whole enc Try.prog fn.params.toList s.vars false W args.toList ds gs before)
    (hsz : (DataW.weightsEach Try.prog (fn.params.toList ++ s.plain.varTypes Try.prog) (ds ++ gs)).all (· ≤ reachBytes) = true) :
    Calls Try.prog f args W fun e W' => ∃ v, e = .returned v ∧ s.post enc Try.prog fn false fresh handsOn false W args v W' := by
  have hlt : ∀ p ∈ before, p.block < W.heap.size := fun p hp => hW.lt p hp
  have hW' := hW
  obtain ⟨p, q, hA0, hV, rfl, hfz, hnd⟩ := hW
  rw [hvars] at hV
  obtain ⟨rfl, rfl⟩ := trodVars_none hV
  rw [hpar] at hA0 hval hsz
  obtain ⟨v, d, rfl, rfl, g0⟩ := trodAll_one hA0
  simp only [List.append_nil] at hW' hlt hsz
  obtain ⟨n0, hn0⟩ := g0
  have hw0 : ∀ w ∈ d.weights Try.prog 33, w ≤ reachBytes := fun w hw => by
    have := List.all_eq_true.1 hsz w (DataW.weights_mem_each (j := 0) (t := 33) (d := d) rfl rfl w hw)
    simpa using this
  have r0 : Reads enc W (rSl rU16) 33 := reads_slice Try.underlying33 (by kernel_rfl) (by decide) (by kernel_rfl) (reads_u16 Try.underlying23)
  obtain ⟨s0, l0, e0, hs0⟩ := r0 n0 _ _ hn0 hw0
  have hv0 : v = s0.v := slice_val Try.underlying33 (hval 0 33 v rfl rfl) e0
  subst hv0
  refine (hT (memOf W) [] s0 l0 hs0 W (St.start W)).mono fun e W' hX => ?_
  cases e with
  | returned r =>
    obtain ⟨m', L', hst, hle, _, rfl⟩ := hX
    refine ⟨_, rfl, post_old (pa := p) (pv := []) hW' (fun _ _ _ => ?_) (fun sp hsp => ?_) (fun _ _ => ?_) (hst.kept hle)⟩
    · rw [hres, show ([d] ++ [] : List (DataW H)) = [d] from rfl, hfn]
      exact trodAll_mk1 (shut_bool Try.underlying4 _)
    · rw [hpar, show ([d] ++ [] : List (DataW H)) = [d] from rfl, hfn]
      exact trodAll_mk1 (stays hst hle (in_ 33 (by kernel_rfl)) ⟨n0, hn0⟩ hlt hsp)
    · rw [hvars, show ([d] ++ [] : List (DataW H)) = [d] from rfl, hfn]
      rfl
  | panicked ch =>
    obtain ⟨_, _, _, hf⟩ := hX
    exact hf.elim
  | outgrown => exact hX.elim
end Go.Proofs.Ytggfaplmdcpccaa
