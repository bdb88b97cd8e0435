/-
  A law over bytes: from the reading of the argument to the walk, and back (the bundle seat).
-/
import Derived.Test.YtiknfjdjbhbjhaaGreatDoorFRead
set_option linter.unusedVariables false
set_option linter.unusedSimpArgs false
set_option maxRecDepth 100000
namespace Go.Sep
open Go.Proofs Go.ChangeShapes Go.WideShapes
section
variable {HH : Type} {enc : TypeId × Value → HH} {W : World}
theorem reads_byte : Reads enc W rByte 5 := fun fuel cs x h _ => by
  obtain ⟨n, h1, _, hw⟩ := DataW.trod_int Tryz.underlying5 h
  have h2 : 0 ≤ n ∧ n < 256 := by
    have h1 := hw
    have e1 : IntKind.u8.min = 0 := by decide
    have e2 : IntKind.u8.max = 255 := by decide
    simp only [Lit.wf, Bool.and_eq_true, decide_eq_true_eq, e1, e2] at h1
    omega
  refine ⟨UInt8.ofNat n.toNat, UInt8.ofNat n.toNat, ?_, rfl⟩
  rw [h1]
  show [Value.int .u8 n] = [byteV (UInt8.ofNat n.toNat)]
  have e : ((UInt8.ofNat n.toNat).toNat : Int) = n := by rw [UInt8.toNat_ofNat', Nat.mod_eq_of_lt (by omega)]; omega
  rw [byteV, e]
theorem reads_bytes : Reads enc W (rSl rByte) 23 := reads_slice Tryz.underlying23 (by kernel_rfl) (by decide) (by kernel_rfl) reads_byte
end
end Go.Sep
namespace Go.Proofs.YtiknfjdjbhbjhaaGreatDoor
open Go.ChangeShapes Go.WideShapes Go.ChangeAt Go.RowKit Go.Sep
set_option maxRecDepth 100000 in
/-- a law over bytes -/
theorem lawB {f : FuncId} {fn : Func} {s : ChangeSpec} (hvars : s.vars = []) (hpar : fn.params = #[23]) (hres : fn.resultTypes = #[4])
    (hfn : ∀ (H : Type) (d0 : DataW H), s.fn H [d0] = { results := [.lit (.bool true)], args := [d0] }) (ok : Mem → Prop)
    (hT : ∀ (m : Mem) (L : List Sep.Item), ok m → ∀ (s0 : Sl) (l0 : Str), SlRep rByte m s0 l0 → TCall Tryz.prog f ⟨[s0.v]⟩ m L (Made m L fun r _ => r = .bool true))
    {fresh handsOn : Bool} (H : Type) (enc : TypeId × Value → H) (W : World) (base : Nat) (args : Array Value) (ds gs : List (DataW H)) (before : List MemPlace)
    (hval : ∀ (j : Nat) t v, fn.params[j]? = some t → args[j]? = some v → Value.okWide Tryz.prog W .any base t v)
    (hW : DataW.Whole enc Tryz.prog fn.params.toList s.vars false W args.toList ds gs before) (hL : ok (memOf W))
    (hsz : (DataW.weightsEach Tryz.prog (fn.params.toList ++ s.plain.varTypes Tryz.prog) (ds ++ gs)).all (· ≤ reachBytes) = true) :
    Calls Tryz.prog f args W fun e W' => ∃ v, e = .returned v ∧ s.post enc Tryz.prog fn false fresh handsOn false W args v W' := by
  have hlt : ∀ p ∈ before, p.block < W.heap.size := fun p hp => hW.lt p hp
  have hW' := hW
  obtain ⟨p, q, hA0, hV, rfl, hfz, hnd⟩ := hW
  rw [hvars] at hV
  obtain ⟨rfl, rfl⟩ := trodVars_none hV
  rw [hpar] at hA0 hval hsz
  obtain ⟨v0, d0, rfl, rfl, g0⟩ := trodAll_one hA0
  simp only [List.append_nil] at hW' hlt hsz
  obtain ⟨n0, hn0⟩ := g0
  have hw0 : ∀ w ∈ d0.weights Tryz.prog 23, w ≤ reachBytes := fun w hw => by
    have := List.all_eq_true.1 hsz w (DataW.weights_mem_each (j := 0) (t := 23) (d := d0) rfl rfl w hw)
    simpa using this
  obtain ⟨s0, l0, e0, hs0⟩ := reads_bytes n0 _ _ hn0 hw0
  have hv0 : v0 = s0.v := slice_val Tryz.underlying23 (hval 0 23 v0 rfl rfl) e0
  subst hv0
  refine (hT (memOf W) [] hL s0 l0 hs0 W (St.start W)).mono fun e W' hX => ?_
  cases e with
  | returned r =>
    obtain ⟨m', L', hst, hle, _, rfl⟩ := hX
    refine ⟨_, rfl, post_old (pa := p) (pv := []) hW' (fun _ _ _ => ?_) (fun sp hsp => ?_) (fun _ _ => ?_) (hst.kept hle)⟩
    · rw [hres, show ([d0] ++ [] : List (DataW H)) = [d0] from rfl, hfn]
      exact trodAll_mk1 (shut_bool Tryz.underlying4 _)
    · rw [hpar, show ([d0] ++ [] : List (DataW H)) = [d0] from rfl, hfn]
      exact trodAll_mk1 (stays hst hle (in_ 23 (by kernel_rfl)) ⟨n0, hn0⟩ (fun x hx => hlt x (hx)) (fun x hx => hsp x (hx)))
    · rw [hvars, show ([d0] ++ [] : List (DataW H)) = [d0] from rfl, hfn]
      rfl
  | panicked ch =>
    obtain ⟨_, _, _, hf⟩ := hX
    exact hf.elim
  | outgrown => exact hX.elim
end Go.Proofs.YtiknfjdjbhbjhaaGreatDoor
