/-
  The rows: from a walk's contract to the row's (the slots seat).
-/
import Derived.Test.YtggfaplmdcpccaaRows
import Derived.ProofKit
import Derived.OpenShut
import Derived.JoinedOf
import Derived.Test.YtggfaplmdcpccaaB8
namespace Go.Proofs.Ytggfaplmdcpccaa
open Go.ChangeShapes Go.WideShapes Go.ChangeAt Go.RowKit Go.Sep
set_option linter.unusedVariables false
set_option linter.unusedSimpArgs false

theorem own : ownKnob Try.prog.godebug = none := by kernel_rfl
theorem kids : Kids Try.prog (· < Try.prog.types.size) := kids_rows (by kernel_rfl) (by kernel_rfl)
theorem full : ∀ t e, t < Try.prog.types.size → Try.prog.underlying t = some (.slice e) → 0 < Try.prog.cellsOf e := slices_full_of Try.prog (by kernel_rfl)
theorem in_ (t : TypeId) (h : decide (t < Try.prog.types.size) = true) : t < Try.prog.types.size := of_decide_eq_true h
theorem slice_val {W : World} {base : Nat} {t e : TypeId} {v : Value} {ss : Sl} (hu : Try.prog.underlying t = some (.slice e)) (hv : Value.okWide Try.prog W .any base t v) (he : v.cells.toList = [ss.v]) : v = ss.v := by
  unfold Value.okWide at hv
  rw [hu] at hv
  cases v <;> simp_all [Value.cells, Cell.okWide, Cell.ok]

/-- an argument reads as1 it read -/
theorem stays {H : Type} {enc : TypeId × Value → H} {W w' : World} {m' : Mem} {L' : List Sep.Item} (h : St m' w' L') (hm : memOf W ≤ m') {t : TypeId} (ht : t < Try.prog.types.size) {v : Value} {d : DataW H} {ps : List MemPlace}
    (hd : DataW.Trod enc Try.prog W 0 (fun _ => true) true t v d ps) (hlt : ∀ p ∈ ps, p.block < W.heap.size) {sp' : Nat → Bool} (hs : ∀ p ∈ ps, sp' p.block = true) : DataW.Trod enc Try.prog w' 0 sp' true t v d ps := by
  obtain ⟨n, hn⟩ := hd
  exact ⟨n, DataW.trod_stays kids (fun h1 h2 => full _ _ h1 h2) (fun e => by cases e) ht hn (fun p hp => h.same hm (hlt p hp)) hs⟩

/-- behind the call all is as1 it was; what is new may be frozen -/
theorem post_old {H : Type} {enc : TypeId × Value → H} {f : Func} {s : ChangeSpec} {apart fresh handsOn : Bool} {W W' : World} {args : Array Value} {v : Value} {ds gs : List (DataW H)} {before pa pv : List MemPlace}
    (hW : DataW.Whole enc Try.prog f.params.toList s.vars apart W args.toList ds gs before)
    (hres : ∀ (b : Nat) (sp : Nat → Bool) (hd : Bool), DataW.TrodAll enc Try.prog W' b sp hd f.resultTypes.toList (v.resultList f.resultTypes.size) (s.fn H (ds ++ gs)).results [])
    (hargs : ∀ sp : Nat → Bool, (∀ p ∈ before, sp p.block = true) → DataW.TrodAll enc Try.prog W' 0 sp true f.params.toList args.toList (s.fn H (ds ++ gs)).args pa)
    (hvars : ∀ sp : Nat → Bool, (∀ p ∈ before, sp p.block = true) → DataW.TrodVars enc Try.prog W' sp s.vars (s.fn H (ds ++ gs)).vars pv)
    (hk : W.keptBut W' (fun _ => False)) : s.post enc Try.prog f apart fresh handsOn false W args v W' := by
  have hold : ∀ p ∈ before, (fun b => decide (b < W.heap.size)) p.block = true := fun p hp => by simpa using hW.lt p hp
  exact ⟨ds, gs, before, [], pa, pv, hW, hres _ _ _, hargs _ hold, hvars _ hold, World.keptBut_mono (fun _ hp => hp.elim) hk, fun h => by cases h⟩



set_option maxRecDepth 100000 in
theorem lawMoved {f : FuncId} {fn : Func} {s : ChangeSpec} (hvars : s.vars = []) (hpar : fn.params = #[22, 23]) (hres : fn.resultTypes = #[4])
    (hfn : ∀ (H : Type) (d d1 : DataW H), s.fn H [d, d1] = { results := [.lit (.bool true)], args := [d, d1] })
    (hT : ∀ (m : Mem) (L : List Sep.Item), ∀ (s0 : Sl) (l0 : List Rg), SlRep rRg m s0 l0 → ∀ z1 : Int, 0 ≤ z1 ∧ z1 < 65536 → TCall Try.prog f ⟨[s0.v, .int .u16 z1]⟩ m L (Made m L fun r m' => r = .bool true))
    {fresh handsOn : Bool} (H : Type) (enc : TypeId × Value → H) (W : World) (base : Nat) (args : Array Value) (ds gs : List (DataW H)) (before : List MemPlace)
    (hval : ∀ (j : Nat) t v, fn.params[j]? = some t → args[j]? = some v → Value.okWide Try.prog W .any base t v)
    (hW : DataW.Whole enc Try.prog fn.params.toList s.vars false W args.toList ds gs before)
    (hsz : (DataW.weightsEach Try.prog (fn.params.toList ++ s.plain.varTypes Try.prog) (ds ++ gs)).all (· ≤ reachBytes) = true) :
    Calls Try.prog f args W fun e W' => ∃ v, e = .returned v ∧ s.post enc Try.prog fn false fresh handsOn false W args v W' := by
  have hlt : ∀ p ∈ before, p.block < W.heap.size := fun p hp => hW.lt p hp
  have hW' := hW
  obtain ⟨p, q, hA0, hV, rfl, hfz, hnd⟩ := hW
  rw [hvars] at hV
  obtain ⟨rfl, rfl⟩ := trodVars_none hV
  rw [hpar] at hA0 hval hsz
  obtain ⟨v, v1, d, d1, p0, p1, rfl, rfl, rfl, g0, g1⟩ := trodAll_two hA0
  simp only [List.append_nil] at hW' hlt hsz
  obtain ⟨n0, hn0⟩ := g0
  have hw0 : ∀ w ∈ d.weights Try.prog 22, w ≤ reachBytes := fun w hw => by
    have := List.all_eq_true.1 hsz w (DataW.weights_mem_each (j := 0) (t := 22) (d := d) rfl rfl w hw)
    simpa using this
  have r0 : Reads enc W (rSl rRg) 22 := reads_slice Try.underlying22 (by kernel_rfl) (by decide) (by kernel_rfl) reads_rg
  obtain ⟨s0, l0, e0, hs0⟩ := r0 n0 _ _ hn0 hw0
  have hv0 : v = s0.v := slice_val Try.underlying22 (hval 0 22 v rfl rfl) e0
  subst hv0
  obtain ⟨z1, hzz1, _, _, hw1⟩ := open_int Try.underlying23 (hval 1 23 v1 rfl rfl) g1
  subst hzz1
  have hz1 := u16_wf hw1
  refine (hT (memOf W) [] s0 l0 hs0 z1 hz1 W (St.start W)).mono fun e W' hX => ?_
  cases e with
  | returned r =>
    obtain ⟨m', L', hst, hle, _, rfl⟩ := hX
    refine ⟨_, rfl, post_old (pa := p0 ++ p1) (pv := []) hW' (fun _ _ _ => ?_) (fun sp hsp => ?_) (fun _ _ => ?_) (hst.kept hle)⟩
    · rw [hres, show ([d, d1] ++ [] : List (DataW H)) = [d, d1] from rfl, hfn]
      exact trodAll_mk1 (shut_bool Try.underlying4 _)
    · rw [hpar, show ([d, d1] ++ [] : List (DataW H)) = [d, d1] from rfl, hfn]
      exact trodAll_mk2 (stays hst hle (in_ 22 (by kernel_rfl)) ⟨n0, hn0⟩ (fun x hx => hlt x (List.mem_append_left _ hx)) (fun x hx => hsp x (List.mem_append_left _ hx))) (stays hst hle (in_ 23 (by kernel_rfl)) g1 (fun x hx => hlt x (List.mem_append_right _ hx)) (fun x hx => hsp x (List.mem_append_right _ hx)))
    · rw [hvars, show ([d, d1] ++ [] : List (DataW H)) = [d, d1] from rfl, hfn]
      rfl
  | panicked ch =>
    obtain ⟨_, _, _, hf⟩ := hX
    exact hf.elim
  | outgrown => exact hX.elim

set_option maxRecDepth 100000 in
theorem lawRg {f : FuncId} {fn : Func} {s : ChangeSpec} (hvars : s.vars = []) (hpar : fn.params = #[22]) (hres : fn.resultTypes = #[4])
    (hfn : ∀ (H : Type) (d : DataW H), s.fn H [d] = { results := [.lit (.bool true)], args := [d] })
    (hT : ∀ (m : Mem) (L : List Sep.Item), ∀ (s0 : Sl) (l0 : List Rg), SlRep rRg m s0 l0 → TCall Try.prog f ⟨[s0.v]⟩ m L (Made m L fun r m' => r = .bool true))
    {fresh handsOn : Bool} (H : Type) (enc : TypeId × Value → H) (W : World) (base : Nat) (args : Array Value) (ds gs : List (DataW H)) (before : List MemPlace)
    (hval : ∀ (j : Nat) t v, fn.params[j]? = some t → args[j]? = some v → Value.okWide Try.prog W .any base t v)
    (hW : DataW.Whole enc Try.prog fn.params.toList s.vars false W args.toList ds gs before)
    (hsz : (DataW.weightsEach Try.prog (fn.params.toList ++ s.plain.varTypes Try.prog) (ds ++ gs)).all (· ≤ reachBytes) = true) :
    Calls Try.prog f args W fun e W' => ∃ v, e = .returned v ∧ s.post enc Try.prog fn false fresh handsOn false W args v W' := by
  have hlt : ∀ p ∈ before, p.block < W.heap.size := fun p hp => hW.lt p hp
  have hW' := hW
  obtain ⟨p, q, hA0, hV, rfl, hfz, hnd⟩ := hW
  rw [hvars] at hV
  obtain ⟨rfl, rfl⟩ := trodVars_none hV
  rw [hpar] at hA0 hval hsz
  obtain ⟨v, d, rfl, rfl, g0⟩ := trodAll_one hA0
  simp only [List.append_nil] at hW' hlt hsz
  obtain ⟨n0, hn0⟩ := g0
  have hw0 : ∀ w ∈ d.weights Try.prog 22, w ≤ reachBytes := fun w hw => by
    have := List.all_eq_true.1 hsz w (DataW.weights_mem_each (j := 0) (t := 22) (d := d) rfl rfl w hw)
    simpa using this
  have r0 : Reads enc W (rSl rRg) 22 := reads_slice Try.underlying22 (by kernel_rfl) (by decide) (by kernel_rfl) reads_rg
  obtain ⟨s0, l0, e0, hs0⟩ := r0 n0 _ _ hn0 hw0
  have hv0 : v = s0.v := slice_val Try.underlying22 (hval 0 22 v rfl rfl) e0
  subst hv0
  refine (hT (memOf W) [] s0 l0 hs0 W (St.start W)).mono fun e W' hX => ?_
  cases e with
  | returned r =>
    obtain ⟨m', L', hst, hle, _, rfl⟩ := hX
    refine ⟨_, rfl, post_old (pa := p) (pv := []) hW' (fun _ _ _ => ?_) (fun sp hsp => ?_) (fun _ _ => ?_) (hst.kept hle)⟩
    · rw [hres, show ([d] ++ [] : List (DataW H)) = [d] from rfl, hfn]
      exact trodAll_mk1 (shut_bool Try.underlying4 _)
    · rw [hpar, show ([d] ++ [] : List (DataW H)) = [d] from rfl, hfn]
      exact trodAll_mk1 (stays hst hle (in_ 22 (by kernel_rfl)) ⟨n0, hn0⟩ hlt hsp)
    · rw [hvars, show ([d] ++ [] : List (DataW H)) = [d] from rfl, hfn]
      rfl
  | panicked ch =>
    obtain ⟨_, _, _, hf⟩ := hX
    exact hf.elim
  | outgrown => exact hX.elim

set_option maxRecDepth 100000 in
theorem lawU16 {f : FuncId} {fn : Func} {s : ChangeSpec} (hvars : s.vars = []) (hpar : fn.params = #[33]) (hres : fn.resultTypes = #[4])
    (hfn : ∀ (H : Type) (d : DataW H), s.fn H [d] = { results := [.lit (.bool true)], args := [d] })
    (hT : ∀ (m : Mem) (L : List Sep.Item), ∀ (s0 : Sl) (l0 : List Int), SlRep rU16 m s0 l0 → TCall Try.prog f ⟨[s0.v]⟩ m L (Made m L fun r m' => r = .bool true))
    {fresh handsOn : Bool} (H : Type) (enc : TypeId × Value → H) (W : World) (base : Nat) (args : Array Value) (ds gs : List (DataW H)) (before : List MemPlace)
    (hval : ∀ (j : Nat) t v, fn.params[j]? = some t → args[j]? = some v → Value.okWide Try.prog W .any base t v)
    (hW : DataW.Whole enc Try.prog fn.params.toList s.vars false W args.toList ds gs before)
    (hsz : (DataW.weightsEach Try.prog (fn.params.toList ++ s.plain.varTypes Try.prog) (ds ++ gs)).all (· ≤ reachBytes) = true) :
    Calls Try.prog f args W fun e W' => ∃ v, e = .returned v ∧ s.post enc Try.prog fn false fresh handsOn false W args v W' := by
  have hlt : ∀ p ∈ before, p.block < W.heap.size := fun p hp => hW.lt p hp
  have hW' := hW
  obtain ⟨p, q, hA0, hV, rfl, hfz, hnd⟩ := hW
  rw [hvars] at hV
  obtain ⟨rfl, rfl⟩ := trodVars_none hV
  rw [hpar] at hA0 hval hsz
  obtain ⟨v, d, rfl, rfl, g0⟩ := trodAll_one hA0
  simp only [List.append_nil] at hW' hlt hsz
  obtain ⟨n0, hn0⟩ := g0
  have hw0 : ∀ w ∈ d.weights Try.prog 33, w ≤ reachBytes := fun w hw => by
    have := List.all_eq_true.1 hsz w (DataW.weights_mem_each (j := 0) (t := 33) (d := d) rfl rfl w hw)
    simpa using this
  have r0 : Reads enc W (rSl rU16) 33 := reads_slice Try.underlying33 (by kernel_rfl) (by decide) (by kernel_rfl) (reads_u16 Try.underlying23)
  obtain ⟨s0, l0, e0, hs0⟩ := r0 n0 _ _ hn0 hw0
  have hv0 : v = s0.v := slice_val Try.underlying33 (hval 0 33 v rfl rfl) e0
  subst hv0
  refine (hT (memOf W) [] s0 l0 hs0 W (St.start W)).mono fun e W' hX => ?_
  cases e with
  | returned r =>
    obtain ⟨m', L', hst, hle, _, rfl⟩ := hX
    refine ⟨_, rfl, post_old (pa := p) (pv := []) hW' (fun _ _ _ => ?_) (fun sp hsp => ?_) (fun _ _ => ?_) (hst.kept hle)⟩
    · rw [hres, show ([d] ++ [] : List (DataW H)) = [d] from rfl, hfn]
      exact trodAll_mk1 (shut_bool Try.underlying4 _)
    · rw [hpar, show ([d] ++ [] : List (DataW H)) = [d] from rfl, hfn]
      exact trodAll_mk1 (stays hst hle (in_ 33 (by kernel_rfl)) ⟨n0, hn0⟩ hlt hsp)
    · rw [hvars, show ([d] ++ [] : List (DataW H)) = [d] from rfl, hfn]
      rfl
  | panicked ch =>
    obtain ⟨_, _, _, hf⟩ := hX
    exact hf.elim
  | outgrown => exact hX.elim
end Go.Proofs.Ytggfaplmdcpccaa

/-
  Rows of anything that are sorted in place, plainly: insertion, heap sort, partitions.
-/
set_option linter.unusedVariables false
set_option linter.unusedSimpArgs false
set_option linter.unusedSectionVars false
namespace Go.Sep
section
variable {α : Type} [Inhabited α] {lt : α → α → Bool}
/-- the part from a to b is changed, by what was there -/
structure Sg (a b : Nat) (xs ys : List α) : Prop where
  len : ys.length = xs.length
  perm : ys.Perm xs
  out : ∀ i, i < a ∨ b ≤ i → gk ys i = gk xs i
  inn : ∀ i, a ≤ i → i < b → ∃ j, a ≤ j ∧ j < b ∧ gk ys i = gk xs j
theorem Sg.refl (a b : Nat) (xs : List α) : Sg a b xs xs := ⟨rfl, .refl _, fun _ _ => rfl, fun i h1 h2 => ⟨i, h1, h2, rfl⟩⟩
theorem Sg.trans {a b : Nat} {xs ys zs : List α} (h : Sg a b xs ys) (k : Sg a b ys zs) : Sg a b xs zs :=
  ⟨k.len.trans h.len, k.perm.trans h.perm, fun i hi => (k.out i hi).trans (h.out i hi), fun i h1 h2 => by
    obtain ⟨j, j1, j2, j3⟩ := k.inn i h1 h2
    obtain ⟨l, l1, l2, l3⟩ := h.inn j j1 j2
    exact ⟨l, l1, l2, j3.trans l3⟩⟩
theorem Sg.mono {a b c d : Nat} {xs ys : List α} (h : Sg a b xs ys) (h1 : c ≤ a) (h2 : b ≤ d) : Sg c d xs ys :=
  ⟨h.len, h.perm, fun i hi => h.out i (by omega), fun i k1 k2 => by
    by_cases e : a ≤ i ∧ i < b
    · obtain ⟨j, j1, j2, j3⟩ := h.inn i e.1 e.2
      exact ⟨j, by omega, by omega, j3⟩
    · exact ⟨i, k1, k2, h.out i (by omega)⟩⟩
theorem Sg.sw {a b i j : Nat} {xs : List α} (h1 : a ≤ i ∧ i < b) (h2 : a ≤ j ∧ j < b) (hb : b ≤ xs.length) : Sg a b xs (sw xs i j) :=
  ⟨sw_length _ _ _, sw_perm (by omega) (by omega), fun k hk => by rw [gk_sw (by omega) (by omega), if_neg (by omega), if_neg (by omega)], fun k k1 k2 => by
    rw [gk_sw (by omega) (by omega)]
    by_cases e : k = j
    · exact ⟨i, h1.1, h1.2, by rw [if_pos e]⟩
    · by_cases e2 : k = i
      · exact ⟨j, h2.1, h2.2, by rw [if_neg e, if_pos e2]⟩
      · exact ⟨k, k1, k2, by rw [if_neg e, if_neg e2]⟩⟩
/-- in order from a to b: none comes behind a greater one -/
def Sn (lt : α → α → Bool) (xs : List α) (a b : Nat) : Prop := ∀ i j, a ≤ i → i < j → j < b → lt (gk xs j) (gk xs i) = false
theorem Sn.of {xs ys : List α} {a b : Nat} (h : Sn lt xs a b) (e : ∀ i, a ≤ i → i < b → gk ys i = gk xs i) : Sn lt ys a b := fun i j h1 h2 h3 => by
  rw [e i h1 (by omega), e j (by omega) h3]
  exact h i j h1 h2 h3

/-! one carried to the left -/
structure CaL (xs : List α) (m k : Nat) (ys : List α) : Prop where
  at_ : gk ys k = gk xs m
  hi : ∀ t, k < t → t ≤ m → gk ys t = gk xs (t - 1)
  out : ∀ t, t < k ∨ m < t → gk ys t = gk xs t
theorem CaL.start (xs : List α) (m : Nat) : CaL xs m m xs := ⟨rfl, fun t h1 h2 => by omega, fun t _ => rfl⟩
theorem CaL.step {xs ys : List α} {m k : Nat} (h : CaL xs m k ys) (hk : 0 < k) (hkm : k ≤ m) (hl : k < ys.length) : CaL xs m (k - 1) (sw ys k (k - 1)) := by
  refine ⟨?_, fun t h1 h2 => ?_, fun t ht => ?_⟩
  · rw [gk_sw hl (by omega), if_pos rfl, h.at_]
  · rw [gk_sw hl (by omega), if_neg (by omega)]
    by_cases e : t = k
    · rw [if_pos e, h.out (k - 1) (by omega), e]
    · rw [if_neg e]; exact h.hi t (by omega) h2
  · rw [gk_sw hl (by omega), if_neg (by omega), if_neg (by omega)]
    exact h.out t (by omega)
theorem CaL.sorted {xs ys : List α} {a i m : Nat} (him : a ≤ i ∧ i ≤ m) (h : CaL xs m i ys) (hs : Sn lt xs a m) (h1 : ∀ t, a ≤ t → t < i → lt (gk xs m) (gk xs t) = false) (h2 : ∀ t, i ≤ t → t < m → lt (gk xs t) (gk xs m) = false) : Sn lt ys a (m + 1) := by
  intro s t k1 k2 k3
  by_cases e1 : i < s
  · rw [h.hi s e1 (by omega), h.hi t (by omega) (by omega)]
    exact hs _ _ (by omega) (by omega) (by omega)
  · by_cases e2 : s = i
    · rw [e2, h.at_, h.hi t (by omega) (by omega)]
      exact h2 _ (by omega) (by omega)
    · rw [h.out s (by omega)]
      by_cases e3 : i < t
      · rw [h.hi t e3 (by omega)]
        exact hs _ _ k1 (by omega) (by omega)
      · by_cases e4 : t = i
        · rw [e4, h.at_]
          exact h1 _ k1 (by omega)
        · rw [h.out t (by omega)]
          exact hs _ _ k1 k2 (by omega)
/-- the inner way of insertion: one carried to the left while it is less -/
structure CaI (lt : α → α → Bool) (ys : List α) (a i j : Nat) (zs : List α) : Prop where
  le : a ≤ j ∧ j ≤ i
  seg : Sg a (i + 1) ys zs
  sh : CaL ys i j zs
  past : ∀ t, j ≤ t → t < i → lt (gk ys i) (gk ys t) = true
theorem CaI.start {ys : List α} {a i : Nat} (h : a ≤ i) : CaI lt ys a i i ys := ⟨⟨h, Nat.le_refl _⟩, Sg.refl _ _ _, CaL.start _ _, fun t h1 h2 => by omega⟩
theorem CaI.step {ys zs : List α} {a i j : Nat} (h : CaI lt ys a i j zs) (hj : a < j) (hl : i < ys.length) (hlt : lt (gk zs j) (gk zs (j - 1)) = true) : CaI lt ys a i (j - 1) (sw zs j (j - 1)) := by
  have h1 := h.le
  have hzl := h.seg.len
  refine ⟨by omega, h.seg.trans (Sg.sw (by omega) (by omega) (by omega)), h.sh.step (by omega) h1.2 (by omega), fun t k1 k2 => ?_⟩
  by_cases e : t = j - 1
  · rw [h.sh.at_, h.sh.out (j - 1) (by omega)] at hlt
    rw [e]; exact hlt
  · exact h.past t (by omega) k2
theorem CaI.done {ys zs : List α} {a i j : Nat} (O : OrdK lt) (hs : Sn lt ys a i) (h : CaI lt ys a i j zs) (he : j = a ∨ lt (gk zs j) (gk zs (j - 1)) = false) : Sn lt zs a (i + 1) := by
  have h1 := h.le
  refine h.sh.sorted h1 hs (fun t k1 k2 => ?_) (fun t k1 k2 => O.asym _ _ (h.past t k1 k2))
  rcases he with he | he
  · omega
  · rw [h.sh.at_, h.sh.out (j - 1) (by omega)] at he
    by_cases e : t = j - 1
    · rw [e]; exact he
    · exact O.trans _ _ _ (hs t (j - 1) k1 (by omega) (by omega)) he

/-! a heap from place f on -/
theorem gk_drop {xs : List α} {f k : Nat} : gk (xs.drop f) k = gk xs (f + k) := by
  unfold gk
  rw [List.getElem?_drop]
theorem sw_dropf {xs : List α} {f i j : Nat} : (sw xs (f + i) (f + j)).drop f = sw (xs.drop f) i j := by
  unfold sw
  rw [List.drop_set, List.drop_set, if_neg (by omega), if_neg (by omega), gk_drop, gk_drop, Nat.add_sub_cancel_left, Nat.add_sub_cancel_left]
/-- the greatest on top -/
def gtL (lt : α → α → Bool) (a b : α) : Bool := lt b a
theorem gtL_ord (O : OrdK lt) : OrdK (gtL lt) := ⟨fun a b h => O.asym _ _ h, fun a b c h1 h2 => O.trans _ _ _ h2 h1⟩
/-- heap sort's second way: from place i on all is sorted, and not less than what is ahead -/
structure HsI (lt : α → α → Bool) (xs : List α) (f n i : Nat) : Prop where
  hp : HF (gtL lt) (xs.drop f) i 0
  so : Sn lt xs (f + i) (f + n)
  x : ∀ s t, s < i → i ≤ t → t < n → lt (gk xs (f + t)) (gk xs (f + s)) = false
theorem HsI.start {xs : List α} {f n : Nat} (h : HF (gtL lt) (xs.drop f) n 0) : HsI lt xs f n n := ⟨h, fun i j h1 h2 h3 => by omega, fun s t h1 h2 h3 => by omega⟩
/-- the greatest goes behind -/
theorem HsI.swap {xs : List α} {f n i : Nat} (O : OrdK lt) (hirr : ∀ a, lt a a = false) (h : HsI lt xs f n (i + 1)) (hin : i < n) (hl : f + n ≤ xs.length) :
    DI (gtL lt) ((sw xs f (f + i)).drop f) i 0 0 ∧ Sn lt (sw xs f (f + i)) (f + i) (f + n) ∧ ∀ s t, s < i → i ≤ t → t < n → lt (gk (sw xs f (f + i)) (f + t)) (gk (sw xs f (f + i)) (f + s)) = false := by
  have hmax : ∀ k, k < i + 1 → lt (gk xs f) (gk xs (f + k)) = false := fun k hk => by
    have := h.hp.min (gtL_ord O) (fun a => hirr a) k hk
    rw [gk_drop, gk_drop, Nat.add_zero] at this
    exact this
  refine ⟨?_, fun s t h1 h2 h3 => ?_, fun s t h1 h2 h3 => ?_⟩
  · have e : sw xs f (f + i) = sw xs (f + 0) (f + i) := by rw [Nat.add_zero]
    rw [e, sw_dropf]
    exact DI.pop h.hp (by rw [List.length_drop]; omega)
  · rw [gk_sw (by omega) (by omega), gk_sw (by omega) (by omega), if_neg (show t ≠ f + i by omega), if_neg (show t ≠ f by omega)]
    by_cases e : s = f + i
    · rw [if_pos e]
      have := h.x 0 (t - f) (by omega) (by omega) (by omega)
      rw [show f + (t - f) = t by omega, Nat.add_zero] at this
      exact this
    · rw [if_neg e, if_neg (show s ≠ f by omega)]
      exact h.so s t (by omega) h2 h3
  · rw [gk_sw (by omega) (by omega), gk_sw (by omega) (by omega), if_neg (show f + s ≠ f + i by omega)]
    by_cases e1 : s = 0
    · rw [if_pos (show f + s = f by omega)]
      by_cases e2 : t = i
      · rw [if_pos (show f + t = f + i by omega)]
        exact hmax i (by omega)
      · rw [if_neg (show f + t ≠ f + i by omega), if_neg (show f + t ≠ f by omega)]
        exact h.x i t (by omega) (by omega) h3
    · rw [if_neg (show f + s ≠ f by omega)]
      by_cases e2 : t = i
      · rw [if_pos (show f + t = f + i by omega)]
        exact hmax s (by omega)
      · rw [if_neg (show f + t ≠ f + i by omega), if_neg (show f + t ≠ f by omega)]
        exact h.x s t (by omega) (by omega) h3
/-- what stays behind a way within the first i -/
theorem HsI.next {xs ys : List α} {f n i : Nat} (hm : Sg f (f + i) xs ys) (hp : HF (gtL lt) (ys.drop f) i 0) (so : Sn lt xs (f + i) (f + n)) (x : ∀ s t, s < i → i ≤ t → t < n → lt (gk xs (f + t)) (gk xs (f + s)) = false) : HsI lt ys f n i := by
  refine ⟨hp, so.of fun k h1 h2 => hm.out k (by omega), fun s t h1 h2 h3 => ?_⟩
  obtain ⟨j, j1, j2, j3⟩ := hm.inn (f + s) (by omega) (by omega)
  rw [hm.out (f + t) (by omega), j3]
  have := x (j - f) t (by omega) h2 h3
  rw [show f + (j - f) = j by omega] at this
  exact this

/-! partitions: the pivot lies at a -/
structure PaI (lt : α → α → Bool) (xs : List α) (a b i j : Nat) (ys : List α) : Prop where
  rng : a + 1 ≤ i ∧ i ≤ j + 1 ∧ j < b
  seg : Sg a b xs ys
  piv : gk ys a = gk xs a
  lo : ∀ t, a + 1 ≤ t → t < i → lt (gk ys t) (gk xs a) = true
  hi : ∀ t, j < t → t < b → lt (gk ys t) (gk xs a) = false
theorem PaI.start {xs : List α} {a b : Nat} (h : a < b) (h2 : a + 1 < b) : PaI lt xs a b (a + 1) (b - 1) xs := ⟨by omega, Sg.refl _ _ _, rfl, fun t h1 h2 => by omega, fun t h1 h2 => by omega⟩
theorem PaI.left {xs ys : List α} {a b i j : Nat} (h : PaI lt xs a b i j ys) (hij : i ≤ j) (hc : lt (gk ys i) (gk ys a) = true) : PaI lt xs a b (i + 1) j ys := by
  refine ⟨by have := h.rng; omega, h.seg, h.piv, fun t h1 h2 => ?_, h.hi⟩
  by_cases e : t = i
  · rw [e, ← h.piv]; exact hc
  · exact h.lo t h1 (by omega)
theorem PaI.right {xs ys : List α} {a b i j : Nat} (h : PaI lt xs a b i j ys) (hij : i ≤ j) (hc : lt (gk ys j) (gk ys a) = false) : PaI lt xs a b i (j - 1) ys := by
  have := h.rng
  refine ⟨by omega, h.seg, h.piv, h.lo, fun t h1 h2 => ?_⟩
  by_cases e : t = j
  · rw [e, ← h.piv]; exact hc
  · exact h.hi t (by omega) h2
theorem PaI.swap {xs ys : List α} {a b i j : Nat} (h : PaI lt xs a b i j ys) (hij : i ≤ j) (hb : b ≤ xs.length) (hi : lt (gk ys i) (gk ys a) = false) (hj : lt (gk ys j) (gk ys a) = true) : PaI lt xs a b (i + 1) (j - 1) (sw ys i j) ∧ i < j := by
  have hr := h.rng
  have hl := h.seg.len
  have hne : i ≠ j := fun e => by rw [e, hj] at hi; cases hi
  refine ⟨⟨by omega, h.seg.trans (Sg.sw (by omega) (by omega) (by omega)), ?_, fun t h1 h2 => ?_, fun t h1 h2 => ?_⟩, by omega⟩
  · rw [gk_sw (by omega) (by omega), if_neg (by omega), if_neg (by omega)]; exact h.piv
  · rw [gk_sw (by omega) (by omega), if_neg (by omega)]
    by_cases e : t = i
    · rw [if_pos e, ← h.piv]; exact hj
    · rw [if_neg e]; exact h.lo t h1 (by omega)
  · rw [gk_sw (by omega) (by omega)]
    by_cases e : t = j
    · rw [if_pos e, ← h.piv]; exact hi
    · rw [if_neg e, if_neg (by omega)]; exact h.hi t (by omega) h2
/-- parted: all ahead of mid are less than it, none behind it is -/
structure Parted (lt : α → α → Bool) (a b mid : Nat) (xs ys : List α) : Prop where
  rng : a ≤ mid ∧ mid < b
  seg : Sg a b xs ys
  lo : ∀ t, a ≤ t → t < mid → lt (gk ys t) (gk ys mid) = true
  hi : ∀ t, mid < t → t < b → lt (gk ys t) (gk ys mid) = false
theorem PaI.done {xs ys : List α} {a b i j : Nat} (h : PaI lt xs a b i j ys) (hij : j < i) (hb : b ≤ xs.length) : Parted lt a b j xs (sw ys j a) := by
  have hr := h.rng
  have hl := h.seg.len
  have hm : gk (sw ys j a) j = gk xs a := by
    rw [gk_sw (by omega) (by omega)]
    by_cases e : j = a
    · rw [if_pos e, e]; exact h.piv
    · rw [if_neg e, if_pos rfl]; exact h.piv
  refine ⟨by omega, h.seg.trans (Sg.sw (by omega) (by omega) (by omega)), fun t h1 h2 => ?_, fun t h1 h2 => ?_⟩
  · rw [hm, gk_sw (by omega) (by omega)]
    by_cases e : t = a
    · rw [if_pos e]
      exact h.lo j (by omega) (by omega)
    · rw [if_neg e, if_neg (by omega)]
      exact h.lo t (by omega) (by omega)
  · rw [hm, gk_sw (by omega) (by omega), if_neg (by omega), if_neg (by omega)]
    exact h.hi t h1 h2
theorem Parted.base {xs ys zs : List α} {a b mid : Nat} (h : Sg a b xs ys) (k : Parted lt a b mid ys zs) : Parted lt a b mid xs zs := ⟨k.rng, h.trans k.seg, k.lo, k.hi⟩
/-- parts of what equals the pivot and what is greater -/
structure PeI (lt : α → α → Bool) (xs : List α) (a b i j : Nat) (ys : List α) : Prop where
  rng : a + 1 ≤ i ∧ i ≤ j + 1 ∧ j < b
  seg : Sg a b xs ys
  piv : gk ys a = gk xs a
  lo : ∀ t, a + 1 ≤ t → t < i → lt (gk xs a) (gk ys t) = false
  hi : ∀ t, j < t → t < b → lt (gk xs a) (gk ys t) = true
theorem PeI.start {xs : List α} {a b : Nat} (h2 : a + 1 < b) : PeI lt xs a b (a + 1) (b - 1) xs := ⟨by omega, Sg.refl _ _ _, rfl, fun t h1 h2 => by omega, fun t h1 h2 => by omega⟩
theorem PeI.left {xs ys : List α} {a b i j : Nat} (h : PeI lt xs a b i j ys) (hij : i ≤ j) (hc : lt (gk ys a) (gk ys i) = false) : PeI lt xs a b (i + 1) j ys := by
  refine ⟨by have := h.rng; omega, h.seg, h.piv, fun t h1 h2 => ?_, h.hi⟩
  by_cases e : t = i
  · rw [e, ← h.piv]; exact hc
  · exact h.lo t h1 (by omega)
theorem PeI.right {xs ys : List α} {a b i j : Nat} (h : PeI lt xs a b i j ys) (hij : i ≤ j) (hc : lt (gk ys a) (gk ys j) = true) : PeI lt xs a b i (j - 1) ys := by
  have := h.rng
  refine ⟨by omega, h.seg, h.piv, h.lo, fun t h1 h2 => ?_⟩
  by_cases e : t = j
  · rw [e, ← h.piv]; exact hc
  · exact h.hi t (by omega) h2
theorem PeI.swap {xs ys : List α} {a b i j : Nat} (h : PeI lt xs a b i j ys) (hij : i ≤ j) (hb : b ≤ xs.length) (hi : lt (gk ys a) (gk ys i) = true) (hj : lt (gk ys a) (gk ys j) = false) : PeI lt xs a b (i + 1) (j - 1) (sw ys i j) ∧ i < j := by
  have hr := h.rng
  have hl := h.seg.len
  have hne : i ≠ j := fun e => by rw [← e, hi] at hj; cases hj
  refine ⟨⟨by omega, h.seg.trans (Sg.sw (by omega) (by omega) (by omega)), ?_, fun t h1 h2 => ?_, fun t h1 h2 => ?_⟩, by omega⟩
  · rw [gk_sw (by omega) (by omega), if_neg (by omega), if_neg (by omega)]; exact h.piv
  · rw [gk_sw (by omega) (by omega), if_neg (by omega)]
    by_cases e : t = i
    · rw [if_pos e, ← h.piv]; exact hj
    · rw [if_neg e]; exact h.lo t h1 (by omega)
  · rw [gk_sw (by omega) (by omega)]
    by_cases e : t = j
    · rw [if_pos e, ← h.piv]; exact hi
    · rw [if_neg e, if_neg (by omega)]; exact h.hi t (by omega) h2
/-- what is ahead of a is not greater than what is from a to b -/
def Low (lt : α → α → Bool) (xs : List α) (a b : Nat) : Prop := 0 < a → ∀ i, a ≤ i → i < b → lt (gk xs i) (gk xs (a - 1)) = false
theorem Low.seg {xs ys : List α} {a b : Nat} (h : Low lt xs a b) (k : Sg a b xs ys) : Low lt ys a b := fun h0 i h1 h2 => by
  obtain ⟨j, j1, j2, j3⟩ := k.inn i h1 h2
  rw [j3, k.out (a - 1) (by omega)]
  exact h h0 j j1 j2
/-- what the sorting still has to do: what is done with the part from a to b makes the whole -/
def Rest (lt : α → α → Bool) (A B : Nat) (xs0 xs : List α) (a b : Nat) : Prop := ∀ ys, Sg a b xs ys → Sn lt ys a b → Sg A B xs0 ys ∧ Sn lt ys A B
theorem Rest.start (A B : Nat) (xs : List α) : Rest lt A B xs xs A B := fun ys h k => ⟨h, k⟩
theorem Rest.seg {A B a b : Nat} {xs0 xs ys : List α} (h : Rest lt A B xs0 xs a b) (k : Sg a b xs ys) : Rest lt A B xs0 ys a b := fun zs h1 h2 => h zs (k.trans h1) h2
/-- the left part is sorted: the right one is left -/
theorem Rest.right {A B a b mid : Nat} {xs0 xs ys zs : List α} (O : OrdK lt) (h : Rest lt A B xs0 xs a b) (p : Parted lt a b mid xs ys) (k : Sg a mid ys zs) (s : Sn lt zs a mid) : Rest lt A B xs0 zs (mid + 1) b ∧ Low lt zs (mid + 1) b := by
  have hr := p.rng
  have hlo : ∀ t, a ≤ t → t < mid → lt (gk zs t) (gk zs mid) = true := fun t h1 h2 => by
    obtain ⟨j, j1, j2, j3⟩ := k.inn t h1 h2
    rw [j3, k.out mid (by omega)]; exact p.lo j j1 j2
  have hhi : ∀ t, mid < t → t < b → lt (gk zs t) (gk zs mid) = false := fun t h1 h2 => by
    rw [k.out t (by omega), k.out mid (by omega)]; exact p.hi t h1 h2
  refine ⟨fun ws k2 s2 => h ws ((p.seg.trans (k.mono (Nat.le_refl _) (by omega))).trans (k2.mono (by omega) (Nat.le_refl _))) fun i j h1 h2 h3 => ?_, fun _ i h1 h2 => by rw [Nat.add_sub_cancel]; exact hhi i (by omega) h2⟩
  have hge : ∀ t, mid < t → t < b → lt (gk ws t) (gk zs mid) = false := fun t q1 q2 => by
    obtain ⟨j, j1, j2, j3⟩ := k2.inn t (by omega) q2
    rw [j3]; exact hhi j (by omega) j2
  by_cases e1 : j < mid
  · rw [k2.out i (by omega), k2.out j (by omega)]; exact s i j h1 h2 e1
  · by_cases e2 : mid < i
    · exact s2 i j (by omega) h2 h3
    · by_cases e3 : i = mid
      · rw [e3, k2.out mid (by omega)]
        exact hge j (by omega) h3
      · rw [k2.out i (by omega)]
        have hl := O.asym _ _ (hlo i h1 (by omega))
        by_cases e4 : j = mid
        · rw [e4, k2.out mid (by omega)]; exact hl
        · exact O.trans _ _ _ hl (hge j (by omega) h3)
/-- the right part is sorted: the left one is left -/
theorem Rest.left {A B a b mid : Nat} {xs0 xs ys zs : List α} (O : OrdK lt) (h : Rest lt A B xs0 xs a b) (hL : Low lt xs a b) (p : Parted lt a b mid xs ys) (k : Sg (mid + 1) b ys zs) (s : Sn lt zs (mid + 1) b) : Rest lt A B xs0 zs a mid ∧ Low lt zs a mid := by
  have hr := p.rng
  have hlo : ∀ t, a ≤ t → t < mid → lt (gk zs t) (gk zs mid) = true := fun t h1 h2 => by
    rw [k.out t (by omega), k.out mid (by omega)]; exact p.lo t h1 h2
  have hhi : ∀ t, mid < t → t < b → lt (gk zs t) (gk zs mid) = false := fun t h1 h2 => by
    obtain ⟨j, j1, j2, j3⟩ := k.inn t (by omega) h2
    rw [j3, k.out mid (by omega)]; exact p.hi j (by omega) j2
  refine ⟨fun ws k2 s2 => h ws ((p.seg.trans (k.mono (by omega) (Nat.le_refl _))).trans (k2.mono (Nat.le_refl _) (by omega))) fun i j h1 h2 h3 => ?_, fun h0 i h1 h2 => ?_⟩
  · have hle : ∀ t, a ≤ t → t < mid → lt (gk zs mid) (gk ws t) = false := fun t q1 q2 => by
      obtain ⟨j, j1, j2, j3⟩ := k2.inn t q1 q2
      rw [j3]; exact O.asym _ _ (hlo j j1 j2)
    by_cases e1 : j < mid
    · exact s2 i j h1 h2 e1
    · by_cases e2 : mid < i
      · rw [k2.out i (by omega), k2.out j (by omega)]; exact s i j (by omega) h2 h3
      · by_cases e3 : i = mid
        · rw [e3, k2.out mid (by omega), k2.out j (by omega)]
          exact hhi j (by omega) h3
        · have hl := hle i h1 (by omega)
          by_cases e4 : j = mid
          · rw [e4, k2.out mid (by omega)]; exact hl
          · rw [k2.out j (by omega)]
            exact O.trans _ _ _ hl (hhi j (by omega) h3)
  · have := (hL.seg p.seg) h0 i h1 (by omega)
    rw [k.out i (by omega), k.out (a - 1) (by omega)]
    exact this
/-- what equals the one ahead is left behind -/
theorem Rest.equal {A B a b i j : Nat} {xs0 xs ys : List α} (O : OrdK lt) (h : Rest lt A B xs0 xs a b) (hL : Low lt xs a b) (h0 : 0 < a) (p : PeI lt xs a b i j ys) (hij : j < i) (hp : lt (gk xs (a - 1)) (gk xs a) = false) : Rest lt A B xs0 ys i b ∧ Low lt ys i b ∧ a < i ∧ i ≤ b := by
  have hr := p.rng
  -- none of the left ones is greater than the pivot, nor less
  have hle : ∀ t, a ≤ t → t < i → lt (gk xs a) (gk ys t) = false := fun t h1 h2 => by
    by_cases e : t = a
    · rw [e, p.piv]
      cases e2 : lt (gk xs a) (gk xs a) with
      | false => rfl
      | true => have := O.asym _ _ e2; rw [e2] at this; exact this
    · exact p.lo t (by omega) h2
  have hge : ∀ t, a ≤ t → t < b → lt (gk ys t) (gk xs a) = false := fun t h1 h2 => by
    have h3 := (hL.seg p.seg) h0 t h1 h2
    rw [p.seg.out (a - 1) (by omega)] at h3
    exact O.trans _ _ _ hp h3
  refine ⟨fun ws k2 s2 => h ws (p.seg.trans (k2.mono (by omega) (Nat.le_refl _))) fun s t h1 h2 h3 => ?_, fun _ t h1 h2 => ?_, by omega, by omega⟩
  · by_cases e1 : i ≤ s
    · exact s2 s t e1 h2 h3
    · rw [k2.out s (by omega)]
      have a1 := hle s h1 (by omega)
      by_cases e2 : t < i
      · rw [k2.out t (by omega)]
        exact O.trans _ _ _ a1 (hge t (by omega) h3)
      · obtain ⟨q, q1, q2, q3⟩ := k2.inn t (by omega) h3
        rw [q3]
        exact O.trans _ _ _ a1 (hge q (by omega) q2)
  · exact O.trans _ _ _ (hle (i - 1) (by omega) (by omega)) (hge t (by omega) h2)
end
end Go.Sep

/-
  Changes: when, and by how much; their comparison.
-/
set_option linter.unusedVariables false
set_option linter.unusedSimpArgs false
namespace Go.Sep
open Go.Proofs
attribute [local irreducible] TC TO OT TCallX TCall DO DOt thenQ blockQ retQ At
structure Ch where
  at_ : Int
  by_ : Int
instance : Inhabited Ch := ⟨⟨0, 0⟩⟩
@[reducible] def chV (x : Ch) : Value := .agg ⟨[.int .i64 x.at_, .int .i64 x.by_]⟩
def rCh : R Ch Ch := ⟨2, 16, fun x => [.int .i64 x.at_, .int .i64 x.by_], fun _ h a => h = a, fun _ => rfl, fun _ => rfl, fun _ h => h⟩
def ltC (a b : Ch) : Bool := decide (a.at_ < b.at_) || (decide (a.at_ = b.at_) && decide (a.by_ < b.by_))
theorem ltC_ord : OrdK ltC := by
  constructor
  · intro a b h
    simp only [ltC, Bool.or_eq_true, Bool.and_eq_true, decide_eq_true_eq, Bool.or_eq_false_iff, Bool.and_eq_false_iff, decide_eq_false_iff_not] at h ⊢
    omega
  · intro a b c h1 h2
    simp only [ltC, Bool.or_eq_false_iff, Bool.and_eq_false_iff, decide_eq_false_iff_not] at h1 h2 ⊢
    omega
theorem ltC_irr (a : Ch) : ltC a a = false := by simp [ltC]
def cmpC (a b : Ch) : Int := if cmpV a.at_ b.at_ ≠ 0 then cmpV a.at_ b.at_ else a.by_ - b.by_
theorem ch_dec (a b : Ch) : decide (cmpC a b < 0) = ltC a b := by
  rw [Bool.eq_iff_iff]
  simp only [ltC, Bool.or_eq_true, Bool.and_eq_true, decide_eq_true_eq]
  unfold cmpC cmpV
  by_cases h1 : a.at_ < b.at_
  · simp [h1]
  · by_cases h2 : b.at_ < a.at_
    · simp [h1, h2]
      omega
    · simp [h1, h2]
      omega
def byOk (x : Ch) : Prop := -1 ≤ x.by_ ∧ x.by_ ≤ 1
def DomC (xs : List Ch) : Prop := ∀ x ∈ xs, byOk x
theorem DomC.gk {xs : List Ch} (h : DomC xs) {k : Nat} (hk : k < xs.length) : byOk (gk xs k) := h _ (List.mem_of_getElem? (gk_get hk))
theorem DomC.perm {xs ys : List Ch} (h : DomC xs) (p : ys.Perm xs) : DomC ys := fun x hx => h x (p.mem_iff.1 hx)
theorem or_law (m : Mem) (L : List Item) (b i : Nat) (x y : Int) (hi : L[i]? = some (.cells b 0 [.int .i64 x, .int .i64 y])) : TCall Try.prog 24 ⟨[.slice (some ⟨b, 0, none⟩) 2 2]⟩ m L (Ret (.int .i64 (if x ≠ 0 then x else y)) m L) := by
  unfold TCall
  refine TCallX.enter Try.func24 rfl 18 rfl ?_
  repeat (first|refine q1 ?_|refine q2 ?_|refine q3 ?_|refine q4 tab rfl rfl ?_|refine q5 ?_|refine q6 ?_)
  refine TC.loopK (ι := Nat) [3, 6, 7] rfl (fun k => [(8, .int .i64 (k : Int))]) (fun _ => m) (fun _ => L) (fun k => k ≤ 2 ∧ (0 < k → x = 0) ∧ (1 < k → y = 0)) (fun k => 2 - k) 0 (by repeat (first|exact trivial|refine And.intro rfl ?_)) rfl (by repeat (exact List.Sublist.refl _)) ⟨by omega, by omega, by omega⟩ ?_
  rintro k ⟨hk, h0, h1⟩
  repeat (first|refine q1 ?_|refine q3 ?_|refine q4 tab rfl rfl ?_|refine q5 ?_|refine q6 ?_)
  refine TC.condP rfl (fun hlt => ?_) (fun hlt => ?_)
  · have hv : ([.int .i64 x, .int .i64 y] : List Value)[k]? = some (.int .i64 (if k = 0 then x else y)) := by
      have : k = 0 ∨ k = 1 := by omega
      rcases this with rfl | rfl <;> rfl
    repeat (first|refine q1 ?_|refine q2 ?_|refine q3 ?_|refine q6 ?_|refine q13 ?_)
    refine TO.step rfl (OT.indexP (sz := 1) tab k rfl rfl rfl rfl rfl rfl rfl (by omega) ?_)
    refine TO.step rfl (OT.loadR tab i hv rfl rfl rfl rfl hi rfl ?_)
    repeat (first|refine q1 ?_|refine q3 ?_|refine q4 tab rfl rfl ?_|refine q5 ?_|refine q6 ?_)
    refine TC.condN rfl (fun hz => ?_) (fun hz => ?_)
    · repeat (first|refine q1 ?_|refine q3 ?_|refine q4 tab rfl rfl ?_|refine q5 ?_|refine q6 ?_|refine q8 ?_|refine q9 ?_|refine q15 ?_)
      refine retQ_ret rfl (by repeat (exact List.Sublist.refl _)) ⟨rfl, rfl, ?_⟩
      by_cases e : k = 0
      · subst e
        simp only [if_true] at hz ⊢
        rw [if_pos (by simpa using hz)]
      · rw [if_neg e, if_neg (by rw [h0 (by omega)]; simp)]
    · repeat (first|refine q3 ?_|refine q6 ?_|refine q7 ?_|refine q13 ?_)
      refine TO.step rfl (OT.arith (r' := ((k + 1 : Nat) : Int)) rfl rfl rfl rfl rfl rfl rfl (by omega) ?_)
      repeat (first|refine q4 tab rfl rfl ?_|refine q5 ?_|refine q6 ?_)
      refine ⟨k + 1, (by repeat (first|exact trivial|refine And.intro rfl ?_)), (by repeat (first|exact trivial|refine And.intro rfl ?_)), rfl, rfl, (by repeat (exact List.Sublist.refl _)), ⟨by omega, fun _ => ?_, fun h => ?_⟩, by omega⟩
      · by_cases e : k = 0
        · subst e; simpa using hz
        · exact h0 (by omega)
      · rw [if_neg (show ¬ k = 0 by omega)] at hz
        simpa using hz
  · have : k = 2 := by omega
    subst this
    repeat (first|refine q1 ?_|refine q3 ?_|refine q4 tab rfl rfl ?_|refine q5 ?_|refine q6 ?_|refine q10 ?_|refine q11 ?_|refine q14 ?_|refine q15 ?_)
    refine retQ_ret rfl (by repeat (exact List.Sublist.refl _)) ⟨rfl, rfl, ?_⟩
    rw [h0 (by omega), h1 (by omega)]
    simp
theorem chcmp_law (m : Mem) (L : List Item) (x y : Ch) (hx : byOk x) (hy : byOk y) : TCall Try.prog 23 ⟨[chV x, chV y]⟩ m L (Ret (.int .i64 (cmpC x y)) m L) := by
  have h1 := hx.1
  have h2 := hx.2
  have h3 := hy.1
  have h4 := hy.2
  unfold TCall
  refine TCallX.enter Try.func23 rfl 17 rfl ?_
  repeat (first|refine q1 ?_|refine q3 ?_)
  refine TO.step rfl (OT.box rfl rfl rfl rfl rfl (fun bx => ?_))
  refine TO.step rfl (OT.box rfl rfl rfl rfl rfl (fun by1 => ?_))
  repeat (first|refine q1 ?_|refine q4 tab rfl rfl ?_|refine q5 ?_|refine q6 ?_)
  refine TC.draw [] mixed 13 rfl [.cells by1 0 [.int .i64 y.at_, .int .i64 y.by_], .cells bx 0 [.int .i64 x.at_, .int .i64 x.by_]] L (by first | exact List.Perm.refl _ | (rw [List.append_nil]; exact List.Perm.refl _)) ?_
  refine DO.pure tab (by repeat (first|exact Calm.ret|refine Calm.then ?_)) (by kernel_rfl) [0] (by kernel_rfl) rfl ?_
  (refine DO.loadL tab 1 1 (by repeat (first|exact Calm.ret|refine Calm.then ?_)) (by kernel_rfl) (by kernel_rfl) rfl rfl rfl rfl rfl rfl rfl rfl ?_)
  refine DO.pure tab (by repeat (first|exact Calm.ret|refine Calm.then ?_)) (by kernel_rfl) [2] (by kernel_rfl) rfl ?_
  (refine DO.loadL tab 3 0 (by repeat (first|exact Calm.ret|refine Calm.then ?_)) (by kernel_rfl) (by kernel_rfl) rfl rfl rfl rfl rfl rfl rfl rfl ?_)
  refine DO.pure tab (by repeat (first|exact Calm.ret|refine Calm.then ?_)) (by kernel_rfl) [5] (by kernel_rfl) rfl ?_
  (refine DO.loadL tab 6 1 (by repeat (first|exact Calm.ret|refine Calm.then ?_)) (by kernel_rfl) (by kernel_rfl) rfl rfl rfl rfl rfl rfl rfl rfl ?_)
  refine DO.pure tab (by repeat (first|exact Calm.ret|refine Calm.then ?_)) (by kernel_rfl) [7] (by kernel_rfl) rfl ?_
  (refine DO.loadL tab 8 0 (by repeat (first|exact Calm.ret|refine Calm.then ?_)) (by kernel_rfl) (by kernel_rfl) rfl rfl rfl rfl rfl rfl rfl rfl ?_)
  refine DO.arith 9 (r' := (x.by_ - y.by_)) (by repeat (first|exact Calm.ret|refine Calm.then ?_)) (by kernel_rfl) (by kernel_rfl) rfl rfl rfl rfl rfl rfl rfl rfl (by first | rfl | omega | (simp only; omega)) (by omega) ?_
  refine DO.run 4 rfl rfl (by kernel_rfl) rfl (OT.call rfl rfl rfl rfl rfl rfl goes17 ((compare_law _ _ x.at_ y.at_).x ?_))
  rintro _ _ _ ⟨rfl, rfl, rfl⟩; refine ⟨Mem.le_refl _, _, List.Perm.refl _, ?_⟩
  refine DO.run 10 rfl rfl (by kernel_rfl) rfl ?_
  refine OT.lit tab rfl rfl rfl rfl (fun bl => ?_); refine ⟨Mem.le_refl _, .cells bl 0 [.int .i64 (cmpV x.at_ y.at_), .int .i64 (x.by_ - y.by_)] :: L, perm3, ?_⟩
  refine DO.run 11 rfl rfl (by kernel_rfl) rfl (OT.call rfl rfl rfl rfl rfl rfl goes24 ((or_law _ _ bl 2 (cmpV x.at_ y.at_) (x.by_ - y.by_) rfl).x ?_))
  rintro _ _ _ ⟨rfl, rfl, rfl⟩; refine ⟨Mem.le_refl _, _, List.Perm.refl _, ?_⟩
  refine DO.pure tab (by repeat (first|exact Calm.ret|refine Calm.then ?_)) (by kernel_rfl) [12] (by kernel_rfl) rfl ?_
  (refine DO.nil (by kernel_rfl) ?_)
  rotate_left 1
  repeat (first|refine q6 ?_|refine q15 ?_)
  refine retQ_ret rfl (by repeat (first|exact List.Sublist.refl _|refine List.Sublist.cons _ ?_)) ⟨rfl, rfl, ?_⟩
  rfl
/-- a row of changes that the call owns -/
@[reducible] def chR (bd : Nat) (xs : List Ch) : Item := .cells bd 0 (encs rCh xs)
@[reducible] def chF : Value := .func (.func 23) ⟨[]⟩ ⟨[]⟩
end Go.Sep

/-
  Slots, plainly: how many overlap; what is held till when.
-/
set_option linter.unusedVariables false
set_option linter.unusedSimpArgs false
namespace Go.Sep
/-! how many overlap -/
def cover (l : List Rg) (t : Int) : Nat := l.countP fun r => decide (r.frm ≤ t) && decide (t < r.to)
structure MostIs (l : List Rg) (n : Int) : Prop where
  nn : 0 ≤ n
  up : ∀ r ∈ l, (cover l r.frm : Int) ≤ n
  at_ : n = 0 ∨ ∃ r ∈ l, n = cover l r.frm
theorem MostIs.det {l : List Rg} {a b : Int} (h : MostIs l a) (k : MostIs l b) : a = b := by
  have h1 : a ≤ b := by
    rcases h.at_ with e | ⟨r, hr, e⟩
    · have := k.nn; omega
    · have := k.up r hr; omega
  have h2 : b ≤ a := by
    rcases k.at_ with e | ⟨r, hr, e⟩
    · have := h.nn; omega
    · have := h.up r hr; omega
  omega
def sumC : List Ch → Int
  | [] => 0
  | x :: xs => x.by_ + sumC xs
theorem sumC_append : ∀ (a b : List Ch), sumC (a ++ b) = sumC a + sumC b
  | [], b => by simp [sumC]
  | x :: a, b => by simp only [List.cons_append, sumC, sumC_append a b]; omega
theorem sumC_perm {a b : List Ch} (h : a.Perm b) : sumC a = sumC b := by
  induction h with
  | nil => rfl
  | cons x _ ih => simp only [sumC, ih]
  | swap x y l => simp only [sumC]; omega
  | trans _ _ h1 h2 => exact h1.trans h2
theorem sumC_nonneg : ∀ {a : List Ch}, (∀ x ∈ a, 0 ≤ x.by_) → 0 ≤ sumC a
  | [], _ => by simp [sumC]
  | x :: a, h => by
    have := h x (List.mem_cons_self ..)
    have := sumC_nonneg fun y hy => h y (List.mem_cons_of_mem _ hy)
    simp only [sumC]; omega
theorem sumC_bnd : ∀ {a : List Ch}, DomC a → -(a.length : Int) ≤ sumC a ∧ sumC a ≤ a.length
  | [], _ => by simp [sumC]
  | x :: a, h => by
    have h1 := h x (List.mem_cons_self ..)
    have h2 := sumC_bnd (a := a) fun y hy => h y (List.mem_cons_of_mem _ hy)
    have := h1.1
    have := h1.2
    simp only [sumC, List.length_cons]; omega
def chs : List Rg → List Ch
  | [] => []
  | r :: l => ⟨r.frm, 1⟩ :: ⟨r.to, -1⟩ :: chs l
theorem chs_snoc : ∀ (l : List Rg) (r : Rg), chs (l ++ [r]) = chs l ++ [⟨r.frm, 1⟩, ⟨r.to, -1⟩]
  | [], r => rfl
  | x :: l, r => by simp [chs, chs_snoc l r]
theorem chs_len : ∀ (l : List Rg), (chs l).length = 2 * l.length
  | [] => rfl
  | x :: l => by simp only [chs, List.length_cons, chs_len l]; omega
theorem chs_mem : ∀ {l : List Rg} {e : Ch}, e ∈ chs l → ∃ r ∈ l, e = ⟨r.frm, 1⟩ ∨ e = ⟨r.to, -1⟩
  | [], e, h => by cases h
  | x :: l, e, h => by
    rcases List.mem_cons.1 h with h | h
    · exact ⟨x, List.mem_cons_self .., .inl h⟩
    · rcases List.mem_cons.1 h with h | h
      · exact ⟨x, List.mem_cons_self .., .inr h⟩
      · obtain ⟨r, hr, k⟩ := chs_mem h
        exact ⟨r, List.mem_cons_of_mem _ hr, k⟩
theorem chs_dom (l : List Rg) : DomC (chs l) := fun e he => by
  obtain ⟨r, _, h | h⟩ := chs_mem he <;> subst h <;> exact ⟨by simp only; omega, by simp only; omega⟩
def upTo (t : Int) (ys : List Ch) : Int := sumC (ys.filter fun x => decide (x.at_ ≤ t))
def sound (l : List Rg) : Prop := ∀ r ∈ l, 0 ≤ r.frm ∧ r.frm < r.to
theorem upTo_chs : ∀ {l : List Rg}, sound l → ∀ t, upTo t (chs l) = cover l t
  | [], _, t => rfl
  | r :: l, h, t => by
    have h1 := h r (List.mem_cons_self ..)
    have ih := upTo_chs (l := l) (fun x hx => h x (List.mem_cons_of_mem _ hx)) t
    unfold upTo cover at ih ⊢
    simp only [chs, List.filter_cons, List.countP_cons]
    by_cases e1 : r.frm ≤ t
    · by_cases e2 : r.to ≤ t
      · have e3 : ¬ t < r.to := by omega
        simp only [e1, e2, e3, decide_true, decide_false, if_true, sumC, Bool.and_false, Bool.false_eq_true, if_false]
        omega
      · have e3 : t < r.to := by omega
        simp only [e1, e2, e3, decide_true, decide_false, if_true, sumC, Bool.and_true, Bool.false_eq_true, if_false]
        omega
    · have e2 : ¬ r.to ≤ t := by omega
      simp only [e1, e2, decide_false, sumC, Bool.false_and, Bool.false_eq_true, if_false]
      omega
theorem upTo_perm {a b : List Ch} (h : a.Perm b) (t : Int) : upTo t a = upTo t b := sumC_perm (h.filter _)
@[reducible] def Asc (ys : List Ch) : Prop := ys.Pairwise fun a b => ltC b a = false
theorem gk_lt {α : Type} [Inhabited α] {xs : List α} {k : Nat} (h : k < xs.length) : gk xs k = xs[k] := by
  have := gk_get h
  rw [List.getElem?_eq_getElem h] at this
  exact (Option.some.inj this).symm
theorem asc_of {ys : List Ch} (h : Sn ltC ys 0 ys.length) : Asc ys := by
  refine List.pairwise_iff_getElem.2 fun i j hi hj hij => ?_
  have := h i j (Nat.zero_le _) hij hj
  rw [gk_lt hi, gk_lt hj] at this
  exact this
theorem asc_up {ys p s : List Ch} {e : Ch} (h : Asc ys) (hy : ys = p ++ e :: s) (he : e.by_ = 1) : sumC (p ++ [e]) ≤ upTo e.at_ ys := by
  subst hy
  obtain ⟨hp, hs, hx⟩ := List.pairwise_append.1 h
  have hs1 := (List.pairwise_cons.1 hs).1
  have f1 : p.filter (fun x => decide (x.at_ ≤ e.at_)) = p := List.filter_eq_self.2 fun x hxp => by
    have := hx x hxp e (List.mem_cons_self ..)
    simp only [ltC, Bool.or_eq_false_iff, Bool.and_eq_false_iff, decide_eq_false_iff_not] at this
    simp only [decide_eq_true_eq]
    omega
  have f2 : 0 ≤ sumC (s.filter fun x => decide (x.at_ ≤ e.at_)) := sumC_nonneg fun x hxs => by
    obtain ⟨h1, h2⟩ := List.mem_filter.1 hxs
    have := hs1 x h1
    simp only [ltC, Bool.or_eq_false_iff, Bool.and_eq_false_iff, decide_eq_false_iff_not] at this
    simp only [decide_eq_true_eq] at h2
    omega
  unfold upTo
  rw [List.filter_append, List.filter_cons, f1, if_pos (by simp), sumC_append, sumC_append]
  simp only [sumC]
  omega
theorem asc_to : ∀ {ys : List Ch} (t : Int), Asc ys → ∃ p s, ys = p ++ s ∧ sumC p = upTo t ys
  | [], t, _ => ⟨[], [], rfl, rfl⟩
  | y :: ys, t, h => by
    obtain ⟨h1, h2⟩ := List.pairwise_cons.1 h
    by_cases e : y.at_ ≤ t
    · obtain ⟨p, s, e1, e2⟩ := asc_to t h2
      refine ⟨y :: p, s, by rw [e1]; rfl, ?_⟩
      unfold upTo at e2 ⊢
      rw [List.filter_cons, if_pos (by simpa using e)]
      simp only [sumC, e2]
    · refine ⟨[], y :: ys, rfl, ?_⟩
      unfold upTo
      have : (y :: ys).filter (fun x => decide (x.at_ ≤ t)) = [] := List.filter_eq_nil_iff.2 fun x hx => by
        rcases List.mem_cons.1 hx with rfl | hx
        · simpa using e
        · have := h1 x hx
          simp only [ltC, Bool.or_eq_false_iff, Bool.and_eq_false_iff, decide_eq_false_iff_not] at this
          simp only [decide_eq_true_eq]
          omega
      rw [this]
/-- the most of what comes to after any change is how many overlap at most -/
theorem most_of {l : List Rg} {ys : List Ch} {n : Int} (hs : sound l) (hp : ys.Perm (chs l)) (ha : Asc ys) (hU : ∀ p s, ys = p ++ s → sumC p ≤ n) (hE : ∃ p s, ys = p ++ s ∧ sumC p = n) : MostIs l n := by
  have hn : 0 ≤ n := hU [] ys rfl
  have hup : ∀ r ∈ l, (cover l r.frm : Int) ≤ n := fun r hr => by
    obtain ⟨p, s, e1, e2⟩ := asc_to r.frm ha
    have := hU p s e1
    rw [e2, upTo_perm hp, upTo_chs hs] at this
    exact this
  refine ⟨hn, hup, ?_⟩
  have key : ∀ k p s, p.length = k → ys = p ++ s → sumC p ≤ 0 ∨ ∃ r ∈ l, sumC p ≤ cover l r.frm := by
    intro k
    induction k with
    | zero => intro p s h1 _; rw [List.length_eq_zero_iff.1 h1]; exact .inl (by simp [sumC])
    | succ k ih =>
      intro p s h1 h2
      have hne : p ≠ [] := fun e => by rw [e] at h1; cases h1
      obtain ⟨q, e, rfl⟩ : ∃ q e, p = q ++ [e] := ⟨p.dropLast, p.getLast hne, (List.dropLast_concat_getLast hne).symm⟩
      have h3 : ys = q ++ e :: s := by rw [h2]; simp
      have hmem : e ∈ chs l := hp.mem_iff.1 (by rw [h3]; simp)
      obtain ⟨r, hr, hh | hh⟩ := chs_mem hmem
      · right
        refine ⟨r, hr, ?_⟩
        have := asc_up ha h3 (by rw [hh])
        rw [upTo_perm hp, upTo_chs hs, hh] at this
        rw [hh]
        exact this
      · have e1 : sumC (q ++ [e]) = sumC q - 1 := by rw [sumC_append, hh]; simp only [sumC]; omega
        rcases ih q (e :: s) (by simpa using h1) h3 with h | ⟨r', hr', h⟩
        · left; omega
        · right; exact ⟨r', hr', by omega⟩
  obtain ⟨p, s, e1, e2⟩ := hE
  rcases key p.length p s rfl e1 with h | ⟨r, hr, h⟩
  · left; omega
  · have := hup r hr
    right; exact ⟨r, hr, by omega⟩
end Go.Sep

/-
  Slots, plainly: what is held till when; ranges of one slot lie apart.
-/
set_option linter.unusedVariables false
set_option linter.unusedSimpArgs false
namespace Go.Sep
/-- the first slot that is free at a moment -/
def pick (till : List Int) (t : Int) : Nat := (till.takeWhile fun x => decide (t < x)).length
theorem pick_le : ∀ (till : List Int) (t : Int), pick till t ≤ till.length
  | [], t => Nat.le_refl _
  | x :: xs, t => by
    have := pick_le xs t
    unfold pick at this ⊢
    rw [List.takeWhile_cons]
    split <;> simp only [List.length_cons, List.length_nil] <;> omega
theorem pick_lt : ∀ {till : List Int} {t : Int} {k : Nat}, k < pick till t → t < gk till k
  | [], t, k, h => by simp [pick] at h
  | x :: xs, t, k, h => by
    unfold pick at h
    rw [List.takeWhile_cons] at h
    split at h
    · rename_i e
      cases k with
      | zero => simpa [gk] using e
      | succ k =>
        have := pick_lt (till := xs) (t := t) (k := k) (by unfold pick; simp only [List.length_cons] at h; omega)
        simpa [gk] using this
    · simp at h
theorem pick_at : ∀ {till : List Int} {t : Int}, pick till t < till.length → gk till (pick till t) ≤ t
  | [], t, h => by simp at h
  | x :: xs, t, h => by
    unfold pick at h ⊢
    rw [List.takeWhile_cons] at h ⊢
    split
    · rename_i e
      rw [if_pos e] at h
      have := pick_at (till := xs) (t := t) (by unfold pick; simp only [List.length_cons] at h; omega)
      unfold pick at this
      simpa [gk] using this
    · rename_i e
      simp only [decide_eq_true_eq] at e
      simp [gk]; omega
theorem pick_is {till : List Int} {t : Int} {s : Nat} (h1 : s ≤ till.length) (h2 : ∀ k, k < s → t < gk till k) (h3 : s < till.length → gk till s ≤ t) : pick till t = s := by
  have a := pick_le till t
  by_cases e : pick till t < s
  · have := pick_at (till := till) (t := t) (by omega)
    have := h2 _ e
    omega
  · by_cases e2 : s < pick till t
    · have := pick_lt e2
      have := h3 (by omega)
      omega
    · omega
def putT (till : List Int) (s : Nat) (x : Int) : List Int := if s = till.length then till ++ [x] else till.set s x
theorem putT_len {till : List Int} {s : Nat} {x : Int} (h : s ≤ till.length) : (putT till s x).length = if s = till.length then till.length + 1 else till.length := by
  unfold putT
  split <;> simp
theorem putT_at {till : List Int} {s : Nat} {x : Int} (h : s ≤ till.length) : gk (putT till s x) s = x := by
  unfold putT
  split
  · rename_i e; subst e; simp [gk]
  · rw [gk_set (by omega), if_pos rfl]
theorem putT_ne {till : List Int} {s k : Nat} {x : Int} (h : s ≤ till.length) (hk : k ≠ s) : gk (putT till s x) k = gk till k := by
  unfold putT
  split
  · rename_i e; subst e
    unfold gk
    by_cases e2 : k < till.length
    · rw [List.getElem?_append_left e2]
    · rw [List.getElem?_eq_none (by simp; omega), List.getElem?_eq_none (by omega)]
  · rw [gk_set (by omega), if_neg (by omega)]
abbrev TO2 := List Int × List Int
def stepT (l : List Rg) (a : TO2) (i : Int) : TO2 := (putT a.1 (pick a.1 (fromOf l i)) (rgD l i.toNat).to, a.2.set i.toNat (pick a.1 (fromOf l i) : Int))
def runT (l : List Rg) (os : List Int) : TO2 := os.foldl (stepT l) ([], List.replicate l.length 0)
theorem runT_snoc (l : List Rg) (os : List Int) (i : Int) : runT l (os ++ [i]) = stepT l (runT l os) i := by simp [runT]

structure TJ (st : AS) (till : List Int) (T : Int) : Prop where
  n : st.n = till.length
  free : ∀ t, T ≤ t → ∀ x : Int, x ∈ freeAt st t ↔ ∃ k : Nat, x = (k : Int) ∧ k < till.length ∧ gk till k ≤ t
  nd : (st.f ++ st.w.map Hd.slot).Nodup
  rng : ∀ x ∈ st.f ++ st.w.map Hd.slot, 0 ≤ x ∧ x < (till.length : Int)
theorem TJ.later {st : AS} {till : List Int} {T t : Int} (h : TJ st till T) (ht : T ≤ t) : TJ st till t := ⟨h.n, fun t' h' => h.free t' (by omega), h.nd, h.rng⟩
theorem free_mem {st : AS} {t t' : Int} (h : t ≤ t') (x : Int) : x ∈ freeAt st t' ↔ x ∈ freeAt st t ∨ x ∈ ((holdAt st t).filter fun y => decide (y.to ≤ t')).map Hd.slot := by
  unfold freeAt holdAt
  simp only [List.mem_append, List.mem_map, List.mem_filter, decide_eq_true_eq, Bool.not_eq_true', decide_eq_false_iff_not]
  constructor
  · rintro (h1 | ⟨y, ⟨h1, h2⟩, h3⟩)
    · exact .inl (.inl h1)
    · by_cases e : y.to ≤ t
      · exact .inl (.inr ⟨y, ⟨h1, e⟩, h3⟩)
      · exact .inr ⟨y, ⟨⟨h1, e⟩, h2⟩, h3⟩
  · rintro ((h1 | ⟨y, ⟨h1, h2⟩, h3⟩) | ⟨y, ⟨⟨h1, h2⟩, h4⟩, h3⟩)
    · exact .inl h1
    · exact .inr ⟨y, ⟨h1, by omega⟩, h3⟩
    · exact .inr ⟨y, ⟨h1, h4⟩, h3⟩
theorem free_perm (st : AS) (t : Int) : (freeAt st t ++ (holdAt st t).map Hd.slot).Perm (st.f ++ st.w.map Hd.slot) := by
  unfold freeAt holdAt
  rw [List.append_assoc, ← List.map_append]
  exact List.Perm.append_left _ ((List.filter_append_perm _ _).map _)
theorem TJ.step {l : List Rg} {st st' : AS} {till : List Int} {i T : Int} (h : TJ st till T) (hT : T ≤ fromOf l i) (hs : StepR l st i st') :
    TJ st' (putT till (pick till (fromOf l i)) (rgD l i.toNat).to) (fromOf l i) ∧ st'.out = st.out.set i.toNat (pick till (fromOf l i) : Int) := by
  obtain ⟨slot, g, hw, ho⟩ := hs.give
  generalize fromOf l i = t at *
  generalize (rgD l i.toNat).to = to at *
  have h := h.later hT
  have hF := fun x => h.free t (Int.le_refl _) x
  have hp := pick_le till t
  have hperm := free_perm st t
  have hnd : (freeAt st t ++ (holdAt st t).map Hd.slot).Nodup := hperm.nodup_iff.2 h.nd
  have hrng : ∀ x ∈ freeAt st t ++ (holdAt st t).map Hd.slot, 0 ≤ x ∧ x < (till.length : Int) := fun x hx => h.rng x (hperm.mem_iff.1 hx)
  obtain ⟨hnF, hnH, hdis⟩ := List.nodup_append.1 hnd
  have hlen := putT_len (till := till) (x := to) hp
  have hGH : ∀ t' x, x ∈ ((holdAt st t).filter fun y => decide (y.to ≤ t')).map Hd.slot → x ∈ (holdAt st t).map Hd.slot := fun t' x hx => by
    obtain ⟨y, h1, h2⟩ := List.mem_map.1 hx
    exact List.mem_map.2 ⟨y, (List.mem_filter.1 h1).1, h2⟩
  -- which slot it is
  have hslot : slot = (pick till t : Int) ∧ (freeAt st t = [] ↔ pick till t = till.length) := by
    by_cases e : freeAt st t = []
    · obtain ⟨e1, _, _⟩ := g.a e
      have e2 : pick till t = till.length := by
        rcases Nat.lt_or_ge (pick till t) till.length with hlt | hge
        · have := (hF (pick till t : Int)).2 ⟨_, rfl, hlt, pick_at hlt⟩
          rw [e] at this; cases this
        · omega
      exact ⟨by rw [e1, h.n, e2], ⟨fun _ => e2, fun _ => e⟩⟩
    · obtain ⟨e1, e2, _, _⟩ := g.b e
      obtain ⟨k, k1, k2, k3⟩ := (hF slot).1 e1
      have hkp : pick till t ≤ k := by
        rcases Nat.lt_or_ge k (pick till t) with hlt | hge
        · have := pick_lt hlt; omega
        · exact hge
      have := e2 _ ((hF (pick till t : Int)).2 ⟨_, rfl, by omega, pick_at (by omega)⟩)
      exact ⟨by omega, ⟨fun c => absurd c e, fun c => by omega⟩⟩
  obtain ⟨hse, hiff⟩ := hslot
  refine ⟨?_, by rw [ho, hse]⟩
  have hfw : ∀ t', t ≤ t' → ∀ x : Int, x ∈ freeAt st' t' ↔ x ∈ st'.f ∨ x ∈ ((holdAt st t).filter fun y => decide (y.to ≤ t')).map Hd.slot ∨ (x = slot ∧ to ≤ t') := fun t' ht' x => by
    unfold freeAt
    rw [hw, List.filter_append, List.map_append]
    simp only [List.mem_append]
    refine or_congr Iff.rfl (or_congr Iff.rfl ?_)
    by_cases e : to ≤ t'
    · simp [e]
    · simp [e]
  by_cases e : freeAt st t = []
  · obtain ⟨_, e2, e3⟩ := g.a e
    have ep := hiff.1 e
    rw [if_pos ep] at hlen
    refine ⟨?_, fun t' ht' x => ?_, ?_, ?_⟩
    · rw [e2, h.n, hlen]; simp
    · rw [hfw t' ht', e3]
      have hft := h.free t' ht' x
      rw [free_mem ht', e] at hft
      constructor
      · rintro (c | c | ⟨c1, c2⟩)
        · cases c
        · obtain ⟨k, k1, k2, k3⟩ := hft.1 (.inr c)
          exact ⟨k, k1, by omega, by rw [putT_ne hp (by omega)]; exact k3⟩
        · exact ⟨pick till t, by omega, by omega, by rw [putT_at hp]; exact c2⟩
      · rintro ⟨k, k1, k2, k3⟩
        by_cases ek : k = pick till t
        · rw [ek, putT_at hp] at k3
          exact .inr (.inr ⟨by omega, k3⟩)
        · rw [putT_ne hp ek] at k3
          rcases hft.2 ⟨k, k1, by omega, k3⟩ with c | c
          · cases c
          · exact .inr (.inl c)
    · rw [e3, hw, List.map_append, List.nil_append]
      refine List.nodup_append.2 ⟨hnH, by simp, fun a ha b hb => ?_⟩
      have h1 := hrng a (List.mem_append_right _ ha)
      simp only [List.map_cons, List.map_nil, List.mem_singleton] at hb
      omega
    · intro x hx
      rw [e3, hw, List.map_append, List.nil_append] at hx
      rcases List.mem_append.1 hx with hx | hx
      · have h1 := hrng x (List.mem_append_right _ hx)
        omega
      · simp only [List.map_cons, List.map_nil, List.mem_singleton] at hx
        omega
  · obtain ⟨e1, _, e3, e4⟩ := g.b e
    have ep : pick till t < till.length := by
      have : pick till t ≠ till.length := fun c => e (hiff.2 c)
      omega
    rw [if_neg (by omega)] at hlen
    have hmemE : ∀ x, x ∈ (freeAt st t).erase slot ↔ x ∈ freeAt st t ∧ x ≠ slot := fun x => by rw [hnF.mem_erase_iff]; exact And.comm
    refine ⟨?_, fun t' ht' x => ?_, ?_, ?_⟩
    · rw [e3, h.n, hlen]
    · rw [hfw t' ht', e4, hmemE]
      have hft := h.free t' ht' x
      rw [free_mem ht'] at hft
      constructor
      · rintro (⟨c, c'⟩ | c | ⟨c1, c2⟩)
        · obtain ⟨k, k1, k2, k3⟩ := hft.1 (.inl c)
          exact ⟨k, k1, by omega, by rw [putT_ne hp (by omega)]; exact k3⟩
        · obtain ⟨k, k1, k2, k3⟩ := hft.1 (.inr c)
          have : x ≠ slot := fun ex => hdis slot e1 x (hGH t' x c) ex.symm
          exact ⟨k, k1, by omega, by rw [putT_ne hp (by omega)]; exact k3⟩
        · exact ⟨pick till t, by omega, by omega, by rw [putT_at hp]; exact c2⟩
      · rintro ⟨k, k1, k2, k3⟩
        by_cases ek : k = pick till t
        · rw [ek, putT_at hp] at k3
          exact .inr (.inr ⟨by omega, k3⟩)
        · rw [putT_ne hp ek] at k3
          rcases hft.2 ⟨k, k1, by omega, k3⟩ with c | c
          · exact .inl ⟨c, by omega⟩
          · exact .inr (.inl c)
    · rw [e4, hw, List.map_append, ← List.append_assoc]
      refine List.nodup_append.2 ⟨List.nodup_append.2 ⟨hnF.erase _, hnH, fun a ha b hb => hdis a ((hmemE a).1 ha).1 b hb⟩, by simp, fun a ha b hb => ?_⟩
      simp only [List.map_cons, List.map_nil, List.mem_singleton] at hb
      rcases List.mem_append.1 ha with ha | ha
      · rw [hb]; exact ((hmemE a).1 ha).2
      · rw [hb]; exact fun ex => hdis slot e1 a ha ex.symm
    · intro x hx
      rw [e4, hw, List.map_append, ← List.append_assoc] at hx
      rcases List.mem_append.1 hx with hx | hx
      · rcases List.mem_append.1 hx with hx | hx
        · have := hrng x (List.mem_append_left _ ((hmemE x).1 hx).1)
          omega
        · have := hrng x (List.mem_append_right _ hx)
          omega
      · simp only [List.map_cons, List.map_nil, List.mem_singleton] at hx
        omega
end Go.Sep

/-
  Slots, plainly: both programs' answers are one; ranges of one slot lie apart; as1 many slots as1 overlap.
-/
set_option linter.unusedVariables false
set_option linter.unusedSimpArgs false
namespace Go.Sep
theorem ltR_le {l : List Rg} {x y : Int} (h : ltR l x y = true) : fromOf l x ≤ fromOf l y := by
  simp only [ltR, Bool.or_eq_true, Bool.and_eq_true, decide_eq_true_eq] at h
  omega
theorem all_run {l : List Rg} {is : List Int} {a c : AS} (h : AllR l is a c) : ∀ {till : List Int} {T : Int}, TJ a till T → (∀ x ∈ is, T ≤ fromOf l x) → is.Pairwise (fun a b => ltR l a b = true) →
    c.out = (is.foldl (stepT l) (till, a.out)).2 ∧ c.n = ((is.foldl (stepT l) (till, a.out)).1.length : Int) := by
  induction h with
  | nil st => intro till T hJ _ _; exact ⟨rfl, hJ.n⟩
  | @cons i is a b c hs _ ih =>
    intro till T hJ hT hp
    obtain ⟨hp1, hp2⟩ := List.pairwise_cons.1 hp
    obtain ⟨hJ2, ho⟩ := hJ.step (hT i (List.mem_cons_self ..)) hs
    have := ih hJ2 (fun x hx => ltR_le (hp1 x hx)) hp2
    rw [ho] at this
    exact this
theorem slots_run {l : List Rg} {s : List Int} {n : Int} (h : SlotsR l s n) (h0 : checkM l = 0) (hs : ∀ r ∈ l, 0 ≤ r.frm) : ∃ os, OrdR l os ∧ s = (runT l os).2 ∧ n = ((runT l os).1.length : Int) := by
  unfold SlotsR at h
  rw [if_neg (by simpa using h0)] at h
  obtain ⟨os, st, h1, h2, h3, h4⟩ := h
  have hJ : TJ (as0 l) [] 0 := ⟨rfl, fun t _ x => by simp [freeAt, as0], by simp [as0], fun x hx => by simp [as0] at hx⟩
  have hT : ∀ x ∈ os, 0 ≤ fromOf l x := fun x hx => by
    have hd := h1.dom x hx
    have hl : x.toNat < l.length := by have := hd.1; have := hd.2; omega
    unfold fromOf rgD
    rw [List.getElem?_eq_getElem hl]
    exact hs _ (List.getElem_mem hl)
  obtain ⟨e1, e2⟩ := all_run h2 hJ hT h1.srt
  exact ⟨os, h1, h3.trans e1, h4.trans e2⟩

/-! counting -/
theorem nd_len {α : Type} [DecidableEq α] : ∀ {J K : List α}, J.Nodup → (∀ x ∈ J, x ∈ K) → J.length ≤ K.length
  | [], K, _, _ => Nat.zero_le _
  | x :: J, K, h, hs => by
    obtain ⟨h1, h2⟩ := List.nodup_cons.1 h
    have hx := hs x (List.mem_cons_self ..)
    have := nd_len (J := J) (K := K.erase x) h2 fun y hy => by
      have hy2 := hs y (List.mem_cons_of_mem _ hy)
      exact (List.mem_erase_of_ne (fun e => h1 (by rw [← e]; exact hy))).2 hy2
    rw [List.length_erase_of_mem hx] at this
    have := List.length_pos_of_mem hx
    simp only [List.length_cons]
    omega
def idx (l : List Rg) (t : Int) : List Int := ((List.range l.length).map fun i : Nat => (i : Int)).filter fun x => decide (fromOf l x ≤ t) && decide (t < (rgD l x.toNat).to)
theorem rgs_map (l : List Rg) : (List.range l.length).map (rgD l) = l := by
  refine List.ext_getElem (by simp) fun k h1 h2 => ?_
  simp [rgD, h2]
theorem idx_len (l : List Rg) (t : Int) : (idx l t).length = cover l t := by
  unfold idx cover
  rw [← List.countP_eq_length_filter, List.countP_map]
  conv => rhs; rw [← rgs_map l, List.countP_map]
  rfl
theorem idx_nodup (l : List Rg) (t : Int) : (idx l t).Nodup := by
  unfold idx
  refine List.Pairwise.filter _ ?_
  exact List.pairwise_map.2 (List.nodup_range.imp fun {a b} h e => h (by omega))
theorem idx_mem {l : List Rg} {t x : Int} : x ∈ idx l t ↔ inL l.length x ∧ fromOf l x ≤ t ∧ t < (rgD l x.toNat).to := by
  unfold idx inL
  rw [List.mem_filter, List.mem_map]
  simp only [List.mem_range, Bool.and_eq_true, decide_eq_true_eq]
  constructor
  · rintro ⟨⟨i, h1, rfl⟩, h2, h3⟩
    exact ⟨⟨by omega, by omega⟩, h2, h3⟩
  · rintro ⟨⟨h1, h2⟩, h3, h4⟩
    exact ⟨⟨x.toNat, by omega, by omega⟩, h3, h4⟩

/-! apart -/
structure AP (l : List Rg) (ps : List Int) (a : TO2) (M : Int) : Prop where
  ln : a.2.length = l.length
  sl : ∀ i ∈ ps, ∃ k : Nat, gk a.2 i.toNat = (k : Int) ∧ k < a.1.length ∧ (rgD l i.toNat).to ≤ gk a.1 k
  dj : ∀ i ∈ ps, ∀ j ∈ ps, i ≠ j → gk a.2 i.toNat = gk a.2 j.toNat → (rgD l i.toNat).to ≤ fromOf l j ∨ (rgD l j.toNat).to ≤ fromOf l i
  own : ∀ k, k < a.1.length → ∃ i ∈ ps, gk a.2 i.toNat = (k : Int) ∧ (rgD l i.toNat).to = gk a.1 k
  le : (a.1.length : Int) ≤ M
theorem AP.step {l : List Rg} {ps : List Int} {a : TO2} {M i : Int} (h : AP l ps a M) (hsd : sound l) (hM : MostIs l M) (hi : inL l.length i) (hni : i ∉ ps) (hps : ∀ p ∈ ps, inL l.length p ∧ fromOf l p ≤ fromOf l i) :
    AP l (ps ++ [i]) (stepT l a i) M := by
  obtain ⟨till, out⟩ := a
  obtain ⟨ln, sl, dj, own, le⟩ := h
  simp only at ln sl dj own le
  have hp := pick_le till (fromOf l i)
  have hpa := @pick_at till (fromOf l i)
  have hil : i.toNat < l.length := by have := hi.1; have := hi.2; omega
  have hr : rgD l i.toNat ∈ l := by unfold rgD; rw [List.getElem?_eq_getElem hil]; exact List.getElem_mem hil
  have hso := hsd _ hr
  have hfi : fromOf l i = (rgD l i.toNat).frm := rfl
  have hnew : gk (out.set i.toNat (pick till (fromOf l i) : Int)) i.toNat = (pick till (fromOf l i) : Int) := by rw [gk_set (by omega), if_pos rfl]
  have hold : ∀ p ∈ ps, gk (out.set i.toNat (pick till (fromOf l i) : Int)) p.toNat = gk out p.toNat := fun p hp => by
    rw [gk_set (by omega), if_neg]
    intro e
    have h1 := (hps p hp).1.1
    have h2 := hi.1
    exact hni (by rw [show i = p by omega]; exact hp)
  have hlen := putT_len (till := till) (x := (rgD l i.toNat).to) hp
  unfold stepT
  simp only
  generalize hse : pick till (fromOf l i) = s at *
  refine ⟨by simp only [List.length_set]; exact ln, ?_, ?_, ?_, ?_⟩
  · intro p hpm
    simp only
    rcases List.mem_append.1 hpm with hpm | hpm
    · obtain ⟨k, k1, k2, k3⟩ := sl p hpm
      rw [hold p hpm]
      refine ⟨k, k1, by rw [hlen]; split <;> omega, ?_⟩
      by_cases e : k = s
      · subst e
        rw [putT_at hp]
        have := hpa k2
        omega
      · rw [putT_ne hp e]; exact k3
    · obtain rfl := List.mem_singleton.1 hpm
      exact ⟨s, hnew, by rw [hlen]; split <;> omega, by rw [putT_at hp]; exact Int.le_refl _⟩
  · have key : ∀ p ∈ ps, gk out p.toNat = (s : Int) → (rgD l p.toNat).to ≤ fromOf l i := fun p hpm hq => by
      obtain ⟨k, k1, k2, k3⟩ := sl p hpm
      have e : k = s := by omega
      subst e
      have := hpa k2
      omega
    intro p hpm q hqm hne heq
    simp only at heq
    rcases List.mem_append.1 hpm with hp1 | hp1 <;> rcases List.mem_append.1 hqm with hq1 | hq1
    · rw [hold p hp1, hold q hq1] at heq
      exact dj p hp1 q hq1 hne heq
    · obtain rfl := List.mem_singleton.1 hq1
      rw [hold p hp1, hnew] at heq
      exact .inl (key p hp1 heq)
    · obtain rfl := List.mem_singleton.1 hp1
      rw [hold q hq1, hnew] at heq
      exact .inr (key q hq1 heq.symm)
    · rw [List.mem_singleton.1 hp1, List.mem_singleton.1 hq1] at hne
      exact absurd rfl hne
  · intro k hk
    simp only at hk ⊢
    by_cases e : k = s
    · subst e
      exact ⟨i, by simp, hnew, (putT_at hp).symm⟩
    · have hk2 : k < till.length := by rw [hlen] at hk; split at hk <;> omega
      obtain ⟨p, p1, p2, p3⟩ := own k hk2
      exact ⟨p, List.mem_append_left _ p1, by rw [hold p p1]; exact p2, by rw [putT_ne hp e]; exact p3⟩
  · simp only
    rw [hlen]
    split
    · rename_i es
      have hgt : ∀ k, k < till.length → fromOf l i < gk till k := fun k hk => pick_lt (by rw [hse, es]; exact hk)
      have hc : ∀ k : Nat, ∃ p : Int, k < till.length → p ∈ ps ∧ gk out p.toNat = (k : Int) ∧ (rgD l p.toNat).to = gk till k := fun k => by
        by_cases hk : k < till.length
        · obtain ⟨p, h1, h2, h3⟩ := own k hk
          exact ⟨p, fun _ => ⟨h1, h2, h3⟩⟩
        · exact ⟨0, fun h => absurd h hk⟩
      obtain ⟨c, hc⟩ := Classical.skolem.1 hc
      have hJ : (i :: (List.range till.length).map c).Nodup := by
        refine List.nodup_cons.2 ⟨fun hm => ?_, ?_⟩
        · obtain ⟨k, h1, h2⟩ := List.mem_map.1 hm
          exact hni (by rw [← h2]; exact (hc k (List.mem_range.1 h1)).1)
        · refine List.pairwise_map.2 (List.nodup_range.imp_of_mem fun {x y} hx hy hxy e => hxy ?_)
          have h1 := (hc x (List.mem_range.1 hx)).2.1
          have h2 := (hc y (List.mem_range.1 hy)).2.1
          rw [e, h2] at h1
          omega
      have := nd_len hJ (K := idx l (fromOf l i)) fun x hx => by
        rw [idx_mem]
        rcases List.mem_cons.1 hx with rfl | hx
        · exact ⟨hi, Int.le_refl _, by omega⟩
        · obtain ⟨k, h1, rfl⟩ := List.mem_map.1 hx
          obtain ⟨g1, g2, g3⟩ := hc k (List.mem_range.1 h1)
          refine ⟨(hps _ g1).1, (hps _ g1).2, ?_⟩
          rw [g3]
          exact hgt k (List.mem_range.1 h1)
      rw [idx_len] at this
      have h2 := hM.up _ hr
      rw [← hfi] at h2
      simp only [List.length_cons, List.length_map, List.length_range] at this
      omega
    · exact le
theorem AP.all {l : List Rg} {M : Int} (hsd : sound l) (hM : MostIs l M) : ∀ (k : Nat) {os : List Int}, os.length = k → os.Nodup → (∀ x ∈ os, inL l.length x) → os.Pairwise (fun a b => ltR l a b = true) → AP l os (runT l os) M
  | 0, os, hk, _, _, _ => by
    rw [List.length_eq_zero_iff.1 hk]
    exact ⟨by simp [runT], fun i hi => (by cases hi), fun i hi => (by cases hi), fun k hk => (by simp [runT] at hk), by simpa [runT] using hM.nn⟩
  | k + 1, os, hk, hn, hd, hp => by
    have hne : os ≠ [] := fun e => by rw [e] at hk; cases hk
    obtain ⟨q, e, rfl⟩ : ∃ q e, os = q ++ [e] := ⟨os.dropLast, os.getLast hne, (List.dropLast_concat_getLast hne).symm⟩
    obtain ⟨n1, n2, n3⟩ := List.nodup_append.1 hn
    obtain ⟨p1, p2, p3⟩ := List.pairwise_append.1 hp
    rw [runT_snoc]
    refine (AP.all hsd hM k (by simpa using hk) n1 (fun x hx => hd x (List.mem_append_left _ hx)) p1).step hsd hM (hd e (by simp)) (fun hm => n3 e hm e (by simp) rfl) fun p hpm => ⟨hd p (List.mem_append_left _ hpm), ltR_le (p3 p hpm e (by simp))⟩
theorem apart_law {l : List Rg} {s : List Int} {n M : Int} (h : SlotsR l s n) (h0 : checkM l = 0) (hsd : sound l) (hM : MostIs l M) :
    s.length = l.length ∧ n = M ∧ (∀ i : Nat, i < l.length → 0 ≤ gk s i ∧ gk s i < n) ∧ ∀ i j : Nat, i < l.length → j < l.length → i ≠ j → gk s i = gk s j → (rgD l i).to ≤ (rgD l j).frm ∨ (rgD l j).to ≤ (rgD l i).frm := by
  obtain ⟨os, h1, rfl, rfl⟩ := slots_run h h0 (fun r hr => (hsd r hr).1)
  have hnr : ((List.range l.length).map fun i : Nat => (i : Int)).Nodup := List.pairwise_map.2 (List.nodup_range.imp fun {a b} h e => h (by omega))
  have hmem : ∀ i : Nat, i < l.length → (i : Int) ∈ os := fun i hi => h1.perm.mem_iff.2 (List.mem_map.2 ⟨i, List.mem_range.2 hi, rfl⟩)
  have hA := AP.all hsd hM os.length rfl (h1.perm.nodup_iff.2 hnr) h1.dom h1.srt
  refine ⟨hA.ln, ?_, fun i hi => ?_, fun i j hi hj hne heq => ?_⟩
  · refine Int.le_antisymm hA.le ?_
    rcases hM.at_ with e | ⟨r, hr, e⟩
    · rw [e]; omega
    · rw [e, ← idx_len]
      have hK : ((idx l r.frm).map fun x => (gk (runT l os).2 x.toNat).toNat).Nodup := by
        refine List.pairwise_map.2 ((idx_nodup l r.frm).imp_of_mem fun {x y} hx hy hxy heq => ?_)
        obtain ⟨x1, x2, x3⟩ := idx_mem.1 hx
        obtain ⟨y1, y2, y3⟩ := idx_mem.1 hy
        have hxo := hmem x.toNat (by have := x1.1; have := x1.2; omega)
        have hyo := hmem y.toNat (by have := y1.1; have := y1.2; omega)
        rw [Int.toNat_of_nonneg x1.1] at hxo
        rw [Int.toNat_of_nonneg y1.1] at hyo
        obtain ⟨k1, q1, _⟩ := hA.sl x hxo
        obtain ⟨k2, q2, _⟩ := hA.sl y hyo
        rcases hA.dj x hxo y hyo hxy (by omega) with c | c <;> omega
      have := nd_len hK (K := List.range (runT l os).1.length) fun v hv => by
        obtain ⟨x, hx, rfl⟩ := List.mem_map.1 hv
        obtain ⟨x1, x2, x3⟩ := idx_mem.1 hx
        have hxo := hmem x.toNat (by have := x1.1; have := x1.2; omega)
        rw [Int.toNat_of_nonneg x1.1] at hxo
        obtain ⟨k1, q1, q2, _⟩ := hA.sl x hxo
        exact List.mem_range.2 (by omega)
      simp only [List.length_map, List.length_range] at this
      omega
  · obtain ⟨k, q1, q2, _⟩ := hA.sl _ (hmem i hi)
    rw [Int.toNat_natCast] at q1
    omega
  · have := hA.dj _ (hmem i hi) _ (hmem j hj) (by omega)
    simp only [Int.toNat_natCast, fromOf] at this
    exact this heq
theorem sound_of {l : List Rg} (h : checkM l = 0) : sound l ∧ l.length ≤ 20000 := by
  unfold checkM at h
  split at h
  · cases h
  · split at h
    · cases h
    · rename_i h1 h2
      refine ⟨fun r hr => ?_, by omega⟩
      have h3 : badR r = false := by
        cases e : badR r with
        | false => rfl
        | true => exact absurd (List.any_eq_true.2 ⟨r, hr, e⟩) h2
      simp only [badR, Bool.or_eq_false_iff, decide_eq_false_iff_not] at h3
      omega
end Go.Sep

/-
  Changes sorted in place: insertion, reversing, sifting, heap sort.
-/
set_option linter.unusedVariables false
set_option linter.unusedSimpArgs false
namespace Go.Sep
open Go.Proofs
attribute [local irreducible] TC TO OT TCallX TCall DO DOt thenQ blockQ retQ At
set_option maxHeartbeats 1000000 in
theorem insort_ch (m : Mem) (L : List Item) (bd c a b : Nat) (xs : List Ch) (hD : DomC xs) (hab : a ≤ b) (hl : b ≤ xs.length) (hlim : xs.length ≤ 1000000) :
    TCall Try.prog 37 ⟨[.slice (some ⟨bd, 0, none⟩) xs.length c, .int .i64 (a : Int), .int .i64 (b : Int), chF]⟩ m (chR bd xs :: L) (fun r m' L' => m = m' ∧ ∃ ys, Sg a b xs ys ∧ Sn ltC ys a b ∧ chR bd ys :: L = L') := by
  unfold TCall
  refine TCallX.enter Try.func37 rfl 53 rfl ?_
  repeat (first|refine q1 ?_|refine q3 ?_|refine q4 tab rfl rfl ?_)
  refine TO.step rfl (OT.arith (r' := ((a + 1 : Nat) : Int)) rfl rfl rfl rfl rfl rfl rfl (by omega) ?_)
  repeat (first|refine q2 ?_|refine q4 tab rfl rfl ?_|refine q5 ?_|refine q6 ?_)
  refine TC.loopK (ι := Nat × List Ch) [0, 1, 2, 3] rfl (fun x => [(8, .int .i64 (x.1 : Int))]) (fun _ => m) (fun x => chR bd x.2 :: L) (fun x => a + 1 ≤ x.1 ∧ (a < b → x.1 ≤ b) ∧ Sg a b xs x.2 ∧ (a < b → Sn ltC x.2 a x.1)) (fun x => b + 1 - x.1) (a + 1, xs) (by repeat (first|exact trivial|refine And.intro rfl ?_)) rfl (by repeat (exact List.Sublist.refl _)) ⟨Nat.le_refl _, fun h => by simp only; omega, Sg.refl _ _ _, fun _ i j h1 h2 h3 => by simp only at h3; omega⟩ ?_
  rintro ⟨i, ys⟩ ⟨hi1, hi3, hS, hO⟩
  simp only at hi1 hi3 hS hO ⊢
  have hyl := hS.len
  repeat (first|refine q1 ?_|refine q3 ?_|refine q4 tab rfl rfl ?_|refine q5 ?_|refine q6 ?_)
  refine TC.condP rfl (fun hlt' => ?_) (fun hlt' => ?_)
  · have hlt : i < b := by omega
    have hO := hO (by omega)
    repeat (first|refine q1 ?_|refine q2 ?_|refine q3 ?_|refine q4 tab rfl rfl ?_|refine q5 ?_|refine q6 ?_|refine q13 ?_)
    refine TC.loopK (ι := Nat × List Ch) [0, 1, 2, 3, 8] rfl (fun x => [(9, .int .i64 (x.1 : Int))]) (fun _ => m) (fun x => chR bd x.2 :: L) (fun x => CaI ltC ys a i x.1 x.2) (fun x => x.1) (i, ys) (by repeat (first|exact trivial|refine And.intro rfl ?_)) rfl (by repeat (exact List.Sublist.refl _)) (CaI.start (by omega)) ?_
    rintro ⟨j, zs⟩ hJ
    simp only at hJ ⊢
    have hzl := hJ.seg.len
    have hjl := hJ.le
    have hD : DomC zs := (hD.perm hS.perm).perm hJ.seg.perm
    repeat (refine q1 ?_)
    refine TC.draw [] mixed 17 rfl [chR bd zs] L (by first | exact List.Perm.refl _ | (rw [List.append_nil]; exact List.Perm.refl _)) ?_
    refine DO.pure tab (by repeat (first|exact Calm.ret|refine Calm.then ?_|refine Calm.block ?_)) (by kernel_rfl) [0, 1, 2, 3] (by kernel_rfl) rfl ?_
    (refine DO.splitP (d := 21) rfl (fun hg3 => ?_) (fun hg3 => ?_))
    refine DO.pure tab (by repeat (first|exact Calm.ret|refine Calm.then ?_|refine Calm.block ?_)) (by kernel_rfl) [4, 5, 6] (by kernel_rfl) rfl ?_
    refine DO.indexP (sz := 2) tab 7 j (by repeat (first|exact Calm.ret|refine Calm.then ?_|refine Calm.block ?_)) (by kernel_rfl) (by kernel_rfl) rfl rfl rfl rfl rfl rfl rfl rfl rfl (by omega) ?_
    refine DO.loadE (jj := 0) tab 8 0 rCh (gk_get (xs := zs) (k := j) (by omega)) (by simp only [rCh]; omega) (fun _ => rfl) (by repeat (first|exact Calm.ret|refine Calm.then ?_|refine Calm.block ?_)) (by kernel_rfl) (by kernel_rfl) rfl rfl rfl rfl rfl rfl rfl ?_
    refine DO.pure tab (by repeat (first|exact Calm.ret|refine Calm.then ?_|refine Calm.block ?_)) (by kernel_rfl) [9, 10] (by kernel_rfl) rfl ?_
    refine DO.arith 11 (r' := (((j - 1) : Nat) : Int)) (by repeat (first|exact Calm.ret|refine Calm.then ?_|refine Calm.block ?_)) (by kernel_rfl) (by kernel_rfl) rfl rfl rfl rfl rfl rfl rfl rfl (by first | rfl | omega | (simp only; omega)) (by omega) ?_
    refine DO.indexP (sz := 2) tab 12 (j - 1) (by repeat (first|exact Calm.ret|refine Calm.then ?_|refine Calm.block ?_)) (by kernel_rfl) (by kernel_rfl) rfl rfl rfl rfl rfl rfl rfl rfl rfl (by omega) ?_
    refine DO.loadE (jj := 0) tab 13 0 rCh (gk_get (xs := zs) (k := (j - 1)) (by omega)) (by simp only [rCh]; omega) (fun _ => rfl) (by repeat (first|exact Calm.ret|refine Calm.then ?_|refine Calm.block ?_)) (by kernel_rfl) (by kernel_rfl) rfl rfl rfl rfl rfl rfl rfl ?_
    refine DO.run 14 rfl rfl (by kernel_rfl) rfl (OT.call rfl rfl rfl rfl rfl rfl goes23 ((chcmp_law m _ (gk zs j) (gk zs (j - 1)) (hD.gk (by omega)) (hD.gk (by omega))).x ?_))
    rintro _ _ _ ⟨rfl, rfl, rfl⟩; refine ⟨Mem.le_refl _, _, List.Perm.refl _, ?_⟩
    refine DO.pure tab (by repeat (first|exact Calm.ret|refine Calm.then ?_|refine Calm.block ?_)) (by kernel_rfl) [15, 16] (by kernel_rfl) rfl ?_
    (refine DO.nil (by kernel_rfl) ?_)
    rotate_left 1
    refine DO.pure tab (by repeat (first|exact Calm.ret|refine Calm.then ?_|refine Calm.block ?_)) (by kernel_rfl) [4, 5, 6, 7, 8, 9, 10, 11, 12, 13, 14, 15, 16] (by kernel_rfl) rfl ?_
    (refine DO.nil (by kernel_rfl) ?_)
    rotate_left 1
    · repeat (refine q6 ?_)
      simp only [ch_dec]
      cases hc : ltC (gk zs j) (gk zs (j - 1)) with
      | true =>
        repeat (first|refine q1 ?_|refine q2 ?_|refine q6 ?_|refine q13 ?_|refine q16 rfl ?_)
        refine TC.draw [15, 16, 17] mixed 18 rfl [chR bd zs] L (by first | exact List.Perm.refl _ | (rw [List.append_nil]; exact List.Perm.refl _)) ?_
        refine DO.pure tab (by repeat (first|exact Calm.ret|refine Calm.then ?_|refine Calm.block ?_)) (by kernel_rfl) [0, 1, 2, 3] (by kernel_rfl) rfl ?_
        refine DO.arith 4 (r' := (((j - 1) : Nat) : Int)) (by repeat (first|exact Calm.ret|refine Calm.then ?_|refine Calm.block ?_)) (by kernel_rfl) (by kernel_rfl) rfl rfl rfl rfl rfl rfl rfl rfl (by first | rfl | omega | (simp only; omega)) (by omega) ?_
        refine DO.pure tab (by repeat (first|exact Calm.ret|refine Calm.then ?_|refine Calm.block ?_)) (by kernel_rfl) [5, 6] (by kernel_rfl) rfl ?_
        refine DO.arith 7 (r' := (((j - 1) : Nat) : Int)) (by repeat (first|exact Calm.ret|refine Calm.then ?_|refine Calm.block ?_)) (by kernel_rfl) (by kernel_rfl) rfl rfl rfl rfl rfl rfl rfl rfl (by first | rfl | omega | (simp only; omega)) (by omega) ?_
        refine DO.indexP (sz := 2) tab 8 (j - 1) (by repeat (first|exact Calm.ret|refine Calm.then ?_|refine Calm.block ?_)) (by kernel_rfl) (by kernel_rfl) rfl rfl rfl rfl rfl rfl rfl rfl rfl (by omega) ?_
        refine DO.loadE (jj := 0) tab 9 0 rCh (gk_get (xs := zs) (k := (j - 1)) (by omega)) (by simp only [rCh]; omega) (fun _ => rfl) (by repeat (first|exact Calm.ret|refine Calm.then ?_|refine Calm.block ?_)) (by kernel_rfl) (by kernel_rfl) rfl rfl rfl rfl rfl rfl rfl ?_
        refine DO.pure tab (by repeat (first|exact Calm.ret|refine Calm.then ?_|refine Calm.block ?_)) (by kernel_rfl) [10, 11] (by kernel_rfl) rfl ?_
        refine DO.indexP (sz := 2) tab 12 j (by repeat (first|exact Calm.ret|refine Calm.then ?_|refine Calm.block ?_)) (by kernel_rfl) (by kernel_rfl) rfl rfl rfl rfl rfl rfl rfl rfl rfl (by omega) ?_
        refine DO.loadE (jj := 0) tab 13 0 rCh (gk_get (xs := zs) (k := j) (by omega)) (by simp only [rCh]; omega) (fun _ => rfl) (by repeat (first|exact Calm.ret|refine Calm.then ?_|refine Calm.block ?_)) (by kernel_rfl) (by kernel_rfl) rfl rfl rfl rfl rfl rfl rfl ?_
        refine DO.indexP (sz := 2) tab 14 j (by repeat (first|exact Calm.ret|refine Calm.then ?_|refine Calm.block ?_)) (by kernel_rfl) (by kernel_rfl) rfl rfl rfl rfl rfl rfl rfl rfl rfl (by omega) ?_
        refine DO.tail ?_
        refine DOt.run 15 rfl rfl (by kernel_rfl) rfl ?_
        refine OT.storeE (h2 := gk zs (j - 1)) tab 0 rCh (gk_get (xs := zs) (k := j) (by omega)) (j := 0) (by simp only [rCh]; omega) (fun _ => rfl) (Nat.le_refl _) rfl rfl rfl rfl rfl rfl rfl ?_
        refine DOt.run 16 rfl rfl (by kernel_rfl) rfl ?_
        refine OT.indexP (sz := 2) tab (j - 1) rfl rfl rfl rfl rfl rfl rfl (by omega) ?_
        refine DOt.run 17 rfl rfl (by kernel_rfl) rfl ?_
        refine OT.storeE (h2 := gk zs j) (h := gk (List.set zs j (gk zs (j - 1))) (j - 1)) tab 0 rCh (k := (j - 1)) (gk_get (by simp; omega)) (j := 0) (by simp only [rCh]; omega) (fun _ => rfl) (Nat.le_refl _) rfl rfl rfl rfl rfl rfl rfl ?_
        refine DOt.nil (by kernel_rfl) ?_
        rotate_left 1
        repeat (first|refine q3 ?_|refine q4 tab rfl rfl ?_|refine q6 ?_|refine q7 ?_)
        refine TO.step rfl (OT.arith (r' := ((j - 1 : Nat) : Int)) rfl rfl rfl rfl rfl rfl (by omega) (by omega) ?_)
        repeat (first|refine q4 tab rfl rfl ?_|refine q5 ?_|refine q6 ?_)
        exact ⟨(j - 1, sw zs j (j - 1)), (by repeat (first|exact trivial|refine And.intro rfl ?_)), (by repeat (first|exact trivial|refine And.intro rfl ?_)), rfl, rfl, (by repeat (exact List.Sublist.refl _)), hJ.step (by omega) (by omega) hc, by simp only; omega⟩
      | false =>
        have hN := hJ.done ltC_ord hO (.inr hc)
        repeat (first|refine q3 ?_|refine q4 tab rfl rfl ?_|refine q6 ?_|refine q7 ?_|refine q10 ?_|refine q11 ?_|refine q14 ?_|refine q17 rfl ?_)
        refine TO.step rfl (OT.arith (r' := ((i + 1 : Nat) : Int)) rfl rfl rfl rfl rfl rfl rfl (by omega) ?_)
        repeat (first|refine q4 tab rfl rfl ?_|refine q5 ?_|refine q6 ?_)
        exact ⟨(i + 1, zs), (by repeat (first|exact trivial|refine And.intro rfl ?_)), (by repeat (first|exact trivial|refine And.intro rfl ?_)), rfl, rfl, (by repeat (exact List.Sublist.refl _)), ⟨by simp only; omega, fun _ => by simp only; omega, hS.trans (hJ.seg.mono (Nat.le_refl _) (by omega)), fun _ => hN⟩, by simp only; omega⟩
    · have hN := hJ.done ltC_ord hO (.inl (by omega))
      repeat (first|refine q3 ?_|refine q4 tab rfl rfl ?_|refine q6 ?_|refine q7 ?_|refine q10 ?_|refine q11 ?_|refine q14 ?_|refine q17 rfl ?_)
      refine TO.step rfl (OT.arith (r' := ((i + 1 : Nat) : Int)) rfl rfl rfl rfl rfl rfl rfl (by omega) ?_)
      repeat (first|refine q4 tab rfl rfl ?_|refine q5 ?_|refine q6 ?_)
      exact ⟨(i + 1, zs), (by repeat (first|exact trivial|refine And.intro rfl ?_)), (by repeat (first|exact trivial|refine And.intro rfl ?_)), rfl, rfl, (by repeat (exact List.Sublist.refl _)), ⟨by simp only; omega, fun _ => by simp only; omega, hS.trans (hJ.seg.mono (Nat.le_refl _) (by omega)), fun _ => hN⟩, by simp only; omega⟩
  · repeat (first|refine q10 ?_|refine q11 ?_|refine q14 ?_)
    refine retQ_n rfl (L' := chR bd ys :: L) (by repeat (exact List.Sublist.refl _)) ⟨rfl, ys, hS, ?_, rfl⟩
    by_cases e : a < b
    · have h1 := hi3 e
      have h2 := hO e
      rw [show i = b by omega] at h2
      exact h2
    · intro i j h1 h2 h3; omega
theorem reverse_ch (m : Mem) (L : List Item) (bd c a b : Nat) (xs : List Ch) (hab : a < b) (hl : b ≤ xs.length) (hlim : xs.length ≤ 1000000) :
    TCall Try.prog 41 ⟨[.slice (some ⟨bd, 0, none⟩) xs.length c, .int .i64 (a : Int), .int .i64 (b : Int), chF]⟩ m (chR bd xs :: L) (fun r m' L' => m = m' ∧ ∃ ys, Sg a b xs ys ∧ chR bd ys :: L = L') := by
  unfold TCall
  refine TCallX.enter Try.func41 rfl 34 rfl ?_
  repeat (first|refine q1 ?_|refine q3 ?_|refine q4 tab rfl rfl ?_|refine q5 ?_|refine q6 ?_)
  refine TO.step rfl (OT.arith (r' := ((b - 1 : Nat) : Int)) rfl rfl rfl rfl rfl rfl (by omega) (by omega) ?_)
  repeat (first|refine q2 ?_|refine q4 tab rfl rfl ?_|refine q5 ?_|refine q6 ?_)
  refine TC.loopK (ι := Nat × Nat × List Ch) [0] rfl (fun x => [(8, .int .i64 (x.1 : Int)), (9, .int .i64 (x.2.1 : Int))]) (fun _ => m) (fun x => chR bd x.2.2 :: L) (fun x => a ≤ x.1 ∧ x.2.1 < b ∧ Sg a b xs x.2.2) (fun x => x.2.1 - x.1) (a, b - 1, xs) (by repeat (first|exact trivial|refine And.intro rfl ?_)) rfl (by repeat (exact List.Sublist.refl _)) ⟨Nat.le_refl _, by simp only; omega, Sg.refl _ _ _⟩ ?_
  rintro ⟨i, j, ys⟩ ⟨h1, h2, hS⟩
  simp only at h1 h2 hS ⊢
  have hyl := hS.len
  repeat (first|refine q1 ?_|refine q3 ?_|refine q4 tab rfl rfl ?_|refine q5 ?_|refine q6 ?_)
  refine TC.condP rfl (fun hlt => ?_) (fun hlt => ?_)
  · repeat (first|refine q1 ?_|refine q2 ?_|refine q6 ?_|refine q13 ?_)
    refine TC.draw [13, 14, 15] mixed 16 rfl [chR bd ys] L (by first | exact List.Perm.refl _ | (rw [List.append_nil]; exact List.Perm.refl _)) ?_
    refine DO.pure tab (by repeat (first|exact Calm.ret|refine Calm.then ?_|refine Calm.block ?_)) (by kernel_rfl) [0, 1, 2, 3, 4, 5] (by kernel_rfl) rfl ?_
    refine DO.indexP (sz := 2) tab 6 j (by repeat (first|exact Calm.ret|refine Calm.then ?_|refine Calm.block ?_)) (by kernel_rfl) (by kernel_rfl) rfl rfl rfl rfl rfl rfl rfl rfl rfl (by omega) ?_
    refine DO.loadE (jj := 0) tab 7 0 rCh (gk_get (xs := ys) (k := j) (by omega)) (by simp only [rCh]; omega) (fun _ => rfl) (by repeat (first|exact Calm.ret|refine Calm.then ?_|refine Calm.block ?_)) (by kernel_rfl) (by kernel_rfl) rfl rfl rfl rfl rfl rfl rfl ?_
    refine DO.pure tab (by repeat (first|exact Calm.ret|refine Calm.then ?_|refine Calm.block ?_)) (by kernel_rfl) [8, 9] (by kernel_rfl) rfl ?_
    refine DO.indexP (sz := 2) tab 10 i (by repeat (first|exact Calm.ret|refine Calm.then ?_|refine Calm.block ?_)) (by kernel_rfl) (by kernel_rfl) rfl rfl rfl rfl rfl rfl rfl rfl rfl (by omega) ?_
    refine DO.loadE (jj := 0) tab 11 0 rCh (gk_get (xs := ys) (k := i) (by omega)) (by simp only [rCh]; omega) (fun _ => rfl) (by repeat (first|exact Calm.ret|refine Calm.then ?_|refine Calm.block ?_)) (by kernel_rfl) (by kernel_rfl) rfl rfl rfl rfl rfl rfl rfl ?_
    refine DO.indexP (sz := 2) tab 12 i (by repeat (first|exact Calm.ret|refine Calm.then ?_|refine Calm.block ?_)) (by kernel_rfl) (by kernel_rfl) rfl rfl rfl rfl rfl rfl rfl rfl rfl (by omega) ?_
    refine DO.tail ?_
    refine DOt.run 13 rfl rfl (by kernel_rfl) rfl ?_
    refine OT.storeE (h2 := gk ys j) tab 0 rCh (gk_get (xs := ys) (k := i) (by omega)) (j := 0) (by simp only [rCh]; omega) (fun _ => rfl) (Nat.le_refl _) rfl rfl rfl rfl rfl rfl rfl ?_
    refine DOt.run 14 rfl rfl (by kernel_rfl) rfl ?_
    refine OT.indexP (sz := 2) tab j rfl rfl rfl rfl rfl rfl rfl (by omega) ?_
    refine DOt.run 15 rfl rfl (by kernel_rfl) rfl ?_
    refine OT.storeE (h2 := gk ys i) (h := gk (List.set ys i (gk ys j)) j) tab 0 rCh (k := j) (gk_get (by simp; omega)) (j := 0) (by simp only [rCh]; omega) (fun _ => rfl) (Nat.le_refl _) rfl rfl rfl rfl rfl rfl rfl ?_
    refine DOt.nil (by kernel_rfl) ?_
    rotate_left 1
    repeat (first|refine q1 ?_|refine q3 ?_|refine q4 tab rfl rfl ?_|refine q6 ?_)
    refine TO.step rfl (OT.arith (r' := ((i + 1 : Nat) : Int)) rfl rfl rfl rfl rfl rfl rfl (by omega) ?_)
    repeat (first|refine q3 ?_|refine q4 tab rfl rfl ?_|refine q5 ?_|refine q6 ?_)
    refine TO.step rfl (OT.arith (r' := ((j - 1 : Nat) : Int)) rfl rfl rfl rfl rfl rfl (by omega) (by omega) ?_)
    repeat (first|refine q4 tab rfl rfl ?_|refine q5 ?_|refine q6 ?_|refine q7 ?_)
    exact ⟨(i + 1, j - 1, sw ys i j), (by repeat (first|exact trivial|refine And.intro rfl ?_)), (by repeat (first|exact trivial|refine And.intro rfl ?_)), rfl, rfl, (by repeat (exact List.Sublist.refl _)), ⟨by simp only; omega, by simp only; omega, hS.trans (Sg.sw (by omega) (by omega) (by omega))⟩, by simp only; omega⟩
  · repeat (first|refine q10 ?_|refine q11 ?_|refine q14 ?_)
    refine retQ_n rfl (L' := chR bd ys :: L) (by repeat (exact List.Sublist.refl _)) ⟨rfl, ys, hS, rfl⟩
end Go.Sep

/-
  Changes sorted in place: heap sort.
-/
set_option linter.unusedVariables false
set_option linter.unusedSimpArgs false
namespace Go.Sep
open Go.Proofs
attribute [local irreducible] TC TO OT TCallX TCall DO DOt thenQ blockQ retQ At
set_option maxHeartbeats 2000000 in
theorem sift_ch (m : Mem) (L : List Item) (bd c lo hi f : Nat) (xs : List Ch) (hD : DomC xs) (hlh : lo ≤ hi) (hl : f + hi ≤ xs.length) (hlim : xs.length ≤ 1000000) (hdi : DI (gtL ltC) (xs.drop f) hi lo lo) :
    TCall Try.prog 48 ⟨[.slice (some ⟨bd, 0, none⟩) xs.length c, .int .i64 (lo : Int), .int .i64 (hi : Int), .int .i64 (f : Int), chF]⟩ m (chR bd xs :: L) (fun r m' L' => m = m' ∧ ∃ ys, Sg f (f + hi) xs ys ∧ HF (gtL ltC) (ys.drop f) hi lo ∧ chR bd ys :: L = L') := by
  unfold TCall
  refine TCallX.enter Try.func48 rfl 82 rfl ?_
  repeat (first|refine q1 ?_|refine q2 ?_|refine q3 ?_|refine q4 tab rfl rfl ?_|refine q5 ?_|refine q6 ?_)
  refine TC.loopK (ι := Nat × List Ch) [0, 2, 3, 4] rfl (fun x => [(10, .int .i64 (x.1 : Int))]) (fun _ => m) (fun x => chR bd x.2 :: L) (fun x => x.1 ≤ hi ∧ Sg f (f + hi) xs x.2 ∧ DI (gtL ltC) (x.2.drop f) hi lo x.1 ∧ lo ≤ x.1) (fun x => hi - x.1) (lo, xs) (by repeat (first|exact trivial|refine And.intro rfl ?_)) rfl (by repeat (exact List.Sublist.refl _)) ⟨hlh, Sg.refl _ _ _, hdi, Nat.le_refl _⟩ ?_
  rintro ⟨i, ys⟩ ⟨hi', hS, hd, hlo⟩
  simp only at hi' hS hd hlo ⊢
  have hyl := hS.len
  have hD : DomC ys := hD.perm hS.perm
  repeat (first|refine q1 ?_|refine q2 ?_|refine q3 ?_|refine q4 tab rfl rfl ?_)
  refine TO.step rfl (OT.arith (r' := ((2 * i : Nat) : Int)) rfl rfl rfl rfl rfl rfl (by omega) (by omega) ?_)
  refine TO.step rfl (OT.arith (r' := (((2*i) + 1 : Nat) : Int)) rfl rfl rfl rfl rfl rfl rfl (by omega) ?_)
  repeat (first|refine q1 ?_|refine q3 ?_|refine q4 tab rfl rfl ?_|refine q5 ?_|refine q6 ?_)
  refine TC.condP rfl (fun hg => ?_) (fun hg => ?_)
  · have hdn := hd.done0 (by omega)
    repeat (first|refine q10 ?_|refine q11 ?_|refine q12 rfl ?_|refine q14 ?_)
    refine retQ_n rfl (L' := chR bd ys :: L) (by repeat (exact List.Sublist.refl _)) ⟨rfl, ys, hS, hdn, rfl⟩
  · repeat (first|refine q1 ?_|refine q6 ?_|refine q13 ?_)
    refine TC.draw [] mixed 22 rfl [chR bd ys] L (by first | exact List.Perm.refl _ | (rw [List.append_nil]; exact List.Perm.refl _)) ?_
    refine DO.pure tab (by repeat (first|exact Calm.ret|refine Calm.then ?_|refine Calm.block ?_)) (by kernel_rfl) [0] (by kernel_rfl) rfl ?_
    refine DO.arith 1 (r' := ((((2 * i + 1) + 1) : Nat) : Int)) (by repeat (first|exact Calm.ret|refine Calm.then ?_|refine Calm.block ?_)) (by kernel_rfl) (by kernel_rfl) rfl rfl rfl rfl rfl rfl rfl rfl (by first | rfl | omega | (simp only; omega)) (by omega) ?_
    refine DO.pure tab (by repeat (first|exact Calm.ret|refine Calm.then ?_|refine Calm.block ?_)) (by kernel_rfl) [2, 3, 4] (by kernel_rfl) rfl ?_
    (refine DO.splitP (d := 23) rfl (fun hg4 => ?_) (fun hg4 => ?_))
    refine DO.pure tab (by repeat (first|exact Calm.ret|refine Calm.then ?_|refine Calm.block ?_)) (by kernel_rfl) [5, 6, 7, 8] (by kernel_rfl) rfl ?_
    refine DO.arith 9 (r' := (((f + (2 * i + 1)) : Nat) : Int)) (by repeat (first|exact Calm.ret|refine Calm.then ?_|refine Calm.block ?_)) (by kernel_rfl) (by kernel_rfl) rfl rfl rfl rfl rfl rfl rfl rfl (by first | rfl | omega | (simp only; omega)) (by omega) ?_
    refine DO.indexP (sz := 2) tab 10 (f + (2 * i + 1)) (by repeat (first|exact Calm.ret|refine Calm.then ?_|refine Calm.block ?_)) (by kernel_rfl) (by kernel_rfl) rfl rfl rfl rfl rfl rfl rfl rfl rfl (by omega) ?_
    refine DO.loadE (jj := 0) tab 11 0 rCh (gk_get (xs := ys) (k := (f + (2 * i + 1))) (by omega)) (by simp only [rCh]; omega) (fun _ => rfl) (by repeat (first|exact Calm.ret|refine Calm.then ?_|refine Calm.block ?_)) (by kernel_rfl) (by kernel_rfl) rfl rfl rfl rfl rfl rfl rfl ?_
    refine DO.pure tab (by repeat (first|exact Calm.ret|refine Calm.then ?_|refine Calm.block ?_)) (by kernel_rfl) [12, 13, 14] (by kernel_rfl) rfl ?_
    refine DO.arith 15 (r' := (((f + (2 * i + 1)) : Nat) : Int)) (by repeat (first|exact Calm.ret|refine Calm.then ?_|refine Calm.block ?_)) (by kernel_rfl) (by kernel_rfl) rfl rfl rfl rfl rfl rfl rfl rfl (by first | rfl | omega | (simp only; omega)) (by omega) ?_
    refine DO.arith 16 (r' := ((((f + (2 * i + 1)) + 1) : Nat) : Int)) (by repeat (first|exact Calm.ret|refine Calm.then ?_|refine Calm.block ?_)) (by kernel_rfl) (by kernel_rfl) rfl rfl rfl rfl rfl rfl rfl rfl (by first | rfl | omega | (simp only; omega)) (by omega) ?_
    refine DO.indexP (sz := 2) tab 17 ((f + (2 * i + 1)) + 1) (by repeat (first|exact Calm.ret|refine Calm.then ?_|refine Calm.block ?_)) (by kernel_rfl) (by kernel_rfl) rfl rfl rfl rfl rfl rfl rfl rfl rfl (by omega) ?_
    refine DO.loadE (jj := 0) tab 18 0 rCh (gk_get (xs := ys) (k := ((f + (2 * i + 1)) + 1)) (by omega)) (by simp only [rCh]; omega) (fun _ => rfl) (by repeat (first|exact Calm.ret|refine Calm.then ?_|refine Calm.block ?_)) (by kernel_rfl) (by kernel_rfl) rfl rfl rfl rfl rfl rfl rfl ?_
    refine DO.run 19 rfl rfl (by kernel_rfl) rfl (OT.call rfl rfl rfl rfl rfl rfl goes23 ((chcmp_law m _ (gk ys (f + (2 * i + 1))) (gk ys ((f + (2 * i + 1)) + 1)) (hD.gk (by omega)) (hD.gk (by omega))).x ?_))
    rintro _ _ _ ⟨rfl, rfl, rfl⟩; refine ⟨Mem.le_refl _, _, List.Perm.refl _, ?_⟩
    refine DO.pure tab (by repeat (first|exact Calm.ret|refine Calm.then ?_|refine Calm.block ?_)) (by kernel_rfl) [20, 21] (by kernel_rfl) rfl ?_
    (refine DO.nil (by kernel_rfl) ?_)
    rotate_left 1
    refine DO.pure tab (by repeat (first|exact Calm.ret|refine Calm.then ?_|refine Calm.block ?_)) (by kernel_rfl) [5, 6, 7, 8, 9, 10, 11, 12, 13, 14, 15, 16, 17, 18, 19, 20, 21] (by kernel_rfl) rfl ?_
    (refine DO.nil (by kernel_rfl) ?_)
    rotate_left 1
    · repeat (refine q6 ?_)
      simp only [ch_dec]
      cases hc : ltC (gk ys (f + (2 * i + 1))) (gk ys (f + (2 * i + 1) + 1)) with
      | true =>
        have hsm : ∀ k, 0 < k → k < hi → par k = i → gtL ltC (gk (ys.drop f) k) (gk (ys.drop f) (2 * i + 1 + 1)) = false := fun k h1 h2 h3 => by
          rw [gk_drop, gk_drop]
          unfold gtL
          have : k = 2 * i + 1 ∨ k = 2 * i + 1 + 1 := by unfold par at h3; omega
          rcases this with rfl | rfl
          · exact ltC_ord.asym _ _ hc
          · exact ltC_irr _
        repeat (first|refine q3 ?_|refine q4 tab rfl rfl ?_|refine q16 rfl ?_)
        refine TO.step rfl (OT.arith (r' := (((2*i+1) + 1 : Nat) : Int)) rfl rfl rfl rfl rfl rfl rfl (by omega) ?_)
        have hJp : par (2 * i + 1 + 1) = i := by unfold par; omega
        repeat (first|refine q1 ?_|refine q4 tab rfl rfl ?_|refine q5 ?_|refine q6 ?_)
        refine TC.draw [] mixed 16 rfl [chR bd ys] L (by first | exact List.Perm.refl _ | (rw [List.append_nil]; exact List.Perm.refl _)) ?_
        refine DO.pure tab (by repeat (first|exact Calm.ret|refine Calm.then ?_|refine Calm.block ?_)) (by kernel_rfl) [0, 1, 2, 3] (by kernel_rfl) rfl ?_
        refine DO.arith 4 (r' := (((f + i) : Nat) : Int)) (by repeat (first|exact Calm.ret|refine Calm.then ?_|refine Calm.block ?_)) (by kernel_rfl) (by kernel_rfl) rfl rfl rfl rfl rfl rfl rfl rfl (by first | rfl | omega | (simp only; omega)) (by omega) ?_
        refine DO.indexP (sz := 2) tab 5 (f + i) (by repeat (first|exact Calm.ret|refine Calm.then ?_|refine Calm.block ?_)) (by kernel_rfl) (by kernel_rfl) rfl rfl rfl rfl rfl rfl rfl rfl rfl (by omega) ?_
        refine DO.loadE (jj := 0) tab 6 0 rCh (gk_get (xs := ys) (k := (f + i)) (by omega)) (by simp only [rCh]; omega) (fun _ => rfl) (by repeat (first|exact Calm.ret|refine Calm.then ?_|refine Calm.block ?_)) (by kernel_rfl) (by kernel_rfl) rfl rfl rfl rfl rfl rfl rfl ?_
        refine DO.pure tab (by repeat (first|exact Calm.ret|refine Calm.then ?_|refine Calm.block ?_)) (by kernel_rfl) [7, 8, 9] (by kernel_rfl) rfl ?_
        refine DO.arith 10 (r' := (((f + (2 * i + 1 + 1)) : Nat) : Int)) (by repeat (first|exact Calm.ret|refine Calm.then ?_|refine Calm.block ?_)) (by kernel_rfl) (by kernel_rfl) rfl rfl rfl rfl rfl rfl rfl rfl (by first | rfl | omega | (simp only; omega)) (by omega) ?_
        refine DO.indexP (sz := 2) tab 11 (f + (2 * i + 1 + 1)) (by repeat (first|exact Calm.ret|refine Calm.then ?_|refine Calm.block ?_)) (by kernel_rfl) (by kernel_rfl) rfl rfl rfl rfl rfl rfl rfl rfl rfl (by omega) ?_
        refine DO.loadE (jj := 0) tab 12 0 rCh (gk_get (xs := ys) (k := (f + (2 * i + 1 + 1))) (by omega)) (by simp only [rCh]; omega) (fun _ => rfl) (by repeat (first|exact Calm.ret|refine Calm.then ?_|refine Calm.block ?_)) (by kernel_rfl) (by kernel_rfl) rfl rfl rfl rfl rfl rfl rfl ?_
        refine DO.run 13 rfl rfl (by kernel_rfl) rfl (OT.call rfl rfl rfl rfl rfl rfl goes23 ((chcmp_law m _ (gk ys (f + i)) (gk ys (f + (2 * i + 1 + 1))) (hD.gk (by omega)) (hD.gk (by omega))).x ?_))
        rintro _ _ _ ⟨rfl, rfl, rfl⟩; refine ⟨Mem.le_refl _, _, List.Perm.refl _, ?_⟩
        refine DO.pure tab (by repeat (first|exact Calm.ret|refine Calm.then ?_|refine Calm.block ?_)) (by kernel_rfl) [14, 15] (by kernel_rfl) rfl ?_
        (refine DO.nil (by kernel_rfl) ?_)
        rotate_left 1
        repeat (refine q6 ?_)
        simp only [ch_dec]
        cases hl : ltC (gk ys (f + i)) (gk ys (f + (2 * i + 1 + 1))) with
        | false =>
          have hdn := hd.done (gtL_ord ltC_ord) hsm (by rw [gk_drop, gk_drop]; exact hl)
          repeat (first|refine q8 ?_|refine q9 ?_|refine q15 ?_|refine q16 rfl ?_)
          refine retQ_ret rfl (L' := chR bd ys :: L) (by repeat (exact List.Sublist.refl _)) ⟨rfl, ys, hS, hdn, rfl⟩
        | true =>
          have hst := hd.step (gtL_ord ltC_ord) (by rw [List.length_drop]; omega) hlo (by omega) (by omega) hJp hsm (by rw [gk_drop, gk_drop]; exact hl)
          rw [← sw_dropf] at hst
          repeat (first|refine q1 ?_|refine q6 ?_|refine q13 ?_|refine q17 rfl ?_)
          refine TC.draw [21, 22, 23] mixed 24 rfl [chR bd ys] L (by first | exact List.Perm.refl _ | (rw [List.append_nil]; exact List.Perm.refl _)) ?_
          refine DO.pure tab (by repeat (first|exact Calm.ret|refine Calm.then ?_|refine Calm.block ?_)) (by kernel_rfl) [0, 1, 2] (by kernel_rfl) rfl ?_
          refine DO.arith 3 (r' := (((f + i) : Nat) : Int)) (by repeat (first|exact Calm.ret|refine Calm.then ?_|refine Calm.block ?_)) (by kernel_rfl) (by kernel_rfl) rfl rfl rfl rfl rfl rfl rfl rfl (by first | rfl | omega | (simp only; omega)) (by omega) ?_
          refine DO.pure tab (by repeat (first|exact Calm.ret|refine Calm.then ?_|refine Calm.block ?_)) (by kernel_rfl) [4, 5, 6] (by kernel_rfl) rfl ?_
          refine DO.arith 7 (r' := (((f + (2 * i + 1 + 1)) : Nat) : Int)) (by repeat (first|exact Calm.ret|refine Calm.then ?_|refine Calm.block ?_)) (by kernel_rfl) (by kernel_rfl) rfl rfl rfl rfl rfl rfl rfl rfl (by first | rfl | omega | (simp only; omega)) (by omega) ?_
          refine DO.pure tab (by repeat (first|exact Calm.ret|refine Calm.then ?_|refine Calm.block ?_)) (by kernel_rfl) [8, 9, 10] (by kernel_rfl) rfl ?_
          refine DO.arith 11 (r' := (((f + (2 * i + 1 + 1)) : Nat) : Int)) (by repeat (first|exact Calm.ret|refine Calm.then ?_|refine Calm.block ?_)) (by kernel_rfl) (by kernel_rfl) rfl rfl rfl rfl rfl rfl rfl rfl (by first | rfl | omega | (simp only; omega)) (by omega) ?_
          refine DO.indexP (sz := 2) tab 12 (f + (2 * i + 1 + 1)) (by repeat (first|exact Calm.ret|refine Calm.then ?_|refine Calm.block ?_)) (by kernel_rfl) (by kernel_rfl) rfl rfl rfl rfl rfl rfl rfl rfl rfl (by omega) ?_
          refine DO.loadE (jj := 0) tab 13 0 rCh (gk_get (xs := ys) (k := (f + (2 * i + 1 + 1))) (by omega)) (by simp only [rCh]; omega) (fun _ => rfl) (by repeat (first|exact Calm.ret|refine Calm.then ?_|refine Calm.block ?_)) (by kernel_rfl) (by kernel_rfl) rfl rfl rfl rfl rfl rfl rfl ?_
          refine DO.pure tab (by repeat (first|exact Calm.ret|refine Calm.then ?_|refine Calm.block ?_)) (by kernel_rfl) [14, 15, 16] (by kernel_rfl) rfl ?_
          refine DO.arith 17 (r' := (((f + i) : Nat) : Int)) (by repeat (first|exact Calm.ret|refine Calm.then ?_|refine Calm.block ?_)) (by kernel_rfl) (by kernel_rfl) rfl rfl rfl rfl rfl rfl rfl rfl (by first | rfl | omega | (simp only; omega)) (by omega) ?_
          refine DO.indexP (sz := 2) tab 18 (f + i) (by repeat (first|exact Calm.ret|refine Calm.then ?_|refine Calm.block ?_)) (by kernel_rfl) (by kernel_rfl) rfl rfl rfl rfl rfl rfl rfl rfl rfl (by omega) ?_
          refine DO.loadE (jj := 0) tab 19 0 rCh (gk_get (xs := ys) (k := (f + i)) (by omega)) (by simp only [rCh]; omega) (fun _ => rfl) (by repeat (first|exact Calm.ret|refine Calm.then ?_|refine Calm.block ?_)) (by kernel_rfl) (by kernel_rfl) rfl rfl rfl rfl rfl rfl rfl ?_
          refine DO.indexP (sz := 2) tab 20 (f + i) (by repeat (first|exact Calm.ret|refine Calm.then ?_|refine Calm.block ?_)) (by kernel_rfl) (by kernel_rfl) rfl rfl rfl rfl rfl rfl rfl rfl rfl (by omega) ?_
          refine DO.tail ?_
          refine DOt.run 21 rfl rfl (by kernel_rfl) rfl ?_
          refine OT.storeE (h2 := gk ys (f + (2 * i + 1 + 1))) tab 0 rCh (gk_get (xs := ys) (k := (f + i)) (by omega)) (j := 0) (by simp only [rCh]; omega) (fun _ => rfl) (Nat.le_refl _) rfl rfl rfl rfl rfl rfl rfl ?_
          refine DOt.run 22 rfl rfl (by kernel_rfl) rfl ?_
          refine OT.indexP (sz := 2) tab (f + (2 * i + 1 + 1)) rfl rfl rfl rfl rfl rfl rfl (by omega) ?_
          refine DOt.run 23 rfl rfl (by kernel_rfl) rfl ?_
          refine OT.storeE (h2 := gk ys (f + i)) (h := gk (List.set ys (f + i) (gk ys (f + (2 * i + 1 + 1)))) (f + (2 * i + 1 + 1))) tab 0 rCh (k := (f + (2 * i + 1 + 1))) (gk_get (by simp; omega)) (j := 0) (by simp only [rCh]; omega) (fun _ => rfl) (Nat.le_refl _) rfl rfl rfl rfl rfl rfl rfl ?_
          refine DOt.nil (by kernel_rfl) ?_
          rotate_left 1
          repeat (first|refine q3 ?_|refine q4 tab rfl rfl ?_|refine q5 ?_|refine q6 ?_|refine q7 ?_)
          exact ⟨(2 * i + 1 + 1, sw ys (f + i) (f + (2 * i + 1 + 1))), (by repeat (first|exact trivial|refine And.intro rfl ?_)), (by repeat (first|exact trivial|refine And.intro rfl ?_)), rfl, rfl, (by repeat (exact List.Sublist.refl _)), ⟨by simp only; omega, hS.trans (Sg.sw (by omega) (by omega) (by omega)), hst, by simp only; omega⟩, by simp only; omega⟩
      | false =>
        have hsm : ∀ k, 0 < k → k < hi → par k = i → gtL ltC (gk (ys.drop f) k) (gk (ys.drop f) (2 * i + 1)) = false := fun k h1 h2 h3 => by
          rw [gk_drop, gk_drop]
          unfold gtL
          have : k = 2 * i + 1 ∨ k = 2 * i + 1 + 1 := by unfold par at h3; omega
          rcases this with rfl | rfl
          · exact ltC_irr _
          · exact hc
        have hJp : par (2 * i + 1) = i := by unfold par; omega
        repeat (first|refine q1 ?_|refine q6 ?_|refine q13 ?_|refine q17 rfl ?_)
        refine TC.draw [] mixed 16 rfl [chR bd ys] L (by first | exact List.Perm.refl _ | (rw [List.append_nil]; exact List.Perm.refl _)) ?_
        refine DO.pure tab (by repeat (first|exact Calm.ret|refine Calm.then ?_|refine Calm.block ?_)) (by kernel_rfl) [0, 1, 2, 3] (by kernel_rfl) rfl ?_
        refine DO.arith 4 (r' := (((f + i) : Nat) : Int)) (by repeat (first|exact Calm.ret|refine Calm.then ?_|refine Calm.block ?_)) (by kernel_rfl) (by kernel_rfl) rfl rfl rfl rfl rfl rfl rfl rfl (by first | rfl | omega | (simp only; omega)) (by omega) ?_
        refine DO.indexP (sz := 2) tab 5 (f + i) (by repeat (first|exact Calm.ret|refine Calm.then ?_|refine Calm.block ?_)) (by kernel_rfl) (by kernel_rfl) rfl rfl rfl rfl rfl rfl rfl rfl rfl (by omega) ?_
        refine DO.loadE (jj := 0) tab 6 0 rCh (gk_get (xs := ys) (k := (f + i)) (by omega)) (by simp only [rCh]; omega) (fun _ => rfl) (by repeat (first|exact Calm.ret|refine Calm.then ?_|refine Calm.block ?_)) (by kernel_rfl) (by kernel_rfl) rfl rfl rfl rfl rfl rfl rfl ?_
        refine DO.pure tab (by repeat (first|exact Calm.ret|refine Calm.then ?_|refine Calm.block ?_)) (by kernel_rfl) [7, 8, 9] (by kernel_rfl) rfl ?_
        refine DO.arith 10 (r' := (((f + (2 * i + 1)) : Nat) : Int)) (by repeat (first|exact Calm.ret|refine Calm.then ?_|refine Calm.block ?_)) (by kernel_rfl) (by kernel_rfl) rfl rfl rfl rfl rfl rfl rfl rfl (by first | rfl | omega | (simp only; omega)) (by omega) ?_
        refine DO.indexP (sz := 2) tab 11 (f + (2 * i + 1)) (by repeat (first|exact Calm.ret|refine Calm.then ?_|refine Calm.block ?_)) (by kernel_rfl) (by kernel_rfl) rfl rfl rfl rfl rfl rfl rfl rfl rfl (by omega) ?_
        refine DO.loadE (jj := 0) tab 12 0 rCh (gk_get (xs := ys) (k := (f + (2 * i + 1))) (by omega)) (by simp only [rCh]; omega) (fun _ => rfl) (by repeat (first|exact Calm.ret|refine Calm.then ?_|refine Calm.block ?_)) (by kernel_rfl) (by kernel_rfl) rfl rfl rfl rfl rfl rfl rfl ?_
        refine DO.run 13 rfl rfl (by kernel_rfl) rfl (OT.call rfl rfl rfl rfl rfl rfl goes23 ((chcmp_law m _ (gk ys (f + i)) (gk ys (f + (2 * i + 1))) (hD.gk (by omega)) (hD.gk (by omega))).x ?_))
        rintro _ _ _ ⟨rfl, rfl, rfl⟩; refine ⟨Mem.le_refl _, _, List.Perm.refl _, ?_⟩
        refine DO.pure tab (by repeat (first|exact Calm.ret|refine Calm.then ?_|refine Calm.block ?_)) (by kernel_rfl) [14, 15] (by kernel_rfl) rfl ?_
        (refine DO.nil (by kernel_rfl) ?_)
        rotate_left 1
        repeat (refine q6 ?_)
        simp only [ch_dec]
        cases hl : ltC (gk ys (f + i)) (gk ys (f + (2 * i + 1))) with
        | false =>
          have hdn := hd.done (gtL_ord ltC_ord) hsm (by rw [gk_drop, gk_drop]; exact hl)
          repeat (first|refine q8 ?_|refine q9 ?_|refine q15 ?_|refine q16 rfl ?_)
          refine retQ_ret rfl (L' := chR bd ys :: L) (by repeat (exact List.Sublist.refl _)) ⟨rfl, ys, hS, hdn, rfl⟩
        | true =>
          have hst := hd.step (gtL_ord ltC_ord) (by rw [List.length_drop]; omega) hlo (by omega) (by omega) hJp hsm (by rw [gk_drop, gk_drop]; exact hl)
          rw [← sw_dropf] at hst
          repeat (first|refine q1 ?_|refine q6 ?_|refine q13 ?_|refine q17 rfl ?_)
          refine TC.draw [21, 22, 23] mixed 24 rfl [chR bd ys] L (by first | exact List.Perm.refl _ | (rw [List.append_nil]; exact List.Perm.refl _)) ?_
          refine DO.pure tab (by repeat (first|exact Calm.ret|refine Calm.then ?_|refine Calm.block ?_)) (by kernel_rfl) [0, 1, 2] (by kernel_rfl) rfl ?_
          refine DO.arith 3 (r' := (((f + i) : Nat) : Int)) (by repeat (first|exact Calm.ret|refine Calm.then ?_|refine Calm.block ?_)) (by kernel_rfl) (by kernel_rfl) rfl rfl rfl rfl rfl rfl rfl rfl (by first | rfl | omega | (simp only; omega)) (by omega) ?_
          refine DO.pure tab (by repeat (first|exact Calm.ret|refine Calm.then ?_|refine Calm.block ?_)) (by kernel_rfl) [4, 5, 6] (by kernel_rfl) rfl ?_
          refine DO.arith 7 (r' := (((f + (2 * i + 1)) : Nat) : Int)) (by repeat (first|exact Calm.ret|refine Calm.then ?_|refine Calm.block ?_)) (by kernel_rfl) (by kernel_rfl) rfl rfl rfl rfl rfl rfl rfl rfl (by first | rfl | omega | (simp only; omega)) (by omega) ?_
          refine DO.pure tab (by repeat (first|exact Calm.ret|refine Calm.then ?_|refine Calm.block ?_)) (by kernel_rfl) [8, 9, 10] (by kernel_rfl) rfl ?_
          refine DO.arith 11 (r' := (((f + (2 * i + 1)) : Nat) : Int)) (by repeat (first|exact Calm.ret|refine Calm.then ?_|refine Calm.block ?_)) (by kernel_rfl) (by kernel_rfl) rfl rfl rfl rfl rfl rfl rfl rfl (by first | rfl | omega | (simp only; omega)) (by omega) ?_
          refine DO.indexP (sz := 2) tab 12 (f + (2 * i + 1)) (by repeat (first|exact Calm.ret|refine Calm.then ?_|refine Calm.block ?_)) (by kernel_rfl) (by kernel_rfl) rfl rfl rfl rfl rfl rfl rfl rfl rfl (by omega) ?_
          refine DO.loadE (jj := 0) tab 13 0 rCh (gk_get (xs := ys) (k := (f + (2 * i + 1))) (by omega)) (by simp only [rCh]; omega) (fun _ => rfl) (by repeat (first|exact Calm.ret|refine Calm.then ?_|refine Calm.block ?_)) (by kernel_rfl) (by kernel_rfl) rfl rfl rfl rfl rfl rfl rfl ?_
          refine DO.pure tab (by repeat (first|exact Calm.ret|refine Calm.then ?_|refine Calm.block ?_)) (by kernel_rfl) [14, 15, 16] (by kernel_rfl) rfl ?_
          refine DO.arith 17 (r' := (((f + i) : Nat) : Int)) (by repeat (first|exact Calm.ret|refine Calm.then ?_|refine Calm.block ?_)) (by kernel_rfl) (by kernel_rfl) rfl rfl rfl rfl rfl rfl rfl rfl (by first | rfl | omega | (simp only; omega)) (by omega) ?_
          refine DO.indexP (sz := 2) tab 18 (f + i) (by repeat (first|exact Calm.ret|refine Calm.then ?_|refine Calm.block ?_)) (by kernel_rfl) (by kernel_rfl) rfl rfl rfl rfl rfl rfl rfl rfl rfl (by omega) ?_
          refine DO.loadE (jj := 0) tab 19 0 rCh (gk_get (xs := ys) (k := (f + i)) (by omega)) (by simp only [rCh]; omega) (fun _ => rfl) (by repeat (first|exact Calm.ret|refine Calm.then ?_|refine Calm.block ?_)) (by kernel_rfl) (by kernel_rfl) rfl rfl rfl rfl rfl rfl rfl ?_
          refine DO.indexP (sz := 2) tab 20 (f + i) (by repeat (first|exact Calm.ret|refine Calm.then ?_|refine Calm.block ?_)) (by kernel_rfl) (by kernel_rfl) rfl rfl rfl rfl rfl rfl rfl rfl rfl (by omega) ?_
          refine DO.tail ?_
          refine DOt.run 21 rfl rfl (by kernel_rfl) rfl ?_
          refine OT.storeE (h2 := gk ys (f + (2 * i + 1))) tab 0 rCh (gk_get (xs := ys) (k := (f + i)) (by omega)) (j := 0) (by simp only [rCh]; omega) (fun _ => rfl) (Nat.le_refl _) rfl rfl rfl rfl rfl rfl rfl ?_
          refine DOt.run 22 rfl rfl (by kernel_rfl) rfl ?_
          refine OT.indexP (sz := 2) tab (f + (2 * i + 1)) rfl rfl rfl rfl rfl rfl rfl (by omega) ?_
          refine DOt.run 23 rfl rfl (by kernel_rfl) rfl ?_
          refine OT.storeE (h2 := gk ys (f + i)) (h := gk (List.set ys (f + i) (gk ys (f + (2 * i + 1)))) (f + (2 * i + 1))) tab 0 rCh (k := (f + (2 * i + 1))) (gk_get (by simp; omega)) (j := 0) (by simp only [rCh]; omega) (fun _ => rfl) (Nat.le_refl _) rfl rfl rfl rfl rfl rfl rfl ?_
          refine DOt.nil (by kernel_rfl) ?_
          rotate_left 1
          repeat (first|refine q3 ?_|refine q4 tab rfl rfl ?_|refine q5 ?_|refine q6 ?_|refine q7 ?_)
          exact ⟨(2 * i + 1, sw ys (f + i) (f + (2 * i + 1))), (by repeat (first|exact trivial|refine And.intro rfl ?_)), (by repeat (first|exact trivial|refine And.intro rfl ?_)), rfl, rfl, (by repeat (exact List.Sublist.refl _)), ⟨by simp only; omega, hS.trans (Sg.sw (by omega) (by omega) (by omega)), hst, by simp only; omega⟩, by simp only; omega⟩
    · have hsm : ∀ k, 0 < k → k < hi → par k = i → gtL ltC (gk (ys.drop f) k) (gk (ys.drop f) (2 * i + 1)) = false := fun k h1 h2 h3 => by
        rw [gk_drop, gk_drop]
        unfold gtL
        have : k = 2 * i + 1 := by unfold par at h3; omega
        rcases this with rfl
        exact ltC_irr _
      have hJp : par (2 * i + 1) = i := by unfold par; omega
      repeat (first|refine q1 ?_|refine q6 ?_|refine q13 ?_|refine q17 rfl ?_)
      refine TC.draw [] mixed 16 rfl [chR bd ys] L (by first | exact List.Perm.refl _ | (rw [List.append_nil]; exact List.Perm.refl _)) ?_
      refine DO.pure tab (by repeat (first|exact Calm.ret|refine Calm.then ?_|refine Calm.block ?_)) (by kernel_rfl) [0, 1, 2, 3] (by kernel_rfl) rfl ?_
      refine DO.arith 4 (r' := (((f + i) : Nat) : Int)) (by repeat (first|exact Calm.ret|refine Calm.then ?_|refine Calm.block ?_)) (by kernel_rfl) (by kernel_rfl) rfl rfl rfl rfl rfl rfl rfl rfl (by first | rfl | omega | (simp only; omega)) (by omega) ?_
      refine DO.indexP (sz := 2) tab 5 (f + i) (by repeat (first|exact Calm.ret|refine Calm.then ?_|refine Calm.block ?_)) (by kernel_rfl) (by kernel_rfl) rfl rfl rfl rfl rfl rfl rfl rfl rfl (by omega) ?_
      refine DO.loadE (jj := 0) tab 6 0 rCh (gk_get (xs := ys) (k := (f + i)) (by omega)) (by simp only [rCh]; omega) (fun _ => rfl) (by repeat (first|exact Calm.ret|refine Calm.then ?_|refine Calm.block ?_)) (by kernel_rfl) (by kernel_rfl) rfl rfl rfl rfl rfl rfl rfl ?_
      refine DO.pure tab (by repeat (first|exact Calm.ret|refine Calm.then ?_|refine Calm.block ?_)) (by kernel_rfl) [7, 8, 9] (by kernel_rfl) rfl ?_
      refine DO.arith 10 (r' := (((f + (2 * i + 1)) : Nat) : Int)) (by repeat (first|exact Calm.ret|refine Calm.then ?_|refine Calm.block ?_)) (by kernel_rfl) (by kernel_rfl) rfl rfl rfl rfl rfl rfl rfl rfl (by first | rfl | omega | (simp only; omega)) (by omega) ?_
      refine DO.indexP (sz := 2) tab 11 (f + (2 * i + 1)) (by repeat (first|exact Calm.ret|refine Calm.then ?_|refine Calm.block ?_)) (by kernel_rfl) (by kernel_rfl) rfl rfl rfl rfl rfl rfl rfl rfl rfl (by omega) ?_
      refine DO.loadE (jj := 0) tab 12 0 rCh (gk_get (xs := ys) (k := (f + (2 * i + 1))) (by omega)) (by simp only [rCh]; omega) (fun _ => rfl) (by repeat (first|exact Calm.ret|refine Calm.then ?_|refine Calm.block ?_)) (by kernel_rfl) (by kernel_rfl) rfl rfl rfl rfl rfl rfl rfl ?_
      refine DO.run 13 rfl rfl (by kernel_rfl) rfl (OT.call rfl rfl rfl rfl rfl rfl goes23 ((chcmp_law m _ (gk ys (f + i)) (gk ys (f + (2 * i + 1))) (hD.gk (by omega)) (hD.gk (by omega))).x ?_))
      rintro _ _ _ ⟨rfl, rfl, rfl⟩; refine ⟨Mem.le_refl _, _, List.Perm.refl _, ?_⟩
      refine DO.pure tab (by repeat (first|exact Calm.ret|refine Calm.then ?_|refine Calm.block ?_)) (by kernel_rfl) [14, 15] (by kernel_rfl) rfl ?_
      (refine DO.nil (by kernel_rfl) ?_)
      rotate_left 1
      repeat (refine q6 ?_)
      simp only [ch_dec]
      cases hl : ltC (gk ys (f + i)) (gk ys (f + (2 * i + 1))) with
      | false =>
        have hdn := hd.done (gtL_ord ltC_ord) hsm (by rw [gk_drop, gk_drop]; exact hl)
        repeat (first|refine q8 ?_|refine q9 ?_|refine q15 ?_|refine q16 rfl ?_)
        refine retQ_ret rfl (L' := chR bd ys :: L) (by repeat (exact List.Sublist.refl _)) ⟨rfl, ys, hS, hdn, rfl⟩
      | true =>
        have hst := hd.step (gtL_ord ltC_ord) (by rw [List.length_drop]; omega) hlo (by omega) (by omega) hJp hsm (by rw [gk_drop, gk_drop]; exact hl)
        rw [← sw_dropf] at hst
        repeat (first|refine q1 ?_|refine q6 ?_|refine q13 ?_|refine q17 rfl ?_)
        refine TC.draw [21, 22, 23] mixed 24 rfl [chR bd ys] L (by first | exact List.Perm.refl _ | (rw [List.append_nil]; exact List.Perm.refl _)) ?_
        refine DO.pure tab (by repeat (first|exact Calm.ret|refine Calm.then ?_|refine Calm.block ?_)) (by kernel_rfl) [0, 1, 2] (by kernel_rfl) rfl ?_
        refine DO.arith 3 (r' := (((f + i) : Nat) : Int)) (by repeat (first|exact Calm.ret|refine Calm.then ?_|refine Calm.block ?_)) (by kernel_rfl) (by kernel_rfl) rfl rfl rfl rfl rfl rfl rfl rfl (by first | rfl | omega | (simp only; omega)) (by omega) ?_
        refine DO.pure tab (by repeat (first|exact Calm.ret|refine Calm.then ?_|refine Calm.block ?_)) (by kernel_rfl) [4, 5, 6] (by kernel_rfl) rfl ?_
        refine DO.arith 7 (r' := (((f + (2 * i + 1)) : Nat) : Int)) (by repeat (first|exact Calm.ret|refine Calm.then ?_|refine Calm.block ?_)) (by kernel_rfl) (by kernel_rfl) rfl rfl rfl rfl rfl rfl rfl rfl (by first | rfl | omega | (simp only; omega)) (by omega) ?_
        refine DO.pure tab (by repeat (first|exact Calm.ret|refine Calm.then ?_|refine Calm.block ?_)) (by kernel_rfl) [8, 9, 10] (by kernel_rfl) rfl ?_
        refine DO.arith 11 (r' := (((f + (2 * i + 1)) : Nat) : Int)) (by repeat (first|exact Calm.ret|refine Calm.then ?_|refine Calm.block ?_)) (by kernel_rfl) (by kernel_rfl) rfl rfl rfl rfl rfl rfl rfl rfl (by first | rfl | omega | (simp only; omega)) (by omega) ?_
        refine DO.indexP (sz := 2) tab 12 (f + (2 * i + 1)) (by repeat (first|exact Calm.ret|refine Calm.then ?_|refine Calm.block ?_)) (by kernel_rfl) (by kernel_rfl) rfl rfl rfl rfl rfl rfl rfl rfl rfl (by omega) ?_
        refine DO.loadE (jj := 0) tab 13 0 rCh (gk_get (xs := ys) (k := (f + (2 * i + 1))) (by omega)) (by simp only [rCh]; omega) (fun _ => rfl) (by repeat (first|exact Calm.ret|refine Calm.then ?_|refine Calm.block ?_)) (by kernel_rfl) (by kernel_rfl) rfl rfl rfl rfl rfl rfl rfl ?_
        refine DO.pure tab (by repeat (first|exact Calm.ret|refine Calm.then ?_|refine Calm.block ?_)) (by kernel_rfl) [14, 15, 16] (by kernel_rfl) rfl ?_
        refine DO.arith 17 (r' := (((f + i) : Nat) : Int)) (by repeat (first|exact Calm.ret|refine Calm.then ?_|refine Calm.block ?_)) (by kernel_rfl) (by kernel_rfl) rfl rfl rfl rfl rfl rfl rfl rfl (by first | rfl | omega | (simp only; omega)) (by omega) ?_
        refine DO.indexP (sz := 2) tab 18 (f + i) (by repeat (first|exact Calm.ret|refine Calm.then ?_|refine Calm.block ?_)) (by kernel_rfl) (by kernel_rfl) rfl rfl rfl rfl rfl rfl rfl rfl rfl (by omega) ?_
        refine DO.loadE (jj := 0) tab 19 0 rCh (gk_get (xs := ys) (k := (f + i)) (by omega)) (by simp only [rCh]; omega) (fun _ => rfl) (by repeat (first|exact Calm.ret|refine Calm.then ?_|refine Calm.block ?_)) (by kernel_rfl) (by kernel_rfl) rfl rfl rfl rfl rfl rfl rfl ?_
        refine DO.indexP (sz := 2) tab 20 (f + i) (by repeat (first|exact Calm.ret|refine Calm.then ?_|refine Calm.block ?_)) (by kernel_rfl) (by kernel_rfl) rfl rfl rfl rfl rfl rfl rfl rfl rfl (by omega) ?_
        refine DO.tail ?_
        refine DOt.run 21 rfl rfl (by kernel_rfl) rfl ?_
        refine OT.storeE (h2 := gk ys (f + (2 * i + 1))) tab 0 rCh (gk_get (xs := ys) (k := (f + i)) (by omega)) (j := 0) (by simp only [rCh]; omega) (fun _ => rfl) (Nat.le_refl _) rfl rfl rfl rfl rfl rfl rfl ?_
        refine DOt.run 22 rfl rfl (by kernel_rfl) rfl ?_
        refine OT.indexP (sz := 2) tab (f + (2 * i + 1)) rfl rfl rfl rfl rfl rfl rfl (by omega) ?_
        refine DOt.run 23 rfl rfl (by kernel_rfl) rfl ?_
        refine OT.storeE (h2 := gk ys (f + i)) (h := gk (List.set ys (f + i) (gk ys (f + (2 * i + 1)))) (f + (2 * i + 1))) tab 0 rCh (k := (f + (2 * i + 1))) (gk_get (by simp; omega)) (j := 0) (by simp only [rCh]; omega) (fun _ => rfl) (Nat.le_refl _) rfl rfl rfl rfl rfl rfl rfl ?_
        refine DOt.nil (by kernel_rfl) ?_
        rotate_left 1
        repeat (first|refine q3 ?_|refine q4 tab rfl rfl ?_|refine q5 ?_|refine q6 ?_|refine q7 ?_)
        exact ⟨(2 * i + 1, sw ys (f + i) (f + (2 * i + 1))), (by repeat (first|exact trivial|refine And.intro rfl ?_)), (by repeat (first|exact trivial|refine And.intro rfl ?_)), rfl, rfl, (by repeat (exact List.Sublist.refl _)), ⟨by simp only; omega, hS.trans (Sg.sw (by omega) (by omega) (by omega)), hst, by simp only; omega⟩, by simp only; omega⟩
theorem half_div (n : Nat) (h0 : 0 < n) (h : n < 140737488355328) : IntKind.i64.wrap (((n : Int) - 1).tdiv 2) = (((n + 1) / 2 : Nat) : Int) - 1 := by
  cases n with
  | zero => omega
  | succ k =>
    rw [show (((k + 1 : Nat) : Int) - 1) = (k : Int) by omega]
    have e : (k : Int).tdiv 2 = ((k / 2 : Nat) : Int) := rfl
    rw [e, wrap64_in (by omega) (by omega)]
    omega
set_option maxHeartbeats 1000000 in
theorem heapsort_ch (m : Mem) (L : List Item) (bd c a b : Nat) (xs : List Ch) (hD0 : DomC xs) (hab : a < b) (hl : b ≤ xs.length) (hlim : xs.length ≤ 1000000) :
    TCall Try.prog 38 ⟨[.slice (some ⟨bd, 0, none⟩) xs.length c, .int .i64 (a : Int), .int .i64 (b : Int), chF]⟩ m (chR bd xs :: L) (fun r m' L' => m = m' ∧ ∃ ys, Sg a b xs ys ∧ Sn ltC ys a b ∧ chR bd ys :: L = L') := by
  unfold TCall
  refine TCallX.enter Try.func38 rfl 60 rfl ?_
  repeat (first|refine q1 ?_|refine q3 ?_|refine q4 tab rfl rfl ?_|refine q5 ?_|refine q6 ?_)
  refine TO.step rfl (OT.arith (r' := ((b - a : Nat) : Int)) rfl rfl rfl rfl rfl rfl (by omega) (by omega) ?_)
  repeat (first|refine q1 ?_|refine q3 ?_|refine q4 tab rfl rfl ?_|refine q5 ?_|refine q6 ?_)
  refine TO.step rfl (OT.arith (r' := ((b - a : Nat) : Int) - 1) rfl rfl rfl rfl rfl rfl rfl (by omega) ?_)
  refine TO.step rfl (OT.quoK rfl rfl rfl rfl rfl (by decide) (r := (((b - a + 1) / 2 : Nat) : Int) - 1) (half_div _ (by omega) (by omega)) ?_)
  repeat (first|refine q2 ?_|refine q4 tab rfl rfl ?_|refine q5 ?_|refine q6 ?_)
  refine TC.loopK (ι := Nat × List Ch) [0, 3, 8, 9, 10] rfl (fun x => [(11, .int .i64 ((x.1 : Int) - 1))]) (fun _ => m) (fun x => chR bd x.2 :: L) (fun x => x.1 ≤ (b - a + 1) / 2 ∧ Sg a b xs x.2 ∧ HF (gtL ltC) (x.2.drop a) (b - a) x.1) (fun x => x.1) ((b - a + 1) / 2, xs) (by repeat (first|exact trivial|refine And.intro rfl ?_)) rfl (by repeat (exact List.Sublist.refl _)) ⟨Nat.le_refl _, Sg.refl _ _ _, fun k h1 h2 h3 => by simp only at h3; unfold par at h3; omega⟩ ?_
  rintro ⟨k, ys⟩ ⟨hk, hS, hH⟩
  simp only at hk hS hH ⊢
  have hyl := hS.len
  have hD : DomC ys := hD0.perm hS.perm
  repeat (first|refine q1 ?_|refine q3 ?_|refine q4 tab rfl rfl ?_|refine q5 ?_|refine q6 ?_)
  cases k with
  | zero =>
    have hge : decide ((((0 : Nat) : Int) - 1) ≥ 0) = false := by decide
    repeat (first|refine q1 ?_|refine q3 ?_|refine q4 tab rfl rfl ?_|refine q6 ?_|refine q10 ?_|refine q11 ?_|refine q14 ?_|refine q17 rfl ?_)
    refine TO.step rfl (OT.arith (r' := ((b - a : Nat) : Int) - 1) rfl rfl rfl rfl rfl rfl rfl (by omega) ?_)
    repeat (first|refine q2 ?_|refine q4 tab rfl rfl ?_|refine q5 ?_|refine q6 ?_)
    have hI0 : HsI ltC ys a (b - a) (b - a) := HsI.start hH
    refine TC.loopK (ι := Nat × List Ch) [0, 3, 8, 9] rfl (fun x => [(12, .int .i64 ((x.1 : Int) - 1))]) (fun _ => m) (fun x => chR bd x.2 :: L) (fun x => x.1 ≤ b - a ∧ Sg a b xs x.2 ∧ HsI ltC x.2 a (b - a) x.1) (fun x => x.1) (b - a, ys) (by repeat (first|exact trivial|refine And.intro rfl ?_)) rfl (by repeat (exact List.Sublist.refl _)) ⟨Nat.le_refl _, hS, hI0⟩ ?_
    clear hS hH hyl hD hI0
    rintro ⟨k, ys⟩ ⟨hk, hS, hI⟩
    simp only at hk hS hI ⊢
    have hyl := hS.len
    have hD : DomC ys := hD0.perm hS.perm
    repeat (first|refine q1 ?_|refine q3 ?_|refine q4 tab rfl rfl ?_|refine q5 ?_|refine q6 ?_)
    cases k with
    | zero =>
      have hge : decide ((((0 : Nat) : Int) - 1) ≥ 0) = false := by decide
      repeat (first|refine q10 ?_|refine q11 ?_|refine q14 ?_|refine q17 rfl ?_)
      refine retQ_n rfl (L' := chR bd ys :: L) (by repeat (exact List.Sublist.refl _)) ⟨rfl, ys, hS, ?_, rfl⟩
      have := hI.so
      rw [Nat.add_zero, show a + (b - a) = b by omega] at this
      exact this
    | succ k =>
      have hke : (((k + 1 : Nat) : Int) - 1) = (k : Int) := by omega
      rw [hke]
      refine TC.condP rfl (fun hz => ?_) (fun hz => ?_)
      · obtain ⟨q1', q2', q3'⟩ := hI.swap ltC_ord ltC_irr (by omega) (by omega)
        repeat (first|refine q1 ?_|refine q2 ?_|refine q6 ?_|refine q13 ?_)
        refine TC.draw [17, 18, 19] mixed 20 rfl [chR bd ys] L (by first | exact List.Perm.refl _ | (rw [List.append_nil]; exact List.Perm.refl _)) ?_
        refine DO.pure tab (by repeat (first|exact Calm.ret|refine Calm.then ?_|refine Calm.block ?_)) (by kernel_rfl) [0, 1, 2, 3, 4] (by kernel_rfl) rfl ?_
        refine DO.arith 5 (r' := (((a + k) : Nat) : Int)) (by repeat (first|exact Calm.ret|refine Calm.then ?_|refine Calm.block ?_)) (by kernel_rfl) (by kernel_rfl) rfl rfl rfl rfl rfl rfl rfl rfl (by first | rfl | omega | (simp only; omega)) (by omega) ?_
        refine DO.pure tab (by repeat (first|exact Calm.ret|refine Calm.then ?_|refine Calm.block ?_)) (by kernel_rfl) [6, 7, 8] (by kernel_rfl) rfl ?_
        refine DO.arith 9 (r' := (((a + k) : Nat) : Int)) (by repeat (first|exact Calm.ret|refine Calm.then ?_|refine Calm.block ?_)) (by kernel_rfl) (by kernel_rfl) rfl rfl rfl rfl rfl rfl rfl rfl (by first | rfl | omega | (simp only; omega)) (by omega) ?_
        refine DO.indexP (sz := 2) tab 10 (a + k) (by repeat (first|exact Calm.ret|refine Calm.then ?_|refine Calm.block ?_)) (by kernel_rfl) (by kernel_rfl) rfl rfl rfl rfl rfl rfl rfl rfl rfl (by omega) ?_
        refine DO.loadE (jj := 0) tab 11 0 rCh (gk_get (xs := ys) (k := (a + k)) (by omega)) (by simp only [rCh]; omega) (fun _ => rfl) (by repeat (first|exact Calm.ret|refine Calm.then ?_|refine Calm.block ?_)) (by kernel_rfl) (by kernel_rfl) rfl rfl rfl rfl rfl rfl rfl ?_
        refine DO.pure tab (by repeat (first|exact Calm.ret|refine Calm.then ?_|refine Calm.block ?_)) (by kernel_rfl) [12, 13] (by kernel_rfl) rfl ?_
        refine DO.indexP (sz := 2) tab 14 a (by repeat (first|exact Calm.ret|refine Calm.then ?_|refine Calm.block ?_)) (by kernel_rfl) (by kernel_rfl) rfl rfl rfl rfl rfl rfl rfl rfl rfl (by omega) ?_
        refine DO.loadE (jj := 0) tab 15 0 rCh (gk_get (xs := ys) (k := a) (by omega)) (by simp only [rCh]; omega) (fun _ => rfl) (by repeat (first|exact Calm.ret|refine Calm.then ?_|refine Calm.block ?_)) (by kernel_rfl) (by kernel_rfl) rfl rfl rfl rfl rfl rfl rfl ?_
        refine DO.indexP (sz := 2) tab 16 a (by repeat (first|exact Calm.ret|refine Calm.then ?_|refine Calm.block ?_)) (by kernel_rfl) (by kernel_rfl) rfl rfl rfl rfl rfl rfl rfl rfl rfl (by omega) ?_
        refine DO.tail ?_
        refine DOt.run 17 rfl rfl (by kernel_rfl) rfl ?_
        refine OT.storeE (h2 := gk ys (a + k)) tab 0 rCh (gk_get (xs := ys) (k := a) (by omega)) (j := 0) (by simp only [rCh]; omega) (fun _ => rfl) (Nat.le_refl _) rfl rfl rfl rfl rfl rfl rfl ?_
        refine DOt.run 18 rfl rfl (by kernel_rfl) rfl ?_
        refine OT.indexP (sz := 2) tab (a + k) rfl rfl rfl rfl rfl rfl rfl (by omega) ?_
        refine DOt.run 19 rfl rfl (by kernel_rfl) rfl ?_
        refine OT.storeE (h2 := gk ys a) (h := gk (List.set ys a (gk ys (a + k))) (a + k)) tab 0 rCh (k := (a + k)) (gk_get (by simp; omega)) (j := 0) (by simp only [rCh]; omega) (fun _ => rfl) (Nat.le_refl _) rfl rfl rfl rfl rfl rfl rfl ?_
        refine DOt.nil (by kernel_rfl) ?_
        rotate_left 1
        repeat (first|refine q3 ?_|refine q4 tab rfl rfl ?_|refine q6 ?_)
        have hsl : (sw ys a (a + k)).length = ys.length := sw_length _ _ _
        have hSs : Sg a b xs (sw ys a (a + k)) := hS.trans (Sg.sw (by omega) (by omega) (by omega))
        rw [← hyl, ← hsl]
        refine TO.step rfl (OT.call rfl rfl rfl rfl rfl rfl goes48 ((sift_ch m L bd c 0 k a (sw ys a (a + k)) (hD0.perm hSs.perm) (by omega) (by omega) (by omega) q1').x ?_));
        rintro _ _ _ ⟨rfl, zs, hz1, hz2, rfl⟩
        rw [hsl, hyl]
        have hN := HsI.next hz1 hz2 q2' q3'
        repeat (first|refine q3 ?_|refine q4 tab rfl rfl ?_|refine q5 ?_|refine q6 ?_|refine q7 ?_)
        refine TO.step rfl (OT.arith (r' := (k : Int) - 1) rfl rfl rfl rfl rfl rfl rfl (by omega) ?_)
        repeat (first|refine q4 tab rfl rfl ?_|refine q5 ?_|refine q6 ?_)
        exact ⟨(k, zs), (by repeat (first|exact trivial|refine And.intro rfl ?_)), (by repeat (first|exact trivial|refine And.intro rfl ?_)), rfl, rfl, (by repeat (exact List.Sublist.refl _)), ⟨by simp only; omega, hSs.trans (hz1.mono (Nat.le_refl _) (by omega)), hN⟩, by simp only; omega⟩
      · exfalso; omega
  | succ k =>
    have hke : (((k + 1 : Nat) : Int) - 1) = (k : Int) := by omega
    rw [hke]
    refine TC.condP rfl (fun hz => ?_) (fun hz => ?_)
    · repeat (first|refine q1 ?_|refine q2 ?_|refine q3 ?_|refine q4 tab rfl rfl ?_|refine q6 ?_|refine q13 ?_)
      rw [← hyl]
      refine TO.step rfl (OT.call rfl rfl rfl rfl rfl rfl goes48 ((sift_ch m L bd c k (b - a) a ys hD (by omega) (by omega) (by omega) (DI.start hH)).x ?_));
      rintro _ _ _ ⟨rfl, zs, hz1, hz2, rfl⟩
      rw [hyl]
      repeat (first|refine q3 ?_|refine q4 tab rfl rfl ?_|refine q5 ?_|refine q6 ?_|refine q7 ?_)
      refine TO.step rfl (OT.arith (r' := (k : Int) - 1) rfl rfl rfl rfl rfl rfl rfl (by omega) ?_)
      repeat (first|refine q4 tab rfl rfl ?_|refine q5 ?_|refine q6 ?_)
      exact ⟨(k, zs), (by repeat (first|exact trivial|refine And.intro rfl ?_)), (by repeat (first|exact trivial|refine And.intro rfl ?_)), rfl, rfl, (by repeat (exact List.Sublist.refl _)), ⟨by simp only; omega, hS.trans (hz1.mono (Nat.le_refl _) (by omega)), hz2⟩, by simp only; omega⟩
    · exfalso; omega
end Go.Sep
