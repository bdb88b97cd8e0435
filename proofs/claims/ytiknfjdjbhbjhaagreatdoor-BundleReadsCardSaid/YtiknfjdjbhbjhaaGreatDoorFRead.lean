/-
  From the reading of the arguments to the state that the walks start from; and back (the bundle seat).
-/
import Derived.Test.YtiknfjdjbhbjhaaGreatDoorB9
import Derived.Test.YtiknfjdjbhbjhaaGreatDoorFKids
import Derived.Deep.DeepHandedRow
import Derived.Deep.DeepWitnessRowRef
import Derived.Deep.Slices
import Derived.Deep.Strs
import Derived.Deep.CondSized
import Derived.SizedLaws
import Derived.ChangeStays
import Derived.ChangeSame
import Derived.RowKit3
import Derived.ProofKit
import Derived.OpenShut
import Derived.JoinedCond
import Derived.LaidLaws
import Derived.Lib.SmallJoins
set_option linter.unusedVariables false
set_option maxRecDepth 100000
set_option linter.unusedSimpArgs false
namespace Go.Sep
open Go.Proofs Go.ChangeShapes Go.WideShapes
/-- all that is there at the start -/
def memOf (W : World) : Mem := ⟨W, fun b i => W.cell? ⟨b, i, none⟩, fun _ => none, fun _ => none⟩

theorem St.start (W : World) : St (memOf W) W [] where
  os := rfl
  tape := rfl
  output := rfl
  size := Nat.le_refl _
  pin := fun _ _ => rfl
  c := fun _ _ _ h => h
  o := fun _ _ h => by cases h
  t := fun _ _ h => by cases h
  items := fun _ h => by cases h
  free := fun _ h => by cases h
  disj := List.Pairwise.nil

theorem St.kept {W w' : World} {m' : Mem} {L' : List Item} (h : St m' w' L') (hm : memOf W ≤ m') : W.keptBut w' (fun _ => False) := by
  have hp : m'.pin = W := hm.pin
  have hsz := h.size
  have hpin := h.pin
  rw [hp] at hsz hpin
  refine ⟨by rw [h.os, hp], by rw [h.output, hp], fun i hi => ?_⟩
  rw [hpin i hi]
  split
  · rename_i c t fr c' t' fr' h1 h2
    rw [h1] at h2
    simp only [Option.some.injEq, Obj.cells.injEq] at h2
    obtain ⟨rfl, rfl, rfl⟩ := h2
    exact ⟨rfl, rfl, rfl, fun _ _ => rfl⟩
  · rename_i es c es' c' h1 h2
    rw [h1] at h2
    simp only [Option.some.injEq, Obj.map.injEq] at h2
    obtain ⟨rfl, rfl⟩ := h2
    exact .inr ⟨rfl, rfl⟩
  · rfl
theorem St.same {W w' : World} {m' : Mem} {L' : List Item} (h : St m' w' L') (hm : memOf W ≤ m') {p : MemPlace} (hlt : p.block < W.heap.size) : W.sameAt w' p := by
  have hp : m'.pin = W := hm.pin
  have hpin := h.pin
  rw [hp] at hpin
  cases p with
  | cell b off => exact World.cell?_of_block (hpin b hlt)
  | map b => exact hpin b hlt

section
variable {HH : Type} {enc : TypeId × Value → HH} {W : World} {base : Nat} {sp : Nat → Bool}

def Reads {H α : Type} (enc : TypeId × Value → HH) (W : World) (r : R H α) (t : TypeId) : Prop :=
  ∀ (fuel : Nat) (cs : List Value) (x : DataW HH × List MemPlace), DataW.trod enc Tryz.prog W 0 (fun _ => true) true fuel t cs = some x → (∀ n ∈ x.1.weights Tryz.prog t, n ≤ reachBytes) →
    ∃ h a, cs = r.enc h ∧ r.rep (memOf W) h a

theorem reads_int {t : TypeId} (ht : Tryz.prog.underlying t = some (.int .i64)) : Reads enc W rInt t := fun fuel cs x h _ => by
  obtain ⟨n, h1, _, _⟩ := DataW.trod_int ht h
  exact ⟨n, n, h1, rfl⟩
theorem build2 {H α : Type} {Q : Nat → H → α → Prop} : ∀ n : Nat, (∀ i, i < n → ∃ h a, Q i h a) → ∃ (hs : List H) (al : List α), hs.length = n ∧ al.length = n ∧ ∀ i, i < n → ∃ h a, hs[i]? = some h ∧ al[i]? = some a ∧ Q i h a
  | 0, _ => ⟨[], [], rfl, rfl, fun i hi => by omega⟩
  | n + 1, hq => by
    obtain ⟨hs, al, h1, h2, h3⟩ := build2 n (fun i hi => hq i (by omega))
    obtain ⟨h, a, hQ⟩ := hq n (by omega)
    refine ⟨hs ++ [h], al ++ [a], by simp [h1], by simp [h2], fun i hi => ?_⟩
    by_cases e : i = n
    · subst e
      exact ⟨h, a, by simp [← h1], by simp [← h2], hQ⟩
    · obtain ⟨h', a', q1, q2, q3⟩ := h3 i (by omega)
      exact ⟨h', a', by rw [List.getElem?_append_left (by omega)]; exact q1, by rw [List.getElem?_append_left (by omega)]; exact q2, q3⟩

theorem all2_of {H α : Type} {r : H → α → Prop} : ∀ (hs : List H) (al : List α), hs.length = al.length → (∀ (i : Nat) (h : H) (a : α), hs[i]? = some h → al[i]? = some a → r h a) → All2 r hs al
  | [], [], _, _ => trivial
  | h :: hs, a :: al, hl, hr => ⟨hr 0 h a rfl rfl, all2_of hs al (by simpa using hl) fun i h' a' h1 h2 => hr (i + 1) h' a' (by simpa using h1) (by simpa using h2)⟩

theorem at_encs {H α : Type} (r : R H α) {m : Mem} {b : Nat} : ∀ (hs : List H) (o : Nat), (∀ i h, hs[i]? = some h → At m b (o + i * r.size) (r.enc h)) → At m b o (encs r hs)
  | [], o, _ => At.nil _ _ _
  | h :: hs, o, hA => by
    have h0 := hA 0 h rfl
    rw [Nat.zero_mul, Nat.add_zero] at h0
    have ih := at_encs r hs (o + r.size) fun i h' hi => by
      have := hA (i + 1) h' (by simpa using hi)
      rwa [show o + (i + 1) * r.size = o + r.size + i * r.size by rw [Nat.add_mul]; omega] at this
    refine At.append h0 ?_
    rw [r.enc_len]
    exact ih

theorem weights_mem_all {P : Program} {e : TypeId} : ∀ {ds : List (DataW HH)} {d : DataW HH}, d ∈ ds → ∀ n ∈ d.weights P e, n ∈ DataW.weightsAll P e ds
  | d0 :: ds, d, hd, n, hn => by
    rw [DataW.weightsAll, List.mem_append]
    rcases List.mem_cons.1 hd with rfl | hd
    · exact .inl hn
    · exact .inr (weights_mem_all hd n hn)
  | [], d, hd, n, hn => by cases hd

theorem reads_slice {H α : Type} {r : R H α} {t e : TypeId} (ht : Tryz.prog.underlying t = some (.slice e)) (hc : Tryz.prog.cellsOf e = r.size) (hsz : 0 < r.size) (hb : Tryz.prog.bytesOf e = r.bytes) (he : Reads enc W r e) : Reads enc W (rSl r) t := fun fuel cs x h hw => by
  rcases Deep.open_slice ht h with ⟨rfl, rfl⟩ | ⟨a, len, cap, mm, n, D, Pl, rfl, _, hlc, _, hmm, rfl, hx⟩
  · exact ⟨⟨none, 0, 0⟩, [], rfl, SlRep.nil _ _⟩
  · simp only [if_true] at hmm
    subst hmm
    simp only [DataW.weights, ht] at hw
    have hfit : len * r.bytes ≤ 140737488355328 := by
      have := hw _ (List.mem_cons_self ..)
      rw [hb] at this
      simp only [List.length_map, List.length_range] at this
      have h2 : len * r.bytes ≤ (len + (mm - len)) * r.bytes := Nat.mul_le_mul_right _ (by omega)
      have h3 : reachBytes ≤ 140737488355328 := by decide
      omega
    have hel : ∀ i, i < len → ∃ (h : H) (a' : α), W.cells? 0 (a.add (i * r.size)) r.size = some (r.enc h) ∧ r.rep (memOf W) h a' := fun i hi => by
      obtain ⟨cs', h1, h2⟩ := hx i (by omega)
      rw [hc] at h1
      obtain ⟨h', a', rfl, h4⟩ := he n cs' _ h2 (fun w hwm => hw w (List.mem_cons_of_mem _ (List.mem_append_left _ (weights_mem_all (d := D i) (List.mem_map.2 ⟨i, by simpa using hi, rfl⟩) w hwm))))
      exact ⟨h', a', h1, h4⟩
    obtain ⟨hs, al, l1, l2, l3⟩ := build2 len hel
    refine ⟨⟨some a, len, mm⟩, al, rfl, ⟨l2.symm, hlc, hfit, hs, ?_, ?_⟩⟩
    · refine all2_of hs al (by omega) fun i h' a' q1 q2 => ?_
      obtain ⟨h2, a2, p1, p2, _, p4⟩ := l3 i (by have := (List.getElem?_eq_some_iff.1 q1).1; omega)
      rw [p1] at q1; rw [p2] at q2
      simp only [Option.some.injEq] at q1 q2
      subst q1; subst q2
      exact p4
    · by_cases hl0 : len = 0
      · left
        exact ⟨List.eq_nil_of_length_eq_zero (by omega), fun e => by cases e⟩
      · right
        obtain ⟨b, o, spot⟩ := a
        have hspot : spot = none := by
          obtain ⟨h2, a2, _, _, p3, _⟩ := l3 0 (by omega)
          obtain ⟨_, q2, q3⟩ := World.cells?_some p3
          have := q3 0 hsz
          have hlen : 0 < (r.enc h2).length := by rw [r.enc_len]; exact hsz
          rw [List.getElem?_eq_getElem hlen] at this
          have hs := World.cell?_spot this
          simpa [Addr.add] using hs
        subst hspot
        refine ⟨b, o, rfl, at_encs r hs o fun i h' hi => ?_⟩
        have hil := (List.getElem?_eq_some_iff.1 hi).1
        obtain ⟨h2, a2, p1, _, p3, _⟩ := l3 i (by omega)
        rw [p1] at hi
        simp only [Option.some.injEq] at hi
        subst hi
        obtain ⟨_, q2, q3⟩ := World.cells?_some p3
        intro j v hv
        have hj := (List.getElem?_eq_some_iff.1 hv).1
        have := q3 j (by omega)
        rw [hv, addr_add, addr_add] at this
        exact this


theorem two' {cs : List Value} (h : cs.length = 2) : ∃ a b, cs = [a, b] :=
  match cs, h with
  | [a, b], _ => ⟨a, b, rfl⟩
theorem three' {cs : List Value} (h : cs.length = 3) : ∃ a b c, cs = [a, b, c] :=
  match cs, h with
  | [a, b, c], _ => ⟨a, b, c, rfl⟩
/-- a file whose strings are not too long -/
def rChW : R Ch Ch := ⟨2, 32, fun x => [strV x.nm, strV x.tx], fun _ h a => h = a ∧ h.nm.length ≤ 140737488355328 ∧ h.tx.length ≤ 140737488355328, fun _ => rfl, fun _ => rfl, fun _ h => h⟩
theorem all2_chW {m : Mem} : ∀ {hs al : List Ch}, All2 (rChW.rep m) hs al → All2 (rCh.rep m) hs al ∧ Wide al
  | [], [], _ => ⟨trivial, fun _ h => by cases h⟩
  | h :: hs, a :: al, ⟨⟨h1, h2, h3⟩, h4⟩ => by
    obtain ⟨h5, h6⟩ := all2_chW h4
    subst h1
    refine ⟨⟨rfl, h5⟩, fun x hx => ?_⟩
    rcases List.mem_cons.1 hx with rfl | hx
    · exact ⟨h2, h3⟩
    · exact h6 x hx
theorem encs_chW : ∀ hs : List Ch, encs rChW hs = encs rCh hs
  | [] => rfl
  | h :: hs => by
    show _ ++ encs rChW hs = _ ++ encs rCh hs
    rw [encs_chW hs]
    rfl
theorem slrep_chW {m : Mem} {s : Sl} {l : List Ch} (h : SlRep rChW m s l) : SlRep rCh m s l ∧ Wide l := by
  obtain ⟨h1, h2, h3, hs, h4, h5⟩ := h
  obtain ⟨h6, h7⟩ := all2_chW h4
  rw [encs_chW] at h5
  exact ⟨⟨h1, h2, h3, hs, h6, h5⟩, h7⟩
theorem reads_ch : Reads enc W rChW 50 := fun fuel cs x h hw => by
  obtain ⟨y0, y1, n, rfl, hl, t0, t1⟩ := trod_struct2 Tryz.underlying50 h
  have c : Tryz.prog.cellsOf 50 = 2 := by kernel_rfl
  have c9 : Tryz.prog.cellsOf 9 = 1 := by kernel_rfl
  rw [c] at hl
  obtain ⟨v0, v1, rfl⟩ := two' hl
  simp only [c9, List.drop, List.take] at t0 t1
  simp only [DataW.weights, Tryz.underlying50, List.map_cons, List.map_nil, DataW.weightsEach] at hw
  obtain ⟨s0, e0, d0, _⟩ := DataW.trod_string Tryz.underlying9 t0
  obtain ⟨s1, e1, d1, _⟩ := DataW.trod_string Tryz.underlying9 t1
  simp only [List.cons.injEq, and_true] at e0 e1
  subst e0 e1
  have h3 : reachBytes ≤ 140737488355328 := by decide
  have h0 := hw s0.data.toList.length (by rw [d0]; simp [DataW.weights])
  have h1 := hw s1.data.toList.length (by rw [d1]; simp [DataW.weights])
  exact ⟨⟨s0.data.toList, s1.data.toList⟩, ⟨s0.data.toList, s1.data.toList⟩, rfl, rfl, Nat.le_trans h0 h3, Nat.le_trans h1 h3⟩
theorem reads_files : Reads enc W (rSl rChW) 22 := reads_slice Tryz.underlying22 (by kernel_rfl) (by decide) (by kernel_rfl) reads_ch
end
end Go.Sep
namespace Go.Proofs.YtiknfjdjbhbjhaaGreatDoor
open Go.ChangeShapes Go.WideShapes Go.ChangeAt Go.RowKit Go.Sep
open Go.ChangeMaps (open_string shut_string)
set_option linter.unusedVariables false
set_option linter.unusedSimpArgs false
theorem slice_val {W : World} {base : Nat} {t e : TypeId} {v : Value} {ss : Sl} (hu : Tryz.prog.underlying t = some (.slice e)) (hv : Value.okWide Tryz.prog W .any base t v) (he : v.cells.toList = [ss.v]) : v = ss.v := by
  unfold Value.okWide at hv
  rw [hu] at hv
  cases v <;> simp_all [Value.cells, Cell.okWide, Cell.ok]

/-- an argument reads as it read -/
theorem stays {H : Type} {enc : TypeId × Value → H} {W w' : World} {m' : Mem} {L' : List Sep.Item} (h : St m' w' L') (hm : memOf W ≤ m') {t : TypeId} (ht : t < Tryz.prog.types.size) {v : Value} {d : DataW H} {ps : List MemPlace}
    (hd : DataW.Trod enc Tryz.prog W 0 (fun _ => true) true t v d ps) (hlt : ∀ p ∈ ps, p.block < W.heap.size) {sp' : Nat → Bool} (hs : ∀ p ∈ ps, sp' p.block = true) : DataW.Trod enc Tryz.prog w' 0 sp' true t v d ps := by
  obtain ⟨n, hn⟩ := hd
  exact ⟨n, DataW.trod_stays kids (fun h1 h2 => full _ _ h1 h2) (fun e => by cases e) ht hn (fun p hp => h.same hm (hlt p hp)) hs⟩

/-- behind the call all is as it was; what is new may be frozen -/
theorem post_old {H : Type} {enc : TypeId × Value → H} {f : Func} {s : ChangeSpec} {apart fresh handsOn : Bool} {W W' : World} {args : Array Value} {v : Value} {ds gs : List (DataW H)} {before pa pv : List MemPlace}
    (hW : DataW.Whole enc Tryz.prog f.params.toList s.vars apart W args.toList ds gs before)
    (hres : ∀ (b : Nat) (sp : Nat → Bool) (hd : Bool), DataW.TrodAll enc Tryz.prog W' b sp hd f.resultTypes.toList (v.resultList f.resultTypes.size) (s.fn H (ds ++ gs)).results [])
    (hargs : ∀ sp : Nat → Bool, (∀ p ∈ before, sp p.block = true) → DataW.TrodAll enc Tryz.prog W' 0 sp true f.params.toList args.toList (s.fn H (ds ++ gs)).args pa)
    (hvars : ∀ sp : Nat → Bool, (∀ p ∈ before, sp p.block = true) → DataW.TrodVars enc Tryz.prog W' sp s.vars (s.fn H (ds ++ gs)).vars pv)
    (hk : W.keptBut W' (fun _ => False)) : s.post enc Tryz.prog f apart fresh handsOn false W args v W' := by
  have hold : ∀ p ∈ before, (fun b => decide (b < W.heap.size)) p.block = true := fun p hp => by simpa using hW.lt p hp
  exact ⟨ds, gs, before, [], pa, pv, hW, hres _ _ _, hargs _ hold, hvars _ hold, World.keptBut_mono (fun _ hp => hp.elim) hk, fun h => by cases h⟩



theorem spot_read {HH : Type} {enc : TypeId × Value → HH} {W : World} {fuel : Nat} {cs : List Value} {x : DataW HH × List MemPlace} (h : DataW.trod enc Tryz.prog W 0 (fun _ => true) true fuel 35 cs = some x) : ∃ a b c : Int, cs = [.int .i64 a, .int .i64 b, .int .i64 c] ∧ b ≤ 9223372036854775807 := by
  obtain ⟨y0, y1, y2, n, rfl, hl, t0, t1, t2⟩ := Go.Deep.trod_struct3 Tryz.underlying35 h
  have c : Tryz.prog.cellsOf 35 = 3 := by kernel_rfl
  have c3 : Tryz.prog.cellsOf 3 = 1 := by kernel_rfl
  rw [c] at hl
  obtain ⟨v0, v1, v2, rfl⟩ := three' hl
  simp only [c3, List.drop, List.take] at t0 t1 t2
  obtain ⟨n0, e0, _, _⟩ := DataW.trod_int Tryz.underlying3 t0
  obtain ⟨n1, e1, _, w1⟩ := DataW.trod_int Tryz.underlying3 t1
  obtain ⟨n2, e2, _, _⟩ := DataW.trod_int Tryz.underlying3 t2
  simp only [List.cons.injEq, and_true] at e0 e1 e2
  subst e0 e1 e2
  have hi : -9223372036854775808 ≤ n1 ∧ n1 ≤ 9223372036854775807 := by
    have := w1
    simp only [Lit.wf, Bool.and_eq_true, decide_eq_true_eq] at this
    exact this
  exact ⟨n0, n1, n2, rfl, hi.2⟩
set_option maxRecDepth 100000 in
/-- a law over files -/
theorem lawF {f : FuncId} {fn : Func} {s : ChangeSpec} (hvars : s.vars = []) (hpar : fn.params = #[22]) (hres : fn.resultTypes = #[4])
    (hfn : ∀ (H : Type) (d0 : DataW H), s.fn H [d0] = { results := [.lit (.bool true)], args := [d0] }) (ok : Mem → Prop)
    (hT : ∀ (m : Mem) (L : List Sep.Item), ok m → ∀ (s0 : Sl) (l0 : List Ch), SlRep rCh m s0 l0 → Wide l0 → TCall Tryz.prog f ⟨[s0.v]⟩ m L (Made m L fun r _ => r = .bool true))
    {fresh handsOn : Bool} (H : Type) (enc : TypeId × Value → H) (W : World) (base : Nat) (args : Array Value) (ds gs : List (DataW H)) (before : List MemPlace)
    (hval : ∀ (j : Nat) t v, fn.params[j]? = some t → args[j]? = some v → Value.okWide Tryz.prog W .any base t v)
    (hW : DataW.Whole enc Tryz.prog fn.params.toList s.vars false W args.toList ds gs before) (hL : ok (memOf W))
    (hsz : (DataW.weightsEach Tryz.prog (fn.params.toList ++ s.plain.varTypes Tryz.prog) (ds ++ gs)).all (· ≤ reachBytes) = true) :
    Calls Tryz.prog f args W fun e W' => ∃ v, e = .returned v ∧ s.post enc Tryz.prog fn false fresh handsOn false W args v W' := by
  have hlt : ∀ p ∈ before, p.block < W.heap.size := fun p hp => hW.lt p hp
  have hW' := hW
  obtain ⟨p, q, hA0, hV, rfl, hfz, hnd⟩ := hW
  rw [hvars] at hV
  obtain ⟨rfl, rfl⟩ := trodVars_none hV
  rw [hpar] at hA0 hval hsz
  obtain ⟨v0, d0, rfl, rfl, g0⟩ := trodAll_one hA0
  simp only [List.append_nil] at hW' hlt hsz
  obtain ⟨n0, hn0⟩ := g0
  have hw0 : ∀ w ∈ d0.weights Tryz.prog 22, w ≤ reachBytes := fun w hw => by
    have := List.all_eq_true.1 hsz w (DataW.weights_mem_each (j := 0) (t := 22) (d := d0) rfl rfl w hw)
    simpa using this
  obtain ⟨s0, l0, e0, hs0⟩ := reads_files n0 _ _ hn0 hw0
  have hv0 : v0 = s0.v := slice_val Tryz.underlying22 (hval 0 22 v0 rfl rfl) e0
  subst hv0
  obtain ⟨hr0, hwd0⟩ := slrep_chW hs0
  refine (hT (memOf W) [] hL s0 l0 hr0 hwd0 W (St.start W)).mono fun e W' hX => ?_
  cases e with
  | returned r =>
    obtain ⟨m', L', hst, hle, _, rfl⟩ := hX
    refine ⟨_, rfl, post_old (pa := p) (pv := []) hW' (fun _ _ _ => ?_) (fun sp hsp => ?_) (fun _ _ => ?_) (hst.kept hle)⟩
    · rw [hres, show ([d0] ++ [] : List (DataW H)) = [d0] from rfl, hfn]
      exact trodAll_mk1 (shut_bool Tryz.underlying4 _)
    · rw [hpar, show ([d0] ++ [] : List (DataW H)) = [d0] from rfl, hfn]
      exact trodAll_mk1 (stays hst hle (in_ 22 (by kernel_rfl)) ⟨n0, hn0⟩ (fun x hx => hlt x (hx)) (fun x hx => hsp x (hx)))
    · rw [hvars, show ([d0] ++ [] : List (DataW H)) = [d0] from rfl, hfn]
      rfl
  | panicked ch =>
    obtain ⟨_, _, _, hf⟩ := hX
    exact hf.elim
  | outgrown => exact hX.elim
set_option maxRecDepth 100000 in
/-- a law over files, a number and a spot -/
theorem lawFIP {f : FuncId} {fn : Func} {s : ChangeSpec} (hvars : s.vars = []) (hpar : fn.params = #[22, 3, 35]) (hres : fn.resultTypes = #[4])
    (hfn : ∀ (H : Type) (d0 d1 d2 : DataW H), s.fn H [d0, d1, d2] = { results := [.lit (.bool true)], args := [d0, d1, d2] }) (ok : Mem → Prop)
    (hT : ∀ (m : Mem) (L : List Sep.Item), ok m → ∀ (s0 : Sl) (l0 : List Ch), SlRep rCh m s0 l0 → Wide l0 → ∀ z1 : Int, ∀ pf pl pb : Int, pl ≤ 9223372036854775807 → TCall Tryz.prog f ⟨[s0.v, .int .i64 z1, .agg ⟨[.int .i64 pf, .int .i64 pl, .int .i64 pb]⟩]⟩ m L (Made m L fun r _ => r = .bool true))
    {fresh handsOn : Bool} (H : Type) (enc : TypeId × Value → H) (W : World) (base : Nat) (args : Array Value) (ds gs : List (DataW H)) (before : List MemPlace)
    (hval : ∀ (j : Nat) t v, fn.params[j]? = some t → args[j]? = some v → Value.okWide Tryz.prog W .any base t v)
    (hW : DataW.Whole enc Tryz.prog fn.params.toList s.vars false W args.toList ds gs before) (hL : ok (memOf W))
    (hsz : (DataW.weightsEach Tryz.prog (fn.params.toList ++ s.plain.varTypes Tryz.prog) (ds ++ gs)).all (· ≤ reachBytes) = true) :
    Calls Tryz.prog f args W fun e W' => ∃ v, e = .returned v ∧ s.post enc Tryz.prog fn false fresh handsOn false W args v W' := by
  have hlt : ∀ p ∈ before, p.block < W.heap.size := fun p hp => hW.lt p hp
  have hW' := hW
  obtain ⟨p, q, hA0, hV, rfl, hfz, hnd⟩ := hW
  rw [hvars] at hV
  obtain ⟨rfl, rfl⟩ := trodVars_none hV
  rw [hpar] at hA0 hval hsz
  obtain ⟨v0, v1, v2, d0, d1, d2, p0, p1, p2, rfl, rfl, rfl, g0, g1, g2⟩ := trodAll_three hA0
  simp only [List.append_nil] at hW' hlt hsz
  obtain ⟨n0, hn0⟩ := g0
  have hw0 : ∀ w ∈ d0.weights Tryz.prog 22, w ≤ reachBytes := fun w hw => by
    have := List.all_eq_true.1 hsz w (DataW.weights_mem_each (j := 0) (t := 22) (d := d0) rfl rfl w hw)
    simpa using this
  obtain ⟨s0, l0, e0, hs0⟩ := reads_files n0 _ _ hn0 hw0
  have hv0 : v0 = s0.v := slice_val Tryz.underlying22 (hval 0 22 v0 rfl rfl) e0
  subst hv0
  obtain ⟨hr0, hwd0⟩ := slrep_chW hs0
  obtain ⟨z1, rfl, rfl, rfl, hz1⟩ := open_int Tryz.underlying3 (hval 1 3 v1 rfl rfl) g1
  obtain ⟨nP, hnP⟩ := g2
  obtain ⟨pf, pl, pb, eP, hpl⟩ := spot_read hnP
  have hvP : v2 = .agg ⟨[.int .i64 pf, .int .i64 pl, .int .i64 pb]⟩ := by
    have hv := hval 2 35 v2 rfl rfl
    unfold Value.okWide at hv
    rw [Tryz.underlying35] at hv
    obtain ⟨cs, rfl, _, _⟩ := hv
    exact congrArg Value.agg (Array.ext' eP)
  subst hvP
  refine (hT (memOf W) [] hL s0 l0 hr0 hwd0 z1 pf pl pb hpl W (St.start W)).mono fun e W' hX => ?_
  cases e with
  | returned r =>
    obtain ⟨m', L', hst, hle, _, rfl⟩ := hX
    refine ⟨_, rfl, post_old (pa := p0 ++ ([] ++ p2)) (pv := []) hW' (fun _ _ _ => ?_) (fun sp hsp => ?_) (fun _ _ => ?_) (hst.kept hle)⟩
    · rw [hres, show ([d0, .lit (.int .i64 z1), d2] ++ [] : List (DataW H)) = [d0, .lit (.int .i64 z1), d2] from rfl, hfn]
      exact trodAll_mk1 (shut_bool Tryz.underlying4 _)
    · rw [hpar, show ([d0, .lit (.int .i64 z1), d2] ++ [] : List (DataW H)) = [d0, .lit (.int .i64 z1), d2] from rfl, hfn]
      exact trodAll_mk3 (stays hst hle (in_ 22 (by kernel_rfl)) ⟨n0, hn0⟩ (fun x hx => hlt x (List.mem_append_left _ (List.mem_append_left _ hx))) (fun x hx => hsp x (List.mem_append_left _ (List.mem_append_left _ hx)))) (shut_int Tryz.underlying3 hz1) (stays hst hle (in_ 35 (by kernel_rfl)) ⟨nP, hnP⟩ (fun x hx => hlt x (List.mem_append_right _ hx)) (fun x hx => hsp x (List.mem_append_right _ hx)))
    · rw [hvars, show ([d0, .lit (.int .i64 z1), d2] ++ [] : List (DataW H)) = [d0, .lit (.int .i64 z1), d2] from rfl, hfn]
      rfl
  | panicked ch =>
    obtain ⟨_, _, _, hf⟩ := hX
    exact hf.elim
  | outgrown => exact hX.elim
set_option maxRecDepth 100000 in
/-- a law over files and a uint16 -/
theorem lawFU16 {f : FuncId} {fn : Func} {s : ChangeSpec} (hvars : s.vars = []) (hpar : fn.params = #[22, 43]) (hres : fn.resultTypes = #[4])
    (hfn : ∀ (H : Type) (d0 d1 : DataW H), s.fn H [d0, d1] = { results := [.lit (.bool true)], args := [d0, d1] }) (ok : Mem → Prop)
    (hT : ∀ (m : Mem) (L : List Sep.Item), ok m → ∀ (s0 : Sl) (l0 : List Ch), SlRep rCh m s0 l0 → Wide l0 → ∀ z1 : Nat, z1 < 65536 → TCall Tryz.prog f ⟨[s0.v, .int .u16 (z1 : Int)]⟩ m L (Made m L fun r _ => r = .bool true))
    {fresh handsOn : Bool} (H : Type) (enc : TypeId × Value → H) (W : World) (base : Nat) (args : Array Value) (ds gs : List (DataW H)) (before : List MemPlace)
    (hval : ∀ (j : Nat) t v, fn.params[j]? = some t → args[j]? = some v → Value.okWide Tryz.prog W .any base t v)
    (hW : DataW.Whole enc Tryz.prog fn.params.toList s.vars false W args.toList ds gs before) (hL : ok (memOf W))
    (hsz : (DataW.weightsEach Tryz.prog (fn.params.toList ++ s.plain.varTypes Tryz.prog) (ds ++ gs)).all (· ≤ reachBytes) = true) :
    Calls Tryz.prog f args W fun e W' => ∃ v, e = .returned v ∧ s.post enc Tryz.prog fn false fresh handsOn false W args v W' := by
  have hlt : ∀ p ∈ before, p.block < W.heap.size := fun p hp => hW.lt p hp
  have hW' := hW
  obtain ⟨p, q, hA0, hV, rfl, hfz, hnd⟩ := hW
  rw [hvars] at hV
  obtain ⟨rfl, rfl⟩ := trodVars_none hV
  rw [hpar] at hA0 hval hsz
  obtain ⟨v0, v1, d0, d1, p0, p1, rfl, rfl, rfl, g0, g1⟩ := trodAll_two hA0
  simp only [List.append_nil] at hW' hlt hsz
  obtain ⟨n0, hn0⟩ := g0
  have hw0 : ∀ w ∈ d0.weights Tryz.prog 22, w ≤ reachBytes := fun w hw => by
    have := List.all_eq_true.1 hsz w (DataW.weights_mem_each (j := 0) (t := 22) (d := d0) rfl rfl w hw)
    simpa using this
  obtain ⟨s0, l0, e0, hs0⟩ := reads_files n0 _ _ hn0 hw0
  have hv0 : v0 = s0.v := slice_val Tryz.underlying22 (hval 0 22 v0 rfl rfl) e0
  subst hv0
  obtain ⟨hr0, hwd0⟩ := slrep_chW hs0
  obtain ⟨zz1, rfl, rfl, rfl, hz1⟩ := open_int Tryz.underlying43 (hval 1 43 v1 rfl rfl) g1
  obtain ⟨z1, hzl1, rfl⟩ : ∃ c : Nat, c < 65536 ∧ zz1 = (c : Int) := by
    have h1 := hz1
    have e1 : IntKind.u16.min = 0 := by decide
    have e2 : IntKind.u16.max = 65535 := by decide
    simp only [Lit.wf, Bool.and_eq_true, decide_eq_true_eq, e1, e2] at h1
    exact ⟨zz1.toNat, by omega, by omega⟩
  refine (hT (memOf W) [] hL s0 l0 hr0 hwd0 z1 hzl1 W (St.start W)).mono fun e W' hX => ?_
  cases e with
  | returned r =>
    obtain ⟨m', L', hst, hle, _, rfl⟩ := hX
    refine ⟨_, rfl, post_old (pa := p0 ++ []) (pv := []) hW' (fun _ _ _ => ?_) (fun sp hsp => ?_) (fun _ _ => ?_) (hst.kept hle)⟩
    · rw [hres, show ([d0, .lit (.int .u16 (z1 : Int))] ++ [] : List (DataW H)) = [d0, .lit (.int .u16 (z1 : Int))] from rfl, hfn]
      exact trodAll_mk1 (shut_bool Tryz.underlying4 _)
    · rw [hpar, show ([d0, .lit (.int .u16 (z1 : Int))] ++ [] : List (DataW H)) = [d0, .lit (.int .u16 (z1 : Int))] from rfl, hfn]
      exact trodAll_mk2 (stays hst hle (in_ 22 (by kernel_rfl)) ⟨n0, hn0⟩ (fun x hx => hlt x (List.mem_append_left _ hx)) (fun x hx => hsp x (List.mem_append_left _ hx))) (shut_int Tryz.underlying43 hz1)
    · rw [hvars, show ([d0, .lit (.int .u16 (z1 : Int))] ++ [] : List (DataW H)) = [d0, .lit (.int .u16 (z1 : Int))] from rfl, hfn]
      rfl
  | panicked ch =>
    obtain ⟨_, _, _, hf⟩ := hX
    exact hf.elim
  | outgrown => exact hX.elim
set_option maxRecDepth 100000 in
/-- a law over files and a uint8 -/
theorem lawFU8 {f : FuncId} {fn : Func} {s : ChangeSpec} (hvars : s.vars = []) (hpar : fn.params = #[22, 5]) (hres : fn.resultTypes = #[4])
    (hfn : ∀ (H : Type) (d0 d1 : DataW H), s.fn H [d0, d1] = { results := [.lit (.bool true)], args := [d0, d1] }) (ok : Mem → Prop)
    (hT : ∀ (m : Mem) (L : List Sep.Item), ok m → ∀ (s0 : Sl) (l0 : List Ch), SlRep rCh m s0 l0 → Wide l0 → ∀ z1 : Nat, z1 < 256 → TCall Tryz.prog f ⟨[s0.v, .int .u8 (z1 : Int)]⟩ m L (Made m L fun r _ => r = .bool true))
    {fresh handsOn : Bool} (H : Type) (enc : TypeId × Value → H) (W : World) (base : Nat) (args : Array Value) (ds gs : List (DataW H)) (before : List MemPlace)
    (hval : ∀ (j : Nat) t v, fn.params[j]? = some t → args[j]? = some v → Value.okWide Tryz.prog W .any base t v)
    (hW : DataW.Whole enc Tryz.prog fn.params.toList s.vars false W args.toList ds gs before) (hL : ok (memOf W))
    (hsz : (DataW.weightsEach Tryz.prog (fn.params.toList ++ s.plain.varTypes Tryz.prog) (ds ++ gs)).all (· ≤ reachBytes) = true) :
    Calls Tryz.prog f args W fun e W' => ∃ v, e = .returned v ∧ s.post enc Tryz.prog fn false fresh handsOn false W args v W' := by
  have hlt : ∀ p ∈ before, p.block < W.heap.size := fun p hp => hW.lt p hp
  have hW' := hW
  obtain ⟨p, q, hA0, hV, rfl, hfz, hnd⟩ := hW
  rw [hvars] at hV
  obtain ⟨rfl, rfl⟩ := trodVars_none hV
  rw [hpar] at hA0 hval hsz
  obtain ⟨v0, v1, d0, d1, p0, p1, rfl, rfl, rfl, g0, g1⟩ := trodAll_two hA0
  simp only [List.append_nil] at hW' hlt hsz
  obtain ⟨n0, hn0⟩ := g0
  have hw0 : ∀ w ∈ d0.weights Tryz.prog 22, w ≤ reachBytes := fun w hw => by
    have := List.all_eq_true.1 hsz w (DataW.weights_mem_each (j := 0) (t := 22) (d := d0) rfl rfl w hw)
    simpa using this
  obtain ⟨s0, l0, e0, hs0⟩ := reads_files n0 _ _ hn0 hw0
  have hv0 : v0 = s0.v := slice_val Tryz.underlying22 (hval 0 22 v0 rfl rfl) e0
  subst hv0
  obtain ⟨hr0, hwd0⟩ := slrep_chW hs0
  obtain ⟨zz1, rfl, rfl, rfl, hz1⟩ := open_int Tryz.underlying5 (hval 1 5 v1 rfl rfl) g1
  obtain ⟨z1, hzl1, rfl⟩ : ∃ c : Nat, c < 256 ∧ zz1 = (c : Int) := by
    have h1 := hz1
    have e1 : IntKind.u8.min = 0 := by decide
    have e2 : IntKind.u8.max = 255 := by decide
    simp only [Lit.wf, Bool.and_eq_true, decide_eq_true_eq, e1, e2] at h1
    exact ⟨zz1.toNat, by omega, by omega⟩
  refine (hT (memOf W) [] hL s0 l0 hr0 hwd0 z1 hzl1 W (St.start W)).mono fun e W' hX => ?_
  cases e with
  | returned r =>
    obtain ⟨m', L', hst, hle, _, rfl⟩ := hX
    refine ⟨_, rfl, post_old (pa := p0 ++ []) (pv := []) hW' (fun _ _ _ => ?_) (fun sp hsp => ?_) (fun _ _ => ?_) (hst.kept hle)⟩
    · rw [hres, show ([d0, .lit (.int .u8 (z1 : Int))] ++ [] : List (DataW H)) = [d0, .lit (.int .u8 (z1 : Int))] from rfl, hfn]
      exact trodAll_mk1 (shut_bool Tryz.underlying4 _)
    · rw [hpar, show ([d0, .lit (.int .u8 (z1 : Int))] ++ [] : List (DataW H)) = [d0, .lit (.int .u8 (z1 : Int))] from rfl, hfn]
      exact trodAll_mk2 (stays hst hle (in_ 22 (by kernel_rfl)) ⟨n0, hn0⟩ (fun x hx => hlt x (List.mem_append_left _ hx)) (fun x hx => hsp x (List.mem_append_left _ hx))) (shut_int Tryz.underlying5 hz1)
    · rw [hvars, show ([d0, .lit (.int .u8 (z1 : Int))] ++ [] : List (DataW H)) = [d0, .lit (.int .u8 (z1 : Int))] from rfl, hfn]
      rfl
  | panicked ch =>
    obtain ⟨_, _, _, hf⟩ := hX
    exact hf.elim
  | outgrown => exact hX.elim
end Go.Proofs.YtiknfjdjbhbjhaaGreatDoor
