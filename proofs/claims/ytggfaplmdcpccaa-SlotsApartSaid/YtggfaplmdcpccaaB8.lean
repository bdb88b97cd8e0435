/-
  From the reading of the arguments to the state that the walks start from; and back (the slots seat).
-/
import Derived.Deep.Slices
import Derived.SizedLaws
import Derived.ChangeStays
import Derived.ChangeSame
import Derived.RowKit3
import Derived.Lib.SmallJoins
import Derived.Test.YtggfaplmdcpccaaB7
set_option linter.unusedVariables false
set_option linter.unusedSimpArgs false
namespace Go.Sep
open Go.Proofs Go.ChangeShapes Go.WideShapes
/-- all that is there at the start -/
def memOf (W : World) : Mem := ⟨W, fun b i => W.cell? ⟨b, i, none⟩, fun _ => none, fun _ => none⟩

theorem St.start (W : World) : St (memOf W) W [] where
  os := rfl
  tape := rfl
  output := rfl
  size := Nat.le_refl _
  pin := fun _ _ => rfl
  c := fun _ _ _ h => h
  o := fun _ _ h => by cases h
  t := fun _ _ h => by cases h
  items := fun _ h => by cases h
  free := fun _ h => by cases h
  disj := List.Pairwise.nil

theorem St.kept {W w' : World} {m' : Mem} {L' : List Item} (h : St m' w' L') (hm : memOf W ≤ m') : W.keptBut w' (fun _ => False) := by
  have hp : m'.pin = W := hm.pin
  have hsz := h.size
  have hpin := h.pin
  rw [hp] at hsz hpin
  refine ⟨by rw [h.os, hp], by rw [h.output, hp], fun i hi => ?_⟩
  rw [hpin i hi]
  split
  · rename_i c t fr c' t' fr' h1 h2
    rw [h1] at h2
    simp only [Option.some.injEq, Obj.cells.injEq] at h2
    obtain ⟨rfl, rfl, rfl⟩ := h2
    exact ⟨rfl, rfl, rfl, fun _ _ => rfl⟩
  · rename_i es c es' c' h1 h2
    rw [h1] at h2
    simp only [Option.some.injEq, Obj.map.injEq] at h2
    obtain ⟨rfl, rfl⟩ := h2
    exact .inr ⟨rfl, rfl⟩
  · rfl
theorem St.same {W w' : World} {m' : Mem} {L' : List Item} (h : St m' w' L') (hm : memOf W ≤ m') {p : MemPlace} (hlt : p.block < W.heap.size) : W.sameAt w' p := by
  have hp : m'.pin = W := hm.pin
  have hpin := h.pin
  rw [hp] at hpin
  cases p with
  | cell b off => exact World.cell?_of_block (hpin b hlt)
  | map b => exact hpin b hlt

section
variable {HH : Type} {enc : TypeId × Value → HH} {W : World} {base : Nat} {sp : Nat → Bool}

def Reads {H α : Type} (enc : TypeId × Value → HH) (W : World) (r : R H α) (t : TypeId) : Prop :=
  ∀ (fuel : Nat) (cs : List Value) (x : DataW HH × List MemPlace), DataW.trod enc Try.prog W 0 (fun _ => true) true fuel t cs = some x → (∀ n ∈ x.1.weights Try.prog t, n ≤ reachBytes) →
    ∃ h a, cs = r.enc h ∧ r.rep (memOf W) h a

theorem reads_int {t : TypeId} (ht : Try.prog.underlying t = some (.int .i64)) : Reads enc W rInt t := fun fuel cs x h _ => by
  obtain ⟨n, h1, _, _⟩ := DataW.trod_int ht h
  exact ⟨n, n, h1, rfl⟩
theorem build2 {H α : Type} {Q : Nat → H → α → Prop} : ∀ n : Nat, (∀ i, i < n → ∃ h a, Q i h a) → ∃ (hs : List H) (al : List α), hs.length = n ∧ al.length = n ∧ ∀ i, i < n → ∃ h a, hs[i]? = some h ∧ al[i]? = some a ∧ Q i h a
  | 0, _ => ⟨[], [], rfl, rfl, fun i hi => by omega⟩
  | n + 1, hq => by
    obtain ⟨hs, al, h1, h2, h3⟩ := build2 n (fun i hi => hq i (by omega))
    obtain ⟨h, a, hQ⟩ := hq n (by omega)
    refine ⟨hs ++ [h], al ++ [a], by simp [h1], by simp [h2], fun i hi => ?_⟩
    by_cases e : i = n
    · subst e
      exact ⟨h, a, by simp [← h1], by simp [← h2], hQ⟩
    · obtain ⟨h', a', q1, q2, q3⟩ := h3 i (by omega)
      exact ⟨h', a', by rw [List.getElem?_append_left (by omega)]; exact q1, by rw [List.getElem?_append_left (by omega)]; exact q2, q3⟩

theorem all2_of {H α : Type} {r : H → α → Prop} : ∀ (hs : List H) (al : List α), hs.length = al.length → (∀ (i : Nat) (h : H) (a : α), hs[i]? = some h → al[i]? = some a → r h a) → All2 r hs al
  | [], [], _, _ => trivial
  | h :: hs, a :: al, hl, hr => ⟨hr 0 h a rfl rfl, all2_of hs al (by simpa using hl) fun i h' a' h1 h2 => hr (i + 1) h' a' (by simpa using h1) (by simpa using h2)⟩

theorem at_encs {H α : Type} (r : R H α) {m : Mem} {b : Nat} : ∀ (hs : List H) (o : Nat), (∀ i h, hs[i]? = some h → At m b (o + i * r.size) (r.enc h)) → At m b o (encs r hs)
  | [], o, _ => At.nil _ _ _
  | h :: hs, o, hA => by
    have h0 := hA 0 h rfl
    rw [Nat.zero_mul, Nat.add_zero] at h0
    have ih := at_encs r hs (o + r.size) fun i h' hi => by
      have := hA (i + 1) h' (by simpa using hi)
      rwa [show o + (i + 1) * r.size = o + r.size + i * r.size by rw [Nat.add_mul]; omega] at this
    refine At.append h0 ?_
    rw [r.enc_len]
    exact ih

theorem weights_mem_all {P : Program} {e : TypeId} : ∀ {ds : List (DataW HH)} {d : DataW HH}, d ∈ ds → ∀ n ∈ d.weights P e, n ∈ DataW.weightsAll P e ds
  | d0 :: ds, d, hd, n, hn => by
    rw [DataW.weightsAll, List.mem_append]
    rcases List.mem_cons.1 hd with rfl | hd
    · exact .inl hn
    · exact .inr (weights_mem_all hd n hn)
  | [], d, hd, n, hn => by cases hd

theorem reads_slice {H α : Type} {r : R H α} {t e : TypeId} (ht : Try.prog.underlying t = some (.slice e)) (hc : Try.prog.cellsOf e = r.size) (hsz : 0 < r.size) (hb : Try.prog.bytesOf e = r.bytes) (he : Reads enc W r e) : Reads enc W (rSl r) t := fun fuel cs x h hw => by
  rcases Deep.open_slice ht h with ⟨rfl, rfl⟩ | ⟨a, len, cap, mm, n, D, Pl, rfl, _, hlc, _, hmm, rfl, hx⟩
  · exact ⟨⟨none, 0, 0⟩, [], rfl, SlRep.nil _ _⟩
  · simp only [if_true] at hmm
    subst hmm
    simp only [DataW.weights, ht] at hw
    have hfit : len * r.bytes ≤ 140737488355328 := by
      have := hw _ (List.mem_cons_self ..)
      rw [hb] at this
      simp only [List.length_map, List.length_range] at this
      have h2 : len * r.bytes ≤ (len + (mm - len)) * r.bytes := Nat.mul_le_mul_right _ (by omega)
      have h3 : reachBytes ≤ 140737488355328 := by decide
      omega
    have hel : ∀ i, i < len → ∃ (h : H) (a' : α), W.cells? 0 (a.add (i * r.size)) r.size = some (r.enc h) ∧ r.rep (memOf W) h a' := fun i hi => by
      obtain ⟨cs', h1, h2⟩ := hx i (by omega)
      rw [hc] at h1
      obtain ⟨h', a', rfl, h4⟩ := he n cs' _ h2 (fun w hwm => hw w (List.mem_cons_of_mem _ (List.mem_append_left _ (weights_mem_all (d := D i) (List.mem_map.2 ⟨i, by simpa using hi, rfl⟩) w hwm))))
      exact ⟨h', a', h1, h4⟩
    obtain ⟨hs, al, l1, l2, l3⟩ := build2 len hel
    refine ⟨⟨some a, len, mm⟩, al, rfl, ⟨l2.symm, hlc, hfit, hs, ?_, ?_⟩⟩
    · refine all2_of hs al (by omega) fun i h' a' q1 q2 => ?_
      obtain ⟨h2, a2, p1, p2, _, p4⟩ := l3 i (by have := (List.getElem?_eq_some_iff.1 q1).1; omega)
      rw [p1] at q1; rw [p2] at q2
      simp only [Option.some.injEq] at q1 q2
      subst q1; subst q2
      exact p4
    · by_cases hl0 : len = 0
      · left
        exact ⟨List.eq_nil_of_length_eq_zero (by omega), fun e => by cases e⟩
      · right
        obtain ⟨b, o, spot⟩ := a
        have hspot : spot = none := by
          obtain ⟨h2, a2, _, _, p3, _⟩ := l3 0 (by omega)
          obtain ⟨_, q2, q3⟩ := World.cells?_some p3
          have := q3 0 hsz
          have hlen : 0 < (r.enc h2).length := by rw [r.enc_len]; exact hsz
          rw [List.getElem?_eq_getElem hlen] at this
          have hs := World.cell?_spot this
          simpa [Addr.add] using hs
        subst hspot
        refine ⟨b, o, rfl, at_encs r hs o fun i h' hi => ?_⟩
        have hil := (List.getElem?_eq_some_iff.1 hi).1
        obtain ⟨h2, a2, p1, _, p3, _⟩ := l3 i (by omega)
        rw [p1] at hi
        simp only [Option.some.injEq] at hi
        subst hi
        obtain ⟨_, q2, q3⟩ := World.cells?_some p3
        intro j v hv
        have hj := (List.getElem?_eq_some_iff.1 hv).1
        have := q3 j (by omega)
        rw [hv, addr_add, addr_add] at this
        exact this

theorem u16_wf {n : Int} (h : (Lit.int .u16 n).wf = true) : 0 ≤ n ∧ n < 65536 := by
  simp only [Lit.wf, Bool.and_eq_true, decide_eq_true_eq] at h
  have h1 : IntKind.u16.min = 0 := by decide
  have h2 : IntKind.u16.max = 65535 := by decide
  rw [h1, h2] at h
  omega
theorem reads_u16 {t : TypeId} (ht : Try.prog.underlying t = some (.int .u16)) : Reads enc W rU16 t := fun fuel cs x h _ => by
  obtain ⟨n, h1, _, hw⟩ := DataW.trod_int ht h
  exact ⟨n, n, h1, rfl, u16_wf hw⟩
theorem reads_rg : Reads enc W rRg 29 := fun fuel cs x h hw => by
  obtain ⟨y0, y1, n, rfl, hl, t0, t1⟩ := trod_struct2 Try.underlying29 h
  have c : Try.prog.cellsOf 29 = 2 := by kernel_rfl
  have c3 : Try.prog.cellsOf 3 = 1 := by kernel_rfl
  rw [c] at hl
  match cs, hl with
  | [v0, v1], _ =>
  simp only [c3, List.drop, List.take] at t0 t1
  obtain ⟨n0, e0, _, _⟩ := DataW.trod_int Try.underlying3 t0
  obtain ⟨n1, e1, _, _⟩ := DataW.trod_int Try.underlying3 t1
  simp only [List.cons.injEq, and_true] at e0 e1
  subst e0 e1
  exact ⟨⟨n0, n1⟩, ⟨n0, n1⟩, rfl, rfl⟩
end
end Go.Sep
