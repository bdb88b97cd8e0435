/-
  From the reading of the arguments to the state that the walks start from; and back (the types seat).
-/
import Derived.Test.YtlpcakplpnpaeaaRows
import Derived.Deep.Slices
import Derived.Deep.CondSized
import Derived.SizedLaws
import Derived.ChangeStays
import Derived.ChangeSame
import Derived.RowKit3
import Derived.ProofKit
import Derived.OpenShut
import Derived.JoinedCond
import Derived.Lib.SmallJoins
import Derived.Test.YtlpcakplpnpaeaaB6
set_option linter.unusedVariables false
set_option linter.unusedSimpArgs false
namespace Go.Sep
open Go.Proofs Go.ChangeShapes Go.WideShapes Go.Proofs.Ytlpcakplpnpaeaa

/-- all that is there at the start -/
def memOf (W : World) : Mem := ⟨W, fun b i => W.cell? ⟨b, i, none⟩, fun _ => none⟩

theorem St.start (W : World) : St (memOf W) W [] where
  os := rfl
  tape := rfl
  output := rfl
  size := Nat.le_refl _
  pin := fun _ _ => rfl
  c := fun _ _ _ h => h
  o := fun _ _ h => by cases h
  items := fun _ h => by cases h
  free := fun _ h => by cases h
  disj := List.Pairwise.nil

/-- behind a walk: what was there is as1 it was -/
theorem St.kept {W w' : World} {m' : Mem} {L' : List Item} (h : St m' w' L') (hm : memOf W ≤ m') : W.keptBut w' (fun _ => False) := by
  have hp : m'.pin = W := hm.pin
  have hsz := h.size
  have hpin := h.pin
  rw [hp] at hsz hpin
  refine ⟨by rw [h.os, hp], by rw [h.output, hp], fun i hi => ?_⟩
  rw [hpin i hi]
  split
  · rename_i c t fr c' t' fr' h1 h2
    rw [h1] at h2
    simp only [Option.some.injEq, Obj.cells.injEq] at h2
    obtain ⟨rfl, rfl, rfl⟩ := h2
    exact ⟨rfl, rfl, rfl, fun _ _ => rfl⟩
  · rename_i es c es' c' h1 h2
    rw [h1] at h2
    simp only [Option.some.injEq, Obj.map.injEq] at h2
    obtain ⟨rfl, rfl⟩ := h2
    exact .inr ⟨rfl, rfl⟩
  · rfl

theorem St.same {W w' : World} {m' : Mem} {L' : List Item} (h : St m' w' L') (hm : memOf W ≤ m') {p : MemPlace} (hlt : p.block < W.heap.size) : W.sameAt w' p := by
  have hp : m'.pin = W := hm.pin
  have hpin := h.pin
  rw [hp] at hpin
  cases p with
  | cell b off => exact World.cell?_of_block (hpin b hlt)
  | map b => exact hpin b hlt


theorem build2 {H α : Type} {Q : Nat → H → α → Prop} : ∀ n : Nat, (∀ i, i < n → ∃ h a, Q i h a) → ∃ (hs : List H) (al : List α), hs.length = n ∧ al.length = n ∧ ∀ i, i < n → ∃ h a, hs[i]? = some h ∧ al[i]? = some a ∧ Q i h a
  | 0, _ => ⟨[], [], rfl, rfl, fun i hi => by omega⟩
  | n + 1, hq => by
    obtain ⟨hs, al, h1, h2, h3⟩ := build2 n (fun i hi => hq i (by omega))
    obtain ⟨h, a, hQ⟩ := hq n (by omega)
    refine ⟨hs ++ [h], al ++ [a], by simp [h1], by simp [h2], fun i hi => ?_⟩
    by_cases e : i = n
    · subst e
      exact ⟨h, a, by simp [← h1], by simp [← h2], hQ⟩
    · obtain ⟨h', a', q1, q2, q3⟩ := h3 i (by omega)
      exact ⟨h', a', by rw [List.getElem?_append_left (by omega)]; exact q1, by rw [List.getElem?_append_left (by omega)]; exact q2, q3⟩

theorem all2_of {H α : Type} {r : H → α → Prop} : ∀ (hs : List H) (al : List α), hs.length = al.length → (∀ (i : Nat) (h : H) (a : α), hs[i]? = some h → al[i]? = some a → r h a) → All2 r hs al
  | [], [], _, _ => trivial
  | h :: hs, a :: al, hl, hr => ⟨hr 0 h a rfl rfl, all2_of hs al (by simpa using hl) fun i h' a' h1 h2 => hr (i + 1) h' a' (by simpa using h1) (by simpa using h2)⟩

theorem at_encs {H α : Type} (r : R H α) {m : Mem} {b : Nat} : ∀ (hs : List H) (o : Nat), (∀ i h, hs[i]? = some h → At m b (o + i * r.size) (r.enc h)) → At m b o (encs r hs)
  | [], o, _ => At.nil _ _ _
  | h :: hs, o, hA => by
    have h0 := hA 0 h rfl
    rw [Nat.zero_mul, Nat.add_zero] at h0
    have ih := at_encs r hs (o + r.size) fun i h' hi => by
      have := hA (i + 1) h' (by simpa using hi)
      rwa [show o + (i + 1) * r.size = o + r.size + i * r.size by rw [Nat.add_mul]; omega] at this
    refine At.append h0 ?_
    rw [r.enc_len]
    exact ih

theorem weights_mem_all {HH : Type} {P : Program} {e : TypeId} : ∀ {ds : List (DataW HH)} {d : DataW HH}, d ∈ ds → ∀ n ∈ d.weights P e, n ∈ DataW.weightsAll P e ds
  | d0 :: ds, d, hd, n, hn => by
    rw [DataW.weightsAll, List.mem_append]
    rcases List.mem_cons.1 hd with rfl | hd
    · exact .inl hn
    · exact .inr (weights_mem_all hd n hn)
  | [], d, hd, n, hn => by cases hd


theorem four {cs : List Value} (h : cs.length = 4) : ∃ a b c d, cs = [a, b, c, d] :=
  match cs, h with
  | [a, b, c, d], _ => ⟨a, b, c, d, rfl⟩
theorem bulk_part {HH : Type} {d : DataW HH} {l : List (DataW HH)} (h : d ∈ l) : Rows.uptoBulk d ≤ Rows.uptoBulkAll l := by
  induction l with
  | nil => cases h
  | cons x r ih =>
    simp only [Rows.uptoBulkAll]
    cases List.mem_cons.1 h with
    | inl e => subst e; omega
    | inr e => have := ih e; omega
theorem bulk_one {HH : Type} (d : DataW HH) : 1 ≤ Rows.uptoBulk d := by
  cases d with
  | lit l => cases l <;> simp [Rows.uptoBulk]
  | _ => simp [Rows.uptoBulk]

/-- the trees' bulk is at most their reading's -/
theorem bulk_list {HH : Type} (D : Nat → DataW HH) : ∀ (n : Nat) (al : List Tree), al.length = n → (∀ i a, al[i]? = some a → a.bulk ≤ Rows.uptoBulk (D i)) → bulkL al ≤ Rows.uptoBulkAll ((List.range n).map D)
  | 0, al, hl, _ => by rw [List.length_eq_zero_iff.1 hl]; simp [bulkL, Rows.uptoBulkAll]
  | n + 1, al, hl, h => by
    obtain ⟨al', x, rfl⟩ : ∃ al' x, al = al' ++ [x] := ⟨al.take n, al[n], by rw [← List.take_succ_eq_append_getElem (by omega), List.take_of_length_le (by omega)]⟩
    have hl' : al'.length = n := by simpa using hl
    have ih := bulk_list D n al' hl' (fun i a hi => h i a (by rw [List.getElem?_append_left (List.getElem?_eq_some_iff.1 hi).1]; exact hi))
    have hx := h n x (by rw [← hl']; simp)
    have e1 : ∀ l r : List Tree, bulkL (l ++ r) = bulkL l + bulkL r := by
      intro l r
      induction l with
      | nil => simp [bulkL]
      | cons t ts ih => simp only [List.cons_append, bulkL, ih]; omega
    have e2 : ∀ l r : List (DataW HH), Rows.uptoBulkAll (l ++ r) = Rows.uptoBulkAll l + Rows.uptoBulkAll r := by
      intro l r
      induction l with
      | nil => simp [Rows.uptoBulkAll]
      | cons t ts ih => simp only [List.cons_append, Rows.uptoBulkAll, ih]; omega
    rw [List.range_succ, List.map_append, e1, e2]
    simp only [bulkL, List.map_cons, List.map_nil, Rows.uptoBulkAll]
    omega

section
variable {HH : Type} {enc : TypeId × Value → HH} {W : World}

theorem reads_tree24 : ∀ (N : Nat) (fuel : Nat) (cs : List Value) (x : DataW HH × List MemPlace), Rows.uptoBulk x.1 ≤ N → DataW.trod enc Try.prog W 0 (fun _ => true) true fuel 24 cs = some x → (∀ n ∈ x.1.weights Try.prog 24, n ≤ reachBytes) →
    ∃ h a, cs = treeC h ∧ TreeRep (memOf W) h a ∧ a.bulk ≤ Rows.uptoBulk x.1 := by
  intro N
  induction N with
  | zero => intro fuel cs x hN h hw; have := bulk_one x.1; omega
  | succ N ih =>
    intro fuel cs x hN h hw
    obtain ⟨y0, y1, y2, y3, n, rfl, hl, t0, t1, t2, t3⟩ := Go.Joins.trod_struct4 Try.underlying24 h
    have c : Try.prog.cellsOf 24 = 4 := by kernel_rfl
    have c3 : Try.prog.cellsOf 3 = 1 := by kernel_rfl
    have c9 : Try.prog.cellsOf 9 = 1 := by kernel_rfl
    have ck : Try.prog.cellsOf 22 = 1 := by kernel_rfl
    have bt : Try.prog.bytesOf 24 = 56 := by kernel_rfl
    rw [c] at hl
    obtain ⟨v0, v1, v2, v3, rfl⟩ := four hl
    simp only [c3, c9, ck, List.drop, List.take] at t0 t1 t2 t3
    simp only [DataW.weights, Try.underlying24, List.map_cons, List.map_nil, DataW.weightsEach] at hw
    simp only [Rows.uptoBulk, Rows.uptoBulkAll] at hN ⊢
    obtain ⟨n0, e0, _, _⟩ := DataW.trod_int Try.underlying3 t0
    obtain ⟨s, e1, d1, _⟩ := DataW.trod_string Try.underlying9 t1
    obtain ⟨n2, e2, _, _⟩ := DataW.trod_int Try.underlying3 t2
    simp only [List.cons.injEq, and_true] at e0 e1 e2
    subst e0 e1 e2
    have hs : s.data.toList.length + 1 ≤ Rows.uptoBulk y1.1 := by
      rw [d1]
      simp [Rows.uptoBulk]
    rcases Deep.open_slice Try.underlying22 t3 with ⟨e3, hx⟩ | ⟨a, len, cap, mm, n', D, Pl, e3, _, hlc, _, hmm, hx, hel⟩
    · simp only [List.cons.injEq, and_true] at e3
      subst e3
      refine ⟨⟨n0, s.data.toList, n2, ⟨none, 0, 0⟩⟩, .mk n0 s.data.toList n2 [], rfl, TreeRep.leaf _ _ _ _, ?_⟩
      have := bulk_one y0.1
      simp only [Tree.bulk, bulkL]
      omega
    · simp only [List.cons.injEq, and_true] at e3
      subst e3
      simp only [if_true] at hmm
      subst hmm
      subst hx
      have hw3 : ∀ w ∈ DataW.weights Try.prog 22 (.slice ((List.range len).map D) ((List.range (mm - len)).map fun j => D (len + j))), w ≤ reachBytes := fun w hwm => hw w (by simp [hwm])
      simp only [DataW.weights, Try.underlying22] at hw3
      have hfit : len * 56 ≤ 140737488355328 := by
        have := hw3 _ (List.mem_cons_self ..)
        rw [bt] at this
        simp only [List.length_map, List.length_range] at this
        have h2 : len * 56 ≤ (len + (mm - len)) * 56 := Nat.mul_le_mul_right _ (by omega)
        have h3 : reachBytes ≤ 140737488355328 := by decide
        omega
      simp only [Rows.uptoBulk] at hN ⊢
      have hDi : ∀ i, i < len → Rows.uptoBulk (D i) ≤ Rows.uptoBulkAll ((List.range len).map D) := fun i hi => bulk_part (List.mem_map.2 ⟨i, by simpa using hi, rfl⟩)
      have hel2 : ∀ i, i < len → ∃ (h : HTree) (a' : Tree), W.cells? 0 (a.add (i * 4)) 4 = some (treeC h) ∧ TreeRep (memOf W) h a' ∧ a'.bulk ≤ Rows.uptoBulk (D i) := fun i hi => by
        obtain ⟨cs', h1, h2⟩ := hel i (by omega)
        rw [c] at h1
        have hd := hDi i hi
        have h0 := bulk_one y0.1
        obtain ⟨h', a', rfl, h4, h5⟩ := ih n' cs' _ (by simp only; omega) h2 (fun w hwm => hw3 w (List.mem_cons_of_mem _ (List.mem_append_left _ (weights_mem_all (d := D i) (List.mem_map.2 ⟨i, by simpa using hi, rfl⟩) w hwm))))
        exact ⟨h', a', h1, h4, h5⟩
      obtain ⟨hs', al, l1, l2, l3⟩ := build2 len hel2
      have hbl := bulk_list D len al l2 (fun i a' hi => by
        obtain ⟨h2, a2, p1, p2, _, _, p5⟩ := l3 i (by have := (List.getElem?_eq_some_iff.1 hi).1; omega)
        rw [p2] at hi
        simp only [Option.some.injEq] at hi
        subst hi
        exact p5)
      refine ⟨⟨n0, s.data.toList, n2, ⟨some a, len, mm⟩⟩, .mk n0 s.data.toList n2 al, rfl, ⟨rfl, rfl, rfl, l2.symm, hlc, hfit, hs', ?_, ?_⟩, ?_⟩
      · refine all2_of hs' al (by omega) fun i h' a' q1 q2 => ?_
        obtain ⟨h2, a2, p1, p2, _, p4, _⟩ := l3 i (by have := (List.getElem?_eq_some_iff.1 q1).1; omega)
        rw [p1] at q1; rw [p2] at q2
        simp only [Option.some.injEq] at q1 q2
        subst q1; subst q2
        exact rTree_iff.2 p4
      · by_cases hl0 : len = 0
        · left
          exact ⟨List.eq_nil_of_length_eq_zero (by simp only [Tree.kids]; omega), fun e => by cases e⟩
        · right
          obtain ⟨b, o, spot⟩ := a
          have hspot : spot = none := by
            obtain ⟨h2, a2, _, _, p3, _⟩ := l3 0 (by omega)
            obtain ⟨_, q2, q3⟩ := World.cells?_some p3
            have := q3 0 (by omega)
            have hlen : 0 < (treeC h2).length := by simp [treeC]
            rw [List.getElem?_eq_getElem hlen] at this
            have hs := World.cell?_spot this
            simpa [Addr.add] using hs
          subst hspot
          refine ⟨b, o, rfl, at_encs rTree hs' o fun i h' hi => ?_⟩
          have hil := (List.getElem?_eq_some_iff.1 hi).1
          obtain ⟨h2, a2, p1, _, p3, _⟩ := l3 i (by omega)
          rw [p1] at hi
          simp only [Option.some.injEq] at hi
          subst hi
          obtain ⟨_, q2, q3⟩ := World.cells?_some p3
          intro j v hv
          have hj := (List.getElem?_eq_some_iff.1 hv).1
          have hj4 : j < 4 := by have e4 : (rTree.enc h2).length = 4 := rTree.enc_len h2; omega
          have := q3 j hj4
          rw [show (treeC h2)[j]? = some v from hv, addr_add, addr_add] at this
          exact this
      · simp only [Tree.bulk]
        omega

theorem reads_tree27 : ∀ (N : Nat) (fuel : Nat) (cs : List Value) (x : DataW HH × List MemPlace), Rows.uptoBulk x.1 ≤ N → DataW.trod enc Try.prog W 0 (fun _ => true) true fuel 27 cs = some x → (∀ n ∈ x.1.weights Try.prog 27, n ≤ reachBytes) →
    ∃ h a, cs = treeC h ∧ TreeRep (memOf W) h a ∧ a.bulk ≤ Rows.uptoBulk x.1 := by
  intro N
  induction N with
  | zero => intro fuel cs x hN h hw; have := bulk_one x.1; omega
  | succ N ih =>
    intro fuel cs x hN h hw
    obtain ⟨y0, y1, y2, y3, n, rfl, hl, t0, t1, t2, t3⟩ := Go.Joins.trod_struct4 Try.underlying27 h
    have c : Try.prog.cellsOf 27 = 4 := by kernel_rfl
    have c3 : Try.prog.cellsOf 3 = 1 := by kernel_rfl
    have c9 : Try.prog.cellsOf 9 = 1 := by kernel_rfl
    have ck : Try.prog.cellsOf 25 = 1 := by kernel_rfl
    have bt : Try.prog.bytesOf 27 = 56 := by kernel_rfl
    rw [c] at hl
    obtain ⟨v0, v1, v2, v3, rfl⟩ := four hl
    simp only [c3, c9, ck, List.drop, List.take] at t0 t1 t2 t3
    simp only [DataW.weights, Try.underlying27, List.map_cons, List.map_nil, DataW.weightsEach] at hw
    simp only [Rows.uptoBulk, Rows.uptoBulkAll] at hN ⊢
    obtain ⟨n0, e0, _, _⟩ := DataW.trod_int Try.underlying3 t0
    obtain ⟨s, e1, d1, _⟩ := DataW.trod_string Try.underlying9 t1
    obtain ⟨n2, e2, _, _⟩ := DataW.trod_int Try.underlying3 t2
    simp only [List.cons.injEq, and_true] at e0 e1 e2
    subst e0 e1 e2
    have hs : s.data.toList.length + 1 ≤ Rows.uptoBulk y1.1 := by
      rw [d1]
      simp [Rows.uptoBulk]
    rcases Deep.open_slice Try.underlying25 t3 with ⟨e3, hx⟩ | ⟨a, len, cap, mm, n', D, Pl, e3, _, hlc, _, hmm, hx, hel⟩
    · simp only [List.cons.injEq, and_true] at e3
      subst e3
      refine ⟨⟨n0, s.data.toList, n2, ⟨none, 0, 0⟩⟩, .mk n0 s.data.toList n2 [], rfl, TreeRep.leaf _ _ _ _, ?_⟩
      have := bulk_one y0.1
      simp only [Tree.bulk, bulkL]
      omega
    · simp only [List.cons.injEq, and_true] at e3
      subst e3
      simp only [if_true] at hmm
      subst hmm
      subst hx
      have hw3 : ∀ w ∈ DataW.weights Try.prog 25 (.slice ((List.range len).map D) ((List.range (mm - len)).map fun j => D (len + j))), w ≤ reachBytes := fun w hwm => hw w (by simp [hwm])
      simp only [DataW.weights, Try.underlying25] at hw3
      have hfit : len * 56 ≤ 140737488355328 := by
        have := hw3 _ (List.mem_cons_self ..)
        rw [bt] at this
        simp only [List.length_map, List.length_range] at this
        have h2 : len * 56 ≤ (len + (mm - len)) * 56 := Nat.mul_le_mul_right _ (by omega)
        have h3 : reachBytes ≤ 140737488355328 := by decide
        omega
      simp only [Rows.uptoBulk] at hN ⊢
      have hDi : ∀ i, i < len → Rows.uptoBulk (D i) ≤ Rows.uptoBulkAll ((List.range len).map D) := fun i hi => bulk_part (List.mem_map.2 ⟨i, by simpa using hi, rfl⟩)
      have hel2 : ∀ i, i < len → ∃ (h : HTree) (a' : Tree), W.cells? 0 (a.add (i * 4)) 4 = some (treeC h) ∧ TreeRep (memOf W) h a' ∧ a'.bulk ≤ Rows.uptoBulk (D i) := fun i hi => by
        obtain ⟨cs', h1, h2⟩ := hel i (by omega)
        rw [c] at h1
        have hd := hDi i hi
        have h0 := bulk_one y0.1
        obtain ⟨h', a', rfl, h4, h5⟩ := ih n' cs' _ (by simp only; omega) h2 (fun w hwm => hw3 w (List.mem_cons_of_mem _ (List.mem_append_left _ (weights_mem_all (d := D i) (List.mem_map.2 ⟨i, by simpa using hi, rfl⟩) w hwm))))
        exact ⟨h', a', h1, h4, h5⟩
      obtain ⟨hs', al, l1, l2, l3⟩ := build2 len hel2
      have hbl := bulk_list D len al l2 (fun i a' hi => by
        obtain ⟨h2, a2, p1, p2, _, _, p5⟩ := l3 i (by have := (List.getElem?_eq_some_iff.1 hi).1; omega)
        rw [p2] at hi
        simp only [Option.some.injEq] at hi
        subst hi
        exact p5)
      refine ⟨⟨n0, s.data.toList, n2, ⟨some a, len, mm⟩⟩, .mk n0 s.data.toList n2 al, rfl, ⟨rfl, rfl, rfl, l2.symm, hlc, hfit, hs', ?_, ?_⟩, ?_⟩
      · refine all2_of hs' al (by omega) fun i h' a' q1 q2 => ?_
        obtain ⟨h2, a2, p1, p2, _, p4, _⟩ := l3 i (by have := (List.getElem?_eq_some_iff.1 q1).1; omega)
        rw [p1] at q1; rw [p2] at q2
        simp only [Option.some.injEq] at q1 q2
        subst q1; subst q2
        exact rTree_iff.2 p4
      · by_cases hl0 : len = 0
        · left
          exact ⟨List.eq_nil_of_length_eq_zero (by simp only [Tree.kids]; omega), fun e => by cases e⟩
        · right
          obtain ⟨b, o, spot⟩ := a
          have hspot : spot = none := by
            obtain ⟨h2, a2, _, _, p3, _⟩ := l3 0 (by omega)
            obtain ⟨_, q2, q3⟩ := World.cells?_some p3
            have := q3 0 (by omega)
            have hlen : 0 < (treeC h2).length := by simp [treeC]
            rw [List.getElem?_eq_getElem hlen] at this
            have hs := World.cell?_spot this
            simpa [Addr.add] using hs
          subst hspot
          refine ⟨b, o, rfl, at_encs rTree hs' o fun i h' hi => ?_⟩
          have hil := (List.getElem?_eq_some_iff.1 hi).1
          obtain ⟨h2, a2, p1, _, p3, _⟩ := l3 i (by omega)
          rw [p1] at hi
          simp only [Option.some.injEq] at hi
          subst hi
          obtain ⟨_, q2, q3⟩ := World.cells?_some p3
          intro j v hv
          have hj := (List.getElem?_eq_some_iff.1 hv).1
          have hj4 : j < 4 := by have e4 : (rTree.enc h2).length = 4 := rTree.enc_len h2; omega
          have := q3 j hj4
          rw [show (treeC h2)[j]? = some v from hv, addr_add, addr_add] at this
          exact this
      · simp only [Tree.bulk]
        omega
end
end Go.Sep

/-
  The rows of one argument: from a walk's contract to the row's.
-/
namespace Go.Proofs.Ytlpcakplpnpaeaa
open Go.ChangeShapes Go.WideShapes Go.ChangeAt Go.RowKit Go.Sep
set_option linter.unusedVariables false
set_option linter.unusedSimpArgs false

theorem own : ownKnob Try.prog.godebug = none := by kernel_rfl
theorem kids : Kids Try.prog (· < Try.prog.types.size) := kids_rows (by kernel_rfl) (by kernel_rfl)
theorem full : ∀ t e, t < Try.prog.types.size → Try.prog.underlying t = some (.slice e) → 0 < Try.prog.cellsOf e := slices_full_of Try.prog (by kernel_rfl)
theorem in24 : (24 : TypeId) < Try.prog.types.size := of_decide_eq_true (by kernel_rfl)
theorem in27 : (27 : TypeId) < Try.prog.types.size := of_decide_eq_true (by kernel_rfl)

/-- an argument reads as1 it read -/
theorem stays {H : Type} {enc : TypeId × Value → H} {W w' : World} {m' : Mem} {L' : List Sep.Item} (h : St m' w' L') (hm : memOf W ≤ m') {t : TypeId} (ht : t < Try.prog.types.size) {v : Value} {d : DataW H} {ps : List MemPlace}
    (hd : DataW.Trod enc Try.prog W 0 (fun _ => true) true t v d ps) (hlt : ∀ p ∈ ps, p.block < W.heap.size) {sp' : Nat → Bool} (hs : ∀ p ∈ ps, sp' p.block = true) : DataW.Trod enc Try.prog w' 0 sp' true t v d ps := by
  obtain ⟨n, hn⟩ := hd
  exact ⟨n, DataW.trod_stays kids (fun h1 h2 => full _ _ h1 h2) (fun e => by cases e) ht hn (fun p hp => h.same hm (hlt p hp)) hs⟩

/-- behind the call all is as1 it was; what is new may be frozen -/
theorem post_old {H : Type} {enc : TypeId × Value → H} {f : Func} {s : ChangeSpec} {apart fresh handsOn : Bool} {W W' : World} {args : Array Value} {v : Value} {ds gs : List (DataW H)} {before pa pv : List MemPlace}
    (hW : DataW.Whole enc Try.prog f.params.toList s.vars apart W args.toList ds gs before)
    (hres : ∀ (b : Nat) (sp : Nat → Bool) (hd : Bool), DataW.TrodAll enc Try.prog W' b sp hd f.resultTypes.toList (v.resultList f.resultTypes.size) (s.fn H (ds ++ gs)).results [])
    (hargs : ∀ sp : Nat → Bool, (∀ p ∈ before, sp p.block = true) → DataW.TrodAll enc Try.prog W' 0 sp true f.params.toList args.toList (s.fn H (ds ++ gs)).args pa)
    (hvars : ∀ sp : Nat → Bool, (∀ p ∈ before, sp p.block = true) → DataW.TrodVars enc Try.prog W' sp s.vars (s.fn H (ds ++ gs)).vars pv)
    (hk : W.keptBut W' (fun _ => False)) : s.post enc Try.prog f apart fresh handsOn false W args v W' := by
  have hold : ∀ p ∈ before, (fun b => decide (b < W.heap.size)) p.block = true := fun p hp => by simpa using hW.lt p hp
  exact ⟨ds, gs, before, [], pa, pv, hW, hres _ _ _, hargs _ hold, hvars _ hold, World.keptBut_mono (fun _ hp => hp.elim) hk, fun h => by cases h⟩

set_option maxRecDepth 100000 in
theorem law1 {f : FuncId} {fn : Func} {s : ChangeSpec} (hvars : s.vars = []) (hpar : fn.params = #[24]) (hres : fn.resultTypes = #[4])
    (hfn : ∀ (H : Type) (d : DataW H), s.fn H [d] = { results := [.lit (.bool true)], args := [d] })
    (hT : ∀ (m : Mem) (L : List Sep.Item) (h : HTree) (a : Tree), TreeRep m h a → a.bulk ≤ 1048576 → TCall Try.prog f ⟨[treeV h]⟩ m L (Ret (.bool true) m L))
    {fresh handsOn : Bool} (H : Type) (enc : TypeId × Value → H) (W : World) (base : Nat) (args : Array Value) (ds gs : List (DataW H)) (before : List MemPlace)
    (hval : ∀ (j : Nat) t v, fn.params[j]? = some t → args[j]? = some v → Value.okWide Try.prog W .any base t v)
    (hW : DataW.Whole enc Try.prog fn.params.toList s.vars false W args.toList ds gs before) (hk : Rows.uptoSmall H (ds ++ gs) = true)
    (hsz : (DataW.weightsEach Try.prog (fn.params.toList ++ s.plain.varTypes Try.prog) (ds ++ gs)).all (· ≤ reachBytes) = true) :
    Calls Try.prog f args W fun e W' => ∃ v, e = .returned v ∧ s.post enc Try.prog fn false fresh handsOn false W args v W' := by
  have hlt : ∀ p ∈ before, p.block < W.heap.size := fun p hp => hW.lt p hp
  have hW' := hW
  obtain ⟨p, q, hA0, hV, rfl, hfz, hnd⟩ := hW
  rw [hvars] at hV
  obtain ⟨rfl, rfl⟩ := trodVars_none hV
  rw [hpar] at hA0 hval hsz
  obtain ⟨v, d, rfl, rfl, h0⟩ := trodAll_one hA0
  simp only [List.append_nil] at hW' hlt hsz hk
  have hv := hval 0 24 v rfl rfl
  obtain ⟨n, hn⟩ := h0
  have hwts : ∀ w ∈ d.weights Try.prog 24, w ≤ reachBytes := fun w hw => by
    have := List.all_eq_true.1 hsz w (DataW.weights_mem_each (j := 0) (t := 24) (d := d) rfl rfl w hw)
    simpa using this
  have hkb : Rows.uptoBulkAll [d] ≤ 1048576 := of_decide_eq_true hk
  simp only [Rows.uptoBulkAll] at hkb
  obtain ⟨h, a, he, hr, hB⟩ := reads_tree24 _ n _ _ (Nat.le_refl _) hn hwts
  have hv24 : v = treeV h := by
    unfold Value.okWide at hv
    rw [Try.underlying24] at hv
    obtain ⟨cs, rfl, _, _⟩ := hv
    have : cs.toList = treeC h := he
    exact congrArg Value.agg (Array.ext' this)
  subst hv24
  refine (hT (memOf W) [] h a hr (by simp only at hB; omega) W (St.start W)).mono fun e W' hX => ?_
  cases e with
  | returned r =>
    obtain ⟨m', L', hst, rfl, _, rfl⟩ := hX
    have hle := Mem.le_refl (memOf W)
    refine ⟨_, rfl, post_old (pa := p) (pv := []) hW' (fun _ _ _ => ?_) (fun sp hsp => ?_) (fun _ _ => ?_) (hst.kept hle)⟩
    · rw [hres, show ([d] ++ [] : List (DataW H)) = [d] from rfl, hfn]
      exact trodAll_mk1 (shut_bool Try.underlying4 _)
    · rw [hpar, show ([d] ++ [] : List (DataW H)) = [d] from rfl, hfn]
      exact trodAll_mk1 (stays hst hle in24 ⟨n, hn⟩ hlt hsp)
    · rw [hvars, show ([d] ++ [] : List (DataW H)) = [d] from rfl, hfn]
      rfl
  | panicked ch =>
    obtain ⟨_, _, _, hf⟩ := hX
    exact hf.elim
  | outgrown => exact hX.elim
end Go.Proofs.Ytlpcakplpnpaeaa

/-
  Comparisons of bools.
-/
set_option linter.unusedVariables false
set_option linter.unusedSimpArgs false
namespace Go.Sep
section
variable {P : Program} {N : Nat} {ρ : Env} {D : List Deferred} {m : Mem} {L : List Item} {Q : EPost} {o : Oper} {full : List Oper} {K : Env → Mem → List Item → Prop}
def Tab.isBool {P : Program} (T : Tab P) (t : TypeId) : Bool :=
  match T.get t with
  | some ⟨.bool, _, _, _⟩ => true
  | _ => false
theorem isBool_get {T : Tab P} {t : TypeId} (h : T.isBool t = true) : ∃ i, T.get t = some i ∧ i.u = .bool := by
  unfold Tab.isBool at h
  split at h
  · exact ⟨_, by assumption, rfl⟩
  · cases h
theorem equalIn_bool {t : TypeId} {w : World} (dd : Nat) (a b : Bool) (hu : (underlying t).run P w = .ok .bool w) :
    (Op.equalIn (dd + 1) t (.bool a) (.bool b)).run P w = .ok (a == b) w := by
  simp only [Op.equalIn, Sem.run_bind, hu, Result.andThen_ok, Sem.run_pure]
/-- a == b, a != b of bools -/
theorem OT.eqBool (T : Tab P) {t t' : TypeId} {x y : Operand} {a b : Bool} {d : Nat} (ho : o.op = .binOp .eql t x y t') (hd : o.dst = some d) (hN : Nat.blt d N = true)
    (hx : ev ρ x = some (.bool a)) (hy : ev ρ y = some (.bool b)) (ht : T.isBool t = true) (hK : K ((d, .bool (a == b)) :: ρ) m L) : OT P N o ρ D m L Q K := by
  obtain ⟨ti, h1, h2⟩ := isBool_get ht
  refine OT.run hd hN (fun ac w ha => ⟨w, ?_, ha.st⟩) hK
  have hu := T.run_underlying w h1
  rw [h2] at hu
  have e1 : binOp .eql t (.bool a) (.bool b) = (do pure (.bool (← Op.equalIn (9999 + 1) t (.bool a) (.bool b))) : Sem Value) := rfl
  have e2 : (eqGuard .eql t x y (.bool a) (.bool b)).run P w = .ok () w := by simp [eqGuard]
  have h := equalIn_bool (P := P) 9999 a b hu
  simp only [execOp, ho, ha.env.eval hx, ha.env.eval hy, Sem.run_bind, e2, Result.andThen_ok, e1, h, Sem.run_pure]
theorem OT.neqBool (T : Tab P) {t t' : TypeId} {x y : Operand} {a b : Bool} {d : Nat} (ho : o.op = .binOp .neq t x y t') (hd : o.dst = some d) (hN : Nat.blt d N = true)
    (hx : ev ρ x = some (.bool a)) (hy : ev ρ y = some (.bool b)) (ht : T.isBool t = true) (hK : K ((d, .bool (!(a == b))) :: ρ) m L) : OT P N o ρ D m L Q K := by
  obtain ⟨ti, h1, h2⟩ := isBool_get ht
  refine OT.run hd hN (fun ac w ha => ⟨w, ?_, ha.st⟩) hK
  have hu := T.run_underlying w h1
  rw [h2] at hu
  have e1 : binOp .neq t (.bool a) (.bool b) = (do pure (.bool (!(← Op.equalIn (9999 + 1) t (.bool a) (.bool b)))) : Sem Value) := rfl
  have e2 : (eqGuard .neq t x y (.bool a) (.bool b)).run P w = .ok () w := by simp [eqGuard]
  have h := equalIn_bool (P := P) 9999 a b hu
  simp only [execOp, ho, ha.env.eval hx, ha.env.eval hy, Sem.run_bind, e2, Result.andThen_ok, e1, h, Sem.run_pure]
end
end Go.Sep

/-
  Room made ahead of an append; entries of maps.
-/
set_option linter.unusedVariables false
set_option linter.unusedSimpArgs false
namespace Go.Sep
section
variable {P : Program} {N : Nat} {ρ : Env} {D : List Deferred} {m : Mem} {L : List Item} {Q : EPost} {full : List Oper} {o : Oper} {K : Env → Mem → List Item → Prop}
/-- append(s[:0], make(n)...) of the nil slice: room for n -/
theorem OT.growNil (T : Tab P) {x y : Operand} {t t2 e : TypeId} {ei : TI} {kz : IntKind} {z : Nat} {iv : Int} {d : Nat} (hz0 : 0 < z) (hiv : iv = (z : Int))
    (ho : o.op = .call ⟨.builtin .append, ⟨[x, y]⟩, ⟨[t, t2]⟩⟩) (hd : o.dst = some d) (hN : Nat.blt d N = true) (hx : ev ρ x = some (.slice none 0 0)) (hy : ev ρ y = some (.int .i64 iv)) (he : T.elem t = some (e, ei)) (ht2 : T.intK t2 = some kz)
    (hb : Nat.blt 0 ei.bytes = true) {sz : Nat} (hzs : (cellsF ei.zero).map List.length = some sz) (hsz : Nat.beq ei.size sz = true) (hfit : z * ei.bytes ≤ 140737488355328)
    (hK : ∀ b c, z ≤ c → K ((d, .slice (some ⟨b, 0, none⟩) z c) :: ρ) m (.room b 0 (c * sz) :: L)) : OT P N o ρ D m L Q K := by
  obtain ⟨ti, h4, h5, h6⟩ := elem_get he
  obtain ⟨si, s1, s2⟩ := intK_get ht2
  obtain ⟨_, _, hu, _⟩ := T.ok t ti h4
  rw [h5] at hu
  obtain ⟨_, _, hu2, _⟩ := T.ok t2 si s1
  rw [s2] at hu2
  obtain ⟨info, q1, q2, q3, q4, q5⟩ := T.ok e ei h6
  have hbp : 0 < ei.bytes := by simpa [Nat.blt_eq] using hb
  have hs1 : ei.size = sz := Nat.eq_of_beq_eq_true hsz
  subst hs1
  have hbound : z ≤ 140737488355328 := Nat.le_trans (Nat.le_mul_of_pos_right _ hbp) hfit
  have hzc : ei.zero.cells.size = ei.size := by
    cases hc : cellsF ei.zero with
    | none => rw [hc] at hzs; cases hzs
    | some l => rw [hc] at hzs; rw [cellsF_eq hc]; simpa using hzs
  intro ac w ha
  have h48 : ¬ (Builtin.nextslicecap z 0 * ei.bytes > 281474976710656) := by
    have := growslice_fits (need := z) (old := 0) (bytes := ei.bytes) (by omega) hfit
    omega
  obtain ⟨nc, hnc, hge⟩ : ∃ nc, nc = (Question.appendCap z 0 e).cut (w.tape w.drawn (.appendCap z 0 e)) ∧ z ≤ nc := ⟨_, rfl, by simp [Question.cut]⟩
  have hw : iv = ((z : Nat) : Int) := hiv
  have hzb : ¬ ((z : Int) * (ei.bytes : Int) > 281474976710656) := by
    have h2 : ((z : Int) * (ei.bytes : Int)) = ((z * ei.bytes : Nat) : Int) := by simp
    rw [h2]; omega
  have hwrap : IntKind.i64.wrap (z : Int) = (z : Int) := wrap64_in (by omega) (by omega)
  have hb0 : ei.bytes ≠ 0 := by omega
  have hmax : ¬ (9223372036854775807 < (z : Int)) := by omega
  have hneg : ¬ ((z : Int) < 0) := by omega
  have hzn : ¬ (z = 0) := by omega
  have hst := ha.st.drew.allocCells (Builtin.zeroCells ei.zero.cells z ++ Builtin.zeroCells ei.zero.cells (nc - z)) e
  have hr : (Builtin.append_ #[t, t2] o.type #[.slice none 0 0, .int .i64 iv]).run P w = .ok (.slice (some ⟨w.heap.size, 0, none⟩) z nc) (w.drew.alloc (.cells (Builtin.zeroCells ei.zero.cells z ++ Builtin.zeroCells ei.zero.cells (nc - z)) e)) := by
    subst hw
    simp [Builtin.append_, run_underlying hu, run_underlying hu2, sizeOf, typeInfo, zeroValue, q1, q3, q4, q5, asInt, asIntOf, hwrap, hneg, hzb, h48, hmax, hzn, Question.forced, newRow, ← hnc, IntKind.max, IntKind.signed, IntKind.bits, hb0, Builtin.firstCells, Builtin.lenOf]
    intro h0
    have : Builtin.zeroCells ei.zero.cells z = #[] := Array.eq_empty_of_size_eq_zero (by rw [size_zeroCells, hzc]; exact h0)
    rw [this, Array.empty_append]
  have he' : (execOp ac.eval o).run P w = .ok (.value (.slice (some ⟨w.heap.size, 0, none⟩) z nc)) (w.drew.alloc (.cells (Builtin.zeroCells ei.zero.cells z ++ Builtin.zeroCells ei.zero.cells (nc - z)) e)) := by
    simp only [execOp, ho, resolve, invoke, builtin, Sem.run_bind, Sem.run_pure, Result.andThen_ok, List.map_toArray, List.map_cons, List.map_nil, ha.env.eval hx, ha.env.eval hy, hr]
  simp only [Oper.wp, he', Oper.upon, hd]
  have hp := ha.put hN (.slice (some ⟨w.heap.size, 0, none⟩) z nc)
  have hk := hK w.heap.size nc hge
  have hlen : (Builtin.zeroCells ei.zero.cells z ++ Builtin.zeroCells ei.zero.cells (nc - z)).toList.length = nc * ei.size := by
    rw [Array.length_toList, Array.size_append, size_zeroCells, size_zeroCells, hzc, ← Nat.add_mul]
    congr 1; omega
  have hst' := hst.toRoom
  rw [hlen] at hst'
  exact ⟨_, _, _, ⟨hp.size, hp.env, hp.defers, hst'⟩, hk⟩
/-- what is computed, said otherwise -/
theorem OT.pureC (T : Tab P) {d : Nat} {v v' : Value} (hd : o.dst = some d) (hN : Nat.blt d N = true) (he : evalOp T ρ o.op = some v) (hv : v = v') (hK : K ((d, v') :: ρ) m L) : OT P N o ρ D m L Q K := by
  subst hv
  exact OT.run hd hN (fun a w ha => ⟨w, evalOp_run T ha.env he w, ha.st⟩) hK
end
/-! entries -/
section
variable {κ : Type} [DecidableEq κ]
theorem any_find {α : Type} (l : List α) (p : α → Bool) : l.any p = (l.find? p).isSome := by
  rw [Bool.eq_iff_iff, List.any_eq_true, List.find?_isSome]
theorem findIdx_spec {es : Ents κ} {x : κ} (h : mhas es x = true) : ∃ e, es[es.findIdx fun e => decide (e.1 = x)]? = some e ∧ e.1 = x := by
  have hl : (es.findIdx fun e => decide (e.1 = x)) < es.length := List.findIdx_lt_length.2 (by simpa [mhas, List.any_eq_true] using h)
  refine ⟨es[es.findIdx fun e => decide (e.1 = x)], by simp, ?_⟩
  have := List.findIdx_getElem (xs := es) (p := fun e => decide (e.1 = x)) (w := hl)
  simpa using this
theorem mset_hit {es : Ents κ} {x : κ} (h : mhas es x = true) (v : Value) (c : Nat) : mset es x v c = es.modify (es.findIdx fun e => decide (e.1 = x)) (fun e => (e.1, v, e.2.2)) := by
  simp [mset, h]
theorem mset_miss {es : Ents κ} {x : κ} (h : mhas es x = false) (v : Value) (c : Nat) : mset es x v c = es ++ [(x, v, c)] := by
  simp [mset, h]
theorem find_modify (y : κ) (v : Value) (x : κ) : ∀ (es : Ents κ), mhas es x = true → mget (es.modify (es.findIdx fun e => decide (e.1 = x)) (fun e => (e.1, v, e.2.2))) y = if x = y then some v else mget es y
  | [], h => by simp [mhas] at h
  | e :: r, h => by
    by_cases he : e.1 = x
    · have h0 : ((e :: r).findIdx fun e => decide (e.1 = x)) = 0 := by simp [List.findIdx_cons, he]
      rw [h0]
      by_cases hy : x = y
      · subst hy; simp [mget, he]
      · have hy' : ¬ e.1 = y := fun q => hy (he.symm.trans q)
        simp [mget, List.find?_cons, hy, hy']
    · have h0 : ((e :: r).findIdx fun e => decide (e.1 = x)) = (r.findIdx fun e => decide (e.1 = x)) + 1 := by simp [List.findIdx_cons, he]
      have hr : mhas r x = true := by simpa [mhas, he] using h
      have ih := find_modify y v x r hr
      rw [h0]
      by_cases hy : e.1 = y
      · have hy' : ¬ x = y := fun q => he (hy.trans q.symm)
        simp [mget, List.find?_cons, hy, hy']
      · have e1 : mget (e :: r) y = mget r y := by simp [mget, List.find?_cons, hy]
        have e2 : ∀ r' : Ents κ, mget (e :: r') y = mget r' y := fun r' => by simp [mget, List.find?_cons, hy]
        rw [List.modify_succ_cons, e2, e1, ih]
theorem mget_mset {es : Ents κ} (x : κ) (v : Value) (c : Nat) (y : κ) : mget (mset es x v c) y = if x = y then some v else mget es y := by
  by_cases h : mhas es x = true
  · rw [mset_hit h]
    exact find_modify y v x es h
  · have hf : mhas es x = false := by simpa using h
    rw [mset_miss hf]
    by_cases hy : x = y
    · subst hy
      have : es.find? (fun e => decide (e.1 = x)) = none := List.find?_eq_none.2 fun e he hx => by
        rw [mhas, List.any_eq_false] at hf
        exact hf e he hx
      simp [mget, List.find?_append, this]
    · simp [mget, List.find?_append, hy]
theorem mhas_mget {es : Ents κ} (x : κ) : mhas es x = (mget es x).isSome := by
  rw [mget, Option.isSome_map, mhas, any_find]
theorem mset_len {es : Ents κ} (x : κ) (v : Value) (c : Nat) : (mset es x v c).length = if mhas es x then es.length else es.length + 1 := by
  by_cases h : mhas es x = true
  · rw [mset_hit h, if_pos h]; simp
  · have hf : mhas es x = false := by simpa using h
    rw [mset_miss hf, if_neg h]; simp
end
end Go.Sep

/-
  Declarations: how they lie in memory; which tables are sound.
-/
set_option linter.unusedVariables false
set_option linter.unusedSimpArgs false
namespace Go.Sep
open Go.Proofs

structure Fld where
  name : Str
  type : Tree
structure Decl where
  name : Str
  iface : Bool
  fields : List Fld
  methods : List Fld
structure HFld where
  name : Str
  type : HTree
@[reducible] def fieldC (h : HFld) : List Value := [strV h.name, .int .i64 h.type.kind, strV h.type.name, .int .i64 h.type.num, h.type.kids.v]
@[reducible] def fieldV (h : HFld) : Value := .agg ⟨[strV h.name, .int .i64 h.type.kind, strV h.type.name, .int .i64 h.type.num, h.type.kids.v]⟩
structure FldRep (m : Mem) (h : HFld) (a : Fld) : Prop where
  name : h.name = a.name
  type : TreeRep m h.type a.type
def rField : R HFld Fld where
  size := 5
  bytes := 72
  enc := fieldC
  rep := FldRep
  enc_len _ := rfl
  one _ := rfl
  mono hm h := ⟨h.1, h.2.mono hm⟩
@[reducible] def declC (h : HDecl) : List Value := [strV h.name, .bool h.iface, h.fields.v, h.methods.v]
structure DeclRep (m : Mem) (h : HDecl) (a : Decl) : Prop where
  name : h.name = a.name
  iface : h.iface = a.iface
  fields : SlRep rField m h.fields a.fields
  methods : SlRep rField m h.methods a.methods
theorem DeclRep.mono {m m' : Mem} {h : HDecl} {a : Decl} (hr : DeclRep m h a) (hm : m ≤ m') : DeclRep m' h a := ⟨hr.name, hr.iface, hr.fields.mono hm, hr.methods.mono hm⟩
def rDecl : R HDecl Decl where
  size := 4
  bytes := 72
  enc := declC
  rep := DeclRep
  enc_len _ := rfl
  one _ := rfl
  mono hm h := h.mono hm

/-! plain -/
def hasD (tbl : List Decl) (n : Str) : Bool := tbl.any fun d => decide (d.name = n)
def findD (tbl : List Decl) (n : Str) : Option Decl := tbl.find? fun d => decide (d.name = n)
def idxD (tbl : List Decl) (n : Str) : Int := idxP tbl (fun d => decide (d.name = n)) 0
theorem idxP_find {α : Type} : ∀ (l : List α) (p : α → Bool) (k : Nat), (l.find? p = none ∧ idxP l p k = -1) ∨ ∃ j d, l[j]? = some d ∧ l.find? p = some d ∧ idxP l p k = ((k + j : Nat) : Int)
  | [], p, k => .inl ⟨rfl, rfl⟩
  | x :: xs, p, k => by
    by_cases h : p x = true
    · exact .inr ⟨0, x, rfl, by simp [h], by simp [idxP, h]⟩
    · rcases idxP_find xs p (k + 1) with ⟨h1, h2⟩ | ⟨j, d, h1, h2, h3⟩
      · exact .inl ⟨by simp [h, h1], by simp [idxP, h, h2]⟩
      · exact .inr ⟨j + 1, d, by simpa using h1, by simp [h, h2], by rw [idxP, if_neg h, h3]; congr 1; omega⟩
theorem idxD_find (tbl : List Decl) (n : Str) : (findD tbl n = none ∧ idxD tbl n = -1) ∨ ∃ (j : Nat) (d : Decl), tbl[j]? = some d ∧ findD tbl n = some d ∧ idxD tbl n = (j : Int) := by
  have := idxP_find tbl (fun d => decide (d.name = n)) 0
  simpa [findD, idxD] using this
theorem hasD_find (tbl : List Decl) (n : Str) : hasD tbl n = (findD tbl n).isSome := by
  rw [findD, ← any_find, hasD]
def zeroD : Decl := ⟨[], false, [], []⟩
def theD (tbl : List Decl) (n : Str) : Decl := (findD tbl n).getD zeroD
theorem idxD_ge (tbl : List Decl) (n : Str) : decide (0 ≤ idxD tbl n) = hasD tbl n := idxP_ge tbl _
theorem idxD_lt (tbl : List Decl) (n : Str) : decide (idxD tbl n < 0) = !hasD tbl n := by
  rw [← idxD_ge]
  by_cases h : 0 ≤ idxD tbl n
  · rw [decide_eq_true h, decide_eq_false (by omega)]; rfl
  · rw [decide_eq_false h, decide_eq_true (by omega)]; rfl
theorem idxD_get {tbl : List Decl} {n : Str} (h : hasD tbl n = true) : ∃ j : Nat, idxD tbl n = (j : Int) ∧ tbl[j]? = some (theD tbl n) ∧ findD tbl n = some (theD tbl n) := by
  rcases idxD_find tbl n with ⟨h1, _⟩ | ⟨j, d, h1, h2, h3⟩
  · rw [hasD_find, h1] at h; cases h
  · exact ⟨j, h3, by rw [theD, h2]; exact h1, by rw [theD, h2]; rfl⟩
def isStructD (tbl : List Decl) (t : Tree) : Bool := decide (t.kind = 4) && (hasD tbl t.name && !(theD tbl t.name).iface)
def isIfaceD (tbl : List Decl) (t : Tree) : Bool := decide (t.kind = 4) && (hasD tbl t.name && (theD tbl t.name).iface)
def toStructD (tbl : List Decl) (t : Tree) : Bool := decide (t.kind = 5) && (match t.kids with | k :: _ => isStructD tbl k | [] => false)
def nilableD (tbl : List Decl) (t : Tree) : Bool := decide (t.kind = 5) || (decide (t.kind = 6) || (decide (t.kind = 7) || isIfaceD tbl t))
/-- a table by names -/
structure TblRep (m : Mem) (es : Ents Str) (tbl : List Decl) : Prop where
  get : ∀ n, (findD tbl n = none ∧ mget es n = none) ∨ ∃ d h, findD tbl n = some d ∧ mget es n = some (declV h) ∧ DeclRep m h d
theorem TblRep.mono {m m' : Mem} {es : Ents Str} {tbl : List Decl} (h : TblRep m es tbl) (hm : m ≤ m') : TblRep m' es tbl := ⟨fun n => by
  rcases h.get n with h | ⟨d, h, h1, h2, h3⟩
  · exact .inl h
  · exact .inr ⟨d, h, h1, h2, h3.mono hm⟩⟩
theorem TblRep.look {m : Mem} {es : Ents Str} {tbl : List Decl} (hT : TblRep m es tbl) (n : Str) : ∃ h, (mget es n).getD (declV declZ) = declV h ∧ DeclRep m h (theD tbl n) := by
  rcases hT.get n with ⟨h1, h2⟩ | ⟨d, h, h1, h2, h3⟩
  · exact ⟨declZ, by rw [h2]; rfl, by rw [theD, h1]; exact ⟨rfl, rfl, SlRep.nil _ _, SlRep.nil _ _⟩⟩
  · exact ⟨h, by rw [h2]; rfl, by rw [theD, h1]; exact h3⟩
theorem TblRep.has {m : Mem} {es : Ents Str} {tbl : List Decl} (hT : TblRep m es tbl) (n : Str) : mhas es n = hasD tbl n := by
  rw [mhas_mget, hasD_find]
  rcases hT.get n with ⟨h1, h2⟩ | ⟨d, h, h1, h2, h3⟩ <;> rw [h1, h2] <;> rfl
theorem TblRep.hasF {m : Mem} {es : Ents Str} {tbl : List Decl} (hT : TblRep m es tbl) : mhas es = hasD tbl := funext hT.has
theorem TblRep.ok {m : Mem} {es : Ents Str} {tbl : List Decl} (hT : TblRep m es tbl) : EntsOk es := fun x => by
  obtain ⟨h, h1, _⟩ := hT.look x
  exact ⟨h, h1⟩
def memF (l : List Fld) (n : Str) : Option Fld := l.find? fun f => decide (f.name = n)
def Decl.all (d : Decl) : List Fld := d.fields ++ d.methods

mutual
def allB (has : Str → Bool) : Tree → Bool
  | .mk k n u ks => (!decide (k = 4) || has n) && allBL has ks
def allBL (has : Str → Bool) : List Tree → Bool
  | [] => true
  | t :: ts => allB has t && allBL has ts
end
theorem allB_eq (has : Str → Bool) (a : Tree) : allB has a = ((!decide (a.kind = 4) || has a.name) && allBL has a.kids) := by
  obtain ⟨_, _, _, _⟩ := a
  rfl
theorem allBL_eq (has : Str → Bool) : ∀ l : List Tree, allBL has l = l.all (allB has)
  | [] => rfl
  | t :: ts => by rw [allBL, allBL_eq has ts, List.all_cons]
mutual
theorem tknown_all (has : Str → Bool) : ∀ a : Tree, a.formed = true → tknown has a = (!decide (a.kind = 8) && allB has a)
  | .mk k n u ks, h => by
    have hk : formedL ks = true := by rw [Tree.formed] at h; exact (Bool.and_eq_true _ _ ▸ h).1
    have ih := tknownL_all has ks hk
    rw [tknown, allB, ih, Tree.kind]
    cases decide (k = 4) <;> cases has n <;> cases decide (k = 8) <;> rfl
theorem tknownL_all (has : Str → Bool) : ∀ l : List Tree, formedL l = true → tknownL has l = allBL has l
  | [], _ => rfl
  | t :: ts, h => by
    rw [formedL] at h
    simp only [Bool.and_eq_true, Bool.not_eq_true'] at h
    rw [tknownL, allBL, tknown_all has t h.1.2, tknownL_all has ts h.2, h.1.1]
    simp
end

def knownD (tbl : List Decl) (t : Tree) : Bool := !decide (t.kind = 8) && allB (hasD tbl) t

def anyI {α : Type} (p : Nat → α → Bool) : List α → Nat → Bool
  | [], _ => false
  | x :: xs, k => p k x || anyI p xs (k + 1)
theorem anyI_iff {α : Type} (p : Nat → α → Bool) : ∀ (l : List α) (k : Nat), anyI p l k = true ↔ ∃ j x, l[j]? = some x ∧ p (k + j) x = true
  | [], k => by simp [anyI]
  | x :: xs, k => by
    rw [anyI, Bool.or_eq_true, anyI_iff p xs (k + 1)]
    constructor
    · rintro (h | ⟨j, y, h1, h2⟩)
      · exact ⟨0, x, rfl, h⟩
      · exact ⟨j + 1, y, by simpa using h1, by rw [← h2]; congr 1; omega⟩
    · rintro ⟨j, y, h1, h2⟩
      cases j with
      | zero => left; simp only [List.getElem?_cons_zero, Option.some.injEq] at h1; subst h1; exact h2
      | succ j => right; exact ⟨j, y, by simpa using h1, by rw [← h2]; congr 1; omega⟩
theorem anyI_no {α : Type} {p : Nat → α → Bool} {l : List α} (h : ∀ j x, l[j]? = some x → p j x = false) : anyI p l 0 = false := by
  rw [Bool.eq_false_iff]
  intro hc
  obtain ⟨j, x, h1, h2⟩ := (anyI_iff p l 0).1 hc
  rw [Nat.zero_add, h j x h1] at h2
  cases h2
theorem anyI_yes {α : Type} {p : Nat → α → Bool} {l : List α} {j : Nat} {x : α} (h1 : l[j]? = some x) (h2 : p j x = true) : anyI p l 0 = true := (anyI_iff p l 0).2 ⟨j, x, h1, by rw [Nat.zero_add]; exact h2⟩

def largeB (tbl : List Decl) : Bool := decide (1024 < tbl.length) || tbl.any fun d => decide (64 < d.fields.length) || decide (64 < d.methods.length)
def badF (nf k : Nat) (f : Fld) : Bool := !isName f.name || (!f.type.sound || (decide (f.type.kind = 8) || (decide (nf ≤ k) && !decide (f.type.kind = 7))))
def headD (d : Decl) : Bool := !isName d.name || (!decide (basicOf d.name = 0) || (d.iface && decide (0 < d.fields.length)))
def formD (d : Decl) : Bool := headD d || anyI (badF d.fields.length) d.all 0
def badK (tbl : List Decl) (nf k : Nat) (f : Fld) : Bool := !tknown (hasD tbl) f.type || (decide (k < nf) && isStructD tbl f.type)
def typeD (tbl : List Decl) (d : Decl) : Bool := !decide ((d.all.map Fld.name).Nodup) || anyI (badK tbl d.fields.length) d.all 0
def typeB (tbl : List Decl) : Bool := !decide ((tbl.map Decl.name).Nodup) || tbl.any (typeD tbl)
def soundE (tbl : List Decl) : Int := if largeB tbl = true then 4 else if tbl.any formD = true then 2 else if typeB tbl = true then 5 else 0

/-- what is asked of the sizes -/
structure Decl.small (d : Decl) : Prop where
  name : d.name.length ≤ 1048576
  fields : d.fields.length ≤ 1048576
  methods : d.methods.length ≤ 1048576
  all : ∀ f ∈ d.all, f.name.length ≤ 1048576 ∧ f.type.bulk ≤ 1048576
def TblS (tbl : List Decl) : Prop := ∀ d ∈ tbl, d.small
end Go.Sep

/-
  From the reading of a table of declarations to how it lies in memory.
-/
set_option linter.unusedVariables false
set_option linter.unusedSimpArgs false
namespace Go.Sep
open Go.Proofs Go.ChangeShapes Go.WideShapes Go.Proofs.Ytlpcakplpnpaeaa

def ReadsP {HH : Type} (enc : TypeId × Value → HH) (W : World) {H α : Type} (r : R H α) (good : α → Prop) (t : TypeId) : Prop :=
  ∀ (fuel : Nat) (cs : List Value) (x : DataW HH × List MemPlace), DataW.trod enc Try.prog W 0 (fun _ => true) true fuel t cs = some x → Rows.uptoBulk x.1 ≤ 1048576 → (∀ n ∈ x.1.weights Try.prog t, n ≤ reachBytes) → ∃ h a, cs = r.enc h ∧ r.rep (memOf W) h a ∧ good a

theorem bulk_count {HH : Type} : ∀ l : List (DataW HH), l.length ≤ Rows.uptoBulkAll l
  | [] => by simp [Rows.uptoBulkAll]
  | d :: r => by
    have h1 := bulk_count r
    have h2 := bulk_one d
    simp only [Rows.uptoBulkAll, List.length_cons]
    omega

section
variable {HH : Type} {enc : TypeId × Value → HH} {W : World}
theorem readsP_slice {H α : Type} {r : R H α} {good : α → Prop} {t e : TypeId} (ht : Try.prog.underlying t = some (.slice e)) (hc : Try.prog.cellsOf e = r.size) (hsz : 0 < r.size) (hb : Try.prog.bytesOf e = r.bytes) (he : ReadsP enc W r good e) :
    ReadsP enc W (rSl r) (fun l => l.length ≤ 1048576 ∧ ∀ a ∈ l, good a) t := fun fuel cs x h hB hw => by
  rcases Deep.open_slice ht h with ⟨rfl, rfl⟩ | ⟨a, len, cap, mm, n, D, Pl, rfl, _, hlc, _, hmm, rfl, hx⟩
  · exact ⟨⟨none, 0, 0⟩, [], rfl, SlRep.nil _ _, by simp, fun a h => by cases h⟩
  · simp only [if_true] at hmm
    subst hmm
    simp only [DataW.weights, ht] at hw
    simp only [Rows.uptoBulk] at hB
    have hcount := bulk_count ((List.range len).map D)
    simp only [List.length_map, List.length_range] at hcount
    have hfit : len * r.bytes ≤ 140737488355328 := by
      have := hw _ (List.mem_cons_self ..)
      rw [hb] at this
      simp only [List.length_map, List.length_range] at this
      have h2 : len * r.bytes ≤ (len + (mm - len)) * r.bytes := Nat.mul_le_mul_right _ (by omega)
      have h3 : reachBytes ≤ 140737488355328 := by decide
      omega
    have hel : ∀ i, i < len → ∃ (h : H) (a' : α), W.cells? 0 (a.add (i * r.size)) r.size = some (r.enc h) ∧ r.rep (memOf W) h a' ∧ good a' := fun i hi => by
      obtain ⟨cs', h1, h2⟩ := hx i (by omega)
      rw [hc] at h1
      have hd : Rows.uptoBulk (D i) ≤ Rows.uptoBulkAll ((List.range len).map D) := bulk_part (List.mem_map.2 ⟨i, by simpa using hi, rfl⟩)
      obtain ⟨h', a', rfl, h4, h5⟩ := he n cs' _ h2 (by simp only; omega) (fun w hwm => hw w (List.mem_cons_of_mem _ (List.mem_append_left _ (weights_mem_all (d := D i) (List.mem_map.2 ⟨i, by simpa using hi, rfl⟩) w hwm))))
      exact ⟨h', a', h1, h4, h5⟩
    obtain ⟨hs, al, l1, l2, l3⟩ := build2 len hel
    refine ⟨⟨some a, len, mm⟩, al, rfl, ⟨l2.symm, hlc, hfit, hs, ?_, ?_⟩, by omega, fun a' ha => ?_⟩
    · refine all2_of hs al (by omega) fun i h' a' q1 q2 => ?_
      obtain ⟨h2, a2, p1, p2, _, p4, _⟩ := l3 i (by have := (List.getElem?_eq_some_iff.1 q1).1; omega)
      rw [p1] at q1; rw [p2] at q2
      simp only [Option.some.injEq] at q1 q2
      subst q1; subst q2
      exact p4
    · by_cases hl0 : len = 0
      · left
        exact ⟨List.eq_nil_of_length_eq_zero (by omega), fun e => by cases e⟩
      · right
        obtain ⟨b, o, spot⟩ := a
        have hspot : spot = none := by
          obtain ⟨h2, a2, _, _, p3, _⟩ := l3 0 (by omega)
          obtain ⟨_, q2, q3⟩ := World.cells?_some p3
          have := q3 0 hsz
          have hlen : 0 < (r.enc h2).length := by rw [r.enc_len]; exact hsz
          rw [List.getElem?_eq_getElem hlen] at this
          have hs := World.cell?_spot this
          simpa [Addr.add] using hs
        subst hspot
        refine ⟨b, o, rfl, at_encs r hs o fun i h' hi => ?_⟩
        have hil := (List.getElem?_eq_some_iff.1 hi).1
        obtain ⟨h2, a2, p1, _, p3, _⟩ := l3 i (by omega)
        rw [p1] at hi
        simp only [Option.some.injEq] at hi
        subst hi
        obtain ⟨_, q2, q3⟩ := World.cells?_some p3
        intro j v hv
        have hj := (List.getElem?_eq_some_iff.1 hv).1
        have e4 : (r.enc h2).length = r.size := r.enc_len h2
        have := q3 j (by omega)
        rw [hv, addr_add, addr_add] at this
        exact this
    · obtain ⟨i, hi, rfl⟩ := List.getElem_of_mem ha
      obtain ⟨h2, a2, p1, p2, _, p4, p5⟩ := l3 i (by omega)
      rw [List.getElem?_eq_getElem hi] at p2
      simp only [Option.some.injEq] at p2
      rw [p2]
      exact p5

def goodF (f : Fld) : Prop := f.name.length ≤ 1048576 ∧ f.type.bulk ≤ 1048576

theorem reads_fld : ReadsP enc W rField goodF 42 := fun fuel cs x h hB hw => by
  obtain ⟨y0, y1, n, rfl, hl, t0, t1⟩ := trod_struct2 Try.underlying42 h
  have c : Try.prog.cellsOf 42 = 5 := by kernel_rfl
  have c9 : Try.prog.cellsOf 9 = 1 := by kernel_rfl
  have ck : Try.prog.cellsOf 27 = 4 := by kernel_rfl
  rw [c] at hl
  simp only [c9, ck] at t0 t1
  simp only [DataW.weights, Try.underlying42, List.map_cons, List.map_nil, DataW.weightsEach] at hw
  simp only [Rows.uptoBulk, Rows.uptoBulkAll] at hB
  match cs, hl with
  | [v0, v1, v2, v3, v4], _ =>
    simp only [List.drop, List.take] at t0 t1
    obtain ⟨s, e1, d1, _⟩ := DataW.trod_string Try.underlying9 t0
    simp only [List.cons.injEq, and_true] at e1
    subst e1
    have hs : s.data.toList.length + 1 ≤ Rows.uptoBulk y0.1 := by
      rw [d1]
      simp [Rows.uptoBulk]
    obtain ⟨h', a', he, hr, hb⟩ := reads_tree27 _ n _ _ (Nat.le_refl _) t1 (fun w hwm => hw w (by simp [hwm]))
    simp only [treeC, List.cons.injEq, and_true] at he
    obtain ⟨rfl, rfl, rfl, rfl⟩ := he
    refine ⟨⟨s.data.toList, h'⟩, ⟨s.data.toList, a'⟩, rfl, ⟨rfl, hr⟩, ?_, ?_⟩
    · simp only; omega
    · simp only; omega

theorem reads_decl : ReadsP enc W rDecl Decl.small 45 := fun fuel cs x h hB hw => by
  obtain ⟨y0, y1, y2, y3, n, rfl, hl, t0, t1, t2, t3⟩ := Go.Joins.trod_struct4 Try.underlying45 h
  have c : Try.prog.cellsOf 45 = 4 := by kernel_rfl
  have c9 : Try.prog.cellsOf 9 = 1 := by kernel_rfl
  have c4 : Try.prog.cellsOf 4 = 1 := by kernel_rfl
  have ck : Try.prog.cellsOf 43 = 1 := by kernel_rfl
  have cF : Try.prog.cellsOf 42 = 5 := by kernel_rfl
  have bF : Try.prog.bytesOf 42 = 72 := by kernel_rfl
  rw [c] at hl
  simp only [c9, ck, c4] at t0 t1 t2 t3
  simp only [DataW.weights, Try.underlying45, List.map_cons, List.map_nil, DataW.weightsEach] at hw
  simp only [Rows.uptoBulk, Rows.uptoBulkAll] at hB
  match cs, hl with
  | [v0, v1, v2, v3], _ =>
    simp only [List.drop, List.take] at t0 t1 t2 t3
    obtain ⟨s, e0, d0, _⟩ := DataW.trod_string Try.underlying9 t0
    obtain ⟨bo, e1, _⟩ := DataW.trod_bool Try.underlying4 t1
    obtain ⟨f, fl, e2, fr, fn, fg⟩ := readsP_slice (r := rField) Try.underlying43 cF (by decide) bF reads_fld n _ _ t2 (by omega) (fun w hwm => hw w (by simp [hwm]))
    obtain ⟨g, gl, e3, gr, gn, gg⟩ := readsP_slice (r := rField) Try.underlying43 cF (by decide) bF reads_fld n _ _ t3 (by omega) (fun w hwm => hw w (by simp [hwm]))
    simp only [rSl, List.cons.injEq, and_true] at e0 e1 e2 e3
    subst e0 e1 e2 e3
    have hs : s.data.toList.length + 1 ≤ Rows.uptoBulk y0.1 := by
      rw [d0]
      simp [Rows.uptoBulk]
    refine ⟨⟨s.data.toList, bo, f, g⟩, ⟨s.data.toList, bo, fl, gl⟩, rfl, ⟨rfl, rfl, fr, gr⟩, ⟨?_, fn, gn, fun x hx => ?_⟩⟩
    · simp only; omega
    · rcases List.mem_append.1 hx with hx | hx
      · exact fg x hx
      · exact gg x hx

theorem reads_table : ReadsP enc W (rSl rDecl) (fun l => l.length ≤ 1048576 ∧ TblS l) 35 :=
  readsP_slice (r := rDecl) Try.underlying35 (by kernel_rfl) (by decide) (by kernel_rfl) reads_decl
end

end Go.Sep

/-
  The rows whose first argument is a table: from a walk's contract to the row's.
-/
namespace Go.Proofs.Ytlpcakplpnpaeaa
open Go.ChangeShapes Go.WideShapes Go.ChangeAt Go.RowKit Go.Sep
set_option linter.unusedVariables false
set_option linter.unusedSimpArgs false
theorem in35 : (35 : TypeId) < Try.prog.types.size := of_decide_eq_true (by kernel_rfl)
theorem in9 : (9 : TypeId) < Try.prog.types.size := of_decide_eq_true (by kernel_rfl)

set_option maxRecDepth 100000 in
theorem table_of {H : Type} {enc : TypeId × Value → H} {W : World} {v : Value} {d : DataW H} {p : List MemPlace} (h : DataW.Trod enc Try.prog W 0 (fun _ => true) true 35 v d p) {base : Nat} (hv : Value.okWide Try.prog W .any base 35 v)
    (hw : ∀ w ∈ d.weights Try.prog 35, w ≤ reachBytes) (hB : Rows.uptoBulk d ≤ 1048576) : ∃ (s : Sl) (l : List Decl), v = s.v ∧ SlRep rDecl (memOf W) s l ∧ l.length ≤ 1048576 ∧ TblS l := by
  obtain ⟨n, hn⟩ := h
  obtain ⟨a0, len, cap, rfl⟩ := okWide_slice Try.underlying35 hv
  obtain ⟨s, l, he, hr, hl, hS⟩ := reads_table n _ _ hn hB hw
  refine ⟨s, l, ?_, hr, hl, hS⟩
  have he : [Value.slice a0 len cap] = [s.v] := he
  simpa using he
set_option maxRecDepth 100000 in
theorem type_of {H : Type} {enc : TypeId × Value → H} {W : World} {v : Value} {d : DataW H} {p : List MemPlace} (h : DataW.Trod enc Try.prog W 0 (fun _ => true) true 27 v d p) {base : Nat} (hv : Value.okWide Try.prog W .any base 27 v)
    (hw : ∀ w ∈ d.weights Try.prog 27, w ≤ reachBytes) (hB : Rows.uptoBulk d ≤ 1048576) : ∃ (h : HTree) (a : Tree), v = treeV h ∧ TreeRep (memOf W) h a ∧ a.bulk ≤ 1048576 := by
  obtain ⟨n, hn⟩ := h
  obtain ⟨h, a, he, hr, hb⟩ := reads_tree27 _ n _ _ (Nat.le_refl _) hn hw
  refine ⟨h, a, ?_, hr, by simp only at hb; omega⟩
  unfold Value.okWide at hv
  rw [Try.underlying27] at hv
  obtain ⟨cs, rfl, _, _⟩ := hv
  have : cs.toList = treeC h := he
  exact congrArg Value.agg (Array.ext' this)

set_option maxRecDepth 100000 in
theorem lawT1 {f : FuncId} {fn : Func} {s : ChangeSpec} (hvars : s.vars = []) (hpar : fn.params = #[35, 27]) (hres : fn.resultTypes = #[4])
    (hfn : ∀ (H : Type) (d d1 : DataW H), s.fn H [d, d1] = { results := [.lit (.bool true)], args := [d, d1] })
    (hT : ∀ (m : Mem) (L : List Sep.Item) (t : Sl) (l : List Decl) (h1 : HTree) (a1 : Tree), SlRep rDecl m t l → l.length ≤ 1048576 → TblS l → TreeRep m h1 a1 → a1.bulk ≤ 1048576 → TCall Try.prog f ⟨[t.v, treeV h1]⟩ m L (Ret (.bool true) m L))
    {fresh handsOn : Bool} (H : Type) (enc : TypeId × Value → H) (W : World) (base : Nat) (args : Array Value) (ds gs : List (DataW H)) (before : List MemPlace)
    (hval : ∀ (j : Nat) t v, fn.params[j]? = some t → args[j]? = some v → Value.okWide Try.prog W .any base t v)
    (hW : DataW.Whole enc Try.prog fn.params.toList s.vars false W args.toList ds gs before) (hk : Rows.uptoSmall H (ds ++ gs) = true)
    (hsz : (DataW.weightsEach Try.prog (fn.params.toList ++ s.plain.varTypes Try.prog) (ds ++ gs)).all (· ≤ reachBytes) = true) :
    Calls Try.prog f args W fun e W' => ∃ v, e = .returned v ∧ s.post enc Try.prog fn false fresh handsOn false W args v W' := by
  have hlt : ∀ p ∈ before, p.block < W.heap.size := fun p hp => hW.lt p hp
  have hW' := hW
  obtain ⟨p, q, hA0, hV, rfl, hfz, hnd⟩ := hW
  rw [hvars] at hV
  obtain ⟨rfl, rfl⟩ := trodVars_none hV
  rw [hpar] at hA0 hval hsz
  obtain ⟨v, v1, d, d1, p0, p1, rfl, rfl, rfl, g0, g1⟩ := trodAll_two hA0
  simp only [List.append_nil] at hW' hlt hsz hk
  have w0 : ∀ w ∈ d.weights Try.prog 35, w ≤ reachBytes := fun w hw => by
    have := List.all_eq_true.1 hsz w (DataW.weights_mem_each (j := 0) (t := 35) (d := d) rfl rfl w hw)
    simpa using this
  have w1 : ∀ w ∈ d1.weights Try.prog 27, w ≤ reachBytes := fun w hw => by
    have := List.all_eq_true.1 hsz w (DataW.weights_mem_each (j := 1) (t := 27) (d := d1) rfl rfl w hw)
    simpa using this
  have hkb : Rows.uptoBulkAll [d, d1] ≤ 1048576 := of_decide_eq_true hk
  simp only [Rows.uptoBulkAll] at hkb
  obtain ⟨t, l, rfl, hr, hl, hS⟩ := table_of g0 (hval 0 35 v rfl rfl) w0 (by omega)
  obtain ⟨h1, a1, rfl, r1, b1⟩ := type_of g1 (hval 1 27 v1 rfl rfl) w1 (by omega)
  refine (hT (memOf W) [] t l h1 a1 hr hl hS r1 b1 W (St.start W)).mono fun e W' hX => ?_
  cases e with
  | returned r =>
    obtain ⟨m', L', hst, rfl, _, rfl⟩ := hX
    have hle := Mem.le_refl (memOf W)
    refine ⟨_, rfl, post_old (pa := p0 ++ p1) (pv := []) hW' (fun _ _ _ => ?_) (fun sp hsp => ?_) (fun _ _ => ?_) (hst.kept hle)⟩
    · rw [hres, show ([d, d1] ++ [] : List (DataW H)) = [d, d1] from rfl, hfn]
      exact trodAll_mk1 (shut_bool Try.underlying4 _)
    · rw [hpar, show ([d, d1] ++ [] : List (DataW H)) = [d, d1] from rfl, hfn]
      exact trodAll_mk2 (stays hst hle in35 g0 (fun x hx => hlt x (List.mem_append_left _ hx)) (fun x hx => hsp x (List.mem_append_left _ hx))) (stays hst hle in27 g1 (fun x hx => hlt x (List.mem_append_right _ hx)) (fun x hx => hsp x (List.mem_append_right _ hx)))
    · rw [hvars, show ([d, d1] ++ [] : List (DataW H)) = [d, d1] from rfl, hfn]
      rfl
  | panicked ch =>
    obtain ⟨_, _, _, hf⟩ := hX
    exact hf.elim
  | outgrown => exact hX.elim

set_option maxRecDepth 100000 in
theorem lawT2 {f : FuncId} {fn : Func} {s : ChangeSpec} (hvars : s.vars = []) (hpar : fn.params = #[35, 27, 27]) (hres : fn.resultTypes = #[4])
    (hfn : ∀ (H : Type) (d d1 d2 : DataW H), s.fn H [d, d1, d2] = { results := [.lit (.bool true)], args := [d, d1, d2] })
    (hT : ∀ (m : Mem) (L : List Sep.Item) (t : Sl) (l : List Decl) (h1 : HTree) (a1 : Tree) (h2 : HTree) (a2 : Tree), SlRep rDecl m t l → l.length ≤ 1048576 → TblS l → TreeRep m h1 a1 → a1.bulk ≤ 1048576 → TreeRep m h2 a2 → a2.bulk ≤ 1048576 → TCall Try.prog f ⟨[t.v, treeV h1, treeV h2]⟩ m L (Ret (.bool true) m L))
    {fresh handsOn : Bool} (H : Type) (enc : TypeId × Value → H) (W : World) (base : Nat) (args : Array Value) (ds gs : List (DataW H)) (before : List MemPlace)
    (hval : ∀ (j : Nat) t v, fn.params[j]? = some t → args[j]? = some v → Value.okWide Try.prog W .any base t v)
    (hW : DataW.Whole enc Try.prog fn.params.toList s.vars false W args.toList ds gs before) (hk : Rows.uptoSmall H (ds ++ gs) = true)
    (hsz : (DataW.weightsEach Try.prog (fn.params.toList ++ s.plain.varTypes Try.prog) (ds ++ gs)).all (· ≤ reachBytes) = true) :
    Calls Try.prog f args W fun e W' => ∃ v, e = .returned v ∧ s.post enc Try.prog fn false fresh handsOn false W args v W' := by
  have hlt : ∀ p ∈ before, p.block < W.heap.size := fun p hp => hW.lt p hp
  have hW' := hW
  obtain ⟨p, q, hA0, hV, rfl, hfz, hnd⟩ := hW
  rw [hvars] at hV
  obtain ⟨rfl, rfl⟩ := trodVars_none hV
  rw [hpar] at hA0 hval hsz
  obtain ⟨v, v1, v2, d, d1, d2, p0, p1, p2, rfl, rfl, rfl, g0, g1, g2⟩ := trodAll_three hA0
  simp only [List.append_nil] at hW' hlt hsz hk
  have w0 : ∀ w ∈ d.weights Try.prog 35, w ≤ reachBytes := fun w hw => by
    have := List.all_eq_true.1 hsz w (DataW.weights_mem_each (j := 0) (t := 35) (d := d) rfl rfl w hw)
    simpa using this
  have w1 : ∀ w ∈ d1.weights Try.prog 27, w ≤ reachBytes := fun w hw => by
    have := List.all_eq_true.1 hsz w (DataW.weights_mem_each (j := 1) (t := 27) (d := d1) rfl rfl w hw)
    simpa using this
  have w2 : ∀ w ∈ d2.weights Try.prog 27, w ≤ reachBytes := fun w hw => by
    have := List.all_eq_true.1 hsz w (DataW.weights_mem_each (j := 2) (t := 27) (d := d2) rfl rfl w hw)
    simpa using this
  have hkb : Rows.uptoBulkAll [d, d1, d2] ≤ 1048576 := of_decide_eq_true hk
  simp only [Rows.uptoBulkAll] at hkb
  obtain ⟨t, l, rfl, hr, hl, hS⟩ := table_of g0 (hval 0 35 v rfl rfl) w0 (by omega)
  obtain ⟨h1, a1, rfl, r1, b1⟩ := type_of g1 (hval 1 27 v1 rfl rfl) w1 (by omega)
  obtain ⟨h2, a2, rfl, r2, b2⟩ := type_of g2 (hval 2 27 v2 rfl rfl) w2 (by omega)
  refine (hT (memOf W) [] t l h1 a1 h2 a2 hr hl hS r1 b1 r2 b2 W (St.start W)).mono fun e W' hX => ?_
  cases e with
  | returned r =>
    obtain ⟨m', L', hst, rfl, _, rfl⟩ := hX
    have hle := Mem.le_refl (memOf W)
    refine ⟨_, rfl, post_old (pa := p0 ++ (p1 ++ p2)) (pv := []) hW' (fun _ _ _ => ?_) (fun sp hsp => ?_) (fun _ _ => ?_) (hst.kept hle)⟩
    · rw [hres, show ([d, d1, d2] ++ [] : List (DataW H)) = [d, d1, d2] from rfl, hfn]
      exact trodAll_mk1 (shut_bool Try.underlying4 _)
    · rw [hpar, show ([d, d1, d2] ++ [] : List (DataW H)) = [d, d1, d2] from rfl, hfn]
      exact trodAll_mk3 (stays hst hle in35 g0 (fun x hx => hlt x (List.mem_append_left _ (List.mem_append_left _ hx))) (fun x hx => hsp x (List.mem_append_left _ (List.mem_append_left _ hx)))) (stays hst hle in27 g1 (fun x hx => hlt x (List.mem_append_left _ (List.mem_append_right _ hx))) (fun x hx => hsp x (List.mem_append_left _ (List.mem_append_right _ hx)))) (stays hst hle in27 g2 (fun x hx => hlt x (List.mem_append_right _ hx)) (fun x hx => hsp x (List.mem_append_right _ hx)))
    · rw [hvars, show ([d, d1, d2] ++ [] : List (DataW H)) = [d, d1, d2] from rfl, hfn]
      rfl
  | panicked ch =>
    obtain ⟨_, _, _, hf⟩ := hX
    exact hf.elim
  | outgrown => exact hX.elim
end Go.Proofs.Ytlpcakplpnpaeaa

/-
  The row of a table, a type and a name.
-/
namespace Go.Proofs.Ytlpcakplpnpaeaa
open Go.ChangeShapes Go.WideShapes Go.ChangeAt Go.RowKit Go.Sep
set_option linter.unusedVariables false
set_option linter.unusedSimpArgs false

set_option maxRecDepth 100000 in
theorem string_of {W : World} {v : Value} {base : Nat} (hv : Value.okWide Try.prog W .any base 9 v) : ∃ n : Str, v = strV n := by
  obtain ⟨b, rfl⟩ := okWide_string Try.underlying9 hv
  exact ⟨b.data.toList, rfl⟩

set_option maxRecDepth 100000 in
theorem lawT3 {f : FuncId} {fn : Func} {s : ChangeSpec} (hvars : s.vars = []) (hpar : fn.params = #[35, 27, 9]) (hres : fn.resultTypes = #[4])
    (hfn : ∀ (H : Type) (d d1 d2 : DataW H), s.fn H [d, d1, d2] = { results := [.lit (.bool true)], args := [d, d1, d2] })
    (hT : ∀ (m : Mem) (L : List Sep.Item) (t : Sl) (l : List Decl) (h1 : HTree) (a1 : Tree) (n : Str), SlRep rDecl m t l → l.length ≤ 1048576 → TblS l → TreeRep m h1 a1 → a1.bulk ≤ 1048576 → TCall Try.prog f ⟨[t.v, treeV h1, strV n]⟩ m L (Ret (.bool true) m L))
    {fresh handsOn : Bool} (H : Type) (enc : TypeId × Value → H) (W : World) (base : Nat) (args : Array Value) (ds gs : List (DataW H)) (before : List MemPlace)
    (hval : ∀ (j : Nat) t v, fn.params[j]? = some t → args[j]? = some v → Value.okWide Try.prog W .any base t v)
    (hW : DataW.Whole enc Try.prog fn.params.toList s.vars false W args.toList ds gs before) (hk : Rows.uptoSmall H (ds ++ gs) = true)
    (hsz : (DataW.weightsEach Try.prog (fn.params.toList ++ s.plain.varTypes Try.prog) (ds ++ gs)).all (· ≤ reachBytes) = true) :
    Calls Try.prog f args W fun e W' => ∃ v, e = .returned v ∧ s.post enc Try.prog fn false fresh handsOn false W args v W' := by
  have hlt : ∀ p ∈ before, p.block < W.heap.size := fun p hp => hW.lt p hp
  have hW' := hW
  obtain ⟨p, q, hA0, hV, rfl, hfz, hnd⟩ := hW
  rw [hvars] at hV
  obtain ⟨rfl, rfl⟩ := trodVars_none hV
  rw [hpar] at hA0 hval hsz
  obtain ⟨v, v1, v2, d, d1, d2, p0, p1, p2, rfl, rfl, rfl, g0, g1, g2⟩ := trodAll_three hA0
  simp only [List.append_nil] at hW' hlt hsz hk
  have w0 : ∀ w ∈ d.weights Try.prog 35, w ≤ reachBytes := fun w hw => by
    have := List.all_eq_true.1 hsz w (DataW.weights_mem_each (j := 0) (t := 35) (d := d) rfl rfl w hw)
    simpa using this
  have w1 : ∀ w ∈ d1.weights Try.prog 27, w ≤ reachBytes := fun w hw => by
    have := List.all_eq_true.1 hsz w (DataW.weights_mem_each (j := 1) (t := 27) (d := d1) rfl rfl w hw)
    simpa using this
  have w2 : ∀ w ∈ d2.weights Try.prog 9, w ≤ reachBytes := fun w hw => by
    have := List.all_eq_true.1 hsz w (DataW.weights_mem_each (j := 2) (t := 9) (d := d2) rfl rfl w hw)
    simpa using this
  have hkb : Rows.uptoBulkAll [d, d1, d2] ≤ 1048576 := of_decide_eq_true hk
  simp only [Rows.uptoBulkAll] at hkb
  obtain ⟨t, l, rfl, hr, hl, hS⟩ := table_of g0 (hval 0 35 v rfl rfl) w0 (by omega)
  obtain ⟨h1, a1, rfl, r1, b1⟩ := type_of g1 (hval 1 27 v1 rfl rfl) w1 (by omega)
  obtain ⟨n, rfl⟩ := string_of (hval 2 9 v2 rfl rfl)
  refine (hT (memOf W) [] t l h1 a1 n hr hl hS r1 b1 W (St.start W)).mono fun e W' hX => ?_
  cases e with
  | returned r =>
    obtain ⟨m', L', hst, rfl, _, rfl⟩ := hX
    have hle := Mem.le_refl (memOf W)
    refine ⟨_, rfl, post_old (pa := p0 ++ (p1 ++ p2)) (pv := []) hW' (fun _ _ _ => ?_) (fun sp hsp => ?_) (fun _ _ => ?_) (hst.kept hle)⟩
    · rw [hres, show ([d, d1, d2] ++ [] : List (DataW H)) = [d, d1, d2] from rfl, hfn]
      exact trodAll_mk1 (shut_bool Try.underlying4 _)
    · rw [hpar, show ([d, d1, d2] ++ [] : List (DataW H)) = [d, d1, d2] from rfl, hfn]
      exact trodAll_mk3 (stays hst hle in35 g0 (fun x hx => hlt x (List.mem_append_left _ (List.mem_append_left _ hx))) (fun x hx => hsp x (List.mem_append_left _ (List.mem_append_left _ hx)))) (stays hst hle in27 g1 (fun x hx => hlt x (List.mem_append_left _ (List.mem_append_right _ hx))) (fun x hx => hsp x (List.mem_append_left _ (List.mem_append_right _ hx)))) (stays hst hle in9 g2 (fun x hx => hlt x (List.mem_append_right _ hx)) (fun x hx => hsp x (List.mem_append_right _ hx)))
    · rw [hvars, show ([d, d1, d2] ++ [] : List (DataW H)) = [d, d1, d2] from rfl, hfn]
      rfl
  | panicked ch =>
    obtain ⟨_, _, _, hf⟩ := hX
    exact hf.elim
  | outgrown => exact hX.elim
end Go.Proofs.Ytlpcakplpnpaeaa

/-
  Walks over declarations, by the document's way.
-/
set_option linter.unusedVariables false
set_option linter.unusedSimpArgs false
namespace Go.Sep
open Go.Proofs
attribute [local irreducible] TC TO OT TCallX TCall DO DOt thenQ blockQ retQ At

set_option maxHeartbeats 400000 in
theorem find_ref (m : Mem) (L : List Item) (s : Sl) (l : List Decl) (n : Str) (hs : SlRep rDecl m s l) : TCall Try.prog 26 ⟨[s.v, strV n]⟩ m L (Ret (.int .i64 (idxD l n)) m L) := by
  unfold TCall
  refine TCallX.enter Try.func26 rfl 20 rfl ?_
  have hl := hs.len
  have hsm := hs.small rfl
  unfold idxD
  repeat (first|refine q1 ?_|refine q2 ?_|refine q3 ?_|refine q4 tab rfl rfl ?_|refine q5 ?_|refine q6 ?_)
  refine TC.loopK (ι := Nat) [0, 1] rfl (fun k => [(5, .int .i64 (k : Int))]) (fun _ => m) (fun _ => L) (fun k => k ≤ l.length ∧ idxP l (fun d => decide (d.name = n)) 0 = idxP (l.drop k) (fun d => decide (d.name = n)) k) (fun k => l.length - k) 0 (by repeat (first|exact trivial|refine And.intro rfl ?_)) rfl (by repeat (exact List.Sublist.refl _)) ⟨Nat.zero_le _, rfl⟩ ?_
  rintro k ⟨hk, hI⟩
  repeat (first|refine q1 ?_|refine q3 ?_|refine q4 tab rfl rfl ?_|refine q5 ?_|refine q6 ?_)
  refine TC.condP rfl (fun h => ?_) (fun h => ?_)
  · have hlt : k < l.length := by omega
    have hx : l[k]? = some l[k] := by simp [hlt]
    repeat (first|refine q1 ?_|refine q2 ?_|refine q3 ?_|refine q4 tab rfl rfl ?_|refine q6 ?_|refine q13 ?_)
    refine TO.step rfl (OT.index tab rDecl k hs rfl rfl rfl rfl rfl (by first | rfl | omega) rfl hx ?_)
    rintro b i hd hr hA
    have hn : hd.name = l[k].name := hr.name
    repeat (refine q4 tab rfl rfl ?_)
    (refine TO.step rfl (OT.loadA tab hA rfl rfl rfl rfl rfl ?_))
    repeat (first|refine q4 tab rfl rfl ?_|refine q5 ?_|refine q6 ?_)
    refine TC.condP rfl (fun h2 => ?_) (fun h2 => ?_)
    · repeat (first|refine q1 ?_|refine q3 ?_|refine q4 tab rfl rfl ?_|refine q5 ?_|refine q6 ?_|refine q8 ?_|refine q9 ?_|refine q15 ?_)
      refine retQ_ret rfl (by repeat (exact List.Sublist.refl _)) ⟨rfl, rfl, ?_⟩
      rw [hI, List.drop_eq_getElem_cons hlt, idxP, if_pos (by rw [← hn]; exact decide_eq_true h2)]
    · repeat (first|refine q3 ?_|refine q4 tab rfl rfl ?_|refine q6 ?_|refine q7 ?_|refine q13 ?_)
      refine TO.step rfl (OT.arith (r' := ((k + 1 : Nat) : Int)) rfl rfl rfl rfl rfl rfl rfl (by omega) ?_)
      repeat (first|refine q4 tab rfl rfl ?_|refine q5 ?_|refine q6 ?_)
      exact ⟨k + 1, (by repeat (first|exact trivial|refine And.intro rfl ?_)), (by repeat (first|exact trivial|refine And.intro rfl ?_)), rfl, rfl, (by repeat (exact List.Sublist.refl _)), ⟨by omega, by rw [hI, List.drop_eq_getElem_cons hlt, idxP, if_neg (by rw [← hn]; simp [h2])]⟩, by omega⟩
  · repeat (first|refine q1 ?_|refine q3 ?_|refine q4 tab rfl rfl ?_|refine q5 ?_|refine q6 ?_|refine q10 ?_|refine q11 ?_|refine q14 ?_|refine q15 ?_)
    refine retQ_ret rfl (by repeat (exact List.Sublist.refl _)) ⟨rfl, rfl, ?_⟩
    rw [hI, List.drop_eq_nil_of_le (by omega)]
    rfl

set_option maxHeartbeats 800000 in
theorem all_ref (a : Tree) : ∀ (m : Mem) (L : List Item) (s : Sl) (l : List Decl) (hs : SlRep rDecl m s l) (h : HTree) (hr : TreeRep m h a), TCall Try.prog 54 ⟨[s.v, treeV h]⟩ m L (Ret (.bool (allB (hasD l) a)) m L) := by
  induction a using Tree.ind with
  | h a ih =>
  intro m L s l hs h hr
  obtain ⟨h1, h2, h3, h4⟩ := hr
  have hl := h4.len
  have hsm := h4.small rfl
  rw [allB_eq, allBL_eq, ← h1, ← h2]
  unfold TCall
  refine TCallX.enter Try.func54 rfl 31 rfl ?_
  repeat (first|refine q1 ?_|refine q3 ?_)
  refine TO.step rfl (OT.box rfl rfl rfl rfl rfl (fun b => ?_))
  repeat (first|(first|refine q1 ?_|refine q3 ?_|refine q4 tab rfl rfl ?_|refine q5 ?_|refine q6 ?_)|(refine qs rfl (ql tab 0 rfl rfl rfl rfl rfl rfl ?_)))
  (refine TO.splitP rfl rfl (fun e1 => ?_) (fun e1 => ?_))
  · repeat (first|(refine q4 tab rfl rfl ?_)|(refine qs rfl (ql tab 0 rfl rfl rfl rfl rfl rfl ?_)))
    refine TO.step rfl (OT.call rfl rfl rfl rfl rfl rfl goes26 ((find_ref _ _ s l h.name hs).x ?_));
    rintro _ _ _ ⟨rfl, rfl, rfl⟩
    repeat (first|refine q4 tab rfl rfl ?_|refine q5 ?_|refine q6 ?_)
    refine TC.condP rfl (fun e3 => ?_) (fun e3 => ?_)
    · repeat (first|refine q1 ?_|refine q3 ?_|refine q4 tab rfl rfl ?_|refine q5 ?_|refine q6 ?_|refine q8 ?_|refine q15 ?_)
      refine retQ_ret rfl (by repeat (first|exact List.Sublist.refl _|refine List.Sublist.cons _ ?_)) ⟨rfl, rfl, ?_⟩
      have := idxD_lt l h.name
      rw [decide_eq_true e3] at this
      rw [decide_eq_true e1]
      cases hh : hasD l h.name with
      | false => rfl
      | true => rw [hh] at this; cases this
    · repeat (first|refine q1 ?_|refine q2 ?_|refine q3 ?_|refine q4 tab rfl rfl ?_|refine q5 ?_|refine q6 ?_|refine q13 ?_)
      have := idxD_lt l h.name
      rw [decide_eq_false e3] at this
      have hh : hasD l h.name = true := by
        cases hh : hasD l h.name with
        | true => rfl
        | false => rw [hh] at this; cases this
      refine TC.loopK (ι := Nat) [0, 3] rfl (fun k => [(5, .int .i64 (k : Int))]) (fun _ => m) (fun _ => .cells b 0 (treeC h) :: L) (fun k => k ≤ a.kids.length ∧ (a.kids.take k).all (allB (hasD l)) = true) (fun k => a.kids.length - k) 0 (by repeat (first|exact trivial|refine And.intro rfl ?_)) rfl (by repeat (exact List.Sublist.refl _)) ⟨Nat.zero_le _, rfl⟩ ?_
      rintro k ⟨hk, hI⟩
      repeat (first|(first|refine q1 ?_|refine q3 ?_|refine q4 tab rfl rfl ?_|refine q5 ?_|refine q6 ?_)|(refine qs rfl (ql tab 0 rfl rfl rfl rfl rfl rfl ?_)))
      refine TC.condP rfl (fun hlt' => ?_) (fun hlt' => ?_)
      · have hlt : k < a.kids.length := by omega
        have hx : a.kids[k]? = some a.kids[k] := by simp [hlt]
        have hmem := List.getElem_mem hlt
        repeat (first|(first|refine q1 ?_|refine q2 ?_|refine q3 ?_|refine q4 tab rfl rfl ?_|refine q6 ?_|refine q13 ?_)|(refine qs rfl (ql tab 0 rfl rfl rfl rfl rfl rfl ?_)))
        refine TO.step rfl (OT.index tab rTree k h4 rfl rfl rfl rfl rfl (by first | rfl | omega) rfl hx ?_)
        rintro b' i' h' hrd hA
        (refine TO.step rfl (OT.loadA0 tab hA rfl rfl rfl rfl rfl ?_))
        skip
        refine TO.step rfl (OT.call rfl rfl rfl rfl rfl rfl goes54 ((ih _ hmem _ _ s l hs h' (rTree_iff.1 hrd)).x ?_));
        rintro _ _ _ ⟨rfl, rfl, rfl⟩
        repeat (first|refine q4 tab rfl rfl ?_|refine q5 ?_|refine q6 ?_)
        refine TC.cond (t := !allB (hasD l) a.kids[k]) rfl (fun e9 => ?_) (fun e9 => ?_)
        · rw [Bool.not_eq_true'] at e9
          repeat (first|refine q1 ?_|refine q3 ?_|refine q4 tab rfl rfl ?_|refine q5 ?_|refine q6 ?_|refine q8 ?_|refine q9 ?_|refine q15 ?_)
          refine retQ_ret rfl (by repeat (first|exact List.Sublist.refl _|refine List.Sublist.cons _ ?_)) ⟨rfl, rfl, ?_⟩
          have : a.kids.all (allB (hasD l)) = false := List.all_eq_false.2 ⟨_, hmem, by rw [e9]; simp⟩
          rw [this]; simp
        · rw [Bool.not_eq_false'] at e9
          repeat (first|refine q3 ?_|refine q4 tab rfl rfl ?_|refine q6 ?_|refine q7 ?_|refine q13 ?_)
          refine TO.step rfl (OT.arith (r' := ((k + 1 : Nat) : Int)) rfl rfl rfl rfl rfl rfl rfl (by omega) ?_)
          repeat (first|refine q4 tab rfl rfl ?_|refine q5 ?_|refine q6 ?_)
          exact ⟨k + 1, (by repeat (first|exact trivial|refine And.intro rfl ?_)), (by repeat (first|exact trivial|refine And.intro rfl ?_)), rfl, rfl, (by repeat (exact List.Sublist.refl _)), ⟨by omega, by rw [List.take_succ_eq_append_getElem hlt, List.all_append, hI, List.all_cons, e9]; rfl⟩, by omega⟩
      · rw [List.take_of_length_le (by omega)] at hI
        repeat (first|refine q1 ?_|refine q3 ?_|refine q4 tab rfl rfl ?_|refine q5 ?_|refine q6 ?_|refine q10 ?_|refine q11 ?_|refine q14 ?_|refine q15 ?_)
        refine retQ_ret rfl (by repeat (first|exact List.Sublist.refl _|refine List.Sublist.cons _ ?_)) ⟨rfl, rfl, ?_⟩
        rw [hI]
        (rw [decide_eq_true e1, hh]; rfl)
  · repeat (first|refine q1 ?_|refine q2 ?_|refine q3 ?_|refine q4 tab rfl rfl ?_|refine q5 ?_|refine q6 ?_|refine q13 ?_|refine q17 rfl ?_)
    refine TC.loopK (ι := Nat) [0, 3] rfl (fun k => [(5, .int .i64 (k : Int))]) (fun _ => m) (fun _ => .cells b 0 (treeC h) :: L) (fun k => k ≤ a.kids.length ∧ (a.kids.take k).all (allB (hasD l)) = true) (fun k => a.kids.length - k) 0 (by repeat (first|exact trivial|refine And.intro rfl ?_)) rfl (by repeat (exact List.Sublist.refl _)) ⟨Nat.zero_le _, rfl⟩ ?_
    rintro k ⟨hk, hI⟩
    repeat (first|(first|refine q1 ?_|refine q3 ?_|refine q4 tab rfl rfl ?_|refine q5 ?_|refine q6 ?_)|(refine qs rfl (ql tab 0 rfl rfl rfl rfl rfl rfl ?_)))
    refine TC.condP rfl (fun hlt' => ?_) (fun hlt' => ?_)
    · have hlt : k < a.kids.length := by omega
      have hx : a.kids[k]? = some a.kids[k] := by simp [hlt]
      have hmem := List.getElem_mem hlt
      repeat (first|(first|refine q1 ?_|refine q2 ?_|refine q3 ?_|refine q4 tab rfl rfl ?_|refine q6 ?_|refine q13 ?_)|(refine qs rfl (ql tab 0 rfl rfl rfl rfl rfl rfl ?_)))
      refine TO.step rfl (OT.index tab rTree k h4 rfl rfl rfl rfl rfl (by first | rfl | omega) rfl hx ?_)
      rintro b' i' h' hrd hA
      (refine TO.step rfl (OT.loadA0 tab hA rfl rfl rfl rfl rfl ?_))
      skip
      refine TO.step rfl (OT.call rfl rfl rfl rfl rfl rfl goes54 ((ih _ hmem _ _ s l hs h' (rTree_iff.1 hrd)).x ?_));
      rintro _ _ _ ⟨rfl, rfl, rfl⟩
      repeat (first|refine q4 tab rfl rfl ?_|refine q5 ?_|refine q6 ?_)
      refine TC.cond (t := !allB (hasD l) a.kids[k]) rfl (fun e9 => ?_) (fun e9 => ?_)
      · rw [Bool.not_eq_true'] at e9
        repeat (first|refine q1 ?_|refine q3 ?_|refine q4 tab rfl rfl ?_|refine q5 ?_|refine q6 ?_|refine q8 ?_|refine q9 ?_|refine q15 ?_)
        refine retQ_ret rfl (by repeat (first|exact List.Sublist.refl _|refine List.Sublist.cons _ ?_)) ⟨rfl, rfl, ?_⟩
        have : a.kids.all (allB (hasD l)) = false := List.all_eq_false.2 ⟨_, hmem, by rw [e9]; simp⟩
        rw [this]; simp
      · rw [Bool.not_eq_false'] at e9
        repeat (first|refine q3 ?_|refine q4 tab rfl rfl ?_|refine q6 ?_|refine q7 ?_|refine q13 ?_)
        refine TO.step rfl (OT.arith (r' := ((k + 1 : Nat) : Int)) rfl rfl rfl rfl rfl rfl rfl (by omega) ?_)
        repeat (first|refine q4 tab rfl rfl ?_|refine q5 ?_|refine q6 ?_)
        exact ⟨k + 1, (by repeat (first|exact trivial|refine And.intro rfl ?_)), (by repeat (first|exact trivial|refine And.intro rfl ?_)), rfl, rfl, (by repeat (exact List.Sublist.refl _)), ⟨by omega, by rw [List.take_succ_eq_append_getElem hlt, List.all_append, hI, List.all_cons, e9]; rfl⟩, by omega⟩
    · rw [List.take_of_length_le (by omega)] at hI
      repeat (first|refine q1 ?_|refine q3 ?_|refine q4 tab rfl rfl ?_|refine q5 ?_|refine q6 ?_|refine q10 ?_|refine q11 ?_|refine q14 ?_|refine q15 ?_)
      refine retQ_ret rfl (by repeat (first|exact List.Sublist.refl _|refine List.Sublist.cons _ ?_)) ⟨rfl, rfl, ?_⟩
      rw [hI]
      (rw [decide_eq_false e1]; rfl)

set_option maxHeartbeats 400000 in
theorem isStruct_ref (a : Tree) (m : Mem) (L : List Item) (s : Sl) (l : List Decl) (hs : SlRep rDecl m s l) (h : HTree) (hr : TreeRep m h a) : TCall Try.prog 55 ⟨[s.v, treeV h]⟩ m L (Ret (.bool (isStructD l a)) m L) := by
  obtain ⟨h1, h2, h3, h4⟩ := hr
  unfold TCall
  refine TCallX.enter Try.func55 rfl 23 rfl ?_
  unfold isStructD
  rw [← h1, ← h2]
  repeat (first|refine q1 ?_|refine q3 ?_)
  refine TO.step rfl (OT.box rfl rfl rfl rfl rfl (fun b => ?_))
  repeat (first|(first|refine q1 ?_|refine q3 ?_|refine q4 tab rfl rfl ?_|refine q5 ?_|refine q6 ?_)|(refine qs rfl (ql tab 0 rfl rfl rfl rfl rfl rfl ?_)))
  refine TC.condN rfl (fun e1 => ?_) (fun e1 => ?_)
  · repeat (first|refine q1 ?_|refine q3 ?_|refine q4 tab rfl rfl ?_|refine q5 ?_|refine q6 ?_|refine q8 ?_|refine q15 ?_)
    refine retQ_ret rfl (by repeat (first|exact List.Sublist.refl _|refine List.Sublist.cons _ ?_)) ⟨rfl, rfl, ?_⟩
    rw [decide_eq_false e1]; rfl
  · repeat (first|(first|refine q1 ?_|refine q3 ?_|refine q4 tab rfl rfl ?_|refine q6 ?_|refine q13 ?_)|(refine qs rfl (ql tab 0 rfl rfl rfl rfl rfl rfl ?_)))
    refine TO.step rfl (OT.call rfl rfl rfl rfl rfl rfl goes26 ((find_ref _ _ s l h.name hs).x ?_));
    rintro _ _ _ ⟨rfl, rfl, rfl⟩
    repeat (first|refine q1 ?_|refine q3 ?_|refine q4 tab rfl rfl ?_|refine q5 ?_|refine q6 ?_)
    have hge := idxD_ge l h.name
    (refine TO.splitP rfl rfl (fun e3 => ?_) (fun e3 => ?_))
    · rw [decide_eq_true e3] at hge
      obtain ⟨j, q1, q2, q3⟩ := idxD_get hge.symm
      repeat (refine q4 tab rfl rfl ?_)
      refine TO.step rfl (OT.index tab rDecl j hs rfl rfl rfl rfl rfl (by first | rfl | omega) rfl q2 ?_)
      rintro b' i' h' hrd hA
      have hif : h'.iface = (theD l h.name).iface := hrd.iface
      repeat (refine q4 tab rfl rfl ?_)
      (refine TO.step rfl (OT.loadA tab hA rfl rfl rfl rfl rfl ?_))
      repeat (first|refine q4 tab rfl rfl ?_|refine q5 ?_|refine q6 ?_|refine q15 ?_)
      refine retQ_ret rfl (by repeat (first|exact List.Sublist.refl _|refine List.Sublist.cons _ ?_)) ⟨rfl, rfl, ?_⟩
      rw [decide_eq_true e1, ← hge, hif]; rfl
    · rw [decide_eq_false e3] at hge
      repeat (first|refine q4 tab rfl rfl ?_|refine q5 ?_|refine q6 ?_|refine q15 ?_)
      refine retQ_ret rfl (by repeat (first|exact List.Sublist.refl _|refine List.Sublist.cons _ ?_)) ⟨rfl, rfl, ?_⟩
      rw [decide_eq_true e1, ← hge]; rfl
set_option maxHeartbeats 400000 in
theorem isIface_ref (a : Tree) (m : Mem) (L : List Item) (s : Sl) (l : List Decl) (hs : SlRep rDecl m s l) (h : HTree) (hr : TreeRep m h a) : TCall Try.prog 99 ⟨[s.v, treeV h]⟩ m L (Ret (.bool (isIfaceD l a)) m L) := by
  obtain ⟨h1, h2, h3, h4⟩ := hr
  unfold TCall
  refine TCallX.enter Try.func99 rfl 22 rfl ?_
  unfold isIfaceD
  rw [← h1, ← h2]
  repeat (first|refine q1 ?_|refine q3 ?_)
  refine TO.step rfl (OT.box rfl rfl rfl rfl rfl (fun b => ?_))
  repeat (first|(first|refine q1 ?_|refine q3 ?_|refine q4 tab rfl rfl ?_|refine q5 ?_|refine q6 ?_)|(refine qs rfl (ql tab 0 rfl rfl rfl rfl rfl rfl ?_)))
  refine TC.condN rfl (fun e1 => ?_) (fun e1 => ?_)
  · repeat (first|refine q1 ?_|refine q3 ?_|refine q4 tab rfl rfl ?_|refine q5 ?_|refine q6 ?_|refine q8 ?_|refine q15 ?_)
    refine retQ_ret rfl (by repeat (first|exact List.Sublist.refl _|refine List.Sublist.cons _ ?_)) ⟨rfl, rfl, ?_⟩
    rw [decide_eq_false e1]; rfl
  · repeat (first|(first|refine q1 ?_|refine q3 ?_|refine q4 tab rfl rfl ?_|refine q6 ?_|refine q13 ?_)|(refine qs rfl (ql tab 0 rfl rfl rfl rfl rfl rfl ?_)))
    refine TO.step rfl (OT.call rfl rfl rfl rfl rfl rfl goes26 ((find_ref _ _ s l h.name hs).x ?_));
    rintro _ _ _ ⟨rfl, rfl, rfl⟩
    repeat (first|refine q1 ?_|refine q3 ?_|refine q4 tab rfl rfl ?_|refine q5 ?_|refine q6 ?_)
    have hge := idxD_ge l h.name
    (refine TO.splitP rfl rfl (fun e3 => ?_) (fun e3 => ?_))
    · rw [decide_eq_true e3] at hge
      obtain ⟨j, q1, q2, q3⟩ := idxD_get hge.symm
      repeat (refine q4 tab rfl rfl ?_)
      refine TO.step rfl (OT.index tab rDecl j hs rfl rfl rfl rfl rfl (by first | rfl | omega) rfl q2 ?_)
      rintro b' i' h' hrd hA
      have hif : h'.iface = (theD l h.name).iface := hrd.iface
      repeat (refine q4 tab rfl rfl ?_)
      (refine TO.step rfl (OT.loadA tab hA rfl rfl rfl rfl rfl ?_))
      repeat (first|refine q4 tab rfl rfl ?_|refine q5 ?_|refine q6 ?_|refine q15 ?_)
      refine retQ_ret rfl (by repeat (first|exact List.Sublist.refl _|refine List.Sublist.cons _ ?_)) ⟨rfl, rfl, ?_⟩
      rw [decide_eq_true e1, ← hge, hif]; rfl
    · rw [decide_eq_false e3] at hge
      repeat (first|refine q4 tab rfl rfl ?_|refine q5 ?_|refine q6 ?_|refine q15 ?_)
      refine retQ_ret rfl (by repeat (first|exact List.Sublist.refl _|refine List.Sublist.cons _ ?_)) ⟨rfl, rfl, ?_⟩
      rw [decide_eq_true e1, ← hge]; rfl

set_option maxHeartbeats 400000 in
theorem toStruct_ref (a : Tree) (hkid : a.kind = 5 → a.kids.length = 1) (m : Mem) (L : List Item) (s : Sl) (l : List Decl) (hs : SlRep rDecl m s l) (h : HTree) (hr : TreeRep m h a) : TCall Try.prog 98 ⟨[s.v, treeV h]⟩ m L (Ret (.bool (toStructD l a)) m L) := by
  obtain ⟨h1, h2, h3, h4⟩ := hr
  unfold TCall
  refine TCallX.enter Try.func98 rfl 16 rfl ?_
  unfold toStructD
  rw [← h1]
  have hl := h4.len
  repeat (first|refine q1 ?_|refine q3 ?_)
  refine TO.step rfl (OT.box rfl rfl rfl rfl rfl (fun b => ?_))
  repeat (first|(first|refine q1 ?_|refine q3 ?_|refine q4 tab rfl rfl ?_|refine q5 ?_|refine q6 ?_)|(refine qs rfl (ql tab 0 rfl rfl rfl rfl rfl rfl ?_)))
  (refine TO.splitP rfl rfl (fun e1 => ?_) (fun e1 => ?_))
  · have h1' := hkid (by omega)
    match hk : a.kids, h1' with
    | [k0], _ =>
      rw [hk] at h4
      have hx : [k0][0]? = some k0 := rfl
      repeat (first|(refine q4 tab rfl rfl ?_)|(refine qs rfl (ql tab 0 rfl rfl rfl rfl rfl rfl ?_)))
      refine TO.step rfl (OT.index tab rTree 0 h4 rfl rfl rfl rfl rfl (by first | rfl | omega) rfl hx ?_)
      rintro b' i' h' hrd hA
      (refine TO.step rfl (OT.loadA0 tab hA rfl rfl rfl rfl rfl ?_))
      skip
      refine TO.step rfl (OT.call rfl rfl rfl rfl rfl rfl goes55 ((isStruct_ref k0 _ _ s l hs h' (rTree_iff.1 hrd)).x ?_));
      rintro _ _ _ ⟨rfl, rfl, rfl⟩
      repeat (first|refine q4 tab rfl rfl ?_|refine q5 ?_|refine q6 ?_|refine q15 ?_)
      refine retQ_ret rfl (by repeat (first|exact List.Sublist.refl _|refine List.Sublist.cons _ ?_)) ⟨rfl, rfl, ?_⟩
      rw [decide_eq_true e1]; rfl
  · repeat (first|refine q4 tab rfl rfl ?_|refine q5 ?_|refine q6 ?_|refine q15 ?_)
    refine retQ_ret rfl (by repeat (first|exact List.Sublist.refl _|refine List.Sublist.cons _ ?_)) ⟨rfl, rfl, ?_⟩
    rw [decide_eq_false e1]; rfl

set_option maxHeartbeats 400000 in
theorem known_ref (a : Tree) (m : Mem) (L : List Item) (s : Sl) (l : List Decl) (hs : SlRep rDecl m s l) (h : HTree) (hr : TreeRep m h a) : TCall Try.prog 57 ⟨[s.v, treeV h]⟩ m L (Ret (.bool (knownD l a)) m L) := by
  have h1 := hr.kind
  unfold TCall
  refine TCallX.enter Try.func57 rfl 13 rfl ?_
  unfold knownD
  rw [← h1]
  repeat (first|refine q1 ?_|refine q3 ?_)
  refine TO.step rfl (OT.box rfl rfl rfl rfl rfl (fun b => ?_))
  repeat (first|(first|refine q1 ?_|refine q3 ?_|refine q4 tab rfl rfl ?_|refine q5 ?_|refine q6 ?_)|(refine qs rfl (ql tab 0 rfl rfl rfl rfl rfl rfl ?_)))
  (refine TO.splitN rfl rfl (fun e1 => ?_) (fun e1 => ?_))
  · repeat (first|(refine q4 tab rfl rfl ?_)|(refine qs rfl (qz tab 0 rfl rfl rfl rfl rfl rfl ?_)))
    refine TO.step rfl (OT.call rfl rfl rfl rfl rfl rfl goes54 ((all_ref a _ _ s l hs h hr).x ?_));
    rintro _ _ _ ⟨rfl, rfl, rfl⟩
    repeat (first|refine q4 tab rfl rfl ?_|refine q5 ?_|refine q6 ?_|refine q15 ?_)
    refine retQ_ret rfl (by repeat (first|exact List.Sublist.refl _|refine List.Sublist.cons _ ?_)) ⟨rfl, rfl, ?_⟩
    rw [decide_eq_false e1]; rfl
  · repeat (first|refine q4 tab rfl rfl ?_|refine q5 ?_|refine q6 ?_|refine q15 ?_)
    refine retQ_ret rfl (by repeat (first|exact List.Sublist.refl _|refine List.Sublist.cons _ ?_)) ⟨rfl, rfl, ?_⟩
    rw [decide_eq_true e1]; rfl

set_option maxHeartbeats 400000 in
theorem nilable_ref (a : Tree) (m : Mem) (L : List Item) (s : Sl) (l : List Decl) (hs : SlRep rDecl m s l) (h : HTree) (hr : TreeRep m h a) : TCall Try.prog 97 ⟨[s.v, treeV h]⟩ m L (Ret (.bool (nilableD l a)) m L) := by
  have h1 := hr.kind
  unfold TCall
  refine TCallX.enter Try.func97 rfl 23 rfl ?_
  unfold nilableD
  rw [← h1]
  repeat (first|refine q1 ?_|refine q3 ?_)
  refine TO.step rfl (OT.box rfl rfl rfl rfl rfl (fun b => ?_))
  repeat (first|(first|refine q1 ?_|refine q3 ?_|refine q4 tab rfl rfl ?_|refine q5 ?_|refine q6 ?_)|(refine qs rfl (ql tab 0 rfl rfl rfl rfl rfl rfl ?_)))
  (refine TO.splitP rfl rfl (fun e1 => ?_) (fun e1 => ?_))
  · repeat ((first|refine q4 tab rfl rfl ?_|refine q5 ?_|refine q6 ?_|refine q15 ?_))
    refine retQ_ret rfl (by repeat (first|exact List.Sublist.refl _|refine List.Sublist.cons _ ?_)) ⟨rfl, rfl, ?_⟩
    rw [decide_eq_true e1]; rfl
  · repeat (first|(refine q4 tab rfl rfl ?_)|(refine qs rfl (ql tab 0 rfl rfl rfl rfl rfl rfl ?_)))
    (refine TO.splitP rfl rfl (fun e2 => ?_) (fun e2 => ?_))
    · repeat ((first|refine q4 tab rfl rfl ?_|refine q5 ?_|refine q6 ?_|refine q15 ?_))
      refine retQ_ret rfl (by repeat (first|exact List.Sublist.refl _|refine List.Sublist.cons _ ?_)) ⟨rfl, rfl, ?_⟩
      rw [decide_eq_true e2]; simp
    · repeat (first|(refine q4 tab rfl rfl ?_)|(refine qs rfl (ql tab 0 rfl rfl rfl rfl rfl rfl ?_)))
      (refine TO.splitP rfl rfl (fun e3 => ?_) (fun e3 => ?_))
      · repeat ((first|refine q4 tab rfl rfl ?_|refine q5 ?_|refine q6 ?_|refine q15 ?_))
        refine retQ_ret rfl (by repeat (first|exact List.Sublist.refl _|refine List.Sublist.cons _ ?_)) ⟨rfl, rfl, ?_⟩
        rw [decide_eq_true e3]; simp
      · repeat (first|(refine q4 tab rfl rfl ?_)|(refine qs rfl (qz tab 0 rfl rfl rfl rfl rfl rfl ?_)))
        refine TO.step rfl (OT.call rfl rfl rfl rfl rfl rfl goes99 ((isIface_ref a _ _ s l hs h hr).x ?_));
        rintro _ _ _ ⟨rfl, rfl, rfl⟩
        repeat (first|refine q4 tab rfl rfl ?_|refine q5 ?_|refine q6 ?_|refine q15 ?_)
        refine retQ_ret rfl (by repeat (first|exact List.Sublist.refl _|refine List.Sublist.cons _ ?_)) ⟨rfl, rfl, ?_⟩
        rw [decide_eq_false e1, decide_eq_false e2, decide_eq_false e3]; rfl

set_option maxHeartbeats 400000 in
theorem members_ref (m : Mem) (L : List Item) (h : HDecl) (d : Decl) (hr : DeclRep m h d) (hB : d.small) : TCall Try.prog 53 ⟨[declV h]⟩ m L (Made m L fun r m' => ∃ t : Sl, r = t.v ∧ SlRep rField m' t d.all) := by
  obtain ⟨h1, h2, h3, h4⟩ := hr
  have b1 := hB.fields
  have b2 := hB.methods
  unfold TCall
  refine TCallX.enter Try.func53 rfl 12 rfl ?_
  repeat (first|refine q1 ?_|refine q3 ?_)
  refine TO.step rfl (OT.box rfl rfl rfl rfl rfl (fun b => ?_))
  repeat (first|refine q1 ?_|refine q3 ?_|refine q4 tab rfl rfl ?_|refine q5 ?_|refine q6 ?_)
  refine TO.step rfl (OT.lit tab rfl rfl rfl rfl (fun bl => ?_))
  repeat (refine q4 tab rfl rfl ?_)
  refine TO.drop (L' := .cells b 0 (declC h) :: L) (List.sublist_cons_self _ _) ?_
  (refine qs rfl (ql tab 0 rfl rfl rfl rfl rfl rfl ?_))
  skip
  refine TO.growL (size := rField.size) bl ?_
  refine TO.step rfl (OT.append tab rField 0 (SlRep.lit0 rField _ bl) (Own.lit bl 0 0) h3 rfl rfl rfl rfl rfl rfl rfl (by simp only [List.length_nil, rField]; omega) (fun s' m' hm' hs' ho' => ?_))
  repeat (first|refine q1 ?_|refine q3 ?_|refine q4 tab rfl rfl ?_|refine q5 ?_|refine q6 ?_)
  refine TO.step rfl (OT.loadL tab 1 rfl rfl rfl rfl rfl rfl ?_)
  skip
  refine TO.step rfl (OT.append tab rField 0 hs' ho' (h4.mono hm') rfl rfl rfl rfl rfl rfl rfl (by simp only [List.nil_append, rField]; omega) (fun s2 m2 hm2 hs2 ho2 => ?_))
  repeat (first|refine q4 tab rfl rfl ?_|refine q5 ?_|refine q6 ?_|refine q15 ?_)
  refine retQ_ret rfl (L' := L) (by repeat (first|exact List.Sublist.refl _|refine List.Sublist.cons _ ?_)) ⟨Mem.le_trans hm' hm2, rfl, s2, rfl, ?_⟩
  rw [List.nil_append] at hs2
  exact hs2
end Go.Sep

/-
  Walks over a table by names.
-/
set_option linter.unusedVariables false
set_option linter.unusedSimpArgs false
namespace Go.Sep
open Go.Proofs
attribute [local irreducible] TC TO OT TCallX TCall DO DOt thenQ blockQ retQ At

set_option maxHeartbeats 400000 in
theorem tstruct_law (a : Tree) (bt c : Nat) (es : Ents Str) (tbl : List Decl) (m : Mem) (L : List Item) (h : HTree) (hr : TreeRep m h a) (ho : m.o bt = some (mapO kStr es c)) (hT : TblRep m es tbl) : TCall Try.prog 50 ⟨[.map (some bt), treeV h]⟩ m L (Ret (.bool (isStructD tbl a)) m L) := by
  obtain ⟨h1, h2, h3, h4⟩ := hr
  obtain ⟨hd, hhd, hrd⟩ := hT.look h.name
  have hhas := hT.has h.name
  have hif := hrd.iface
  unfold TCall
  refine TCallX.enter Try.func50 rfl 25 rfl ?_
  unfold isStructD
  rw [← h1, ← h2, ← hhas, ← hif]
  repeat (first|refine q1 ?_|refine q3 ?_)
  refine TO.step rfl (OT.box rfl rfl rfl rfl rfl (fun b => ?_))
  repeat (first|(first|refine q1 ?_|refine q3 ?_|refine q4 tab rfl rfl ?_|refine q5 ?_|refine q6 ?_)|(refine qs rfl (ql tab 0 rfl rfl rfl rfl rfl rfl ?_)))
  refine TO.step rfl (OT.lookupOkP tab kStr h.name rfl rfl rfl rfl rfl rfl rfl ho ?_)
  refine TO.conv ?_ (congrArg (fun z => Value.tuple ⟨[z, .bool (mhas es h.name)]⟩) hhd)
  repeat (refine q4 tab rfl rfl ?_)
  refine TO.step rfl (OT.alloc tab rfl rfl rfl rfl (fun b5 => ?_))
  skip
  (refine TO.step rfl (OT.storeL0 tab 0 rfl rfl rfl rfl rfl rfl rfl rfl ?_))
  repeat (first|(first|refine q1 ?_|refine q3 ?_|refine q4 tab rfl rfl ?_|refine q5 ?_|refine q6 ?_)|(refine qs rfl (ql tab 1 rfl rfl rfl rfl rfl rfl ?_)))
  (refine TO.splitP rfl rfl (fun e1 => ?_) (fun e1 => ?_))
  · repeat (refine q4 tab rfl rfl ?_)
    refine TO.split (b := mhas es h.name) rfl rfl (fun e2 => ?_) (fun e2 => ?_)
    · repeat (first|(first|refine q4 tab rfl rfl ?_|refine q5 ?_|refine q6 ?_|refine q15 ?_)|(refine qs rfl (ql tab 0 rfl rfl rfl rfl rfl rfl ?_)))
      refine retQ_ret rfl (by repeat (first|exact List.Sublist.refl _|refine List.Sublist.cons _ ?_)) ⟨rfl, rfl, ?_⟩
      rw [decide_eq_true e1, e2]; rfl
    · repeat (first|refine q4 tab rfl rfl ?_|refine q5 ?_|refine q6 ?_|refine q15 ?_)
      refine retQ_ret rfl (by repeat (first|exact List.Sublist.refl _|refine List.Sublist.cons _ ?_)) ⟨rfl, rfl, ?_⟩
      rw [decide_eq_true e1, e2]; rfl
  · repeat (first|refine q4 tab rfl rfl ?_|refine q5 ?_|refine q6 ?_|refine q15 ?_)
    refine retQ_ret rfl (by repeat (first|exact List.Sublist.refl _|refine List.Sublist.cons _ ?_)) ⟨rfl, rfl, ?_⟩
    rw [decide_eq_false e1]; rfl
set_option maxHeartbeats 400000 in
theorem tiface_law (a : Tree) (bt c : Nat) (es : Ents Str) (tbl : List Decl) (m : Mem) (L : List Item) (h : HTree) (hr : TreeRep m h a) (ho : m.o bt = some (mapO kStr es c)) (hT : TblRep m es tbl) : TCall Try.prog 95 ⟨[.map (some bt), treeV h]⟩ m L (Ret (.bool (isIfaceD tbl a)) m L) := by
  obtain ⟨h1, h2, h3, h4⟩ := hr
  obtain ⟨hd, hhd, hrd⟩ := hT.look h.name
  have hhas := hT.has h.name
  have hif := hrd.iface
  unfold TCall
  refine TCallX.enter Try.func95 rfl 24 rfl ?_
  unfold isIfaceD
  rw [← h1, ← h2, ← hhas, ← hif]
  repeat (first|refine q1 ?_|refine q3 ?_)
  refine TO.step rfl (OT.box rfl rfl rfl rfl rfl (fun b => ?_))
  repeat (first|(first|refine q1 ?_|refine q3 ?_|refine q4 tab rfl rfl ?_|refine q5 ?_|refine q6 ?_)|(refine qs rfl (ql tab 0 rfl rfl rfl rfl rfl rfl ?_)))
  refine TO.step rfl (OT.lookupOkP tab kStr h.name rfl rfl rfl rfl rfl rfl rfl ho ?_)
  refine TO.conv ?_ (congrArg (fun z => Value.tuple ⟨[z, .bool (mhas es h.name)]⟩) hhd)
  repeat (refine q4 tab rfl rfl ?_)
  refine TO.step rfl (OT.alloc tab rfl rfl rfl rfl (fun b5 => ?_))
  skip
  (refine TO.step rfl (OT.storeL0 tab 0 rfl rfl rfl rfl rfl rfl rfl rfl ?_))
  repeat (first|(first|refine q1 ?_|refine q3 ?_|refine q4 tab rfl rfl ?_|refine q5 ?_|refine q6 ?_)|(refine qs rfl (ql tab 1 rfl rfl rfl rfl rfl rfl ?_)))
  (refine TO.splitP rfl rfl (fun e1 => ?_) (fun e1 => ?_))
  · repeat (refine q4 tab rfl rfl ?_)
    refine TO.split (b := mhas es h.name) rfl rfl (fun e2 => ?_) (fun e2 => ?_)
    · repeat (first|(first|refine q4 tab rfl rfl ?_|refine q5 ?_|refine q6 ?_|refine q15 ?_)|(refine qs rfl (ql tab 0 rfl rfl rfl rfl rfl rfl ?_)))
      refine retQ_ret rfl (by repeat (first|exact List.Sublist.refl _|refine List.Sublist.cons _ ?_)) ⟨rfl, rfl, ?_⟩
      rw [decide_eq_true e1, e2]; rfl
    · repeat (first|refine q4 tab rfl rfl ?_|refine q5 ?_|refine q6 ?_|refine q15 ?_)
      refine retQ_ret rfl (by repeat (first|exact List.Sublist.refl _|refine List.Sublist.cons _ ?_)) ⟨rfl, rfl, ?_⟩
      rw [decide_eq_true e1, e2]; rfl
  · repeat (first|refine q4 tab rfl rfl ?_|refine q5 ?_|refine q6 ?_|refine q15 ?_)
    refine retQ_ret rfl (by repeat (first|exact List.Sublist.refl _|refine List.Sublist.cons _ ?_)) ⟨rfl, rfl, ?_⟩
    rw [decide_eq_false e1]; rfl

set_option maxHeartbeats 400000 in
theorem nilable_law (a : Tree) (bt c : Nat) (es : Ents Str) (tbl : List Decl) (m : Mem) (L : List Item) (h : HTree) (hr : TreeRep m h a) (ho : m.o bt = some (mapO kStr es c)) (hT : TblRep m es tbl) : TCall Try.prog 94 ⟨[.map (some bt), treeV h]⟩ m L (Ret (.bool (nilableD tbl a)) m L) := by
  have h1 := hr.kind
  unfold TCall
  refine TCallX.enter Try.func94 rfl 23 rfl ?_
  unfold nilableD
  rw [← h1]
  repeat (first|refine q1 ?_|refine q3 ?_)
  refine TO.step rfl (OT.box rfl rfl rfl rfl rfl (fun b => ?_))
  repeat (first|(first|refine q1 ?_|refine q3 ?_|refine q4 tab rfl rfl ?_|refine q5 ?_|refine q6 ?_)|(refine qs rfl (ql tab 0 rfl rfl rfl rfl rfl rfl ?_)))
  (refine TO.splitP rfl rfl (fun e1 => ?_) (fun e1 => ?_))
  · repeat ((first|refine q4 tab rfl rfl ?_|refine q5 ?_|refine q6 ?_|refine q15 ?_))
    refine retQ_ret rfl (by repeat (first|exact List.Sublist.refl _|refine List.Sublist.cons _ ?_)) ⟨rfl, rfl, ?_⟩
    rw [decide_eq_true e1]; rfl
  · repeat (first|(refine q4 tab rfl rfl ?_)|(refine qs rfl (ql tab 0 rfl rfl rfl rfl rfl rfl ?_)))
    (refine TO.splitP rfl rfl (fun e2 => ?_) (fun e2 => ?_))
    · repeat ((first|refine q4 tab rfl rfl ?_|refine q5 ?_|refine q6 ?_|refine q15 ?_))
      refine retQ_ret rfl (by repeat (first|exact List.Sublist.refl _|refine List.Sublist.cons _ ?_)) ⟨rfl, rfl, ?_⟩
      rw [decide_eq_true e2]; simp
    · repeat (first|(refine q4 tab rfl rfl ?_)|(refine qs rfl (ql tab 0 rfl rfl rfl rfl rfl rfl ?_)))
      (refine TO.splitP rfl rfl (fun e3 => ?_) (fun e3 => ?_))
      · repeat ((first|refine q4 tab rfl rfl ?_|refine q5 ?_|refine q6 ?_|refine q15 ?_))
        refine retQ_ret rfl (by repeat (first|exact List.Sublist.refl _|refine List.Sublist.cons _ ?_)) ⟨rfl, rfl, ?_⟩
        rw [decide_eq_true e3]; simp
      · repeat (first|(refine q4 tab rfl rfl ?_)|(refine qs rfl (qz tab 0 rfl rfl rfl rfl rfl rfl ?_)))
        refine TO.step rfl (OT.call rfl rfl rfl rfl rfl rfl goes95 ((tiface_law a bt c es tbl _ _ h hr ho hT).x ?_));
        rintro _ _ _ ⟨rfl, rfl, rfl⟩
        repeat (first|refine q4 tab rfl rfl ?_|refine q5 ?_|refine q6 ?_|refine q15 ?_)
        refine retQ_ret rfl (by repeat (first|exact List.Sublist.refl _|refine List.Sublist.cons _ ?_)) ⟨rfl, rfl, ?_⟩
        rw [decide_eq_false e1, decide_eq_false e2, decide_eq_false e3]; rfl

/-! a table that is made -/
theorem names_snoc (l : List Decl) (k : Nat) (h : k < l.length) : ((l.take (k + 1)).map Decl.name).Nodup ↔ ((l.take k).map Decl.name).Nodup ∧ hasD (l.take k) l[k].name = false := by
  rw [List.take_succ_eq_append_getElem h, List.map_append, List.nodup_append]
  simp only [List.map_cons, List.map_nil, List.nodup_cons, List.not_mem_nil, not_false_eq_true, List.nodup_nil, true_and, and_true, List.mem_singleton, hasD, List.any_eq_false, decide_eq_true_eq, and_congr_right_iff]
  intro _
  constructor
  · intro hh x hx e
    exact hh _ (List.mem_map.2 ⟨x, hx, rfl⟩) _ rfl e
  · rintro hh x hx _ rfl e
    obtain ⟨d, hd, rfl⟩ := List.mem_map.1 hx
    exact hh d hd e
theorem find_snoc (l : List Decl) (d : Decl) (n : Str) : findD (l ++ [d]) n = (findD l n).or (if d.name = n then some d else none) := by
  rw [findD, List.find?_append, findD]
  by_cases h : d.name = n <;> simp [h]
theorem has_snoc (l : List Decl) (d : Decl) (n : Str) : hasD (l ++ [d]) n = (hasD l n || decide (d.name = n)) := by
  simp [hasD]

/-- what the map holds behind some declarations -/
structure TblAt (m : Mem) (es : Ents Str) (tbl : List Decl) : Prop where
  has : ∀ n, mhas es n = hasD tbl n
  ok : EntsOk es
  le : es.length ≤ tbl.length
  len : es.length = tbl.length ↔ (tbl.map Decl.name).Nodup
  rep : (tbl.map Decl.name).Nodup → TblRep m es tbl
theorem TblAt.nil (m : Mem) : TblAt m [] [] := ⟨fun _ => rfl, EntsOk.nil, Nat.le_refl _, by simp, fun _ => ⟨fun n => .inl ⟨rfl, rfl⟩⟩⟩
theorem TblAt.step {m : Mem} {es : Ents Str} {l : List Decl} {k c : Nat} (h : TblAt m es (l.take k)) (hk : k < l.length) {hd : HDecl} (hr : DeclRep m hd l[k]) : TblAt m (mset es hd.name (declV hd) c) (l.take (k + 1)) := by
  have hn := hr.name
  have hlen : (l.take k).length = k := by simp; omega
  have hlen' : (l.take (k + 1)).length = k + 1 := by simp; omega
  have hs := names_snoc l k hk
  have hsn : l.take (k + 1) = l.take k ++ [l[k]] := List.take_succ_eq_append_getElem hk
  have hhas : ∀ n, mhas (mset es hd.name (declV hd) c) n = hasD (l.take (k + 1)) n := fun n => by
    rw [mhas_mget, mget_mset, hsn, has_snoc, ← h.has n, mhas_mget, ← hn]
    by_cases e : hd.name = n
    · rw [if_pos e, decide_eq_true e]; simp
    · rw [if_neg e, decide_eq_false e]; simp
  have hle := h.le
  have hl := h.len
  rw [hlen] at hle hl
  refine ⟨hhas, fun x => ?_, ?_, ?_, fun hnd => ⟨fun n => ?_⟩⟩
  · rw [mget_mset]
    by_cases e : hd.name = x
    · rw [if_pos e]; exact ⟨hd, rfl⟩
    · rw [if_neg e]; exact h.ok x
  · rw [mset_len, hlen']; split <;> omega
  · rw [mset_len, hlen', hs, h.has, hn, ← hl]
    cases hh : hasD (l.take k) l[k].name with
    | true => simp; omega
    | false => simp
  · obtain ⟨q1, q2⟩ := hs.1 hnd
    rw [hsn, find_snoc, mget_mset, hn]
    by_cases e : l[k].name = n
    · subst e
      rw [hasD_find] at q2
      have : findD (l.take k) l[k].name = none := by
        cases hf : findD (l.take k) l[k].name with
        | none => rfl
        | some d => rw [hf] at q2; cases q2
      rw [this, if_pos rfl, if_pos rfl]
      exact .inr ⟨_, hd, rfl, rfl, hr⟩
    · rw [if_neg e, if_neg e, Option.or_none]
      exact (h.rep q1).get n

set_option maxHeartbeats 800000 in
theorem newTable_law (m : Mem) (L : List Item) (s : Sl) (l : List Decl) (hs : SlRep rDecl m s l) : TCall Try.prog 48 ⟨[s.v]⟩ m L (Made m L fun r m' => ∃ b es c, r = .map (some b) ∧ m'.o b = some (mapO kStr es c) ∧ TblAt m' es l) := by
  have hl := hs.len
  have hsm := hs.small rfl
  unfold TCall
  refine TCallX.enter Try.func48 rfl 19 rfl ?_
  repeat (first|refine q1 ?_|refine q3 ?_|refine q4 tab rfl rfl ?_|refine q5 ?_|refine q6 ?_)
  refine TO.step rfl (OT.makeMap kStr rfl rfl rfl (fun b => ?_))
  repeat (first|refine q1 ?_|refine q2 ?_|refine q3 ?_|refine q4 tab rfl rfl ?_|refine q5 ?_|refine q6 ?_)
  refine TC.loopK (ι := Nat × Ents Str × Nat) [3, 7, 8] rfl (fun x => [(9, .int .i64 (x.1 : Int))]) (fun _ => m) (fun x => .obj b (mapO kStr x.2.1 x.2.2) :: L) (fun x => x.1 ≤ l.length ∧ TblAt m x.2.1 (l.take x.1)) (fun x => l.length - x.1) (0, [], 0) (by repeat (first|exact trivial|refine And.intro rfl ?_)) rfl (by repeat (exact List.Sublist.refl _)) ⟨Nat.zero_le _, TblAt.nil m⟩ ?_
  rintro ⟨k, es, c⟩ ⟨hk, hI⟩
  simp only at hk hI ⊢
  repeat (first|refine q1 ?_|refine q3 ?_|refine q4 tab rfl rfl ?_|refine q5 ?_|refine q6 ?_)
  refine TC.condP rfl (fun h => ?_) (fun h => ?_)
  · have hlt : k < l.length := by omega
    have hx : l[k]? = some l[k] := by simp [hlt]
    repeat (first|refine q1 ?_|refine q2 ?_|refine q3 ?_|refine q6 ?_|refine q13 ?_)
    refine TO.step rfl (OT.index tab rDecl k hs rfl rfl rfl rfl rfl (by first | rfl | omega) rfl hx ?_)
    rintro b' i' hd hrd hA
    (refine TO.step rfl (OT.loadA0 tab hA rfl rfl rfl rfl rfl ?_))
    skip
    refine TO.step rfl (OT.alloc tab rfl rfl rfl rfl (fun b5 => ?_))
    skip
    (refine TO.step rfl (OT.storeL0 tab 0 rfl rfl rfl rfl rfl rfl rfl rfl ?_))
    repeat (first|(first|refine q3 ?_|refine q4 tab rfl rfl ?_|refine q5 ?_|refine q6 ?_)|(first|refine qs rfl (ql tab 0 rfl rfl rfl rfl rfl rfl ?_)|refine qs rfl (qz tab 0 rfl rfl rfl rfl rfl rfl ?_)))
    refine TO.step rfl (OT.mapSet tab kStr 1 hd.name rfl rfl rfl rfl rfl rfl rfl ?_)
    repeat (first|refine q3 ?_|refine q5 ?_|refine q6 ?_|refine q7 ?_)
    refine TO.step rfl (OT.arith (r' := ((k + 1 : Nat) : Int)) rfl rfl rfl rfl rfl rfl rfl (by omega) ?_)
    repeat (first|refine q4 tab rfl rfl ?_|refine q5 ?_|refine q6 ?_)
    exact ⟨(k + 1, mset es hd.name (declV hd) c, mclock es hd.name c), (by repeat (first|exact trivial|refine And.intro rfl ?_)), (by repeat (first|exact trivial|refine And.intro rfl ?_)), rfl, rfl, (by repeat (first|exact List.Sublist.refl _|refine List.Sublist.cons _ ?_)), ⟨by simp only; omega, hI.step hlt hrd⟩, by simp only; omega⟩
  · rw [List.take_of_length_le (by omega)] at hI
    refine TC.freezeO fun m1 hm1 ho => ?_
    repeat (first|refine q1 ?_|refine q3 ?_|refine q4 tab rfl rfl ?_|refine q5 ?_|refine q6 ?_|refine q10 ?_|refine q11 ?_|refine q14 ?_|refine q15 ?_)
    refine retQ_ret rfl (by repeat (exact List.Sublist.refl _)) ⟨hm1, rfl, b, es, c, rfl, ho, ⟨hI.has, hI.ok, hI.le, hI.len, fun hn => (hI.rep hn).mono hm1⟩⟩
end Go.Sep

/-
  Walks over members: of a list, joined, by an interface.
-/
set_option linter.unusedVariables false
set_option linter.unusedSimpArgs false
namespace Go.Sep
open Go.Proofs
attribute [local irreducible] TC TO OT TCallX TCall DO DOt thenQ blockQ retQ At

set_option maxHeartbeats 400000 in
theorem indexFunc_field (m : Mem) (L : List Item) (s : Sl) (l : List Fld) (p : Fld → Bool) (fn : FuncId) (cap : List Value) (hg : Goes Try.prog fn) (hs : SlRep rField m s l)
    (hp : ∀ (h : HFld) (a : Fld), a ∈ l → rField.rep m h a → TCall Try.prog fn ⟨fieldV h :: cap⟩ m L (Ret (.bool (p a)) m L)) :
    TCall Try.prog 115 ⟨[s.v, .func (.func fn) ⟨[]⟩ ⟨cap⟩]⟩ m L (Ret (.int .i64 (idxP l p 0)) m L) := by
  unfold TCall
  refine TCallX.enter Try.func115 rfl 19 rfl ?_
  repeat (first|refine q1 ?_|refine q2 ?_|refine q3 ?_|refine q4 tab rfl rfl ?_|refine q5 ?_|refine q6 ?_)
  refine TC.loopK (ι := Nat) [0, 1, 7] rfl (fun k => [(8, .int .i64 (k : Int))]) (fun _ => m) (fun _ => L) (fun k => k ≤ l.length ∧ idxP l p 0 = idxP (l.drop k) p k) (fun k => l.length - k) 0 (by repeat (first|exact trivial|refine And.intro rfl ?_)) rfl (by repeat (exact List.Sublist.refl _)) ⟨Nat.zero_le _, rfl⟩ ?_
  rintro k ⟨hk, hI⟩
  have hl := hs.len
  have hsm := hs.small rfl
  repeat (first|refine q1 ?_|refine q3 ?_|refine q4 tab rfl rfl ?_|refine q5 ?_|refine q6 ?_)
  refine TC.condP rfl (fun h => ?_) (fun h => ?_)
  · have hlt : k < l.length := by omega
    have hx : l[k]? = some l[k] := by simp [hlt]
    repeat (first|refine q1 ?_|refine q2 ?_|refine q3 ?_|refine q4 tab rfl rfl ?_|refine q5 ?_|refine q6 ?_|refine q13 ?_)
    refine TO.step rfl (OT.index tab rField k hs rfl rfl rfl rfl rfl (by first | rfl | omega) rfl hx ?_)
    rintro b i hd hr hA
    (refine TO.step rfl (OT.loadA0 tab hA rfl rfl rfl rfl rfl ?_))
    skip
    refine TO.step rfl (OT.call (all := fieldV hd :: cap) rfl rfl rfl rfl rfl (by rw [fl_eq]; rfl) hg ((hp hd l[k] (List.getElem_mem hlt) hr).x ?_))
    rintro _ _ _ ⟨rfl, rfl, rfl⟩
    repeat (first|refine q5 ?_|refine q6 ?_)
    refine TC.cond rfl (fun h => ?_) (fun h => ?_)
    · repeat (first|refine q1 ?_|refine q3 ?_|refine q4 tab rfl rfl ?_|refine q5 ?_|refine q6 ?_|refine q8 ?_|refine q9 ?_|refine q15 ?_)
      refine retQ_ret rfl (by repeat (exact List.Sublist.refl _)) ⟨rfl, rfl, ?_⟩
      rw [hI, List.drop_eq_getElem_cons hlt, idxP, if_pos h]
    · repeat (first|refine q3 ?_|refine q6 ?_|refine q7 ?_|refine q13 ?_)
      refine TO.step rfl (OT.arith (r' := ((k + 1 : Nat) : Int)) rfl rfl rfl rfl rfl rfl rfl (by omega) ?_)
      repeat (first|refine q4 tab rfl rfl ?_|refine q5 ?_|refine q6 ?_)
      exact ⟨k + 1, (by repeat (first|exact trivial|refine And.intro rfl ?_)), (by repeat (first|exact trivial|refine And.intro rfl ?_)), rfl, rfl, (by repeat (exact List.Sublist.refl _)), ⟨by omega, by rw [hI, List.drop_eq_getElem_cons hlt, idxP, if_neg (by simp [h])]⟩, by omega⟩
  · repeat (first|refine q1 ?_|refine q3 ?_|refine q4 tab rfl rfl ?_|refine q5 ?_|refine q6 ?_|refine q10 ?_|refine q11 ?_|refine q14 ?_|refine q15 ?_)
    refine retQ_ret rfl (by repeat (exact List.Sublist.refl _)) ⟨rfl, rfl, ?_⟩
    rw [hI, List.drop_eq_nil_of_le (by omega)]
    rfl

theorem memF_idx (l : List Fld) (n : Str) : (memF l n = none ∧ idxP l (fun f => decide (f.name = n)) 0 = -1) ∨ ∃ (j : Nat) (f : Fld), l[j]? = some f ∧ memF l n = some f ∧ idxP l (fun f => decide (f.name = n)) 0 = (j : Int) := by
  have := idxP_find l (fun f => decide (f.name = n)) 0
  simpa [memF] using this
def zeroT : Tree := .mk 0 [] 0 []
def memT (l : List Fld) (n : Str) : Tree := match memF l n with
  | some f => f.type
  | none => zeroT
theorem zeroT_rep (m : Mem) : TreeRep m ⟨0, [], 0, ⟨none, 0, 0⟩⟩ zeroT := TreeRep.leaf _ _ _ _

theorem member_cl (b : Nat) (n : Str) (m : Mem) (L : List Item) (h : HFld) (hb : At m b 0 [strV n]) : TCall Try.prog 116 ⟨[fieldV h, .pointer (some ⟨b, 0, none⟩)]⟩ m L (Ret (.bool (decide (h.name = n))) m L) := by
  unfold TCall
  refine TCallX.enter Try.func116 rfl 8 rfl ?_
  repeat (first|refine q1 ?_|refine q3 ?_)
  refine TO.step rfl (OT.box rfl rfl rfl rfl rfl (fun b2 => ?_))
  repeat (first|(first|refine q1 ?_|refine q3 ?_|refine q4 tab rfl rfl ?_|refine q5 ?_|refine q6 ?_)|(refine qs rfl (ql tab 0 rfl rfl rfl rfl rfl rfl ?_)))
  (refine TO.step rfl (OT.loadA0 tab hb rfl rfl rfl rfl rfl ?_))
  repeat (first|refine q4 tab rfl rfl ?_|refine q5 ?_|refine q6 ?_|refine q15 ?_)
  refine retQ_ret rfl (by repeat (first|exact List.Sublist.refl _|refine List.Sublist.cons _ ?_)) ⟨rfl, rfl, ?_⟩
  rfl

/-- a member's type, and whether there is one -/
@[reducible] def MadeM (m : Mem) (L : List Item) (l : List Fld) (n : Str) : Value → Mem → List Item → Prop := Made m L fun r m' => ∃ ht, r = .tuple ⟨[treeV ht, .bool (memF l n).isSome]⟩ ∧ TreeRep m' ht (memT l n)
set_option maxHeartbeats 800000 in
theorem member_law (m : Mem) (L : List Item) (s : Sl) (l : List Fld) (n : Str) (hs : SlRep rField m s l) : TCall Try.prog 100 ⟨[s.v, strV n]⟩ m L (MadeM m L l n) := by
  unfold TCall
  refine TCallX.enter Try.func100 rfl 18 rfl ?_
  repeat (first|refine q1 ?_|refine q3 ?_)
  refine TO.step rfl (OT.box rfl rfl rfl rfl rfl (fun b => ?_))
  refine TO.freeze fun m1 hm1 hb => ?_
  skip
  refine TO.step rfl (OT.alloc tab rfl rfl rfl rfl (fun b4 => ?_))
  repeat (first|refine q1 ?_|refine q3 ?_|refine q4 tab rfl rfl ?_|refine q5 ?_|refine q6 ?_)
  have hs1 := hs.mono hm1
  refine TO.step rfl (OT.call rfl rfl rfl rfl rfl rfl goes115 ((indexFunc_field m1 _ s l (fun f => decide (f.name = n)) 116 [.pointer (some ⟨b, 0, none⟩)] goes116 hs1 (fun h a ha hr => by have := hr.name; rw [← this]; exact member_cl b n m1 _ h hb)).x ?_))
  rintro _ _ _ ⟨rfl, rfl, rfl⟩
  rcases memF_idx l n with ⟨w1, w2⟩ | ⟨j, f, w0, w1, w2⟩
  · rw [w2]
    repeat (first|refine q1 ?_|refine q3 ?_|refine q4 tab rfl rfl ?_|refine q5 ?_|refine q6 ?_)
    refine TC.condP rfl (fun e => ?_) (fun e => absurd (by decide) e)
    repeat (first|refine q1 ?_|refine q3 ?_|refine q4 tab rfl rfl ?_)
    (refine TO.step rfl (OT.storeL0 tab 0 rfl rfl rfl rfl rfl rfl rfl rfl ?_))
    repeat (first|refine q4 tab rfl rfl ?_|refine q5 ?_|refine q6 ?_|refine q8 ?_|refine q15 ?_)
    refine retQ_ret_c tab 0 rfl rfl rfl rfl rfl (L' := L) (by repeat (first|exact List.Sublist.refl _|refine List.Sublist.cons _ ?_)) ⟨hm1, rfl, ⟨0, [], 0, ⟨none, 0, 0⟩⟩, by rw [w1]; rfl, by rw [memT, w1]; exact zeroT_rep _⟩
  · rw [w2]
    repeat (first|refine q1 ?_|refine q3 ?_|refine q4 tab rfl rfl ?_|refine q5 ?_|refine q6 ?_)
    refine TC.condP rfl (fun e => ?_) (fun e => ?_)
    · omega
    · repeat (first|refine q1 ?_|refine q3 ?_|refine q4 tab rfl rfl ?_|refine q6 ?_|refine q13 ?_)
      refine TO.step rfl (OT.index tab rField j hs1 rfl rfl rfl rfl rfl (by first | rfl | omega) rfl w0 ?_)
      rintro b' i' hd hrd hA
      repeat (refine q4 tab rfl rfl ?_)
      (refine TO.step rfl (OT.loadA tab hA rfl rfl rfl rfl rfl ?_))
      skip
      (refine TO.step rfl (OT.storeL0 tab 0 rfl rfl rfl rfl rfl rfl rfl rfl ?_))
      repeat (first|refine q4 tab rfl rfl ?_|refine q5 ?_|refine q6 ?_|refine q15 ?_)
      refine retQ_ret_c tab 0 rfl rfl rfl rfl rfl (L' := L) (by repeat (first|exact List.Sublist.refl _|refine List.Sublist.cons _ ?_)) ⟨hm1, rfl, hd.type, by rw [w1]; rfl, by rw [memT, w1]; exact hrd.type⟩

set_option maxHeartbeats 800000 in
theorem member_ref (m : Mem) (L : List Item) (s : Sl) (l : List Fld) (n : Str) (hs : SlRep rField m s l) : TCall Try.prog 102 ⟨[s.v, strV n]⟩ m L (MadeM m L l n) := by
  have hl := hs.len
  have hsm := hs.small rfl
  unfold TCall
  refine TCallX.enter Try.func102 rfl 26 rfl ?_
  repeat (first|refine q1 ?_|refine q3 ?_)
  refine TO.step rfl (OT.alloc tab rfl rfl rfl rfl (fun b4 => ?_))
  repeat (first|refine q1 ?_|refine q2 ?_|refine q3 ?_|refine q4 tab rfl rfl ?_|refine q5 ?_|refine q6 ?_)
  refine TC.loopK (ι := Nat) [0, 1, 4] rfl (fun k => [(6, .int .i64 (k : Int))]) (fun _ => m) (fun _ => .cells b4 0 (treeC ⟨0, [], 0, ⟨none, 0, 0⟩⟩) :: L) (fun k => k ≤ l.length ∧ memF l n = memF (l.drop k) n) (fun k => l.length - k) 0 (by repeat (first|exact trivial|refine And.intro rfl ?_)) rfl (by repeat (exact List.Sublist.refl _)) ⟨Nat.zero_le _, rfl⟩ ?_
  rintro k ⟨hk, hI⟩
  repeat (first|refine q1 ?_|refine q3 ?_|refine q4 tab rfl rfl ?_|refine q5 ?_|refine q6 ?_)
  refine TC.condP rfl (fun h => ?_) (fun h => ?_)
  · have hlt : k < l.length := by omega
    have hx : l[k]? = some l[k] := by simp [hlt]
    have hdc := List.drop_eq_getElem_cons hlt
    repeat (first|refine q1 ?_|refine q2 ?_|refine q3 ?_|refine q4 tab rfl rfl ?_|refine q6 ?_|refine q13 ?_)
    refine TO.step rfl (OT.index tab rField k hs rfl rfl rfl rfl rfl (by first | rfl | omega) rfl hx ?_)
    rintro b' i' hd hrd hA
    have hn := hrd.name
    repeat (refine q4 tab rfl rfl ?_)
    (refine TO.step rfl (OT.loadA tab hA rfl rfl rfl rfl rfl ?_))
    repeat (first|refine q4 tab rfl rfl ?_|refine q5 ?_|refine q6 ?_)
    refine TC.condP rfl (fun e => ?_) (fun e => ?_)
    · repeat (first|refine q1 ?_|refine q3 ?_|refine q4 tab rfl rfl ?_)
      refine TO.step rfl (OT.index tab rField k hs rfl rfl rfl rfl rfl (by first | rfl | omega) rfl hx ?_)
      rintro b2 i2 hd2 hrd2 hA2
      repeat (refine q4 tab rfl rfl ?_)
      (refine TO.step rfl (OT.loadA tab hA2 rfl rfl rfl rfl rfl ?_))
      skip
      (refine TO.step rfl (OT.storeL0 tab 0 rfl rfl rfl rfl rfl rfl rfl rfl ?_))
      repeat (first|refine q4 tab rfl rfl ?_|refine q5 ?_|refine q6 ?_|refine q8 ?_|refine q9 ?_|refine q15 ?_)
      have hf : memF l n = some l[k] := by rw [hI, hdc, memF, List.find?_cons, ← hn, decide_eq_true e]
      refine retQ_ret_c tab 0 rfl rfl rfl rfl rfl (L' := L) (by repeat (first|exact List.Sublist.refl _|refine List.Sublist.cons _ ?_)) ⟨Mem.le_refl _, rfl, hd2.type, by rw [hf]; rfl, by rw [memT, hf]; exact hrd2.type⟩
    · repeat (first|refine q3 ?_|refine q4 tab rfl rfl ?_|refine q6 ?_|refine q7 ?_|refine q13 ?_)
      refine TO.step rfl (OT.arith (r' := ((k + 1 : Nat) : Int)) rfl rfl rfl rfl rfl rfl rfl (by omega) ?_)
      repeat (first|refine q4 tab rfl rfl ?_|refine q5 ?_|refine q6 ?_)
      exact ⟨k + 1, (by repeat (first|exact trivial|refine And.intro rfl ?_)), (by repeat (first|exact trivial|refine And.intro rfl ?_)), rfl, rfl, (by repeat (exact List.Sublist.refl _)), ⟨by omega, by rw [hI, hdc, memF, List.find?_cons, ← hn, decide_eq_false e]; rfl⟩, by omega⟩
  · have hf : memF l n = none := by rw [hI, List.drop_eq_nil_of_le (by omega)]; rfl
    repeat (first|refine q1 ?_|refine q3 ?_|refine q4 tab rfl rfl ?_|refine q6 ?_|refine q10 ?_|refine q11 ?_|refine q14 ?_)
    (refine TO.step rfl (OT.storeL0 tab 0 rfl rfl rfl rfl rfl rfl rfl rfl ?_))
    repeat (first|refine q4 tab rfl rfl ?_|refine q5 ?_|refine q6 ?_|refine q15 ?_)
    refine retQ_ret_c tab 0 rfl rfl rfl rfl rfl (L' := L) (by repeat (first|exact List.Sublist.refl _|refine List.Sublist.cons _ ?_)) ⟨Mem.le_refl _, rfl, ⟨0, [], 0, ⟨none, 0, 0⟩⟩, by rw [hf]; rfl, by rw [memT, hf]; exact zeroT_rep _⟩

/-- has a struct all methods of an interface? -/
def givesF (l : List Fld) (f : Fld) : Bool := (memF l f.name).isSome && teq (memT l f.name) f.type
def hasMD (tbl : List Decl) (s i : Str) : Bool := (theD tbl i).methods.all (givesF (theD tbl s).methods)

set_option maxHeartbeats 1600000 in
theorem has_law (sn im : Str) (bt c : Nat) (es : Ents Str) (tbl : List Decl) (m : Mem) (L : List Item) (ho : m.o bt = some (mapO kStr es c)) (hT : TblRep m es tbl) : TCall Try.prog 96 ⟨[.map (some bt), strV sn, strV im]⟩ m L (Ret (.bool (hasMD tbl sn im)) m L) := by
  refine TCall.forget ?_
  obtain ⟨hi, hhi, hri⟩ := hT.look im
  obtain ⟨hd, hhd, hrd⟩ := hT.look sn
  have hms := hri.methods
  have hl := hms.len
  have hsm := hms.small rfl
  unfold TCall
  refine TCallX.enter Try.func96 rfl 40 rfl ?_
  repeat (first|refine q1 ?_|refine q3 ?_|refine q4 tab rfl rfl ?_|refine q5 ?_|refine q6 ?_)
  refine TO.step rfl (OT.lookupP tab kStr im rfl rfl rfl rfl rfl rfl rfl ho ?_)
  refine TO.conv ?_ hhi
  repeat (first|refine q2 ?_|refine q4 tab rfl rfl ?_|refine q5 ?_|refine q6 ?_)
  refine TC.loopK (ι := Nat × Mem) [0, 1, 14, 15] rfl (fun x => [(16, .int .i64 (x.1 : Int))]) (fun x => x.2) (fun _ => L) (fun x => x.1 ≤ (theD tbl im).methods.length ∧ m ≤ x.2 ∧ ((theD tbl im).methods.take x.1).all (givesF (theD tbl sn).methods) = true) (fun x => (theD tbl im).methods.length - x.1) (0, m) (by repeat (first|exact trivial|refine And.intro rfl ?_)) rfl (by repeat (exact List.Sublist.refl _)) ⟨Nat.zero_le _, Mem.le_refl _, rfl⟩ ?_
  rintro ⟨k, m1⟩ ⟨hk, hm1, hI⟩
  simp only at hk hm1 hI ⊢
  repeat (first|refine q1 ?_|refine q3 ?_|refine q4 tab rfl rfl ?_|refine q5 ?_|refine q6 ?_)
  refine TC.condP rfl (fun h => ?_) (fun h => ?_)
  · have hlt : k < (theD tbl im).methods.length := by omega
    have hx : (theD tbl im).methods[k]? = some (theD tbl im).methods[k] := by simp [hlt]
    repeat (first|refine q1 ?_|refine q2 ?_|refine q3 ?_|refine q6 ?_|refine q13 ?_)
    have hms1 := hms.mono hm1
    refine TO.step rfl (OT.index tab rField k hms1 rfl rfl rfl rfl rfl (by first | rfl | omega) rfl hx ?_)
    rintro b' i' hf hrf hA
    (refine TO.step rfl (OT.loadA0 tab hA rfl rfl rfl rfl rfl ?_))
    skip
    refine TO.step rfl (OT.alloc tab rfl rfl rfl rfl (fun b8 => ?_))
    skip
    (refine TO.step rfl (OT.storeL0 tab 0 rfl rfl rfl rfl rfl rfl rfl rfl ?_))
    repeat ((first|refine q1 ?_|refine q3 ?_|refine q4 tab rfl rfl ?_|refine q5 ?_|refine q6 ?_))
    refine TO.step rfl (OT.lookupP tab kStr sn rfl rfl rfl rfl rfl rfl rfl (hm1.o _ _ ho) ?_)
    refine TO.conv ?_ hhd
    repeat (first|(refine q4 tab rfl rfl ?_)|(refine qs rfl (ql tab 0 rfl rfl rfl rfl rfl rfl ?_)))
    refine TO.step rfl (OT.call rfl rfl rfl rfl rfl rfl goes100 ((member_law m1 _ hd.methods (theD tbl sn).methods hf.name (hrd.methods.mono hm1)).x ?_));
    rintro _ m2 _ ⟨hm2, rfl, ht, rfl, hrt⟩
    have hfn := hrf.name
    have hm02 := Mem.le_trans hm1 hm2
    repeat (refine q4 tab rfl rfl ?_)
    refine TO.step rfl (OT.alloc tab rfl rfl rfl rfl (fun b9 => ?_))
    skip
    (refine TO.step rfl (OT.storeL0 tab 0 rfl rfl rfl rfl rfl rfl rfl rfl ?_))
    repeat (first|refine q1 ?_|refine q3 ?_|refine q4 tab rfl rfl ?_|refine q5 ?_|refine q6 ?_)
    refine TO.split (b := !(memF (theD tbl sn).methods hf.name).isSome) rfl rfl (fun e2 => ?_) (fun e2 => ?_)
    · rw [Bool.not_eq_true'] at e2
      repeat (first|refine q1 ?_|refine q3 ?_|refine q4 tab rfl rfl ?_|refine q5 ?_|refine q6 ?_|refine q8 ?_|refine q9 ?_|refine q15 ?_|refine q16 rfl ?_)
      refine retQ_ret rfl (by repeat (first|exact List.Sublist.refl _|refine List.Sublist.cons _ ?_)) ⟨hm02, rfl, ?_⟩
      rw [hasMD, List.all_eq_false.2 ⟨_, List.getElem_mem hlt, by rw [givesF, ← hfn, e2]; simp⟩]
    · rw [Bool.not_eq_false'] at e2
      repeat (first|(refine q4 tab rfl rfl ?_)|(first|refine qs rfl (qz tab 0 rfl rfl rfl rfl rfl rfl ?_)|refine qs rfl (ql tab 1 rfl rfl rfl rfl rfl rfl ?_)))
      refine TO.step rfl (OT.call rfl rfl rfl rfl rfl rfl goes41 ((equal_law _ _ _ _ ht hf.type hrt (hrf.type.mono hm2)).x ?_));
      rintro _ _ _ ⟨rfl, rfl, rfl⟩
      repeat (first|refine q4 tab rfl rfl ?_|refine q5 ?_|refine q6 ?_)
      refine TC.cond (t := !teq (memT (theD tbl sn).methods hf.name) (theD tbl im).methods[k].type) rfl (fun e9 => ?_) (fun e9 => ?_)
      · rw [Bool.not_eq_true', hfn] at e9
        repeat (first|refine q1 ?_|refine q3 ?_|refine q4 tab rfl rfl ?_|refine q5 ?_|refine q6 ?_|refine q8 ?_|refine q9 ?_|refine q15 ?_)
        refine retQ_ret rfl (by repeat (first|exact List.Sublist.refl _|refine List.Sublist.cons _ ?_)) ⟨hm02, rfl, ?_⟩
        rw [hasMD, List.all_eq_false.2 ⟨_, List.getElem_mem hlt, by rw [givesF, e9]; simp⟩]
      · rw [Bool.not_eq_false', hfn] at e9
        rw [hfn] at e2
        repeat (first|refine q3 ?_|refine q6 ?_|refine q7 ?_|refine q13 ?_)
        refine TO.step rfl (OT.arith (r' := ((k + 1 : Nat) : Int)) rfl rfl rfl rfl rfl rfl rfl (by omega) ?_)
        repeat (first|refine q4 tab rfl rfl ?_|refine q5 ?_|refine q6 ?_)
        exact ⟨(k + 1, m2), (by repeat (first|exact trivial|refine And.intro rfl ?_)), (by repeat (first|exact trivial|refine And.intro rfl ?_)), rfl, rfl, (by repeat (first|exact List.Sublist.refl _|refine List.Sublist.cons _ ?_)), ⟨by simp only; omega, hm02, by rw [List.take_succ_eq_append_getElem hlt, List.all_append, hI, List.all_cons, givesF, e2, e9]; rfl⟩, by simp only; omega⟩
  · rw [List.take_of_length_le (by omega)] at hI
    repeat (first|refine q1 ?_|refine q3 ?_|refine q4 tab rfl rfl ?_|refine q5 ?_|refine q6 ?_|refine q10 ?_|refine q11 ?_|refine q14 ?_|refine q15 ?_)
    refine retQ_ret rfl (by repeat (exact List.Sublist.refl _)) ⟨hm1, rfl, ?_⟩
    rw [hasMD, hI]
end Go.Sep

/-
  The walks of slices.Grow and Concat at the members' kind.
-/
set_option linter.unusedVariables false
set_option linter.unusedSimpArgs false
namespace Go.Sep
open Go.Proofs
attribute [local irreducible] TC TO OT TCallX TCall DO DOt thenQ blockQ retQ At

abbrev rSlF := rSl rField
theorem fieldTI : (tab.elem 43).map (fun x => (x.2.size, x.2.bytes)) = some (5, 72) := by rfl

set_option maxHeartbeats 800000 in
theorem grow_law (m : Mem) (L : List Item) (n : Nat) (hB : n * 72 ≤ 140737488355328) : TCall Try.prog 88 ⟨[.slice none 0 0, .int .i64 (n : Int)]⟩ m L (fun r m' L' => m = m' ∧ ∃ s : Sl, r = s.v ∧ Own s ∧ SlRep rField m s [] ∧ L' = tok s 5 :: L) := by
  unfold TCall
  refine TCallX.enter Try.func88 rfl 27 rfl ?_
  repeat (first|refine q1 ?_|refine q3 ?_|refine q4 tab rfl rfl ?_|refine q5 ?_|refine q6 ?_|refine q13 ?_|refine q17 rfl ?_)
  refine TO.step rfl (OT.cap (s := ⟨none, 0, 0⟩) tab rfl rfl rfl rfl rfl ?_)
  repeat (refine q4 tab rfl rfl ?_)
  refine TO.step rfl (OT.arith (r' := ((0 : Nat) : Int)) rfl rfl rfl rfl rfl rfl rfl (by omega) ?_)
  skip
  refine TO.step rfl (OT.arith (r' := (n : Int)) rfl rfl rfl rfl rfl rfl (by simp) (by omega) ?_)
  repeat (first|refine q1 ?_|refine q3 ?_|refine q4 tab rfl rfl ?_|refine q5 ?_|refine q6 ?_)
  refine TC.condP rfl (fun e2 => ?_) (fun e2 => ?_)
  · repeat (first|refine q3 ?_|refine q4 tab rfl rfl ?_)
    refine TO.step rfl (OT.cap (s := ⟨none, 0, 0⟩) tab rfl rfl rfl rfl rfl ?_)
    skip
    refine TO.step rfl (OT.cutS tab 0 0 (s := ⟨none, 0, 0⟩) rfl rfl rfl rfl rfl rfl rfl (.inl ⟨rfl, rfl⟩) (.inr rfl) (Nat.le_refl _) (Nat.le_refl _) ?_)
    repeat (refine q4 tab rfl rfl ?_)
    refine TO.step rfl (OT.growNil tab (z := n) (by omega) rfl rfl rfl rfl rfl rfl rfl rfl rfl (sz := 5) rfl rfl hB (fun b c hc => ?_))
    repeat (refine q4 tab rfl rfl ?_)
    refine TO.step rfl (OT.cutP tab 0 0 rfl rfl rfl rfl rfl rfl rfl (.inl ⟨rfl, rfl⟩) (.inr rfl) (Nat.le_refl _) (Nat.zero_le _) ?_)
    repeat (first|refine q1 ?_|refine q3 ?_|refine q4 tab rfl rfl ?_|refine q5 ?_|refine q6 ?_|refine q15 ?_)
    refine retQ_ret rfl (L' := .room b 0 (c * 5) :: L) (by repeat (exact List.Sublist.refl _)) ⟨rfl, ⟨some ⟨b, 0, none⟩, 0, c⟩, ?_, .inr ⟨b, 0, rfl⟩, ⟨rfl, Nat.zero_le _, by simp, [], trivial, .inl ⟨rfl, fun e => by cases e⟩⟩, by simp [tok]⟩
    simp only [Nat.sub_self, Nat.sub_zero, Nat.zero_mul, Nat.add_zero, ite_self]
  · refine TC.grow0 (size := 5) ?_
    repeat (first|refine q1 ?_|refine q3 ?_|refine q4 tab rfl rfl ?_|refine q5 ?_|refine q6 ?_|refine q13 ?_|refine q15 ?_)
    exact retQ_ret rfl (L' := tok ⟨none, 0, 0⟩ 5 :: L) (by repeat (exact List.Sublist.refl _)) ⟨rfl, ⟨none, 0, 0⟩, rfl, .inl rfl, SlRep.nil _ _, rfl⟩

set_option maxHeartbeats 800000 in
theorem concat_law (m : Mem) (L : List Item) (s : Sl) (ls : List (List Fld)) (hs : SlRep (rSl rField) m s ls) (hB : (ls.map List.length).sum * 72 ≤ 140737488355328) : TCall Try.prog 47 ⟨[s.v]⟩ m L (Made m L fun r m' => ∃ t : Sl, r = t.v ∧ SlRep rField m' t ls.flatten) := by
  have hl := hs.len
  have hsm := hs.small rfl
  have hpre : ∀ k, ((ls.take k).map List.length).sum ≤ (ls.map List.length).sum := fun k => by
    conv => rhs; rw [← List.take_append_drop k ls]
    rw [List.map_append, List.sum_append]; omega
  unfold TCall
  refine TCallX.enter Try.func47 rfl 36 rfl ?_
  repeat (first|refine q1 ?_|refine q2 ?_|refine q3 ?_|refine q4 tab rfl rfl ?_|refine q5 ?_|refine q6 ?_)
  refine TC.loopK (ι := Nat) [0, 9, 10] rfl (fun k => [(11, .int .i64 (k : Int)), (3, .int .i64 ((((ls.take k).map List.length).sum : Nat) : Int))]) (fun _ => m) (fun _ => L) (fun k => k ≤ ls.length) (fun k => ls.length - k) 0 (by repeat (first|exact trivial|refine And.intro rfl ?_)) rfl (by repeat (exact List.Sublist.refl _)) (Nat.zero_le _) ?_
  rintro k hk
  repeat (first|refine q1 ?_|refine q3 ?_|refine q4 tab rfl rfl ?_|refine q5 ?_|refine q6 ?_)
  refine TC.condP rfl (fun h => ?_) (fun h => ?_)
  · have hlt : k < ls.length := by omega
    have hx : ls[k]? = some ls[k] := by simp [hlt]
    have hp1 := hpre (k + 1)
    have hp0 : ((ls.take (k + 1)).map List.length).sum = ((ls.take k).map List.length).sum + ls[k].length := by
      rw [List.take_succ_eq_append_getElem hlt, List.map_append, List.sum_append]; simp only [List.map_cons, List.map_nil, List.sum_cons, List.sum_nil, Nat.add_zero]
    repeat (first|refine q1 ?_|refine q2 ?_|refine q3 ?_|refine q6 ?_|refine q13 ?_)
    refine TO.step rfl (OT.index tab rSlF k hs rfl rfl rfl rfl rfl (by first | rfl | omega) rfl hx ?_)
    rintro b' i' s' hrd hA
    have hl' : s'.len = ls[k].length := hrd.len
    skip
    (refine TO.step rfl (OT.loadA0 tab hA rfl rfl rfl rfl rfl ?_))
    repeat (first|refine q1 ?_|refine q3 ?_|refine q4 tab rfl rfl ?_|refine q5 ?_|refine q6 ?_)
    refine TO.step rfl (OT.arith (r' := ((((ls.take (k + 1)).map List.length).sum : Nat) : Int)) rfl rfl rfl rfl rfl rfl (by omega) (by omega) ?_)
    repeat (first|refine q1 ?_|refine q3 ?_|refine q4 tab rfl rfl ?_|refine q5 ?_|refine q6 ?_|refine q7 ?_|refine q13 ?_|refine q17 rfl ?_)
    refine TO.step rfl (OT.arith (r' := ((k + 1 : Nat) : Int)) rfl rfl rfl rfl rfl rfl rfl (by omega) ?_)
    repeat (first|refine q4 tab rfl rfl ?_|refine q5 ?_|refine q6 ?_)
    exact ⟨k + 1, (by repeat (first|exact trivial|refine And.intro rfl ?_)), (by repeat (first|exact trivial|refine And.intro rfl ?_)), rfl, rfl, (by repeat (exact List.Sublist.refl _)), by omega, by omega⟩
  · have hpk := hpre k
    repeat (first|refine q1 ?_|refine q3 ?_|refine q4 tab rfl rfl ?_|refine q6 ?_|refine q10 ?_|refine q11 ?_|refine q14 ?_)
    refine TO.step rfl (OT.call rfl rfl rfl rfl rfl rfl goes88 ((grow_law m _ ((ls.take k).map List.length).sum (by omega)).x ?_));
    rintro _ _ _ ⟨rfl, t, rfl, ho, hr, rfl⟩
    repeat (first|refine q1 ?_|refine q2 ?_|refine q3 ?_|refine q4 tab rfl rfl ?_|refine q5 ?_|refine q6 ?_)
    refine TC.loopK (ι := Nat × Sl × Mem) [0, 25, 26] rfl (fun x => [(27, .int .i64 (x.1 : Int)), (6, x.2.1.v)]) (fun x => x.2.2) (fun x => tok x.2.1 5 :: L) (fun x => x.1 ≤ ls.length ∧ m ≤ x.2.2 ∧ Own x.2.1 ∧ SlRep rField x.2.2 x.2.1 (ls.take x.1).flatten) (fun x => ls.length - x.1) (0, t, m) (by repeat (first|exact trivial|refine And.intro rfl ?_)) rfl (by repeat (exact List.Sublist.refl _)) ⟨Nat.zero_le _, Mem.le_refl _, ho, hr⟩ ?_
    rintro ⟨j, u, m1⟩ ⟨hj, hm1, ho1, hr1⟩
    simp only at hj hm1 ho1 hr1 ⊢
    have hs1 := hs.mono hm1
    repeat (first|refine q1 ?_|refine q3 ?_|refine q4 tab rfl rfl ?_|refine q5 ?_|refine q6 ?_)
    refine TC.condP rfl (fun h2 => ?_) (fun h2 => ?_)
    · have hlt : j < ls.length := by omega
      have hx : ls[j]? = some ls[j] := by simp [hlt]
      have hp1 := hpre (j + 1)
      have hp0 : ((ls.take (j + 1)).map List.length).sum = ((ls.take j).map List.length).sum + ls[j].length := by
        rw [List.take_succ_eq_append_getElem hlt, List.map_append, List.sum_append]; simp only [List.map_cons, List.map_nil, List.sum_cons, List.sum_nil, Nat.add_zero]
      have hfl : (ls.take j).flatten.length = ((ls.take j).map List.length).sum := List.length_flatten
      repeat (first|refine q1 ?_|refine q2 ?_|refine q3 ?_|refine q6 ?_|refine q13 ?_)
      refine TO.step rfl (OT.index tab rSlF j hs1 rfl rfl rfl rfl rfl (by first | rfl | omega) rfl hx ?_)
      rintro b' i' s' hrd hA
      (refine TO.step rfl (OT.loadA0 tab hA rfl rfl rfl rfl rfl ?_))
      repeat (first|refine q3 ?_|refine q4 tab rfl rfl ?_|refine q5 ?_|refine q6 ?_)
      refine TO.step rfl (OT.append tab rField 0 hr1 ho1 hrd rfl rfl rfl rfl rfl rfl rfl (by simp only [rField]; omega) (fun s' m' hm' hs' ho' => ?_))
      repeat (first|refine q3 ?_|refine q4 tab rfl rfl ?_|refine q5 ?_|refine q6 ?_|refine q7 ?_)
      refine TO.step rfl (OT.arith (r' := ((j + 1 : Nat) : Int)) rfl rfl rfl rfl rfl rfl rfl (by omega) ?_)
      repeat (first|refine q4 tab rfl rfl ?_|refine q5 ?_|refine q6 ?_)
      exact ⟨(j + 1, s', m'), (by repeat (first|exact trivial|refine And.intro rfl ?_)), (by repeat (first|exact trivial|refine And.intro rfl ?_)), rfl, rfl, (by repeat (exact List.Sublist.refl _)), ⟨by simp only; omega, Mem.le_trans hm1 hm', ho', by rw [List.take_succ_eq_append_getElem hlt, List.flatten_append]; simpa using hs'⟩, by simp only; omega⟩
    · rw [List.take_of_length_le (by omega)] at hr1
      repeat (first|refine q1 ?_|refine q3 ?_|refine q4 tab rfl rfl ?_|refine q5 ?_|refine q6 ?_|refine q10 ?_|refine q11 ?_|refine q14 ?_|refine q15 ?_)
      exact retQ_ret rfl (L' := L) (by repeat (first|exact List.Sublist.refl _|refine List.Sublist.cons _ ?_)) ⟨hm1, rfl, u, rfl, hr1⟩
end Go.Sep

/-
  The walk of Sound.
-/
set_option linter.unusedVariables false
set_option linter.unusedSimpArgs false
namespace Go.Sep
open Go.Proofs
attribute [local irreducible] TC TO OT TCallX TCall DO DOt thenQ blockQ retQ At

theorem soundE_large {tbl : List Decl} (h : largeB tbl = true) : soundE tbl = 4 := if_pos h
theorem soundE_form {tbl : List Decl} (h : largeB tbl = false) (h2 : tbl.any formD = true) : soundE tbl = 2 := by rw [soundE, if_neg (by rw [h]; simp), if_pos h2]
theorem soundE_type {tbl : List Decl} (h : largeB tbl = false) (h2 : tbl.any formD = false) (h3 : typeB tbl = true) : soundE tbl = 5 := by rw [soundE, if_neg (by rw [h]; simp), if_neg (by rw [h2]; simp), if_pos h3]
theorem soundE_ok {tbl : List Decl} (h : largeB tbl = false) (h2 : tbl.any formD = false) (h3 : typeB tbl = false) : soundE tbl = 0 := by rw [soundE, if_neg (by rw [h]; simp), if_neg (by rw [h2]; simp), if_neg (by rw [h3]; simp)]
def bigD (d : Decl) : Bool := decide (64 < d.fields.length) || decide (64 < d.methods.length)
theorem largeB_len {tbl : List Decl} (h : 1024 < tbl.length) : largeB tbl = true := by rw [largeB, decide_eq_true h]; rfl
theorem largeB_any {tbl : List Decl} (h : tbl.any bigD = true) : largeB tbl = true := by rw [largeB, show (tbl.any fun d => decide (64 < d.fields.length) || decide (64 < d.methods.length)) = tbl.any bigD from rfl, h, Bool.or_true]
theorem largeB_no {tbl : List Decl} (h : ¬ 1024 < tbl.length) (h2 : tbl.any bigD = false) : largeB tbl = false := by rw [largeB, decide_eq_false h, show (tbl.any fun d => decide (64 < d.fields.length) || decide (64 < d.methods.length)) = tbl.any bigD from rfl, h2]; rfl
theorem any_hit {α : Type} {l : List α} {p : α → Bool} {k : Nat} (hk : k < l.length) (h : p l[k] = true) : l.any p = true := List.any_eq_true.2 ⟨_, List.getElem_mem hk, h⟩
theorem any_take {α : Type} {l : List α} {p : α → Bool} {k : Nat} (hk : k < l.length) (h : (l.take k).any p = false) (h2 : p l[k] = false) : (l.take (k + 1)).any p = false := by
  rw [List.take_succ_eq_append_getElem hk, List.any_append, h, List.any_cons, h2]; rfl
/-- none up to k -/
def NoI {α : Type} (p : Nat → α → Bool) (l : List α) (k : Nat) : Prop := ∀ j x, j < k → l[j]? = some x → p j x = false
theorem NoI.step {α : Type} {p : Nat → α → Bool} {l : List α} {k : Nat} (h : NoI p l k) (hk : k < l.length) (h2 : p k l[k] = false) : NoI p l (k + 1) := fun j x hj hx => by
  by_cases e : j = k
  · subst e
    rw [List.getElem?_eq_getElem hk] at hx
    cases hx
    exact h2
  · exact h j x (by omega) hx
theorem NoI.all {α : Type} {p : Nat → α → Bool} {l : List α} {k : Nat} (h : NoI p l k) (hk : l.length ≤ k) : anyI p l 0 = false := anyI_no fun j x hx => h j x (by have := (List.getElem?_eq_some_iff.1 hx).1; omega) hx
theorem two_rep {m : Mem} {b : Nat} {s t : Sl} {l r : List Fld} (hA : At m b 0 [s.v, t.v]) (hs : SlRep rField m s l) (ht : SlRep rField m t r) : SlRep (rSl rField) m ⟨some ⟨b, 0, none⟩, 2, 2⟩ [l, r] :=
  ⟨rfl, Nat.le_refl _, (by decide : 2 * 24 ≤ 140737488355328), [s, t], ⟨hs, ht, trivial⟩, .inr ⟨b, 0, rfl, hA⟩⟩
theorem all_two (d : Decl) : [d.fields, d.methods].flatten = d.all := by simp [Decl.all]

theorem fnames_snoc (l : List Fld) (k : Nat) (h : k < l.length) : ((l.take (k + 1)).map Fld.name).Nodup ↔ ((l.take k).map Fld.name).Nodup ∧ l[k].name ∉ (l.take k).map Fld.name := by
  rw [List.take_succ_eq_append_getElem h, List.map_append, List.nodup_append]
  simp only [List.map_cons, List.map_nil, List.nodup_cons, List.not_mem_nil, not_false_eq_true, List.nodup_nil, true_and, and_true, List.mem_singleton, and_congr_right_iff]
  intro _
  constructor
  · intro hh hc
    exact hh _ hc _ rfl rfl
  · rintro hh x hx _ rfl rfl
    exact hh hx
theorem fnames_twice {l : List Fld} {k : Nat} (h : k < l.length) (hm : l[k].name ∈ (l.take k).map Fld.name) : ¬ (l.map Fld.name).Nodup := fun hc => by
  have h1 : ((l.take (k + 1)).map Fld.name).Nodup := hc.sublist ((List.take_sublist _ _).map _)
  exact ((fnames_snoc l k h).1 h1).2 hm
/-- names seen: a set -/
structure Seen (es : Ents Str) (ns : List Str) : Prop where
  has : ∀ x, mhas es x = decide (x ∈ ns)
  val : ∀ x, (mget es x).getD (.agg ⟨[]⟩) = .agg ⟨[]⟩
theorem Seen.nil : Seen [] [] := ⟨fun _ => rfl, fun _ => rfl⟩
theorem Seen.add {es : Ents Str} {ns : List Str} (h : Seen es ns) (x : Str) (c : Nat) : Seen (mset es x (.agg ⟨[]⟩) c) (ns ++ [x]) := ⟨fun y => by
  rw [mhas_mget, mget_mset]
  by_cases e : x = y
  · rw [if_pos e, e]; simp
  · rw [if_neg e, ← mhas_mget, h.has]
    have e' : ¬ y = x := fun q => e q.symm
    simp [e'], fun y => by
  rw [mget_mset]
  by_cases e : x = y
  · rw [if_pos e]; rfl
  · rw [if_neg e]; exact h.val y⟩

set_option maxHeartbeats 4000000 in
theorem sound_tbl (m : Mem) (L : List Item) (s : Sl) (l : List Decl) (hs : SlRep rDecl m s l) (hB : TblS l) : TCall Try.prog 18 ⟨[s.v]⟩ m L (Ret (.int .i64 (soundE l)) m L) := by
  refine TCall.forget ?_
  have hl := hs.len
  have hsm := hs.small rfl
  unfold TCall
  refine TCallX.enter Try.func18 rfl 166 rfl ?_
  repeat (first|refine q1 ?_|refine q3 ?_|refine q4 tab rfl rfl ?_|refine q5 ?_|refine q6 ?_)
  refine TC.condP rfl (fun eL => ?_) (fun eL => ?_)
  · repeat (first|refine q1 ?_|refine q3 ?_|refine q4 tab rfl rfl ?_|refine q5 ?_|refine q6 ?_|refine q8 ?_|refine q15 ?_)
    refine retQ_ret rfl (by repeat (exact List.Sublist.refl _)) ⟨Mem.le_refl _, rfl, ?_⟩
    rw [soundE_large (largeB_len (by omega))]
  · repeat (first|refine q1 ?_|refine q2 ?_|refine q3 ?_|refine q4 tab rfl rfl ?_|refine q5 ?_|refine q6 ?_|refine q13 ?_)
    refine TC.loopK (ι := Nat) [0, 20, 21] rfl (fun k => [(22, .int .i64 (k : Int))]) (fun _ => m) (fun _ => L) (fun k => k ≤ l.length ∧ (l.take k).any bigD = false) (fun k => l.length - k) 0 (by repeat (first|exact trivial|refine And.intro rfl ?_)) rfl (by repeat (exact List.Sublist.refl _)) ⟨Nat.zero_le _, rfl⟩ ?_
    rintro k ⟨hk, hI⟩
    repeat (first|refine q1 ?_|refine q3 ?_|refine q4 tab rfl rfl ?_|refine q5 ?_|refine q6 ?_)
    refine TC.condP rfl (fun h => ?_) (fun h => ?_)
    · have hlt : k < l.length := by omega
      have hx : l[k]? = some l[k] := by simp [hlt]
      repeat (first|refine q1 ?_|refine q2 ?_|refine q3 ?_|refine q6 ?_|refine q13 ?_)
      refine TO.step rfl (OT.index tab rDecl k hs rfl rfl rfl rfl rfl (by first | rfl | omega) rfl hx ?_)
      rintro b' i' hd hrd hA
      have hf1 := hrd.fields.len
      have hm1 := hrd.methods.len
      (refine TO.step rfl (OT.loadA0 tab hA rfl rfl rfl rfl rfl ?_))
      skip
      refine TO.step rfl (OT.alloc tab rfl rfl rfl rfl (fun b4 => ?_))
      skip
      (refine TO.step rfl (OT.storeL0 tab 0 rfl rfl rfl rfl rfl rfl rfl rfl ?_))
      repeat (first|(first|refine q1 ?_|refine q3 ?_|refine q4 tab rfl rfl ?_|refine q5 ?_|refine q6 ?_)|(refine qs rfl (ql tab 0 rfl rfl rfl rfl rfl rfl ?_)))
      (refine TO.splitP rfl rfl (fun e1 => ?_) (fun e1 => ?_))
      · repeat (first|refine q1 ?_|refine q3 ?_|refine q4 tab rfl rfl ?_|refine q5 ?_|refine q6 ?_|refine q8 ?_|refine q9 ?_|refine q15 ?_|refine q16 rfl ?_)
        refine retQ_ret rfl (by repeat (first|exact List.Sublist.refl _|refine List.Sublist.cons _ ?_)) ⟨Mem.le_refl _, rfl, ?_⟩
        rw [soundE_large (largeB_any (any_hit hlt (by rw [bigD, decide_eq_true (show 64 < l[k].fields.length by omega)]; rfl)))]
      · repeat (first|(first|refine q4 tab rfl rfl ?_|refine q5 ?_|refine q6 ?_)|(refine qs rfl (ql tab 0 rfl rfl rfl rfl rfl rfl ?_)))
        refine TC.condP rfl (fun e2 => ?_) (fun e2 => ?_)
        · repeat (first|refine q1 ?_|refine q3 ?_|refine q4 tab rfl rfl ?_|refine q5 ?_|refine q6 ?_|refine q8 ?_|refine q9 ?_|refine q15 ?_)
          refine retQ_ret rfl (by repeat (first|exact List.Sublist.refl _|refine List.Sublist.cons _ ?_)) ⟨Mem.le_refl _, rfl, ?_⟩
          rw [soundE_large (largeB_any (any_hit hlt (by rw [bigD, decide_eq_true (show 64 < l[k].methods.length by omega), Bool.or_true])))]
        · repeat (first|refine q3 ?_|refine q6 ?_|refine q7 ?_|refine q13 ?_)
          refine TO.step rfl (OT.arith (r' := ((k + 1 : Nat) : Int)) rfl rfl rfl rfl rfl rfl rfl (by omega) ?_)
          repeat (first|refine q4 tab rfl rfl ?_|refine q5 ?_|refine q6 ?_)
          exact ⟨k + 1, (by repeat (first|exact trivial|refine And.intro rfl ?_)), (by repeat (first|exact trivial|refine And.intro rfl ?_)), rfl, rfl, (by repeat (first|exact List.Sublist.refl _|refine List.Sublist.cons _ ?_)), ⟨by omega, any_take hlt hI (by rw [bigD, decide_eq_false (show ¬ 64 < l[k].fields.length by omega), decide_eq_false (show ¬ 64 < l[k].methods.length by omega)]; rfl)⟩, by omega⟩
    · rw [List.take_of_length_le (by omega)] at hI
      have hbig : largeB l = false := largeB_no (by omega) hI
      have hsml : ∀ d ∈ l, d.fields.length ≤ 64 ∧ d.methods.length ≤ 64 := fun d hd => by
        have := List.any_eq_false.1 hI d hd
        simp only [bigD, Bool.or_eq_true, decide_eq_true_eq] at this
        omega
      clear hI h hk
      repeat (first|refine q1 ?_|refine q2 ?_|refine q3 ?_|refine q4 tab rfl rfl ?_|refine q5 ?_|refine q6 ?_|refine q10 ?_|refine q11 ?_|refine q14 ?_)
      refine TC.loopK (ι := Nat × Mem) [0, 37, 38] rfl (fun x => [(39, .int .i64 (x.1 : Int))]) (fun x => x.2) (fun _ => L) (fun x => x.1 ≤ l.length ∧ m ≤ x.2 ∧ (l.take x.1).any formD = false) (fun x => l.length - x.1) (0, m) (by repeat (first|exact trivial|refine And.intro rfl ?_)) rfl (by repeat (exact List.Sublist.refl _)) ⟨Nat.zero_le _, Mem.le_refl _, rfl⟩ ?_
      rintro ⟨k, m1⟩ ⟨hk, hm1, hI⟩
      simp only at hk hm1 hI ⊢
      repeat (first|refine q1 ?_|refine q3 ?_|refine q4 tab rfl rfl ?_|refine q5 ?_|refine q6 ?_)
      refine TC.condP rfl (fun h => ?_) (fun h => ?_)
      · have hlt : k < l.length := by omega
        have hx : l[k]? = some l[k] := by simp [hlt]
        have hmem := List.getElem_mem hlt
        have hdS := hB _ hmem
        have hd64 := hsml _ hmem
        have hs1 := hs.mono hm1
        repeat (first|refine q1 ?_|refine q2 ?_|refine q3 ?_|refine q6 ?_|refine q13 ?_)
        refine TO.step rfl (OT.index tab rDecl k hs1 rfl rfl rfl rfl rfl (by first | rfl | omega) rfl hx ?_)
        rintro b' i' hd hrd hA
        have hn1 := hrd.name
        have hi1 := hrd.iface
        have hf1 := hrd.fields.len
        have hm1' := hrd.methods.len
        have hnl := hdS.name
        (refine TO.step rfl (OT.loadA0 tab hA rfl rfl rfl rfl rfl ?_))
        skip
        refine TO.step rfl (OT.alloc tab rfl rfl rfl rfl (fun b6 => ?_))
        skip
        (refine TO.step rfl (OT.storeL0 tab 0 rfl rfl rfl rfl rfl rfl rfl rfl ?_))
        refine TO.nil ?_
        refine thenQ_n ?_
        refine TC.seq ?_
        refine TC.seq ?_
        refine TC.cutT (ι := Bool) [0, 6, 37, 38, 39] rfl (fun v => [(62, .bool v)]) (fun _ => m1) (fun _ => .cells b6 0 (declC hd) :: L) (fun v => v = headD l[k]) ?_ (fun v hv => ?_)
        · repeat (first|(first|refine q3 ?_|refine q4 tab rfl rfl ?_)|(refine qs rfl (ql tab 0 rfl rfl rfl rfl rfl rfl ?_)))
          refine TO.step rfl (OT.call rfl rfl rfl rfl rfl rfl goes45 ((name_law _ _ hd.name (by rw [hn1]; omega)).x ?_));
          rintro _ _ _ ⟨rfl, rfl, rfl⟩
          repeat (refine q4 tab rfl rfl ?_)
          refine TO.split (b := !isName hd.name) rfl rfl (fun e1 => ?_) (fun e1 => ?_)
          · repeat (first|refine q4 tab rfl rfl ?_|refine q5 ?_|refine q6 ?_)
            exact ⟨true, (by repeat (first|exact trivial|refine And.intro rfl ?_)), (by repeat (first|exact trivial|refine And.intro rfl ?_)), rfl, rfl, (by repeat (exact List.Sublist.refl _)), by rw [headD, ← hn1, e1]; rfl⟩
          · repeat (first|(refine q4 tab rfl rfl ?_)|(refine qs rfl (ql tab 0 rfl rfl rfl rfl rfl rfl ?_)))
            refine TO.step rfl (OT.call rfl rfl rfl rfl rfl rfl goes46 ((basic_law _ _ hd.name).x ?_));
            rintro _ _ _ ⟨rfl, rfl, rfl⟩
            repeat (refine q4 tab rfl rfl ?_)
            (refine TO.splitN rfl rfl (fun e2 => ?_) (fun e2 => ?_))
            · repeat (first|refine q4 tab rfl rfl ?_|refine q5 ?_|refine q6 ?_)
              exact ⟨true, (by repeat (first|exact trivial|refine And.intro rfl ?_)), (by repeat (first|exact trivial|refine And.intro rfl ?_)), rfl, rfl, (by repeat (exact List.Sublist.refl _)), by rw [headD, ← hn1, e1, decide_eq_false e2]; rfl⟩
            · repeat (first|(refine q4 tab rfl rfl ?_)|(refine qs rfl (ql tab 0 rfl rfl rfl rfl rfl rfl ?_)))
              refine TO.split (b := hd.iface) rfl rfl (fun e3 => ?_) (fun e3 => ?_)
              · repeat (first|(first|refine q4 tab rfl rfl ?_|refine q5 ?_|refine q6 ?_)|(refine qs rfl (ql tab 0 rfl rfl rfl rfl rfl rfl ?_)))
                refine ⟨decide ((0 : Int) < (hd.fields.len : Int)), (by repeat (first|exact trivial|refine And.intro rfl ?_)), (by repeat (first|exact trivial|refine And.intro rfl ?_)), rfl, rfl, (by repeat (exact List.Sublist.refl _)), ?_⟩
                rw [headD, ← hn1, e1, decide_eq_true e2, ← hi1, e3, hf1]
                simp
              · repeat (first|refine q4 tab rfl rfl ?_|refine q5 ?_|refine q6 ?_)
                exact ⟨false, (by repeat (first|exact trivial|refine And.intro rfl ?_)), (by repeat (first|exact trivial|refine And.intro rfl ?_)), rfl, rfl, (by repeat (exact List.Sublist.refl _)), by rw [headD, ← hn1, e1, decide_eq_true e2, ← hi1, e3]; rfl⟩
        · refine TC.cond (t := v) rfl (fun e => ?_) (fun e => ?_)
          · subst e
            repeat (first|refine q1 ?_|refine q3 ?_|refine q4 tab rfl rfl ?_|refine q5 ?_|refine q6 ?_|refine q8 ?_|refine q9 ?_|refine q15 ?_)
            refine retQ_ret rfl (by repeat (first|exact List.Sublist.refl _|refine List.Sublist.cons _ ?_)) ⟨hm1, rfl, ?_⟩
            rw [soundE_form hbig (any_hit hlt (by rw [formD, ← hv]; rfl))]
          · subst e
            repeat (first|(first|refine q1 ?_|refine q3 ?_|refine q4 tab rfl rfl ?_|refine q6 ?_|refine q13 ?_)|(refine qs rfl (ql tab 0 rfl rfl rfl rfl rfl rfl ?_)))
            refine TO.step rfl (OT.lit tab rfl rfl rfl rfl (fun bl => ?_))
            refine TO.freeze fun m2 hm2 hbl => ?_
            skip
            have hm02 := Mem.le_trans hm1 hm2
            refine TO.step rfl (OT.call rfl rfl rfl rfl rfl rfl goes47 ((concat_law m2 _ ⟨some ⟨bl, 0, none⟩, 2, 2⟩ [l[k].fields, l[k].methods] (two_rep (s := hd.fields) (t := hd.methods) hbl (hrd.fields.mono hm2) (hrd.methods.mono hm2)) (by simp only [List.map_cons, List.map_nil, List.sum_cons, List.sum_nil]; omega)).x ?_));
            rintro _ m3 _ ⟨hm3, rfl, u, rfl, hu⟩
            rw [all_two] at hu
            have hul := hu.len
            have hus := hu.small rfl
            have hm03 := Mem.le_trans hm02 hm3
            repeat (first|refine q2 ?_|refine q4 tab rfl rfl ?_|refine q5 ?_|refine q6 ?_)
            refine TC.loopK (ι := Nat) [0, 6, 37, 38, 39, 68, 69] rfl (fun j => [(70, .int .i64 (j : Int))]) (fun _ => m3) (fun _ => .cells b6 0 (declC hd) :: L) (fun j => j ≤ l[k].all.length ∧ NoI (badF l[k].fields.length) l[k].all j) (fun j => l[k].all.length - j) 0 (by repeat (first|exact trivial|refine And.intro rfl ?_)) rfl (by repeat (exact List.Sublist.refl _)) ⟨Nat.zero_le _, fun j x hj => by omega⟩ ?_
            rintro j ⟨hj, hJ⟩
            repeat (first|refine q1 ?_|refine q3 ?_|refine q4 tab rfl rfl ?_|refine q5 ?_|refine q6 ?_)
            refine TC.condP rfl (fun h2 => ?_) (fun h2 => ?_)
            · have hjl : j < l[k].all.length := by omega
              have hxj : l[k].all[j]? = some l[k].all[j] := by simp [hjl]
              have hfS := hdS.all _ (List.getElem_mem hjl)
              repeat (first|refine q1 ?_|refine q2 ?_|refine q3 ?_|refine q4 tab rfl rfl ?_|refine q6 ?_|refine q13 ?_)
              refine TO.step rfl (OT.index tab rField j hu rfl rfl rfl rfl rfl (by first | rfl | omega) rfl hxj ?_)
              rintro b2 i2 hf hrf hA2
              have hfn := hrf.name
              have hft := hrf.type
              have hfk := hft.kind
              (refine TO.step rfl (OT.loadA0 tab hA2 rfl rfl rfl rfl rfl ?_))
              skip
              refine TO.step rfl (OT.alloc tab rfl rfl rfl rfl (fun b8 => ?_))
              repeat (refine q4 tab rfl rfl ?_)
              (refine TO.step rfl (OT.storeL0 tab 0 rfl rfl rfl rfl rfl rfl rfl rfl ?_))
              refine TO.nil ?_
              refine thenQ_n ?_
              refine TC.seq ?_
              refine TC.cutT (ι := Bool) [0, 6, 37, 38, 39, 68, 69, 70] rfl (fun v => [(103, .bool v)]) (fun _ => m3) (fun _ => .cells b6 0 (declC hd) :: L) (fun v => v = badF l[k].fields.length j l[k].all[j]) ?_ (fun v hv => ?_)
              · repeat (first|(first|refine q3 ?_|refine q4 tab rfl rfl ?_)|(refine qs rfl (ql tab 0 rfl rfl rfl rfl rfl rfl ?_)))
                refine TO.step rfl (OT.call rfl rfl rfl rfl rfl rfl goes45 ((name_law _ _ hf.name (by rw [hfn]; omega)).x ?_));
                rintro _ _ _ ⟨rfl, rfl, rfl⟩
                repeat (refine q4 tab rfl rfl ?_)
                refine TO.split (b := !isName hf.name) rfl rfl (fun e1 => ?_) (fun e1 => ?_)
                · repeat (first|refine q4 tab rfl rfl ?_|refine q5 ?_|refine q6 ?_)
                  exact ⟨true, (by repeat (first|exact trivial|refine And.intro rfl ?_)), (by repeat (first|exact trivial|refine And.intro rfl ?_)), rfl, rfl, (by repeat (first|exact List.Sublist.refl _|refine List.Sublist.cons _ ?_)), by rw [badF, ← hfn, e1]; rfl⟩
                · repeat (first|(refine q4 tab rfl rfl ?_)|(refine qs rfl (ql tab 0 rfl rfl rfl rfl rfl rfl ?_)))
                  refine TO.step rfl (OT.call rfl rfl rfl rfl rfl rfl goes40 ((isSound_law _ _ _ hf.type hft (by omega)).x ?_));
                  rintro _ _ _ ⟨rfl, rfl, rfl⟩
                  repeat (refine q4 tab rfl rfl ?_)
                  refine TO.split (b := !l[k].all[j].type.sound) rfl rfl (fun e2 => ?_) (fun e2 => ?_)
                  · repeat (first|refine q4 tab rfl rfl ?_|refine q5 ?_|refine q6 ?_)
                    exact ⟨true, (by repeat (first|exact trivial|refine And.intro rfl ?_)), (by repeat (first|exact trivial|refine And.intro rfl ?_)), rfl, rfl, (by repeat (first|exact List.Sublist.refl _|refine List.Sublist.cons _ ?_)), by rw [badF, ← hfn, e1, e2]; rfl⟩
                  · repeat (refine q4 tab rfl rfl ?_)
                    refine TO.step rfl (OT.loadL (k := 1) tab 0 rfl rfl rfl rfl rfl rfl ?_)
                    repeat (refine q4 tab rfl rfl ?_)
                    (refine TO.splitP rfl rfl (fun e3 => ?_) (fun e3 => ?_))
                    · repeat (first|refine q4 tab rfl rfl ?_|refine q5 ?_|refine q6 ?_)
                      exact ⟨true, (by repeat (first|exact trivial|refine And.intro rfl ?_)), (by repeat (first|exact trivial|refine And.intro rfl ?_)), rfl, rfl, (by repeat (first|exact List.Sublist.refl _|refine List.Sublist.cons _ ?_)), by rw [badF, ← hfn, e1, e2, ← hfk, decide_eq_true e3]; rfl⟩
                    · repeat (first|(refine q4 tab rfl rfl ?_)|(refine qs rfl (ql tab 1 rfl rfl rfl rfl rfl rfl ?_)))
                      (refine TO.splitP rfl rfl (fun e4 => ?_) (fun e4 => ?_))
                      · repeat (refine q4 tab rfl rfl ?_)
                        refine TO.step rfl (OT.loadL (k := 1) tab 0 rfl rfl rfl rfl rfl rfl ?_)
                        repeat (first|refine q4 tab rfl rfl ?_|refine q5 ?_|refine q6 ?_)
                        refine ⟨!decide (hf.type.kind = 7), (by repeat (first|exact trivial|refine And.intro rfl ?_)), (by repeat (first|exact trivial|refine And.intro rfl ?_)), rfl, rfl, (by repeat (first|exact List.Sublist.refl _|refine List.Sublist.cons _ ?_)), ?_⟩
                        rw [badF, ← hfn, e1, e2, ← hfk, decide_eq_false e3, decide_eq_true (show l[k].fields.length ≤ j by omega)]
                        rfl
                      · repeat (first|refine q4 tab rfl rfl ?_|refine q5 ?_|refine q6 ?_)
                        refine ⟨false, (by repeat (first|exact trivial|refine And.intro rfl ?_)), (by repeat (first|exact trivial|refine And.intro rfl ?_)), rfl, rfl, (by repeat (first|exact List.Sublist.refl _|refine List.Sublist.cons _ ?_)), ?_⟩
                        rw [badF, ← hfn, e1, e2, ← hfk, decide_eq_false e3, decide_eq_false (show ¬ l[k].fields.length ≤ j by omega)]
                        rfl
              · refine TC.cond (t := v) rfl (fun e => ?_) (fun e => ?_)
                · subst e
                  repeat (first|refine q1 ?_|refine q3 ?_|refine q4 tab rfl rfl ?_|refine q5 ?_|refine q6 ?_|refine q8 ?_|refine q9 ?_|refine q15 ?_)
                  refine retQ_ret rfl (by repeat (first|exact List.Sublist.refl _|refine List.Sublist.cons _ ?_)) ⟨hm03, rfl, ?_⟩
                  rw [soundE_form hbig (any_hit hlt (by rw [formD, anyI_yes hxj hv.symm, Bool.or_true]))]
                · subst e
                  repeat (first|refine q3 ?_|refine q6 ?_|refine q7 ?_|refine q13 ?_)
                  refine TO.step rfl (OT.arith (r' := ((j + 1 : Nat) : Int)) rfl rfl rfl rfl rfl rfl rfl (by omega) ?_)
                  repeat (first|refine q4 tab rfl rfl ?_|refine q5 ?_|refine q6 ?_)
                  exact ⟨j + 1, (by repeat (first|exact trivial|refine And.intro rfl ?_)), (by repeat (first|exact trivial|refine And.intro rfl ?_)), rfl, rfl, (by repeat (exact List.Sublist.refl _)), ⟨by omega, hJ.step hjl hv.symm⟩, by omega⟩
            · repeat (first|refine q3 ?_|refine q6 ?_|refine q7 ?_|refine q10 ?_|refine q11 ?_|refine q14 ?_)
              refine TO.step rfl (OT.arith (r' := ((k + 1 : Nat) : Int)) rfl rfl rfl rfl rfl rfl rfl (by omega) ?_)
              repeat (first|refine q4 tab rfl rfl ?_|refine q5 ?_|refine q6 ?_)
              exact ⟨(k + 1, m3), (by repeat (first|exact trivial|refine And.intro rfl ?_)), (by repeat (first|exact trivial|refine And.intro rfl ?_)), rfl, rfl, (by repeat (first|exact List.Sublist.refl _|refine List.Sublist.cons _ ?_)), ⟨by simp only; omega, hm03, any_take hlt hI (by rw [formD, ← hv, hJ.all (by omega)]; rfl)⟩, by simp only; omega⟩
      · rw [List.take_of_length_le (by omega)] at hI
        have hform : l.any formD = false := hI
        have hfin : ∀ d ∈ l, ∀ f ∈ d.all, f.type.sound = true := fun d hd f hf => by
          have h1 := List.any_eq_false.1 hform d hd
          simp only [formD, Bool.or_eq_true, not_or, Bool.not_eq_true] at h1
          obtain ⟨j, hj, rfl⟩ := List.getElem_of_mem hf
          cases hc : d.all[j].type.sound with
          | true => rfl
          | false =>
            have := anyI_yes (p := badF d.fields.length) (l := d.all) (j := j) (x := d.all[j]) (by simp [hj]) (by rw [badF, hc]; simp)
            rw [h1.2] at this; cases this
        clear hI h hk
        have hs1 := hs.mono hm1
        repeat (first|refine q1 ?_|refine q3 ?_|refine q4 tab rfl rfl ?_|refine q6 ?_|refine q10 ?_|refine q11 ?_|refine q14 ?_)
        refine TO.step rfl (OT.call rfl rfl rfl rfl rfl rfl goes48 ((newTable_law m1 _ s l hs1).x ?_));
        rintro _ m2 _ ⟨hm2, rfl, bt, es, c, rfl, ho, hT⟩
        have hm02 := Mem.le_trans hm1 hm2
        repeat (first|refine q1 ?_|refine q3 ?_|refine q4 tab rfl rfl ?_|refine q5 ?_|refine q6 ?_)
        refine TO.step rfl (OT.mapLenP tab kStr rfl rfl rfl rfl rfl ho ?_)
        repeat (first|refine q4 tab rfl rfl ?_|refine q5 ?_|refine q6 ?_)
        refine TC.condN rfl (fun e5 => ?_) (fun e5 => ?_)
        · repeat (first|refine q1 ?_|refine q3 ?_|refine q4 tab rfl rfl ?_|refine q5 ?_|refine q6 ?_|refine q8 ?_|refine q15 ?_)
          refine retQ_ret rfl (by repeat (exact List.Sublist.refl _)) ⟨hm02, rfl, ?_⟩
          have : ¬ (l.map Decl.name).Nodup := fun hc => e5 (by have := hT.len.2 hc; omega)
          rw [soundE_type hbig hform (by rw [typeB, decide_eq_false this]; rfl)]
        · have hnd : (l.map Decl.name).Nodup := hT.len.1 (by omega)
          have hTR := hT.rep hnd
          have hhas : mhas es = hasD l := hTR.hasF
          have hs2 := hs.mono hm02
          repeat (first|refine q1 ?_|refine q2 ?_|refine q3 ?_|refine q4 tab rfl rfl ?_|refine q5 ?_|refine q6 ?_|refine q13 ?_)
          refine TC.loopK (ι := Nat × Mem) [0, 9, 113, 114] rfl (fun x => [(115, .int .i64 (x.1 : Int))]) (fun x => x.2) (fun _ => L) (fun x => x.1 ≤ l.length ∧ m2 ≤ x.2 ∧ (l.take x.1).any (typeD l) = false) (fun x => l.length - x.1) (0, m2) (by repeat (first|exact trivial|refine And.intro rfl ?_)) rfl (by repeat (exact List.Sublist.refl _)) ⟨Nat.zero_le _, Mem.le_refl _, rfl⟩ ?_
          rintro ⟨k, m3⟩ ⟨hk, hm3, hI⟩
          simp only at hk hm3 hI ⊢
          repeat (first|refine q1 ?_|refine q3 ?_|refine q4 tab rfl rfl ?_|refine q5 ?_|refine q6 ?_)
          refine TC.condP rfl (fun h => ?_) (fun h => ?_)
          · have hlt : k < l.length := by omega
            have hx : l[k]? = some l[k] := by simp [hlt]
            have hmem := List.getElem_mem hlt
            have hdS := hB _ hmem
            have hd64 := hsml _ hmem
            have hs3 := hs2.mono hm3
            repeat (first|refine q1 ?_|refine q2 ?_|refine q3 ?_|refine q6 ?_|refine q13 ?_)
            refine TO.step rfl (OT.index tab rDecl k hs3 rfl rfl rfl rfl rfl (by first | rfl | omega) rfl hx ?_)
            rintro b' i' hd hrd hA
            have hf1 := hrd.fields.len
            (refine TO.step rfl (OT.loadA0 tab hA rfl rfl rfl rfl rfl ?_))
            skip
            refine TO.step rfl (OT.alloc tab rfl rfl rfl rfl (fun b11 => ?_))
            skip
            (refine TO.step rfl (OT.storeL0 tab 0 rfl rfl rfl rfl rfl rfl rfl rfl ?_))
            repeat (first|refine q1 ?_|refine q3 ?_|refine q5 ?_|refine q6 ?_)
            refine TO.step rfl (OT.makeMap kStr rfl rfl rfl (fun bn => ?_))
            repeat (first|(first|refine q1 ?_|refine q3 ?_|refine q4 tab rfl rfl ?_|refine q5 ?_|refine q6 ?_)|(refine qs rfl (ql tab 1 rfl rfl rfl rfl rfl rfl ?_)))
            refine TO.step rfl (OT.lit tab rfl rfl rfl rfl (fun bl => ?_))
            refine TO.freeze fun m4 hm4 hbl => ?_
            skip
            refine TO.step rfl (OT.call rfl rfl rfl rfl rfl rfl goes47 ((concat_law m4 _ ⟨some ⟨bl, 0, none⟩, 2, 2⟩ [l[k].fields, l[k].methods] (two_rep (s := hd.fields) (t := hd.methods) hbl (hrd.fields.mono hm4) (hrd.methods.mono hm4)) (by simp only [List.map_cons, List.map_nil, List.sum_cons, List.sum_nil]; omega)).x ?_));
            rintro _ m5 _ ⟨hm5, rfl, u, rfl, hu⟩
            rw [all_two] at hu
            have hul := hu.len
            have hus := hu.small rfl
            have hm35 := Mem.le_trans hm3 (Mem.le_trans hm4 hm5)
            have hm05 := Mem.le_trans hm02 hm35
            have ho5 := hm35.o _ _ ho
            have hT5 := hTR.mono hm35
            repeat (first|refine q2 ?_|refine q4 tab rfl rfl ?_|refine q5 ?_|refine q6 ?_)
            refine TC.loopK (ι := Nat × Ents Str × Nat) [0, 9, 11, 12, 113, 114, 115, 125, 126] rfl (fun x => [(127, .int .i64 (x.1 : Int))]) (fun _ => m5) (fun x => .obj bn (mapO kStr x.2.1 x.2.2) :: .cells b11 0 (declC hd) :: L) (fun x => x.1 ≤ l[k].all.length ∧ Seen x.2.1 ((l[k].all.take x.1).map Fld.name) ∧ ((l[k].all.take x.1).map Fld.name).Nodup ∧ NoI (badK l l[k].fields.length) l[k].all x.1) (fun x => l[k].all.length - x.1) (0, [], 0) (by repeat (first|exact trivial|refine And.intro rfl ?_)) rfl (by repeat (exact List.Sublist.refl _)) ⟨Nat.zero_le _, Seen.nil, List.nodup_nil, fun j x hj => by omega⟩ ?_
            rintro ⟨j, es2, c2⟩ ⟨hj, hS, hN, hJ⟩
            simp only at hj hS hN hJ ⊢
            repeat (first|refine q1 ?_|refine q3 ?_|refine q4 tab rfl rfl ?_|refine q5 ?_|refine q6 ?_)
            refine TC.condP rfl (fun h2 => ?_) (fun h2 => ?_)
            · have hjl : j < l[k].all.length := by omega
              have hxj : l[k].all[j]? = some l[k].all[j] := by simp [hjl]
              have hfS := hdS.all _ (List.getElem_mem hjl)
              repeat (first|refine q1 ?_|refine q2 ?_|refine q3 ?_|refine q4 tab rfl rfl ?_|refine q6 ?_|refine q13 ?_)
              refine TO.step rfl (OT.index tab rField j hu rfl rfl rfl rfl rfl (by first | rfl | omega) rfl hxj ?_)
              rintro b2 i2 hf hrf hA2
              have hfn := hrf.name
              have hft := hrf.type
              have hval := hS.val hf.name
              (refine TO.step rfl (OT.loadA0 tab hA2 rfl rfl rfl rfl rfl ?_))
              skip
              refine TO.step rfl (OT.alloc tab rfl rfl rfl rfl (fun b14 => ?_))
              repeat (refine q4 tab rfl rfl ?_)
              (refine TO.step rfl (OT.storeL0 tab 0 rfl rfl rfl rfl rfl rfl rfl rfl ?_))
              repeat (first|(first|refine q1 ?_|refine q3 ?_|refine q4 tab rfl rfl ?_|refine q5 ?_|refine q6 ?_)|(refine qs rfl (ql tab 0 rfl rfl rfl rfl rfl rfl ?_)))
              refine TO.step rfl (OT.lookupOk tab kStr 1 hf.name rfl rfl rfl rfl rfl rfl rfl rfl ?_)
              refine TO.conv ?_ (congrArg (fun z => Value.tuple ⟨[z, .bool (mhas es2 hf.name)]⟩) hval)
              repeat (refine q4 tab rfl rfl ?_)
              refine TO.step rfl (OT.alloc tab rfl rfl rfl rfl (fun b15 => ?_))
              skip
              (refine TO.step rfl (OT.storeL0 tab 0 rfl rfl rfl rfl rfl rfl rfl rfl ?_))
              refine TO.pureP tab rfl rfl ?_
              refine TO.nil ?_
              refine thenQ_n ?_
              refine TC.seq ?_
              refine TC.cutT (ι := Bool) [0, 9, 11, 12, 14, 113, 114, 115, 125, 126, 127] rfl (fun v => [(159, .bool v)]) (fun _ => m5) (fun _ => .cells b14 0 (fieldC hf) :: .obj bn (mapO kStr es2 c2) :: .cells b11 0 (declC hd) :: L) (fun v => v = (mhas es2 hf.name || badK l l[k].fields.length j l[k].all[j])) ?_ (fun v hv => ?_)
              · repeat (first|refine q3 ?_|refine q4 tab rfl rfl ?_)
                refine TO.split (b := mhas es2 hf.name) rfl rfl (fun e1 => ?_) (fun e1 => ?_)
                · repeat (first|refine q4 tab rfl rfl ?_|refine q5 ?_|refine q6 ?_)
                  exact ⟨true, (by repeat (first|exact trivial|refine And.intro rfl ?_)), (by repeat (first|exact trivial|refine And.intro rfl ?_)), rfl, rfl, (by repeat (first|exact List.Sublist.refl _|refine List.Sublist.cons _ ?_)), by rw [e1]; rfl⟩
                · repeat (first|(refine q4 tab rfl rfl ?_)|(refine qs rfl (ql tab 1 rfl rfl rfl rfl rfl rfl ?_)))
                  refine TO.step rfl (OT.call rfl rfl rfl rfl rfl rfl goes49 ((tknown_law bt c es hT5.ok l[k].all[j].type _ _ hf.type hft ho5).x ?_));
                  rintro _ _ _ ⟨rfl, rfl, rfl⟩
                  rw [hhas]
                  repeat (refine q4 tab rfl rfl ?_)
                  refine TO.split (b := !tknown (hasD l) l[k].all[j].type) rfl rfl (fun e2 => ?_) (fun e2 => ?_)
                  · repeat (first|refine q4 tab rfl rfl ?_|refine q5 ?_|refine q6 ?_)
                    exact ⟨true, (by repeat (first|exact trivial|refine And.intro rfl ?_)), (by repeat (first|exact trivial|refine And.intro rfl ?_)), rfl, rfl, (by repeat (first|exact List.Sublist.refl _|refine List.Sublist.cons _ ?_)), by rw [e1, badK, e2]; rfl⟩
                  · repeat (first|(refine q4 tab rfl rfl ?_)|(refine qs rfl (ql tab 3 rfl rfl rfl rfl rfl rfl ?_)))
                    (refine TO.splitP rfl rfl (fun e3 => ?_) (fun e3 => ?_))
                    · repeat (first|(refine q4 tab rfl rfl ?_)|(refine qs rfl (ql tab 1 rfl rfl rfl rfl rfl rfl ?_)))
                      refine TO.step rfl (OT.call rfl rfl rfl rfl rfl rfl goes50 ((tstruct_law l[k].all[j].type bt c es l _ _ hf.type hft ho5 hT5).x ?_));
                      rintro _ _ _ ⟨rfl, rfl, rfl⟩
                      repeat (first|refine q4 tab rfl rfl ?_|refine q5 ?_|refine q6 ?_)
                      exact ⟨isStructD l l[k].all[j].type, (by repeat (first|exact trivial|refine And.intro rfl ?_)), (by repeat (first|exact trivial|refine And.intro rfl ?_)), rfl, rfl, (by repeat (first|exact List.Sublist.refl _|refine List.Sublist.cons _ ?_)), by rw [e1, badK, e2, decide_eq_true (show j < l[k].fields.length by omega)]; rfl⟩
                    · repeat (first|refine q4 tab rfl rfl ?_|refine q5 ?_|refine q6 ?_)
                      exact ⟨false, (by repeat (first|exact trivial|refine And.intro rfl ?_)), (by repeat (first|exact trivial|refine And.intro rfl ?_)), rfl, rfl, (by repeat (first|exact List.Sublist.refl _|refine List.Sublist.cons _ ?_)), by rw [e1, badK, e2, decide_eq_false (show ¬ j < l[k].fields.length by omega)]; rfl⟩
              · rw [hS.has, hfn] at hv
                refine TC.cond (t := v) rfl (fun e => ?_) (fun e => ?_)
                · subst e
                  repeat (first|refine q1 ?_|refine q3 ?_|refine q4 tab rfl rfl ?_|refine q5 ?_|refine q6 ?_|refine q8 ?_|refine q9 ?_|refine q15 ?_)
                  refine retQ_ret rfl (by repeat (first|exact List.Sublist.refl _|refine List.Sublist.cons _ ?_)) ⟨hm05, rfl, ?_⟩
                  rw [soundE_type hbig hform]
                  rw [typeB, any_hit hlt, Bool.or_true]
                  rw [typeD]
                  have hv := hv.symm
                  rw [Bool.or_eq_true] at hv
                  rcases hv with hv | hv
                  · rw [decide_eq_false (fnames_twice hjl (of_decide_eq_true hv))]; rfl
                  · rw [anyI_yes hxj hv, Bool.or_true]
                · subst e
                  have hv := hv.symm
                  rw [Bool.or_eq_false_iff] at hv
                  obtain ⟨g1, g2⟩ := hv
                  have hsn : (l[k].all.take (j + 1)).map Fld.name = (l[k].all.take j).map Fld.name ++ [hf.name] := by
                    rw [List.take_succ_eq_append_getElem hjl, List.map_append, hfn]; rfl
                  repeat (first|(first|refine q3 ?_|refine q4 tab rfl rfl ?_|refine q6 ?_|refine q13 ?_)|(refine qs rfl (ql tab 0 rfl rfl rfl rfl rfl rfl ?_)))
                  refine TO.step rfl (OT.mapSet tab kStr 1 hf.name rfl rfl rfl rfl rfl rfl rfl ?_)
                  repeat (first|refine q3 ?_|refine q5 ?_|refine q6 ?_|refine q7 ?_)
                  refine TO.step rfl (OT.arith (r' := ((j + 1 : Nat) : Int)) rfl rfl rfl rfl rfl rfl rfl (by omega) ?_)
                  repeat (first|refine q4 tab rfl rfl ?_|refine q5 ?_|refine q6 ?_)
                  exact ⟨(j + 1, mset es2 hf.name (.agg ⟨[]⟩) c2, mclock es2 hf.name c2), (by repeat (first|exact trivial|refine And.intro rfl ?_)), (by repeat (first|exact trivial|refine And.intro rfl ?_)), rfl, rfl, (by repeat (first|exact List.Sublist.refl _|refine List.Sublist.cons _ ?_)), ⟨by simp only; omega, by simp only [hsn]; exact hS.add _ _, (fnames_snoc _ j hjl).2 ⟨hN, of_decide_eq_false g1⟩, hJ.step hjl g2⟩, by simp only; omega⟩
            · rw [List.take_of_length_le (by omega)] at hN
              repeat (first|refine q3 ?_|refine q6 ?_|refine q7 ?_|refine q10 ?_|refine q11 ?_|refine q14 ?_)
              refine TO.step rfl (OT.arith (r' := ((k + 1 : Nat) : Int)) rfl rfl rfl rfl rfl rfl rfl (by omega) ?_)
              repeat (first|refine q4 tab rfl rfl ?_|refine q5 ?_|refine q6 ?_)
              exact ⟨(k + 1, m5), (by repeat (first|exact trivial|refine And.intro rfl ?_)), (by repeat (first|exact trivial|refine And.intro rfl ?_)), rfl, rfl, (by repeat (first|exact List.Sublist.refl _|refine List.Sublist.cons _ ?_)), ⟨by simp only; omega, hm35, any_take hlt hI (by rw [typeD, decide_eq_true hN, hJ.all (by omega)]; rfl)⟩, by simp only; omega⟩
          · rw [List.take_of_length_le (by omega)] at hI
            repeat (first|refine q1 ?_|refine q3 ?_|refine q4 tab rfl rfl ?_|refine q5 ?_|refine q6 ?_|refine q10 ?_|refine q11 ?_|refine q14 ?_|refine q15 ?_)
            refine retQ_ret rfl (by repeat (exact List.Sublist.refl _)) ⟨Mem.le_trans hm02 hm3, rfl, ?_⟩
            rw [soundE_ok hbig hform (by rw [typeB, decide_eq_true hnd, hI]; rfl)]
end Go.Sep
