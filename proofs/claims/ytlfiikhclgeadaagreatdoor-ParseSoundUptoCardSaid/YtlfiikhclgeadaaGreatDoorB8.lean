/- PsRowN -/
import Derived.Deep.Slices
import Derived.Deep.CondSized
import Derived.ChangeStays
import Derived.Lib.SmallJoins
import Derived.Test.YtlfiikhclgeadaaGreatDoorB7
set_option linter.unusedVariables false
set_option linter.unusedSimpArgs false
namespace Go.Sep
open Go.Proofs Go.ChangeShapes Go.WideShapes Go.Proofs.YtlfiikhclgeadaaGreatDoor
theorem TreeRep.leaf (m : Mem) (k : Int) (n : Str) (u : Int) : TreeRep m ⟨k, n, u, ⟨none, 0, 0⟩⟩ (.mk k n u []) := ⟨rfl, rfl, rfl, SlRep.nil _ _⟩
theorem St.same {W w' : World} {m' : Mem} {L' : List Item} (h : St m' w' L') (hm : memOf W ≤ m') {p : MemPlace} (hlt : p.block < W.heap.size) : W.sameAt w' p := by
 have hp : m'.pin = W := hm.pin
 have hpin := h.pin
 rw [hp] at hpin
 cases p with
 | cell b off => exact World.cell?_of_block (hpin b hlt)
 | map b => exact hpin b hlt
theorem build2 {H α : Type} {Q : Nat → H → α → Prop} : ∀ n : Nat, (∀ i, i < n → ∃ h a, Q i h a) → ∃ (hs : List H) (al : List α), hs.length = n ∧ al.length = n ∧ ∀ i, i < n → ∃ h a, hs[i]? = some h ∧ al[i]? = some a ∧ Q i h a
 | 0, _ => ⟨[], [], rfl, rfl, fun i hi => by omega⟩
 | n + 1, hq => by
  obtain ⟨hs, al, h1, h2, h3⟩ := build2 n (fun i hi => hq i (by omega))
  obtain ⟨h, a, hQ⟩ := hq n (by omega)
  refine ⟨hs ++ [h], al ++ [a], by simp [h1], by simp [h2], fun i hi => ?_⟩
  by_cases e : i = n
  ·subst e
   exact ⟨h, a, by simp [← h1], by simp [← h2], hQ⟩
  ·obtain ⟨h', a', q1, q2, q3⟩ := h3 i (by omega)
   exact ⟨h', a', by rw [List.getElem?_append_left (by omega)]; exact q1, by rw [List.getElem?_append_left (by omega)]; exact q2, q3⟩
theorem all2_of {H α : Type} {r : H → α → Prop} : ∀ (hs : List H) (al : List α), hs.length = al.length → (∀ (i : Nat) (h : H) (a : α), hs[i]? = some h → al[i]? = some a → r h a) → All2 r hs al
 | [], [], _, _ => trivial
 | h :: hs, a :: al, hl, hr => ⟨hr 0 h a rfl rfl, all2_of hs al (by simpa using hl) fun i h' a' h1 h2 => hr (i + 1) h' a' (by simpa using h1) (by simpa using h2)⟩
theorem at_encs {H α : Type} (r : R H α) {m : Mem} {b : Nat} : ∀ (hs : List H) (o : Nat), (∀ i h, hs[i]? = some h → At m b (o + i * r.size) (r.enc h)) → At m b o (encs r hs)
 | [], o, _ => At.nil _ _ _
 | h :: hs, o, hA => by
  have h0 := hA 0 h rfl
  rw [Nat.zero_mul, Nat.add_zero] at h0
  have ih := at_encs r hs (o + r.size) fun i h' hi => by
   have := hA (i + 1) h' (by simpa using hi)
   rwa [show o + (i + 1) * r.size = o + r.size + i * r.size by rw [Nat.add_mul]; omega] at this
  refine At.append h0 ?_
  rw [r.enc_len]
  exact ih
theorem weights_mem_all {HH : Type} {P : Program} {e : TypeId} : ∀ {ds : List (DataW HH)} {d : DataW HH}, d ∈ ds → ∀ n ∈ d.weights P e, n ∈ DataW.weightsAll P e ds
 | d0 :: ds, d, hd, n, hn => by
  rw [DataW.weightsAll, List.mem_append]
  rcases List.mem_cons.1 hd with rfl | hd
  ·exact .inl hn
  ·exact .inr (weights_mem_all hd n hn)
 | [], d, hd, n, hn => by cases hd
theorem four {cs : List Value} (h : cs.length = 4) : ∃ a b c d, cs = [a, b, c, d] :=
 match cs, h with
 | [a, b, c, d], _ => ⟨a, b, c, d, rfl⟩
theorem bulk_part {HH : Type} {d : DataW HH} {l : List (DataW HH)} (h : d ∈ l) : Rows.uptoBulk d ≤ Rows.uptoBulkAll l := by
 induction l with
 | nil => cases h
 | cons x r ih =>
  simp only [Rows.uptoBulkAll]
  cases List.mem_cons.1 h with
  | inl e => subst e; omega
  | inr e => have := ih e; omega
theorem bulk_one {HH : Type} (d : DataW HH) : 1 ≤ Rows.uptoBulk d := by
 cases d with
 | lit l => cases l <;> simp [Rows.uptoBulk]
 | _ => simp [Rows.uptoBulk]
theorem bulk_list {HH : Type} (D : Nat → DataW HH) : ∀ (n : Nat) (al : List Tree), al.length = n → (∀ i a, al[i]? = some a → a.bulk ≤ Rows.uptoBulk (D i)) → bulkL al ≤ Rows.uptoBulkAll ((List.range n).map D)
 | 0, al, hl, _ => by rw [List.length_eq_zero_iff.1 hl]; simp [bulkL, Rows.uptoBulkAll]
 | n + 1, al, hl, h => by
  obtain ⟨al', x, rfl⟩ : ∃ al' x, al = al' ++ [x] := ⟨al.take n, al[n], by rw [← List.take_succ_eq_append_getElem (by omega), List.take_of_length_le (by omega)]⟩
  have hl' : al'.length = n := by simpa using hl
  have ih := bulk_list D n al' hl' (fun i a hi => h i a (by rw [List.getElem?_append_left (List.getElem?_eq_some_iff.1 hi).1]; exact hi))
  have hx := h n x (by rw [← hl']; simp)
  have e1 : ∀ l r : List Tree, bulkL (l ++ r) = bulkL l + bulkL r := by
   intro l r
   induction l with
   | nil => simp [bulkL]
   | cons t ts ih => simp only [List.cons_append, bulkL, ih]; omega
  have e2 : ∀ l r : List (DataW HH), Rows.uptoBulkAll (l ++ r) = Rows.uptoBulkAll l + Rows.uptoBulkAll r := by
   intro l r
   induction l with
   | nil => simp [Rows.uptoBulkAll]
   | cons t ts ih => simp only [List.cons_append, Rows.uptoBulkAll, ih]; omega
  rw [List.range_succ, List.map_append, e1, e2]
  simp only [bulkL, List.map_cons, List.map_nil, Rows.uptoBulkAll]
  omega
section
variable {HH : Type} {enc : TypeId × Value → HH} {W : World}
theorem reads_tree24 : ∀ (N : Nat) (fuel : Nat) (cs : List Value) (x : DataW HH × List MemPlace), Rows.uptoBulk x.1 ≤ N → DataW.trod enc Tryz.prog W 0 (fun _ => true) true fuel 24 cs = some x → (∀ n ∈ x.1.weights Tryz.prog 24, n ≤ reachBytes) →
  ∃ h a, cs = treeC h ∧ TreeRep (memOf W) h a ∧ a.bulk ≤ Rows.uptoBulk x.1 := by
 intro N
 induction N with
 | zero => intro fuel cs x hN h hw; have := bulk_one x.1; omega
 | succ N ih =>
  intro fuel cs x hN h hw
  obtain ⟨y0, y1, y2, y3, n, rfl, hl, t0, t1, t2, t3⟩ := Go.Joins.trod_struct4 Tryz.underlying24 h
  have c : Tryz.prog.cellsOf 24 = 4 := by kernel_rfl
  have c3 : Tryz.prog.cellsOf 3 = 1 := by kernel_rfl
  have c9 : Tryz.prog.cellsOf 9 = 1 := by kernel_rfl
  have ck : Tryz.prog.cellsOf 22 = 1 := by kernel_rfl
  have bt : Tryz.prog.bytesOf 24 = 56 := by kernel_rfl
  rw [c] at hl
  obtain ⟨v0, v1, v2, v3, rfl⟩ := four hl
  simp only [c3, c9, ck, List.drop, List.take] at t0 t1 t2 t3
  simp only [DataW.weights, Tryz.underlying24, List.map_cons, List.map_nil, DataW.weightsEach] at hw
  simp only [Rows.uptoBulk, Rows.uptoBulkAll] at hN ⊢
  obtain ⟨n0, e0, _, _⟩ := DataW.trod_int Tryz.underlying3 t0
  obtain ⟨s, e1, d1, _⟩ := DataW.trod_string Tryz.underlying9 t1
  obtain ⟨n2, e2, _, _⟩ := DataW.trod_int Tryz.underlying3 t2
  simp only [List.cons.injEq, and_true] at e0 e1 e2
  subst e0 e1 e2
  have hs : s.data.toList.length + 1 ≤ Rows.uptoBulk y1.1 := by
   rw [d1]
   simp [Rows.uptoBulk]
  rcases Deep.open_slice Tryz.underlying22 t3 with ⟨e3, hx⟩ | ⟨a, len, cap, mm, n', D, Pl, e3, _, hlc, _, hmm, hx, hel⟩
  ·simp only [List.cons.injEq, and_true] at e3
   subst e3
   refine ⟨⟨n0, s.data.toList, n2, ⟨none, 0, 0⟩⟩, .mk n0 s.data.toList n2 [], rfl, TreeRep.leaf _ _ _ _, ?_⟩
   have := bulk_one y0.1
   simp only [Tree.bulk, bulkL]
   omega
  ·simp only [List.cons.injEq, and_true] at e3
   subst e3
   simp only [if_true] at hmm
   subst hmm
   subst hx
   have hw3 : ∀ w ∈ DataW.weights Tryz.prog 22 (.slice ((List.range len).map D) ((List.range (mm - len)).map fun j => D (len + j))), w ≤ reachBytes := fun w hwm => hw w (by simp [hwm])
   simp only [DataW.weights, Tryz.underlying22] at hw3
   have hfit : len * 56 ≤ 140737488355328 := by
    have := hw3 _ (List.mem_cons_self ..)
    rw [bt] at this
    simp only [List.length_map, List.length_range] at this
    have h2 : len * 56 ≤ (len + (mm - len)) * 56 := Nat.mul_le_mul_right _ (by omega)
    have h3 : reachBytes ≤ 140737488355328 := by decide
    omega
   simp only [Rows.uptoBulk] at hN ⊢
   have hDi : ∀ i, i < len → Rows.uptoBulk (D i) ≤ Rows.uptoBulkAll ((List.range len).map D) := fun i hi => bulk_part (List.mem_map.2 ⟨i, by simpa using hi, rfl⟩)
   have hel2 : ∀ i, i < len → ∃ (h : HTree) (a' : Tree), W.cells? 0 (a.add (i * 4)) 4 = some (treeC h) ∧ TreeRep (memOf W) h a' ∧ a'.bulk ≤ Rows.uptoBulk (D i) := fun i hi => by
    obtain ⟨cs', h1, h2⟩ := hel i (by omega)
    rw [c] at h1
    have hd := hDi i hi
    have h0 := bulk_one y0.1
    obtain ⟨h', a', rfl, h4, h5⟩ := ih n' cs' _ (by simp only; omega) h2 (fun w hwm => hw3 w (List.mem_cons_of_mem _ (List.mem_append_left _ (weights_mem_all (d := D i) (List.mem_map.2 ⟨i, by simpa using hi, rfl⟩) w hwm))))
    exact ⟨h', a', h1, h4, h5⟩
   obtain ⟨hs', al, l1, l2, l3⟩ := build2 len hel2
   have hbl := bulk_list D len al l2 (fun i a' hi => by
    obtain ⟨h2, a2, p1, p2, _, _, p5⟩ := l3 i (by have := (List.getElem?_eq_some_iff.1 hi).1; omega)
    rw [p2] at hi
    simp only [Option.some.injEq] at hi
    subst hi
    exact p5)
   refine ⟨⟨n0, s.data.toList, n2, ⟨some a, len, mm⟩⟩, .mk n0 s.data.toList n2 al, rfl, ⟨rfl, rfl, rfl, l2.symm, hlc, hfit, hs', ?_, ?_⟩, ?_⟩
   ·refine all2_of hs' al (by omega) fun i h' a' q1 q2 => ?_
    obtain ⟨h2, a2, p1, p2, _, p4, _⟩ := l3 i (by have := (List.getElem?_eq_some_iff.1 q1).1; omega)
    rw [p1] at q1; rw [p2] at q2
    simp only [Option.some.injEq] at q1 q2
    subst q1; subst q2
    exact rTree_iff.2 p4
   ·by_cases hl0 : len = 0
    ·left
     exact ⟨List.eq_nil_of_length_eq_zero (by simp only [Tree.kids]; omega), fun e => by cases e⟩
    ·right
     obtain ⟨b, o, spot⟩ := a
     have hspot : spot = none := by
      obtain ⟨h2, a2, _, _, p3, _⟩ := l3 0 (by omega)
      obtain ⟨_, q2, q3⟩ := World.cells?_some p3
      have := q3 0 (by omega)
      have hlen : 0 < (treeC h2).length := by simp [treeC]
      rw [List.getElem?_eq_getElem hlen] at this
      have hs := World.cell?_spot this
      simpa [Addr.add] using hs
     subst hspot
     refine ⟨b, o, rfl, at_encs rTree hs' o fun i h' hi => ?_⟩
     have hil := (List.getElem?_eq_some_iff.1 hi).1
     obtain ⟨h2, a2, p1, _, p3, _⟩ := l3 i (by omega)
     rw [p1] at hi
     simp only [Option.some.injEq] at hi
     subst hi
     obtain ⟨_, q2, q3⟩ := World.cells?_some p3
     intro j v hv
     have hj := (List.getElem?_eq_some_iff.1 hv).1
     have hj4 : j < 4 := by have e4 : (rTree.enc h2).length = 4 := rTree.enc_len h2; omega
     have := q3 j hj4
     rw [show (treeC h2)[j]? = some v from hv, addr_add, addr_add] at this
     exact this
   ·simp only [Tree.bulk]
    omega
end
end Go.Sep
namespace Go.Proofs.YtlfiikhclgeadaaGreatDoor
open Go.ChangeShapes Go.WideShapes Go.ChangeAt Go.RowKit Go.Sep
set_option linter.unusedVariables false
set_option linter.unusedSimpArgs false
theorem kids : Kids Tryz.prog (· < Tryz.prog.types.size) := kids_rows (by kernel_rfl) (by kernel_rfl)
theorem full : ∀ t e, t < Tryz.prog.types.size → Tryz.prog.underlying t = some (.slice e) → 0 < Tryz.prog.cellsOf e := slices_full_of Tryz.prog (by kernel_rfl)
theorem in24 : (24 : TypeId) < Tryz.prog.types.size := of_decide_eq_true (by kernel_rfl)
theorem stays {H : Type} {enc : TypeId × Value → H} {W w' : World} {m' : Mem} {L' : List Sep.Item} (h : St m' w' L') (hm : memOf W ≤ m') {t : TypeId} (ht : t < Tryz.prog.types.size) {v : Value} {d : DataW H} {ps : List MemPlace}
  (hd : DataW.Trod enc Tryz.prog W 0 (fun _ => true) true t v d ps) (hlt : ∀ p ∈ ps, p.block < W.heap.size) {sp' : Nat → Bool} (hs : ∀ p ∈ ps, sp' p.block = true) : DataW.Trod enc Tryz.prog w' 0 sp' true t v d ps := by
 obtain ⟨n, hn⟩ := hd
 exact ⟨n, DataW.trod_stays kids (fun h1 h2 => full _ _ h1 h2) (fun e => by cases e) ht hn (fun p hp => h.same hm (hlt p hp)) hs⟩
set_option maxRecDepth 100000 in
theorem lawN {f : FuncId} {fn : Func} {s : ChangeSpec} (hvars : s.vars = []) (hpar : fn.params = #[24]) (hres : fn.resultTypes = #[4])
  (hfn : ∀ (H : Type) (d : DataW H), s.fn H [d] = { results := [.lit (.bool true)], args := [d] })
  (ok : Tree → Prop) (hT : ∀ (m : Mem) (L : List Sep.Item) (h : HTree) (a : Tree), Errs m → TreeRep m h a → ok a → TCall Tryz.prog f ⟨[treeV h]⟩ m L (Made m L fun r _ => r = .bool true))
  {fresh handsOn : Bool} (H : Type) (enc : TypeId × Value → H) (W : World) (base : Nat) (args : Array Value) (ds gs : List (DataW H)) (before : List MemPlace)
  (hval : ∀ (j : Nat) t v, fn.params[j]? = some t → args[j]? = some v → Value.okWide Tryz.prog W .any base t v)
  (hW : DataW.Whole enc Tryz.prog fn.params.toList s.vars false W args.toList ds gs before) (hok : ∀ (d : DataW H) (a : Tree), ds ++ gs = [d] → a.bulk ≤ Rows.uptoBulk d → ok a) (hL : laidMetH Tryz.prog laidL W)
  (hsz : (DataW.weightsEach Tryz.prog (fn.params.toList ++ s.plain.varTypes Tryz.prog) (ds ++ gs)).all (· ≤ reachBytes) = true) :
  Calls Tryz.prog f args W fun e W' => ∃ v, e = .returned v ∧ s.post enc Tryz.prog fn false fresh handsOn false W args v W' := by
 have hlt : ∀ p ∈ before, p.block < W.heap.size := fun p hp => hW.lt p hp
 have hW' := hW
 obtain ⟨p, q, hA0, hV, rfl, hfz, hnd⟩ := hW
 rw [hvars] at hV
 obtain ⟨rfl, rfl⟩ := trodVars_none hV
 rw [hpar] at hA0 hval hsz
 obtain ⟨v, d, rfl, rfl, h0⟩ := trodAll_one hA0
 simp only [List.append_nil] at hW' hlt hsz
 have hv := hval 0 24 v rfl rfl
 obtain ⟨n, hn⟩ := h0
 have hwts : ∀ w ∈ d.weights Tryz.prog 24, w ≤ reachBytes := fun w hw => by
  have := List.all_eq_true.1 hsz w (DataW.weights_mem_each (j := 0) (t := 24) (d := d) rfl rfl w hw)
  simpa using this
 obtain ⟨h, a, he, hr, hB⟩ := reads_tree24 _ n _ _ (Nat.le_refl _) hn hwts
 have hv24 : v = treeV h := by
  unfold Value.okWide at hv
  rw [Tryz.underlying24] at hv
  obtain ⟨cs, rfl, _, _⟩ := hv
  have : cs.toList = treeC h := he
  exact congrArg Value.agg (Array.ext' this)
 subst hv24
 refine (hT (memOf W) [] h a (errs_of hL) hr (hok _ _ rfl hB) W (St.start W)).mono fun e W' hX => ?_
 cases e with
 | returned r =>
  obtain ⟨m', L', hst, hle, _, rfl⟩ := hX
  refine ⟨_, rfl, post_old (pa := p) (pv := []) hW' (fun _ _ _ => ?_) (fun sp hsp => ?_) (fun _ _ => ?_) (hst.kept hle)⟩
  ·rw [hres, show ([d] ++ [] : List (DataW H)) = [d] from rfl, hfn]
   exact trodAll_mk1 (shut_bool Tryz.underlying4 _)
  ·rw [hpar, show ([d] ++ [] : List (DataW H)) = [d] from rfl, hfn]
   exact trodAll_mk1 (stays hst hle in24 ⟨n, hn⟩ hlt hsp)
  ·rw [hvars, show ([d] ++ [] : List (DataW H)) = [d] from rfl, hfn]
   rfl
 | panicked ch =>
  obtain ⟨_, _, _, hf⟩ := hX
  exact hf.elim
 | outgrown => exact hX.elim
end Go.Proofs.YtlfiikhclgeadaaGreatDoor


/- ScUint -/
set_option linter.unusedVariables false
set_option linter.unusedSimpArgs false
namespace Go.Sep
open Go.Proofs
attribute [local irreducible] TC TO OT TCallX TCall DO DOt thenQ blockQ retQ At
theorem u64_in {n : Int} (h1 : 0 ≤ n) (h2 : n < 18446744073709551616) : IntKind.u64.wrap n = n := by
 simp only [IntKind.wrap, IntKind.signed, IntKind.bits, Bool.false_and, Bool.false_eq_true, if_false]
 omega
theorem u8_in {n : Int} (h1 : 0 ≤ n) (h2 : n < 256) : IntKind.u8.wrap n = n := by
 simp only [IntKind.wrap, IntKind.signed, IntKind.bits, Bool.false_and, Bool.false_eq_true, if_false]
 omega
def dv (c : UInt8) : Option Nat :=
 if 48 ≤ c.toNat ∧ c.toNat ≤ 57 then some (c.toNat - 48)
 else if 97 ≤ lowerN c ∧ lowerN c ≤ 122 then some (lowerN c - 97 + 10) else none
def pU (base maxV : Nat) : Str → Nat → Option Nat
 | [], n => some n
 | c :: cs, n => match dv c with
  | none => none
  | some d => if d < base ∧ n * base + d ≤ maxV then pU base maxV cs (n * base + d) else none
def UintR (top : Nat) (o : Option Nat) (r : Value) : Prop :=
 (∃ v, v ≤ top ∧ o = some v ∧ r = .tuple ⟨[.int .u64 (v : Int), .nilIface]⟩) ∨ (o = none ∧ ∃ v k, (k = 1 ∧ v = (top : Int) ∨ k = 2) ∧ r = .tuple ⟨[.int .u64 v, .iface 109 (.int .i64 k)]⟩)
theorem pU_step {base maxV : Nat} {s : Str} {k n : Nat} (h : k < s.length) : pU base maxV (s.drop k) n = match dv s[k] with
  | none => none
  | some d => if d < base ∧ n * base + d ≤ maxV then pU base maxV (s.drop (k + 1)) (n * base + d) else none := by
 rw [List.drop_eq_getElem_cons h, pU]
theorem lowerN_lt (c : UInt8) : lowerN c < 256 := by
 have := (by decide +kernel : ∀ n : Fin 256, n.val ||| 32 < 256) ⟨c.toNat, c.toNat_lt⟩
 exact this
theorem dv_lt {c : UInt8} {d : Nat} (h : dv c = some d) : d < 36 := by
 unfold dv at h
 split at h
 ·cases h; omega
 ·split at h
  ·cases h; omega
  ·cases h
theorem dv_dig {c : UInt8} (h1 : 48 ≤ c.toNat) (h2 : c.toNat ≤ 57) : dv c = some (c.toNat - 48) := by
 rw [dv, if_pos ⟨h1, h2⟩]
theorem dv_low {c : UInt8} (h0 : ¬ (48 ≤ c.toNat ∧ c.toNat ≤ 57)) (h1 : 97 ≤ lowerN c) (h2 : lowerN c ≤ 122) : dv c = some (lowerN c - 97 + 10) := by
 rw [dv, if_neg h0, if_pos ⟨h1, h2⟩]
theorem dv_none {c : UInt8} (h0 : ¬ (48 ≤ c.toNat ∧ c.toNat ≤ 57)) (h1 : ¬ (97 ≤ lowerN c ∧ lowerN c ≤ 122)) : dv c = none := by
 rw [dv, if_neg h0, if_neg h1]
theorem pU_none {base maxV : Nat} {s : Str} {k n : Nat} (h : k < s.length) (h2 : dv s[k] = none) : pU base maxV (s.drop k) n = none := by
 rw [pU_step h, h2]
theorem pU_big {base maxV : Nat} {s : Str} {k n d : Nat} (h : k < s.length) (h2 : dv s[k] = some d) (h3 : ¬ (d < base ∧ n * base + d ≤ maxV)) : pU base maxV (s.drop k) n = none := by
 rw [pU_step h, h2]
 exact if_neg h3
theorem pU_go {base maxV : Nat} {s : Str} {k n d : Nat} (h : k < s.length) (h2 : dv s[k] = some d) (h3 : d < base ∧ n * base + d ≤ maxV) : pU base maxV (s.drop k) n = pU base maxV (s.drop (k + 1)) (n * base + d) := by
 rw [pU_step h, h2]
 exact if_pos h3
theorem uint10 (m : Mem) (L : List Item) (s : Str) (hs : s ≠ []) (hl : s.length ≤ 140737488355328) : TCall Tryz.prog 116 ⟨[strV s, .int .i64 10, .int .i64 64]⟩ m L (Made m L fun r _ => UintR 18446744073709551615 (pU 10 18446744073709551615 s 0) r) := by
 have hll := lowerN_lt
 unfold TCall
 refine TCallX.enter Tryz.func116 rfl 172 rfl ?_
 repeat (first|refine q1 ?_|refine q3 ?_|refine q4 tab rfl rfl ?_|refine q5 ?_|refine q6 ?_)
 refine TC.condP rfl (fun h => ?_) (fun h => ?_)
 ·exact absurd h hs
 repeat (first|refine q1 ?_|refine q2 ?_|refine q3 ?_|refine q4 tab rfl rfl ?_|refine q5 ?_|refine q6 ?_|refine q7 ?_|refine q13 ?_|refine q16 rfl ?_|refine q17 rfl ?_)
 refine TO.step rfl (OT.conv tab rfl rfl rfl rfl rfl rfl (r := 64) rfl ?_)
 refine TO.step rfl (OT.shK rfl (.inl rfl) rfl rfl rfl rfl (by decide) (r := 0) (by rfl) ?_)
 refine TO.step rfl (OT.arithK rfl rfl rfl rfl rfl rfl (r' := 18446744073709551615) (by rfl) ?_)
 repeat (first|refine q1 ?_|refine q3 ?_|refine q4 tab rfl rfl ?_|refine q5 ?_|refine q6 ?_)
 refine TO.step rfl (OT.strBytes tab rfl rfl rfl rfl rfl rfl rfl hl (fun sb m1 hm1 hsb hlen => ?_))
 repeat (first|refine q2 ?_|refine q4 tab rfl rfl ?_|refine q5 ?_|refine q6 ?_)
 rw [hlen]
 refine TC.loopK (ι := Nat × Nat) [1, 8, 9, 10, 11, 12, 99, 100] rfl (fun x => [(101, .int .i64 (x.1 : Int)), (13, .int .u64 (x.2 : Int))]) (fun _ => m1) (fun _ => L) (fun x => x.1 ≤ s.length ∧ x.2 ≤ 18446744073709551615 ∧ pU 10 18446744073709551615 s 0 = pU 10 18446744073709551615 (s.drop x.1) x.2) (fun x => s.length - x.1) (0, 0) (by repeat (first|exact trivial|refine And.intro rfl ?_)) rfl (by repeat (exact List.Sublist.refl _)) ⟨Nat.zero_le _, Nat.zero_le _, rfl⟩ ?_
 rintro ⟨k, n⟩ ⟨hk, hn, hI⟩
 replace hk : k ≤ s.length := hk
 replace hn : n ≤ 18446744073709551615 := hn
 replace hI : pU 10 18446744073709551615 s 0 = pU 10 18446744073709551615 (s.drop k) n := hI
 repeat (first|refine q1 ?_|refine q3 ?_|refine q4 tab rfl rfl ?_|refine q5 ?_|refine q6 ?_)
 refine TC.condP rfl (fun h1 => ?_) (fun h1 => ?_)
 ·have hlt : k < s.length := by omega
  have hx : s[k]? = some s[k] := by simp [hlt]
  have hc : s[k].toNat < 256 := s[k].toNat_lt
  repeat (first|refine q1 ?_|refine q6 ?_|refine q13 ?_)
  refine TC.block ?_
  repeat (first|refine q1 ?_|refine q3 ?_)
  refine TO.step rfl (OT.index tab rByte k hsb rfl rfl rfl rfl rfl (by first | rfl | omega | (simp only; omega)) rfl hx ?_)
  rintro b i hd rfl hA
  (refine TO.step rfl (OT.loadA0 tab hA rfl rfl rfl rfl rfl ?_))
  repeat (first|refine q1 ?_|refine q3 ?_|refine q4 tab rfl rfl ?_|refine q5 ?_|refine q6 ?_)
  refine TC.cutT (ι := Nat) [1, 8, 9, 10, 11, 12, 13, 99, 100, 101] rfl (fun d => [(16, .int .u8 (d : Int))]) (fun _ => m1) (fun _ => L) (fun d => dv s[k] = some d) ?_ (fun d hd => ?_)
  ·repeat (first|refine q1 ?_|refine q2 ?_|refine q3 ?_|refine q4 tab rfl rfl ?_)
   (refine TO.splitP rfl rfl (fun h3 => ?_) (fun h3 => ?_))
   ·skip
    repeat (first|refine q1 ?_|refine q3 ?_|refine q4 tab rfl rfl ?_|refine q5 ?_|refine q6 ?_|refine q17 rfl ?_)
    (refine TO.splitP rfl rfl (fun h4 => ?_) (fun h4 => ?_))
    ·repeat (first|refine q4 tab rfl rfl ?_|refine q5 ?_|refine q6 ?_)
     refine TC.condP rfl (fun h6 => ?_) (fun h6 => ?_)
     ·repeat (first|refine q3 ?_|refine q4 tab rfl rfl ?_)
      refine TO.step rfl (OT.arithK rfl rfl rfl rfl rfl rfl (r' := ((s[k].toNat - 48 : Nat) : Int)) (by rw [u8_in (by omega) (by omega)]; omega) ?_)
      repeat (first|refine q4 tab rfl rfl ?_|refine q5 ?_|refine q6 ?_|refine q7 ?_)
      exact ⟨s[k].toNat - 48, (by repeat (first|exact trivial|refine And.intro rfl ?_)), (by repeat (first|exact trivial|refine And.intro rfl ?_)), rfl, rfl, (by repeat (exact List.Sublist.refl _)), dv_dig (by omega) (by omega)⟩
     ·have h0 : ¬ (48 ≤ s[k].toNat ∧ s[k].toNat ≤ 57) := by omega
      repeat (first|refine q1 ?_|refine q3 ?_|refine q4 tab rfl rfl ?_)
      refine TO.step rfl (OT.call rfl rfl rfl rfl rfl rfl goes132 ((lower_law _ _ s[k]).x ?_));
      rintro _ _ _ ⟨rfl, rfl, rfl⟩
      repeat (refine q4 tab rfl rfl ?_)
      (refine TO.splitP rfl rfl (fun h5 => ?_) (fun h5 => ?_))
      ·repeat (refine q4 tab rfl rfl ?_)
       refine TO.step rfl (OT.call rfl rfl rfl rfl rfl rfl goes132 ((lower_law _ _ s[k]).x ?_));
       rintro _ _ _ ⟨rfl, rfl, rfl⟩
       repeat (first|refine q4 tab rfl rfl ?_|refine q5 ?_|refine q6 ?_)
       refine TC.condP rfl (fun h6 => ?_) (fun h6 => ?_)
       ·repeat (first|refine q3 ?_|refine q4 tab rfl rfl ?_)
        refine TO.step rfl (OT.call rfl rfl rfl rfl rfl rfl goes132 ((lower_law _ _ s[k]).x ?_));
        rintro _ _ _ ⟨rfl, rfl, rfl⟩
        skip
        refine TO.step rfl (OT.arithK rfl rfl rfl rfl rfl rfl (u8_in (by omega) (by omega)) ?_)
        refine TO.step rfl (OT.arithK rfl rfl rfl rfl rfl rfl (r' := ((lowerN s[k] - 97 + 10 : Nat) : Int)) (by rw [u8_in (by omega) (by omega)]; omega) ?_)
        repeat (first|refine q4 tab rfl rfl ?_|refine q5 ?_|refine q6 ?_|refine q7 ?_)
        exact ⟨lowerN s[k] - 97 + 10, (by repeat (first|exact trivial|refine And.intro rfl ?_)), (by repeat (first|exact trivial|refine And.intro rfl ?_)), rfl, rfl, (by repeat (exact List.Sublist.refl _)), dv_low h0 (by omega) (by omega)⟩
       ·skip
        repeat (first|refine q1 ?_|refine q3 ?_)
        refine TO.step rfl (OT.mkIface tab rfl rfl rfl rfl rfl ?_)
        repeat (first|refine q4 tab rfl rfl ?_|refine q5 ?_|refine q6 ?_|refine q8 ?_|refine q9 ?_|refine q15 ?_)
        refine retQ_ret rfl (by repeat (exact List.Sublist.refl _)) ⟨hm1, rfl, ?_⟩
        exact .inr ⟨hI.trans (pU_none hlt (dv_none h0 (by omega))), _, 2, .inr rfl, rfl⟩
      ·skip
       repeat (first|refine q1 ?_|refine q3 ?_|refine q4 tab rfl rfl ?_|refine q5 ?_|refine q6 ?_|refine q17 rfl ?_)
       refine TO.step rfl (OT.mkIface tab rfl rfl rfl rfl rfl ?_)
       repeat (first|refine q4 tab rfl rfl ?_|refine q5 ?_|refine q6 ?_|refine q8 ?_|refine q9 ?_|refine q15 ?_)
       refine retQ_ret rfl (by repeat (exact List.Sublist.refl _)) ⟨hm1, rfl, ?_⟩
       exact .inr ⟨hI.trans (pU_none hlt (dv_none h0 (by omega))), _, 2, .inr rfl, rfl⟩
    ·have h0 : ¬ (48 ≤ s[k].toNat ∧ s[k].toNat ≤ 57) := by omega
     repeat (first|refine q1 ?_|refine q3 ?_|refine q4 tab rfl rfl ?_|refine q5 ?_|refine q6 ?_|refine q17 rfl ?_)
     refine TO.step rfl (OT.call rfl rfl rfl rfl rfl rfl goes132 ((lower_law _ _ s[k]).x ?_));
     rintro _ _ _ ⟨rfl, rfl, rfl⟩
     repeat (refine q4 tab rfl rfl ?_)
     (refine TO.splitP rfl rfl (fun h5 => ?_) (fun h5 => ?_))
     ·repeat (refine q4 tab rfl rfl ?_)
      refine TO.step rfl (OT.call rfl rfl rfl rfl rfl rfl goes132 ((lower_law _ _ s[k]).x ?_));
      rintro _ _ _ ⟨rfl, rfl, rfl⟩
      repeat (first|refine q4 tab rfl rfl ?_|refine q5 ?_|refine q6 ?_)
      refine TC.condP rfl (fun h6 => ?_) (fun h6 => ?_)
      ·repeat (first|refine q3 ?_|refine q4 tab rfl rfl ?_)
       refine TO.step rfl (OT.call rfl rfl rfl rfl rfl rfl goes132 ((lower_law _ _ s[k]).x ?_));
       rintro _ _ _ ⟨rfl, rfl, rfl⟩
       skip
       refine TO.step rfl (OT.arithK rfl rfl rfl rfl rfl rfl (u8_in (by omega) (by omega)) ?_)
       refine TO.step rfl (OT.arithK rfl rfl rfl rfl rfl rfl (r' := ((lowerN s[k] - 97 + 10 : Nat) : Int)) (by rw [u8_in (by omega) (by omega)]; omega) ?_)
       repeat (first|refine q4 tab rfl rfl ?_|refine q5 ?_|refine q6 ?_|refine q7 ?_)
       exact ⟨lowerN s[k] - 97 + 10, (by repeat (first|exact trivial|refine And.intro rfl ?_)), (by repeat (first|exact trivial|refine And.intro rfl ?_)), rfl, rfl, (by repeat (exact List.Sublist.refl _)), dv_low h0 (by omega) (by omega)⟩
      ·skip
       repeat (first|refine q1 ?_|refine q3 ?_)
       refine TO.step rfl (OT.mkIface tab rfl rfl rfl rfl rfl ?_)
       repeat (first|refine q4 tab rfl rfl ?_|refine q5 ?_|refine q6 ?_|refine q8 ?_|refine q9 ?_|refine q15 ?_)
       refine retQ_ret rfl (by repeat (exact List.Sublist.refl _)) ⟨hm1, rfl, ?_⟩
       exact .inr ⟨hI.trans (pU_none hlt (dv_none h0 (by omega))), _, 2, .inr rfl, rfl⟩
     ·skip
      repeat (first|refine q1 ?_|refine q3 ?_|refine q4 tab rfl rfl ?_|refine q5 ?_|refine q6 ?_|refine q17 rfl ?_)
      refine TO.step rfl (OT.mkIface tab rfl rfl rfl rfl rfl ?_)
      repeat (first|refine q4 tab rfl rfl ?_|refine q5 ?_|refine q6 ?_|refine q8 ?_|refine q9 ?_|refine q15 ?_)
      refine retQ_ret rfl (by repeat (exact List.Sublist.refl _)) ⟨hm1, rfl, ?_⟩
      exact .inr ⟨hI.trans (pU_none hlt (dv_none h0 (by omega))), _, 2, .inr rfl, rfl⟩
   ·skip
    repeat (first|refine q1 ?_|refine q3 ?_|refine q4 tab rfl rfl ?_|refine q5 ?_|refine q6 ?_|refine q17 rfl ?_)
    (refine TO.splitP rfl rfl (fun h4 => ?_) (fun h4 => ?_))
    ·repeat (first|refine q4 tab rfl rfl ?_|refine q5 ?_|refine q6 ?_)
     refine TC.condP rfl (fun h6 => ?_) (fun h6 => ?_)
     ·repeat (first|refine q3 ?_|refine q4 tab rfl rfl ?_)
      refine TO.step rfl (OT.arithK rfl rfl rfl rfl rfl rfl (r' := ((s[k].toNat - 48 : Nat) : Int)) (by rw [u8_in (by omega) (by omega)]; omega) ?_)
      repeat (first|refine q4 tab rfl rfl ?_|refine q5 ?_|refine q6 ?_|refine q7 ?_)
      exact ⟨s[k].toNat - 48, (by repeat (first|exact trivial|refine And.intro rfl ?_)), (by repeat (first|exact trivial|refine And.intro rfl ?_)), rfl, rfl, (by repeat (exact List.Sublist.refl _)), dv_dig (by omega) (by omega)⟩
     ·have h0 : ¬ (48 ≤ s[k].toNat ∧ s[k].toNat ≤ 57) := by omega
      repeat (first|refine q1 ?_|refine q3 ?_|refine q4 tab rfl rfl ?_)
      refine TO.step rfl (OT.call rfl rfl rfl rfl rfl rfl goes132 ((lower_law _ _ s[k]).x ?_));
      rintro _ _ _ ⟨rfl, rfl, rfl⟩
      repeat (refine q4 tab rfl rfl ?_)
      (refine TO.splitP rfl rfl (fun h5 => ?_) (fun h5 => ?_))
      ·repeat (refine q4 tab rfl rfl ?_)
       refine TO.step rfl (OT.call rfl rfl rfl rfl rfl rfl goes132 ((lower_law _ _ s[k]).x ?_));
       rintro _ _ _ ⟨rfl, rfl, rfl⟩
       repeat (first|refine q4 tab rfl rfl ?_|refine q5 ?_|refine q6 ?_)
       refine TC.condP rfl (fun h6 => ?_) (fun h6 => ?_)
       ·repeat (first|refine q3 ?_|refine q4 tab rfl rfl ?_)
        refine TO.step rfl (OT.call rfl rfl rfl rfl rfl rfl goes132 ((lower_law _ _ s[k]).x ?_));
        rintro _ _ _ ⟨rfl, rfl, rfl⟩
        skip
        refine TO.step rfl (OT.arithK rfl rfl rfl rfl rfl rfl (u8_in (by omega) (by omega)) ?_)
        refine TO.step rfl (OT.arithK rfl rfl rfl rfl rfl rfl (r' := ((lowerN s[k] - 97 + 10 : Nat) : Int)) (by rw [u8_in (by omega) (by omega)]; omega) ?_)
        repeat (first|refine q4 tab rfl rfl ?_|refine q5 ?_|refine q6 ?_|refine q7 ?_)
        exact ⟨lowerN s[k] - 97 + 10, (by repeat (first|exact trivial|refine And.intro rfl ?_)), (by repeat (first|exact trivial|refine And.intro rfl ?_)), rfl, rfl, (by repeat (exact List.Sublist.refl _)), dv_low h0 (by omega) (by omega)⟩
       ·skip
        repeat (first|refine q1 ?_|refine q3 ?_)
        refine TO.step rfl (OT.mkIface tab rfl rfl rfl rfl rfl ?_)
        repeat (first|refine q4 tab rfl rfl ?_|refine q5 ?_|refine q6 ?_|refine q8 ?_|refine q9 ?_|refine q15 ?_)
        refine retQ_ret rfl (by repeat (exact List.Sublist.refl _)) ⟨hm1, rfl, ?_⟩
        exact .inr ⟨hI.trans (pU_none hlt (dv_none h0 (by omega))), _, 2, .inr rfl, rfl⟩
      ·skip
       repeat (first|refine q1 ?_|refine q3 ?_|refine q4 tab rfl rfl ?_|refine q5 ?_|refine q6 ?_|refine q17 rfl ?_)
       refine TO.step rfl (OT.mkIface tab rfl rfl rfl rfl rfl ?_)
       repeat (first|refine q4 tab rfl rfl ?_|refine q5 ?_|refine q6 ?_|refine q8 ?_|refine q9 ?_|refine q15 ?_)
       refine retQ_ret rfl (by repeat (exact List.Sublist.refl _)) ⟨hm1, rfl, ?_⟩
       exact .inr ⟨hI.trans (pU_none hlt (dv_none h0 (by omega))), _, 2, .inr rfl, rfl⟩
    ·have h0 : ¬ (48 ≤ s[k].toNat ∧ s[k].toNat ≤ 57) := by omega
     repeat (first|refine q1 ?_|refine q3 ?_|refine q4 tab rfl rfl ?_|refine q5 ?_|refine q6 ?_|refine q17 rfl ?_)
     refine TO.step rfl (OT.call rfl rfl rfl rfl rfl rfl goes132 ((lower_law _ _ s[k]).x ?_));
     rintro _ _ _ ⟨rfl, rfl, rfl⟩
     repeat (refine q4 tab rfl rfl ?_)
     (refine TO.splitP rfl rfl (fun h5 => ?_) (fun h5 => ?_))
     ·repeat (refine q4 tab rfl rfl ?_)
      refine TO.step rfl (OT.call rfl rfl rfl rfl rfl rfl goes132 ((lower_law _ _ s[k]).x ?_));
      rintro _ _ _ ⟨rfl, rfl, rfl⟩
      repeat (first|refine q4 tab rfl rfl ?_|refine q5 ?_|refine q6 ?_)
      refine TC.condP rfl (fun h6 => ?_) (fun h6 => ?_)
      ·repeat (first|refine q3 ?_|refine q4 tab rfl rfl ?_)
       refine TO.step rfl (OT.call rfl rfl rfl rfl rfl rfl goes132 ((lower_law _ _ s[k]).x ?_));
       rintro _ _ _ ⟨rfl, rfl, rfl⟩
       skip
       refine TO.step rfl (OT.arithK rfl rfl rfl rfl rfl rfl (u8_in (by omega) (by omega)) ?_)
       refine TO.step rfl (OT.arithK rfl rfl rfl rfl rfl rfl (r' := ((lowerN s[k] - 97 + 10 : Nat) : Int)) (by rw [u8_in (by omega) (by omega)]; omega) ?_)
       repeat (first|refine q4 tab rfl rfl ?_|refine q5 ?_|refine q6 ?_|refine q7 ?_)
       exact ⟨lowerN s[k] - 97 + 10, (by repeat (first|exact trivial|refine And.intro rfl ?_)), (by repeat (first|exact trivial|refine And.intro rfl ?_)), rfl, rfl, (by repeat (exact List.Sublist.refl _)), dv_low h0 (by omega) (by omega)⟩
      ·skip
       repeat (first|refine q1 ?_|refine q3 ?_)
       refine TO.step rfl (OT.mkIface tab rfl rfl rfl rfl rfl ?_)
       repeat (first|refine q4 tab rfl rfl ?_|refine q5 ?_|refine q6 ?_|refine q8 ?_|refine q9 ?_|refine q15 ?_)
       refine retQ_ret rfl (by repeat (exact List.Sublist.refl _)) ⟨hm1, rfl, ?_⟩
       exact .inr ⟨hI.trans (pU_none hlt (dv_none h0 (by omega))), _, 2, .inr rfl, rfl⟩
     ·skip
      repeat (first|refine q1 ?_|refine q3 ?_|refine q4 tab rfl rfl ?_|refine q5 ?_|refine q6 ?_|refine q17 rfl ?_)
      refine TO.step rfl (OT.mkIface tab rfl rfl rfl rfl rfl ?_)
      repeat (first|refine q4 tab rfl rfl ?_|refine q5 ?_|refine q6 ?_|refine q8 ?_|refine q9 ?_|refine q15 ?_)
      refine retQ_ret rfl (by repeat (exact List.Sublist.refl _)) ⟨hm1, rfl, ?_⟩
      exact .inr ⟨hI.trans (pU_none hlt (dv_none h0 (by omega))), _, 2, .inr rfl, rfl⟩
  have hd36 := dv_lt hd
  repeat (first|refine q1 ?_|refine q3 ?_|refine q4 tab rfl rfl ?_)
  refine TO.step rfl (OT.conv tab rfl rfl rfl rfl rfl rfl (r := 10) rfl ?_)
  repeat (first|refine q4 tab rfl rfl ?_|refine q5 ?_|refine q6 ?_)
  refine TC.condP rfl (fun h4 => ?_) (fun h4 => ?_)
  ·repeat (first|refine q1 ?_|refine q3 ?_)
   refine TO.step rfl (OT.mkIface tab rfl rfl rfl rfl rfl ?_)
   repeat (first|refine q4 tab rfl rfl ?_|refine q5 ?_|refine q6 ?_|refine q8 ?_|refine q9 ?_|refine q15 ?_)
   refine retQ_ret rfl (by repeat (exact List.Sublist.refl _)) ⟨hm1, rfl, ?_⟩
   exact .inr ⟨hI.trans (pU_big hlt hd (by omega)), _, 2, .inr rfl, rfl⟩
  repeat (first|refine q1 ?_|refine q3 ?_|refine q4 tab rfl rfl ?_|refine q5 ?_|refine q6 ?_|refine q13 ?_)
  refine TC.condP rfl (fun h5 => ?_) (fun h5 => ?_)
  ·repeat (first|refine q1 ?_|refine q3 ?_|refine q4 tab rfl rfl ?_)
   refine TO.step rfl (OT.mkIface tab rfl rfl rfl rfl rfl ?_)
   repeat (first|refine q4 tab rfl rfl ?_|refine q5 ?_|refine q6 ?_|refine q8 ?_|refine q9 ?_|refine q15 ?_)
   refine retQ_ret rfl (by repeat (exact List.Sublist.refl _)) ⟨hm1, rfl, ?_⟩
   exact .inr ⟨hI.trans (pU_big hlt hd (by omega)), _, 1, .inl ⟨rfl, rfl⟩, rfl⟩
  repeat (first|refine q1 ?_|refine q3 ?_|refine q4 tab rfl rfl ?_|refine q6 ?_|refine q13 ?_)
  refine TO.step rfl (OT.conv tab rfl rfl rfl rfl rfl rfl (r := 10) rfl ?_)
  refine TO.step rfl (OT.arithK rfl rfl rfl rfl rfl rfl (r' := ((n * 10 : Nat) : Int)) (by rw [u64_in (by omega) (by omega)]; omega) ?_)
  repeat (first|refine q1 ?_|refine q3 ?_|refine q4 tab rfl rfl ?_|refine q5 ?_|refine q6 ?_)
  refine TO.step rfl (OT.conv tab rfl rfl rfl rfl rfl rfl (r := (d : Int)) (u64_in (by omega) (by omega)) ?_)
  refine TO.step rfl (OT.arithK rfl rfl rfl rfl rfl rfl (r' := (((n * 10 + d) % 18446744073709551616 : Nat) : Int)) (by simp only [IntKind.wrap, IntKind.signed, IntKind.bits, Bool.false_and, Bool.false_eq_true, if_false]; omega) ?_)
  repeat (first|refine q1 ?_|refine q3 ?_|refine q4 tab rfl rfl ?_|refine q5 ?_|refine q6 ?_)
  (refine TO.splitP rfl rfl (fun h6 => ?_) (fun h6 => ?_))
  ·repeat (first|refine q1 ?_|refine q3 ?_|refine q4 tab rfl rfl ?_|refine q5 ?_|refine q6 ?_|refine q16 rfl ?_)
   refine TO.step rfl (OT.mkIface tab rfl rfl rfl rfl rfl ?_)
   repeat (first|refine q4 tab rfl rfl ?_|refine q5 ?_|refine q6 ?_|refine q8 ?_|refine q9 ?_|refine q15 ?_)
   refine retQ_ret rfl (by repeat (exact List.Sublist.refl _)) ⟨hm1, rfl, ?_⟩
   exact .inr ⟨hI.trans (pU_big hlt hd (by omega)), _, 1, .inl ⟨rfl, rfl⟩, rfl⟩
  repeat (first|refine q4 tab rfl rfl ?_|refine q5 ?_|refine q6 ?_)
  refine TC.condP rfl (fun h7 => ?_) (fun h7 => ?_)
  ·repeat (first|refine q1 ?_|refine q3 ?_|refine q4 tab rfl rfl ?_)
   refine TO.step rfl (OT.mkIface tab rfl rfl rfl rfl rfl ?_)
   repeat (first|refine q4 tab rfl rfl ?_|refine q5 ?_|refine q6 ?_|refine q8 ?_|refine q9 ?_|refine q15 ?_)
   refine retQ_ret rfl (by repeat (exact List.Sublist.refl _)) ⟨hm1, rfl, ?_⟩
   exact .inr ⟨hI.trans (pU_big hlt hd (by omega)), _, 1, .inl ⟨rfl, rfl⟩, rfl⟩
  have hv : (n * 10 + d) % 18446744073709551616 = n * 10 + d := by omega
  rw [hv]
  repeat (first|refine q3 ?_|refine q4 tab rfl rfl ?_|refine q5 ?_|refine q6 ?_|refine q7 ?_|refine q13 ?_)
  refine TO.step rfl (OT.arith (r' := ((k + 1 : Nat) : Int)) rfl rfl rfl rfl rfl rfl rfl (by omega) ?_)
  repeat (first|refine q4 tab rfl rfl ?_|refine q5 ?_|refine q6 ?_)
  exact ⟨(k + 1, n * 10 + d), (by repeat (first|exact trivial|refine And.intro rfl ?_)), (by repeat (first|exact trivial|refine And.intro rfl ?_)), rfl, rfl, (by repeat (exact List.Sublist.refl _)), ⟨by omega, by omega, hI.trans (pU_go hlt hd (by omega))⟩, by omega⟩
 ·repeat (first|refine q1 ?_|refine q3 ?_|refine q4 tab rfl rfl ?_|refine q5 ?_|refine q6 ?_|refine q10 ?_|refine q11 ?_|refine q13 ?_|refine q14 ?_|refine q15 ?_|refine q17 rfl ?_)
  refine retQ_ret rfl (by repeat (exact List.Sublist.refl _)) ⟨hm1, rfl, ?_⟩
  refine .inl ⟨n, hn, ?_, rfl⟩
  rw [hI, List.drop_eq_nil_of_le (by omega)]; rfl
theorem uint16 (m : Mem) (L : List Item) (s : Str) (hs : s ≠ []) (hl : s.length ≤ 140737488355328) : TCall Tryz.prog 116 ⟨[strV s, .int .i64 16, .int .i64 8]⟩ m L (Made m L fun r _ => UintR 255 (pU 16 255 s 0) r) := by
 have hll := lowerN_lt
 unfold TCall
 refine TCallX.enter Tryz.func116 rfl 172 rfl ?_
 repeat (first|refine q1 ?_|refine q3 ?_|refine q4 tab rfl rfl ?_|refine q5 ?_|refine q6 ?_)
 refine TC.condP rfl (fun h => ?_) (fun h => ?_)
 ·exact absurd h hs
 repeat (first|refine q1 ?_|refine q2 ?_|refine q3 ?_|refine q4 tab rfl rfl ?_|refine q5 ?_|refine q6 ?_|refine q7 ?_|refine q13 ?_|refine q16 rfl ?_|refine q17 rfl ?_)
 refine TO.step rfl (OT.conv tab rfl rfl rfl rfl rfl rfl (r := 8) rfl ?_)
 refine TO.step rfl (OT.shK rfl (.inl rfl) rfl rfl rfl rfl (by decide) (r := 256) (by rfl) ?_)
 refine TO.step rfl (OT.arithK rfl rfl rfl rfl rfl rfl (r' := 255) (by rfl) ?_)
 repeat (first|refine q1 ?_|refine q3 ?_|refine q4 tab rfl rfl ?_|refine q5 ?_|refine q6 ?_)
 refine TO.step rfl (OT.strBytes tab rfl rfl rfl rfl rfl rfl rfl hl (fun sb m1 hm1 hsb hlen => ?_))
 repeat (first|refine q2 ?_|refine q4 tab rfl rfl ?_|refine q5 ?_|refine q6 ?_)
 rw [hlen]
 refine TC.loopK (ι := Nat × Nat) [1, 8, 9, 10, 11, 12, 99, 100] rfl (fun x => [(101, .int .i64 (x.1 : Int)), (13, .int .u64 (x.2 : Int))]) (fun _ => m1) (fun _ => L) (fun x => x.1 ≤ s.length ∧ x.2 ≤ 255 ∧ pU 16 255 s 0 = pU 16 255 (s.drop x.1) x.2) (fun x => s.length - x.1) (0, 0) (by repeat (first|exact trivial|refine And.intro rfl ?_)) rfl (by repeat (exact List.Sublist.refl _)) ⟨Nat.zero_le _, Nat.zero_le _, rfl⟩ ?_
 rintro ⟨k, n⟩ ⟨hk, hn, hI⟩
 replace hk : k ≤ s.length := hk
 replace hn : n ≤ 255 := hn
 replace hI : pU 16 255 s 0 = pU 16 255 (s.drop k) n := hI
 repeat (first|refine q1 ?_|refine q3 ?_|refine q4 tab rfl rfl ?_|refine q5 ?_|refine q6 ?_)
 refine TC.condP rfl (fun h1 => ?_) (fun h1 => ?_)
 ·have hlt : k < s.length := by omega
  have hx : s[k]? = some s[k] := by simp [hlt]
  have hc : s[k].toNat < 256 := s[k].toNat_lt
  repeat (first|refine q1 ?_|refine q6 ?_|refine q13 ?_)
  refine TC.block ?_
  repeat (first|refine q1 ?_|refine q3 ?_)
  refine TO.step rfl (OT.index tab rByte k hsb rfl rfl rfl rfl rfl (by first | rfl | omega | (simp only; omega)) rfl hx ?_)
  rintro b i hd rfl hA
  (refine TO.step rfl (OT.loadA0 tab hA rfl rfl rfl rfl rfl ?_))
  repeat (first|refine q1 ?_|refine q3 ?_|refine q4 tab rfl rfl ?_|refine q5 ?_|refine q6 ?_)
  refine TC.cutT (ι := Nat) [1, 8, 9, 10, 11, 12, 13, 99, 100, 101] rfl (fun d => [(16, .int .u8 (d : Int))]) (fun _ => m1) (fun _ => L) (fun d => dv s[k] = some d) ?_ (fun d hd => ?_)
  ·repeat (first|refine q1 ?_|refine q2 ?_|refine q3 ?_|refine q4 tab rfl rfl ?_)
   (refine TO.splitP rfl rfl (fun h3 => ?_) (fun h3 => ?_))
   ·skip
    repeat (first|refine q1 ?_|refine q3 ?_|refine q4 tab rfl rfl ?_|refine q5 ?_|refine q6 ?_|refine q17 rfl ?_)
    (refine TO.splitP rfl rfl (fun h4 => ?_) (fun h4 => ?_))
    ·repeat (first|refine q4 tab rfl rfl ?_|refine q5 ?_|refine q6 ?_)
     refine TC.condP rfl (fun h6 => ?_) (fun h6 => ?_)
     ·repeat (first|refine q3 ?_|refine q4 tab rfl rfl ?_)
      refine TO.step rfl (OT.arithK rfl rfl rfl rfl rfl rfl (r' := ((s[k].toNat - 48 : Nat) : Int)) (by rw [u8_in (by omega) (by omega)]; omega) ?_)
      repeat (first|refine q4 tab rfl rfl ?_|refine q5 ?_|refine q6 ?_|refine q7 ?_)
      exact ⟨s[k].toNat - 48, (by repeat (first|exact trivial|refine And.intro rfl ?_)), (by repeat (first|exact trivial|refine And.intro rfl ?_)), rfl, rfl, (by repeat (exact List.Sublist.refl _)), dv_dig (by omega) (by omega)⟩
     ·have h0 : ¬ (48 ≤ s[k].toNat ∧ s[k].toNat ≤ 57) := by omega
      repeat (first|refine q1 ?_|refine q3 ?_|refine q4 tab rfl rfl ?_)
      refine TO.step rfl (OT.call rfl rfl rfl rfl rfl rfl goes132 ((lower_law _ _ s[k]).x ?_));
      rintro _ _ _ ⟨rfl, rfl, rfl⟩
      repeat (refine q4 tab rfl rfl ?_)
      (refine TO.splitP rfl rfl (fun h5 => ?_) (fun h5 => ?_))
      ·repeat (refine q4 tab rfl rfl ?_)
       refine TO.step rfl (OT.call rfl rfl rfl rfl rfl rfl goes132 ((lower_law _ _ s[k]).x ?_));
       rintro _ _ _ ⟨rfl, rfl, rfl⟩
       repeat (first|refine q4 tab rfl rfl ?_|refine q5 ?_|refine q6 ?_)
       refine TC.condP rfl (fun h6 => ?_) (fun h6 => ?_)
       ·repeat (first|refine q3 ?_|refine q4 tab rfl rfl ?_)
        refine TO.step rfl (OT.call rfl rfl rfl rfl rfl rfl goes132 ((lower_law _ _ s[k]).x ?_));
        rintro _ _ _ ⟨rfl, rfl, rfl⟩
        skip
        refine TO.step rfl (OT.arithK rfl rfl rfl rfl rfl rfl (u8_in (by omega) (by omega)) ?_)
        refine TO.step rfl (OT.arithK rfl rfl rfl rfl rfl rfl (r' := ((lowerN s[k] - 97 + 10 : Nat) : Int)) (by rw [u8_in (by omega) (by omega)]; omega) ?_)
        repeat (first|refine q4 tab rfl rfl ?_|refine q5 ?_|refine q6 ?_|refine q7 ?_)
        exact ⟨lowerN s[k] - 97 + 10, (by repeat (first|exact trivial|refine And.intro rfl ?_)), (by repeat (first|exact trivial|refine And.intro rfl ?_)), rfl, rfl, (by repeat (exact List.Sublist.refl _)), dv_low h0 (by omega) (by omega)⟩
       ·skip
        repeat (first|refine q1 ?_|refine q3 ?_)
        refine TO.step rfl (OT.mkIface tab rfl rfl rfl rfl rfl ?_)
        repeat (first|refine q4 tab rfl rfl ?_|refine q5 ?_|refine q6 ?_|refine q8 ?_|refine q9 ?_|refine q15 ?_)
        refine retQ_ret rfl (by repeat (exact List.Sublist.refl _)) ⟨hm1, rfl, ?_⟩
        exact .inr ⟨hI.trans (pU_none hlt (dv_none h0 (by omega))), _, 2, .inr rfl, rfl⟩
      ·skip
       repeat (first|refine q1 ?_|refine q3 ?_|refine q4 tab rfl rfl ?_|refine q5 ?_|refine q6 ?_|refine q17 rfl ?_)
       refine TO.step rfl (OT.mkIface tab rfl rfl rfl rfl rfl ?_)
       repeat (first|refine q4 tab rfl rfl ?_|refine q5 ?_|refine q6 ?_|refine q8 ?_|refine q9 ?_|refine q15 ?_)
       refine retQ_ret rfl (by repeat (exact List.Sublist.refl _)) ⟨hm1, rfl, ?_⟩
       exact .inr ⟨hI.trans (pU_none hlt (dv_none h0 (by omega))), _, 2, .inr rfl, rfl⟩
    ·have h0 : ¬ (48 ≤ s[k].toNat ∧ s[k].toNat ≤ 57) := by omega
     repeat (first|refine q1 ?_|refine q3 ?_|refine q4 tab rfl rfl ?_|refine q5 ?_|refine q6 ?_|refine q17 rfl ?_)
     refine TO.step rfl (OT.call rfl rfl rfl rfl rfl rfl goes132 ((lower_law _ _ s[k]).x ?_));
     rintro _ _ _ ⟨rfl, rfl, rfl⟩
     repeat (refine q4 tab rfl rfl ?_)
     (refine TO.splitP rfl rfl (fun h5 => ?_) (fun h5 => ?_))
     ·repeat (refine q4 tab rfl rfl ?_)
      refine TO.step rfl (OT.call rfl rfl rfl rfl rfl rfl goes132 ((lower_law _ _ s[k]).x ?_));
      rintro _ _ _ ⟨rfl, rfl, rfl⟩
      repeat (first|refine q4 tab rfl rfl ?_|refine q5 ?_|refine q6 ?_)
      refine TC.condP rfl (fun h6 => ?_) (fun h6 => ?_)
      ·repeat (first|refine q3 ?_|refine q4 tab rfl rfl ?_)
       refine TO.step rfl (OT.call rfl rfl rfl rfl rfl rfl goes132 ((lower_law _ _ s[k]).x ?_));
       rintro _ _ _ ⟨rfl, rfl, rfl⟩
       skip
       refine TO.step rfl (OT.arithK rfl rfl rfl rfl rfl rfl (u8_in (by omega) (by omega)) ?_)
       refine TO.step rfl (OT.arithK rfl rfl rfl rfl rfl rfl (r' := ((lowerN s[k] - 97 + 10 : Nat) : Int)) (by rw [u8_in (by omega) (by omega)]; omega) ?_)
       repeat (first|refine q4 tab rfl rfl ?_|refine q5 ?_|refine q6 ?_|refine q7 ?_)
       exact ⟨lowerN s[k] - 97 + 10, (by repeat (first|exact trivial|refine And.intro rfl ?_)), (by repeat (first|exact trivial|refine And.intro rfl ?_)), rfl, rfl, (by repeat (exact List.Sublist.refl _)), dv_low h0 (by omega) (by omega)⟩
      ·skip
       repeat (first|refine q1 ?_|refine q3 ?_)
       refine TO.step rfl (OT.mkIface tab rfl rfl rfl rfl rfl ?_)
       repeat (first|refine q4 tab rfl rfl ?_|refine q5 ?_|refine q6 ?_|refine q8 ?_|refine q9 ?_|refine q15 ?_)
       refine retQ_ret rfl (by repeat (exact List.Sublist.refl _)) ⟨hm1, rfl, ?_⟩
       exact .inr ⟨hI.trans (pU_none hlt (dv_none h0 (by omega))), _, 2, .inr rfl, rfl⟩
     ·skip
      repeat (first|refine q1 ?_|refine q3 ?_|refine q4 tab rfl rfl ?_|refine q5 ?_|refine q6 ?_|refine q17 rfl ?_)
      refine TO.step rfl (OT.mkIface tab rfl rfl rfl rfl rfl ?_)
      repeat (first|refine q4 tab rfl rfl ?_|refine q5 ?_|refine q6 ?_|refine q8 ?_|refine q9 ?_|refine q15 ?_)
      refine retQ_ret rfl (by repeat (exact List.Sublist.refl _)) ⟨hm1, rfl, ?_⟩
      exact .inr ⟨hI.trans (pU_none hlt (dv_none h0 (by omega))), _, 2, .inr rfl, rfl⟩
   ·skip
    repeat (first|refine q1 ?_|refine q3 ?_|refine q4 tab rfl rfl ?_|refine q5 ?_|refine q6 ?_|refine q17 rfl ?_)
    (refine TO.splitP rfl rfl (fun h4 => ?_) (fun h4 => ?_))
    ·repeat (first|refine q4 tab rfl rfl ?_|refine q5 ?_|refine q6 ?_)
     refine TC.condP rfl (fun h6 => ?_) (fun h6 => ?_)
     ·repeat (first|refine q3 ?_|refine q4 tab rfl rfl ?_)
      refine TO.step rfl (OT.arithK rfl rfl rfl rfl rfl rfl (r' := ((s[k].toNat - 48 : Nat) : Int)) (by rw [u8_in (by omega) (by omega)]; omega) ?_)
      repeat (first|refine q4 tab rfl rfl ?_|refine q5 ?_|refine q6 ?_|refine q7 ?_)
      exact ⟨s[k].toNat - 48, (by repeat (first|exact trivial|refine And.intro rfl ?_)), (by repeat (first|exact trivial|refine And.intro rfl ?_)), rfl, rfl, (by repeat (exact List.Sublist.refl _)), dv_dig (by omega) (by omega)⟩
     ·have h0 : ¬ (48 ≤ s[k].toNat ∧ s[k].toNat ≤ 57) := by omega
      repeat (first|refine q1 ?_|refine q3 ?_|refine q4 tab rfl rfl ?_)
      refine TO.step rfl (OT.call rfl rfl rfl rfl rfl rfl goes132 ((lower_law _ _ s[k]).x ?_));
      rintro _ _ _ ⟨rfl, rfl, rfl⟩
      repeat (refine q4 tab rfl rfl ?_)
      (refine TO.splitP rfl rfl (fun h5 => ?_) (fun h5 => ?_))
      ·repeat (refine q4 tab rfl rfl ?_)
       refine TO.step rfl (OT.call rfl rfl rfl rfl rfl rfl goes132 ((lower_law _ _ s[k]).x ?_));
       rintro _ _ _ ⟨rfl, rfl, rfl⟩
       repeat (first|refine q4 tab rfl rfl ?_|refine q5 ?_|refine q6 ?_)
       refine TC.condP rfl (fun h6 => ?_) (fun h6 => ?_)
       ·repeat (first|refine q3 ?_|refine q4 tab rfl rfl ?_)
        refine TO.step rfl (OT.call rfl rfl rfl rfl rfl rfl goes132 ((lower_law _ _ s[k]).x ?_));
        rintro _ _ _ ⟨rfl, rfl, rfl⟩
        skip
        refine TO.step rfl (OT.arithK rfl rfl rfl rfl rfl rfl (u8_in (by omega) (by omega)) ?_)
        refine TO.step rfl (OT.arithK rfl rfl rfl rfl rfl rfl (r' := ((lowerN s[k] - 97 + 10 : Nat) : Int)) (by rw [u8_in (by omega) (by omega)]; omega) ?_)
        repeat (first|refine q4 tab rfl rfl ?_|refine q5 ?_|refine q6 ?_|refine q7 ?_)
        exact ⟨lowerN s[k] - 97 + 10, (by repeat (first|exact trivial|refine And.intro rfl ?_)), (by repeat (first|exact trivial|refine And.intro rfl ?_)), rfl, rfl, (by repeat (exact List.Sublist.refl _)), dv_low h0 (by omega) (by omega)⟩
       ·skip
        repeat (first|refine q1 ?_|refine q3 ?_)
        refine TO.step rfl (OT.mkIface tab rfl rfl rfl rfl rfl ?_)
        repeat (first|refine q4 tab rfl rfl ?_|refine q5 ?_|refine q6 ?_|refine q8 ?_|refine q9 ?_|refine q15 ?_)
        refine retQ_ret rfl (by repeat (exact List.Sublist.refl _)) ⟨hm1, rfl, ?_⟩
        exact .inr ⟨hI.trans (pU_none hlt (dv_none h0 (by omega))), _, 2, .inr rfl, rfl⟩
      ·skip
       repeat (first|refine q1 ?_|refine q3 ?_|refine q4 tab rfl rfl ?_|refine q5 ?_|refine q6 ?_|refine q17 rfl ?_)
       refine TO.step rfl (OT.mkIface tab rfl rfl rfl rfl rfl ?_)
       repeat (first|refine q4 tab rfl rfl ?_|refine q5 ?_|refine q6 ?_|refine q8 ?_|refine q9 ?_|refine q15 ?_)
       refine retQ_ret rfl (by repeat (exact List.Sublist.refl _)) ⟨hm1, rfl, ?_⟩
       exact .inr ⟨hI.trans (pU_none hlt (dv_none h0 (by omega))), _, 2, .inr rfl, rfl⟩
    ·have h0 : ¬ (48 ≤ s[k].toNat ∧ s[k].toNat ≤ 57) := by omega
     repeat (first|refine q1 ?_|refine q3 ?_|refine q4 tab rfl rfl ?_|refine q5 ?_|refine q6 ?_|refine q17 rfl ?_)
     refine TO.step rfl (OT.call rfl rfl rfl rfl rfl rfl goes132 ((lower_law _ _ s[k]).x ?_));
     rintro _ _ _ ⟨rfl, rfl, rfl⟩
     repeat (refine q4 tab rfl rfl ?_)
     (refine TO.splitP rfl rfl (fun h5 => ?_) (fun h5 => ?_))
     ·repeat (refine q4 tab rfl rfl ?_)
      refine TO.step rfl (OT.call rfl rfl rfl rfl rfl rfl goes132 ((lower_law _ _ s[k]).x ?_));
      rintro _ _ _ ⟨rfl, rfl, rfl⟩
      repeat (first|refine q4 tab rfl rfl ?_|refine q5 ?_|refine q6 ?_)
      refine TC.condP rfl (fun h6 => ?_) (fun h6 => ?_)
      ·repeat (first|refine q3 ?_|refine q4 tab rfl rfl ?_)
       refine TO.step rfl (OT.call rfl rfl rfl rfl rfl rfl goes132 ((lower_law _ _ s[k]).x ?_));
       rintro _ _ _ ⟨rfl, rfl, rfl⟩
       skip
       refine TO.step rfl (OT.arithK rfl rfl rfl rfl rfl rfl (u8_in (by omega) (by omega)) ?_)
       refine TO.step rfl (OT.arithK rfl rfl rfl rfl rfl rfl (r' := ((lowerN s[k] - 97 + 10 : Nat) : Int)) (by rw [u8_in (by omega) (by omega)]; omega) ?_)
       repeat (first|refine q4 tab rfl rfl ?_|refine q5 ?_|refine q6 ?_|refine q7 ?_)
       exact ⟨lowerN s[k] - 97 + 10, (by repeat (first|exact trivial|refine And.intro rfl ?_)), (by repeat (first|exact trivial|refine And.intro rfl ?_)), rfl, rfl, (by repeat (exact List.Sublist.refl _)), dv_low h0 (by omega) (by omega)⟩
      ·skip
       repeat (first|refine q1 ?_|refine q3 ?_)
       refine TO.step rfl (OT.mkIface tab rfl rfl rfl rfl rfl ?_)
       repeat (first|refine q4 tab rfl rfl ?_|refine q5 ?_|refine q6 ?_|refine q8 ?_|refine q9 ?_|refine q15 ?_)
       refine retQ_ret rfl (by repeat (exact List.Sublist.refl _)) ⟨hm1, rfl, ?_⟩
       exact .inr ⟨hI.trans (pU_none hlt (dv_none h0 (by omega))), _, 2, .inr rfl, rfl⟩
     ·skip
      repeat (first|refine q1 ?_|refine q3 ?_|refine q4 tab rfl rfl ?_|refine q5 ?_|refine q6 ?_|refine q17 rfl ?_)
      refine TO.step rfl (OT.mkIface tab rfl rfl rfl rfl rfl ?_)
      repeat (first|refine q4 tab rfl rfl ?_|refine q5 ?_|refine q6 ?_|refine q8 ?_|refine q9 ?_|refine q15 ?_)
      refine retQ_ret rfl (by repeat (exact List.Sublist.refl _)) ⟨hm1, rfl, ?_⟩
      exact .inr ⟨hI.trans (pU_none hlt (dv_none h0 (by omega))), _, 2, .inr rfl, rfl⟩
  have hd36 := dv_lt hd
  repeat (first|refine q1 ?_|refine q3 ?_|refine q4 tab rfl rfl ?_)
  refine TO.step rfl (OT.conv tab rfl rfl rfl rfl rfl rfl (r := 16) rfl ?_)
  repeat (first|refine q4 tab rfl rfl ?_|refine q5 ?_|refine q6 ?_)
  refine TC.condP rfl (fun h4 => ?_) (fun h4 => ?_)
  ·repeat (first|refine q1 ?_|refine q3 ?_)
   refine TO.step rfl (OT.mkIface tab rfl rfl rfl rfl rfl ?_)
   repeat (first|refine q4 tab rfl rfl ?_|refine q5 ?_|refine q6 ?_|refine q8 ?_|refine q9 ?_|refine q15 ?_)
   refine retQ_ret rfl (by repeat (exact List.Sublist.refl _)) ⟨hm1, rfl, ?_⟩
   exact .inr ⟨hI.trans (pU_big hlt hd (by omega)), _, 2, .inr rfl, rfl⟩
  repeat (first|refine q1 ?_|refine q3 ?_|refine q4 tab rfl rfl ?_|refine q5 ?_|refine q6 ?_|refine q13 ?_)
  refine TC.condP rfl (fun h5 => ?_) (fun h5 => ?_)
  ·repeat (first|refine q1 ?_|refine q3 ?_|refine q4 tab rfl rfl ?_)
   refine TO.step rfl (OT.mkIface tab rfl rfl rfl rfl rfl ?_)
   repeat (first|refine q4 tab rfl rfl ?_|refine q5 ?_|refine q6 ?_|refine q8 ?_|refine q9 ?_|refine q15 ?_)
   refine retQ_ret rfl (by repeat (exact List.Sublist.refl _)) ⟨hm1, rfl, ?_⟩
   exact .inr ⟨hI.trans (pU_big hlt hd (by omega)), _, 1, .inl ⟨rfl, rfl⟩, rfl⟩
  repeat (first|refine q1 ?_|refine q3 ?_|refine q4 tab rfl rfl ?_|refine q6 ?_|refine q13 ?_)
  refine TO.step rfl (OT.conv tab rfl rfl rfl rfl rfl rfl (r := 16) rfl ?_)
  refine TO.step rfl (OT.arithK rfl rfl rfl rfl rfl rfl (r' := ((n * 16 : Nat) : Int)) (by rw [u64_in (by omega) (by omega)]; omega) ?_)
  repeat (first|refine q1 ?_|refine q3 ?_|refine q4 tab rfl rfl ?_|refine q5 ?_|refine q6 ?_)
  refine TO.step rfl (OT.conv tab rfl rfl rfl rfl rfl rfl (r := (d : Int)) (u64_in (by omega) (by omega)) ?_)
  refine TO.step rfl (OT.arithK rfl rfl rfl rfl rfl rfl (r' := (((n * 16 + d) % 18446744073709551616 : Nat) : Int)) (by simp only [IntKind.wrap, IntKind.signed, IntKind.bits, Bool.false_and, Bool.false_eq_true, if_false]; omega) ?_)
  repeat (first|refine q1 ?_|refine q3 ?_|refine q4 tab rfl rfl ?_|refine q5 ?_|refine q6 ?_)
  (refine TO.splitP rfl rfl (fun h6 => ?_) (fun h6 => ?_))
  ·repeat (first|refine q1 ?_|refine q3 ?_|refine q4 tab rfl rfl ?_|refine q5 ?_|refine q6 ?_|refine q16 rfl ?_)
   refine TO.step rfl (OT.mkIface tab rfl rfl rfl rfl rfl ?_)
   repeat (first|refine q4 tab rfl rfl ?_|refine q5 ?_|refine q6 ?_|refine q8 ?_|refine q9 ?_|refine q15 ?_)
   refine retQ_ret rfl (by repeat (exact List.Sublist.refl _)) ⟨hm1, rfl, ?_⟩
   exact .inr ⟨hI.trans (pU_big hlt hd (by omega)), _, 1, .inl ⟨rfl, rfl⟩, rfl⟩
  repeat (first|refine q4 tab rfl rfl ?_|refine q5 ?_|refine q6 ?_)
  refine TC.condP rfl (fun h7 => ?_) (fun h7 => ?_)
  ·repeat (first|refine q1 ?_|refine q3 ?_|refine q4 tab rfl rfl ?_)
   refine TO.step rfl (OT.mkIface tab rfl rfl rfl rfl rfl ?_)
   repeat (first|refine q4 tab rfl rfl ?_|refine q5 ?_|refine q6 ?_|refine q8 ?_|refine q9 ?_|refine q15 ?_)
   refine retQ_ret rfl (by repeat (exact List.Sublist.refl _)) ⟨hm1, rfl, ?_⟩
   exact .inr ⟨hI.trans (pU_big hlt hd (by omega)), _, 1, .inl ⟨rfl, rfl⟩, rfl⟩
  have hv : (n * 16 + d) % 18446744073709551616 = n * 16 + d := by omega
  rw [hv]
  repeat (first|refine q3 ?_|refine q4 tab rfl rfl ?_|refine q5 ?_|refine q6 ?_|refine q7 ?_|refine q13 ?_)
  refine TO.step rfl (OT.arith (r' := ((k + 1 : Nat) : Int)) rfl rfl rfl rfl rfl rfl rfl (by omega) ?_)
  repeat (first|refine q4 tab rfl rfl ?_|refine q5 ?_|refine q6 ?_)
  exact ⟨(k + 1, n * 16 + d), (by repeat (first|exact trivial|refine And.intro rfl ?_)), (by repeat (first|exact trivial|refine And.intro rfl ?_)), rfl, rfl, (by repeat (exact List.Sublist.refl _)), ⟨by omega, by omega, hI.trans (pU_go hlt hd (by omega))⟩, by omega⟩
 ·repeat (first|refine q1 ?_|refine q3 ?_|refine q4 tab rfl rfl ?_|refine q5 ?_|refine q6 ?_|refine q10 ?_|refine q11 ?_|refine q13 ?_|refine q14 ?_|refine q15 ?_|refine q17 rfl ?_)
  refine retQ_ret rfl (by repeat (exact List.Sublist.refl _)) ⟨hm1, rfl, ?_⟩
  refine .inl ⟨n, hn, ?_, rfl⟩
  rw [hI, List.drop_eq_nil_of_le (by omega)]; rfl
end Go.Sep


/- ScInt -/
set_option linter.unusedVariables false
set_option linter.unusedSimpArgs false
namespace Go.Sep
open Go.Proofs
attribute [local irreducible] TC TO OT TCallX TCall DO DOt thenQ blockQ retQ At
def numOf (s : Str) : Option Nat := match pU 10 18446744073709551615 s 0 with
 | some v => if v < 9223372036854775808 then some v else none
 | none => none
def IntR (o : Option Nat) (r : Value) : Prop :=
 (∃ v, v < 9223372036854775808 ∧ o = some v ∧ r = .tuple ⟨[.int .i64 (v : Int), .nilIface]⟩) ∨ (o = none ∧ ∃ v k, (k = 1 ∨ k = 2) ∧ r = .tuple ⟨[.int .i64 v, .iface 109 (.int .i64 k)]⟩)
theorem int10 (m : Mem) (L : List Item) (s : Str) (hs : s ≠ []) (h0 : ∀ c, s.head? = some c → dgt c = true) (hl : s.length ≤ 140737488355328) : TCall Tryz.prog 93 ⟨[strV s, .int .i64 10, .int .i64 64]⟩ m L (Made m L fun r _ => IntR (numOf s) r) := by
 have hlt : 0 < s.length := List.length_pos_iff.2 hs
 have hx : s[0]? = some s[0] := by simp [hlt]
 have hn1 : 48 ≤ s[0].toNat := by
  have h1 := h0 s[0] (by rw [List.head?_eq_getElem?]; exact hx)
  unfold dgt at h1
  have h2 := of_decide_eq_true h1
  exact h2.1
 unfold TCall
 refine TCallX.enter Tryz.func93 rfl 73 rfl ?_
 repeat (first|refine q1 ?_|refine q3 ?_|refine q4 tab rfl rfl ?_|refine q5 ?_|refine q6 ?_)
 refine TC.condP rfl (fun h => ?_) (fun h => ?_)
 ·exact absurd h hs
 repeat (first|refine q1 ?_|refine q3 ?_|refine q4 tab rfl rfl ?_|refine q5 ?_|refine q6 ?_|refine q13 ?_)
 refine TO.step rfl (OT.sidx tab 0 rfl rfl rfl rfl rfl rfl rfl hx ?_)
 repeat (first|refine q1 ?_|refine q2 ?_|refine q3 ?_|refine q4 tab rfl rfl ?_|refine q5 ?_|refine q6 ?_)
 refine TC.condP rfl (fun h => ?_) (fun h => ?_)
 ·omega
 repeat (first|refine q1 ?_|refine q3 ?_|refine q4 tab rfl rfl ?_|refine q5 ?_|refine q6 ?_)
 refine TC.condP rfl (fun h => ?_) (fun h => ?_)
 ·omega
 repeat (first|refine q1 ?_|refine q3 ?_|refine q4 tab rfl rfl ?_|refine q5 ?_|refine q6 ?_|refine q7 ?_|refine q13 ?_)
 refine TO.step rfl (OT.call rfl rfl rfl rfl rfl rfl goes116 ((uint10 _ _ s hs hl).x ?_));
 rintro _ m1 _ ⟨hm1, rfl, ⟨v, hv, e1, rfl⟩ | ⟨e1, v, c, hc, rfl⟩⟩
 ·repeat (first|refine q1 ?_|refine q3 ?_|refine q4 tab rfl rfl ?_|refine q5 ?_|refine q6 ?_)
  refine TO.step rfl (OT.errNe tab rfl rfl rfl rfl (.inl rfl) rfl rfl ?_)
  repeat (first|refine q1 ?_|refine q3 ?_|refine q4 tab rfl rfl ?_|refine q5 ?_|refine q6 ?_|refine q13 ?_|refine q17 rfl ?_)
  refine TO.step rfl (OT.arithK rfl rfl rfl rfl rfl rfl (r' := 63) rfl ?_)
  refine TO.step rfl (OT.conv tab rfl rfl rfl rfl rfl rfl (r := 63) rfl ?_)
  refine TO.step rfl (OT.shK rfl (.inl rfl) rfl rfl rfl rfl (by decide) (r := 9223372036854775808) (by rfl) ?_)
  repeat (first|refine q1 ?_|refine q3 ?_|refine q4 tab rfl rfl ?_|refine q5 ?_|refine q6 ?_)
  refine TC.condP rfl (fun h => ?_) (fun h => ?_)
  ·repeat (first|refine q1 ?_|refine q3 ?_|refine q4 tab rfl rfl ?_)
   refine TO.step rfl (OT.arithK rfl rfl rfl rfl rfl rfl (r' := 9223372036854775807) rfl ?_)
   refine TO.step rfl (OT.conv tab rfl rfl rfl rfl rfl rfl (r := 9223372036854775807) rfl ?_)
   refine TO.step rfl (OT.mkIface tab rfl rfl rfl rfl rfl ?_)
   repeat (first|refine q4 tab rfl rfl ?_|refine q5 ?_|refine q6 ?_|refine q8 ?_|refine q15 ?_)
   refine retQ_ret rfl (by repeat (exact List.Sublist.refl _)) ⟨hm1, rfl, ?_⟩
   refine .inr ⟨?_, _, 1, .inl rfl, rfl⟩
   rw [numOf, e1]; simp only; rw [if_neg (by omega)]
  repeat (first|refine q1 ?_|refine q3 ?_|refine q4 tab rfl rfl ?_|refine q5 ?_|refine q6 ?_|refine q13 ?_|refine q17 rfl ?_)
  refine TO.step rfl (OT.conv tab rfl rfl rfl rfl rfl rfl (r := (v : Int)) (wrap64_in (by omega) (by omega)) ?_)
  repeat (first|refine q1 ?_|refine q3 ?_|refine q4 tab rfl rfl ?_|refine q5 ?_|refine q6 ?_|refine q13 ?_|refine q15 ?_|refine q17 rfl ?_)
  refine retQ_ret rfl (by repeat (exact List.Sublist.refl _)) ⟨hm1, rfl, ?_⟩
  refine .inl ⟨v, by omega, ?_, rfl⟩
  rw [numOf, e1]; simp only; rw [if_pos (by omega)]
 ·repeat (first|refine q1 ?_|refine q3 ?_|refine q4 tab rfl rfl ?_|refine q5 ?_|refine q6 ?_)
  refine TO.step rfl (OT.errNe tab rfl rfl rfl rfl (.inr ⟨_, _, rfl⟩) rfl rfl ?_)
  repeat (refine q4 tab rfl rfl ?_)
  refine TO.step rfl (OT.mkIface tab rfl rfl rfl rfl rfl ?_)
  refine TO.step rfl (OT.errEq tab (info := Tryz.t109) (.inr rfl) rfl rfl rfl rfl rfl rfl (by kernel_rfl) rfl rfl ?_)
  rcases hc with ⟨rfl, rfl⟩ | rfl
  ·repeat (first|refine q1 ?_|refine q3 ?_|refine q4 tab rfl rfl ?_|refine q5 ?_|refine q6 ?_|refine q13 ?_|refine q17 rfl ?_)
   refine TO.step rfl (OT.arithK rfl rfl rfl rfl rfl rfl (r' := 63) rfl ?_)
   refine TO.step rfl (OT.conv tab rfl rfl rfl rfl rfl rfl (r := 63) rfl ?_)
   refine TO.step rfl (OT.shK rfl (.inl rfl) rfl rfl rfl rfl (by decide) (r := 9223372036854775808) (by rfl) ?_)
   repeat (first|refine q1 ?_|refine q3 ?_|refine q4 tab rfl rfl ?_|refine q5 ?_|refine q6 ?_|refine q16 rfl ?_)
   refine TO.step rfl (OT.arithK rfl rfl rfl rfl rfl rfl (r' := 9223372036854775807) rfl ?_)
   refine TO.step rfl (OT.conv tab rfl rfl rfl rfl rfl rfl (r := 9223372036854775807) rfl ?_)
   refine TO.step rfl (OT.mkIface tab rfl rfl rfl rfl rfl ?_)
   repeat (first|refine q4 tab rfl rfl ?_|refine q5 ?_|refine q6 ?_|refine q8 ?_|refine q15 ?_)
   refine retQ_ret rfl (by repeat (exact List.Sublist.refl _)) ⟨hm1, rfl, ?_⟩
   refine .inr ⟨?_, _, 1, .inl rfl, rfl⟩
   rw [numOf, e1]
  ·repeat (first|refine q1 ?_|refine q3 ?_|refine q4 tab rfl rfl ?_|refine q5 ?_|refine q6 ?_|refine q8 ?_|refine q15 ?_|refine q16 rfl ?_)
   refine retQ_ret rfl (by repeat (exact List.Sublist.refl _)) ⟨hm1, rfl, ?_⟩
   refine .inr ⟨?_, _, 2, .inr rfl, rfl⟩
   rw [numOf, e1]
def NumR (k : IntKind) (o : Option Nat) (r : Value) : Prop :=
 (∃ v, o = some v ∧ r = .tuple ⟨[.int k (v : Int), .nilIface]⟩) ∨ (o = none ∧ ∃ v a b, r = .tuple ⟨[.int k v, .iface a b]⟩)
theorem parseInt_law (m : Mem) (L : List Item) (s : Str) (hs : s ≠ []) (h0 : ∀ c, s.head? = some c → dgt c = true) (hl : s.length ≤ 140737488355328) (hE : Errs m) : TCall Tryz.prog 62 ⟨[strV s, .int .i64 10, .int .i64 64]⟩ m L (Made m L fun r _ => NumR .i64 (numOf s) r) := by
 unfold TCall
 refine TCallX.enter Tryz.func62 rfl 25 rfl ?_
 repeat (first|refine q1 ?_|refine q3 ?_|refine q4 tab rfl rfl ?_|refine q5 ?_|refine q6 ?_)
 refine TO.step rfl (OT.call rfl rfl rfl rfl rfl rfl goes93 ((int10 _ _ s hs h0 hl).x ?_));
 rintro _ m1 _ ⟨hm1, rfl, ⟨v, hv, e1, rfl⟩ | ⟨e1, v, c, hc, rfl⟩⟩
 ·repeat (first|refine q1 ?_|refine q3 ?_|refine q4 tab rfl rfl ?_|refine q5 ?_|refine q6 ?_)
  refine TO.step rfl (OT.errNe tab rfl rfl rfl rfl (.inl rfl) rfl rfl ?_)
  repeat (first|refine q1 ?_|refine q3 ?_|refine q4 tab rfl rfl ?_|refine q5 ?_|refine q6 ?_|refine q13 ?_|refine q15 ?_|refine q17 rfl ?_)
  refine retQ_ret rfl (by repeat (exact List.Sublist.refl _)) ⟨hm1, rfl, ?_⟩
  exact .inl ⟨v, e1, rfl⟩
 ·repeat (first|refine q1 ?_|refine q3 ?_|refine q4 tab rfl rfl ?_|refine q5 ?_|refine q6 ?_)
  refine TO.step rfl (OT.errNe tab rfl rfl rfl rfl (.inr ⟨_, _, rfl⟩) rfl rfl ?_)
  repeat (first|refine q1 ?_|refine q3 ?_|refine q4 tab rfl rfl ?_|refine q5 ?_|refine q6 ?_|refine q16 rfl ?_)
  rcases hc with rfl | rfl
  ·refine TO.step rfl (OT.call rfl rfl rfl rfl rfl rfl goes94 ((toError_rng _ _ _ s 10 64 hl (hE.mono hm1)).x ?_));
   rintro _ m2 _ ⟨hm2, rfl, u, w, rfl⟩
   repeat (first|refine q4 tab rfl rfl ?_|refine q5 ?_|refine q6 ?_|refine q8 ?_|refine q15 ?_)
   refine retQ_ret rfl (by repeat (exact List.Sublist.refl _)) ⟨Mem.le_trans hm1 hm2, rfl, ?_⟩
   exact .inr ⟨e1, _, _, _, rfl⟩
  ·refine TO.step rfl (OT.call rfl rfl rfl rfl rfl rfl goes94 ((toError_syn _ _ _ s 10 64 hl (hE.mono hm1)).x ?_));
   rintro _ m2 _ ⟨hm2, rfl, u, w, rfl⟩
   repeat (first|refine q4 tab rfl rfl ?_|refine q5 ?_|refine q6 ?_|refine q8 ?_|refine q15 ?_)
   refine retQ_ret rfl (by repeat (exact List.Sublist.refl _)) ⟨Mem.le_trans hm1 hm2, rfl, ?_⟩
   exact .inr ⟨e1, _, _, _, rfl⟩
theorem parseUint_law (m : Mem) (L : List Item) (s : Str) (hs : s ≠ []) (hl : s.length ≤ 140737488355328) (hE : Errs m) : TCall Tryz.prog 97 ⟨[strV s, .int .i64 16, .int .i64 8]⟩ m L (Made m L fun r _ => NumR .u64 (pU 16 255 s 0) r) := by
 unfold TCall
 refine TCallX.enter Tryz.func97 rfl 26 rfl ?_
 repeat (first|refine q1 ?_|refine q3 ?_|refine q4 tab rfl rfl ?_|refine q5 ?_|refine q6 ?_)
 refine TO.step rfl (OT.call rfl rfl rfl rfl rfl rfl goes116 ((uint16 _ _ s hs hl).x ?_));
 rintro _ m1 _ ⟨hm1, rfl, ⟨v, hv, e1, rfl⟩ | ⟨e1, v, c, hc, rfl⟩⟩
 ·repeat (first|refine q1 ?_|refine q3 ?_|refine q4 tab rfl rfl ?_|refine q5 ?_|refine q6 ?_)
  refine TO.step rfl (OT.errNe tab rfl rfl rfl rfl (.inl rfl) rfl rfl ?_)
  repeat (first|refine q1 ?_|refine q3 ?_|refine q4 tab rfl rfl ?_|refine q5 ?_|refine q6 ?_|refine q13 ?_|refine q15 ?_|refine q17 rfl ?_)
  refine retQ_ret rfl (by repeat (exact List.Sublist.refl _)) ⟨hm1, rfl, ?_⟩
  exact .inl ⟨v, e1, rfl⟩
 ·repeat (first|refine q1 ?_|refine q3 ?_|refine q4 tab rfl rfl ?_|refine q5 ?_|refine q6 ?_)
  refine TO.step rfl (OT.errNe tab rfl rfl rfl rfl (.inr ⟨_, _, rfl⟩) rfl rfl ?_)
  repeat (first|refine q1 ?_|refine q3 ?_|refine q4 tab rfl rfl ?_|refine q5 ?_|refine q6 ?_|refine q16 rfl ?_)
  rcases hc with ⟨rfl, _⟩ | rfl
  ·refine TO.step rfl (OT.call rfl rfl rfl rfl rfl rfl goes94 ((toError_rng _ _ _ s 16 8 hl (hE.mono hm1)).x ?_));
   rintro _ m2 _ ⟨hm2, rfl, u, w, rfl⟩
   repeat (first|refine q4 tab rfl rfl ?_|refine q5 ?_|refine q6 ?_|refine q8 ?_|refine q15 ?_)
   refine retQ_ret rfl (by repeat (exact List.Sublist.refl _)) ⟨Mem.le_trans hm1 hm2, rfl, ?_⟩
   exact .inr ⟨e1, _, _, _, rfl⟩
  ·refine TO.step rfl (OT.call rfl rfl rfl rfl rfl rfl goes94 ((toError_syn _ _ _ s 16 8 hl (hE.mono hm1)).x ?_));
   rintro _ m2 _ ⟨hm2, rfl, u, w, rfl⟩
   repeat (first|refine q4 tab rfl rfl ?_|refine q5 ?_|refine q6 ?_|refine q8 ?_|refine q15 ?_)
   refine retQ_ret rfl (by repeat (exact List.Sublist.refl _)) ⟨Mem.le_trans hm1 hm2, rfl, ?_⟩
   exact .inr ⟨e1, _, _, _, rfl⟩
end Go.Sep


/- ScBuild -/
set_option linter.unusedVariables false
set_option linter.unusedSimpArgs false
namespace Go.Sep
open Go.Proofs
attribute [local irreducible] TC TO OT TCallX TCall DO DOt thenQ blockQ retQ At
structure BOk (m : Mem) (bd : Nat) (q : Option Addr) (s : Sl) (l : Str) : Prop where
 ty : m.t bd = some (102, 2)
 q : q = none ∨ q = some ⟨bd, 0, none⟩
 sl : SlRep rByte m s l
 own : Own s
 row : ∀ b o, s.a = some ⟨b, o, none⟩ → o = 0 ∧ m.t b = some (5, s.cap) ∧ m.pin.heap.size ≤ b
 none : l = [] → s = ⟨none, 0, 0⟩
theorem BOk.mono {m m' : Mem} {bd : Nat} {q : Option Addr} {s : Sl} {l : Str} (h : BOk m bd q s l) (hm : m ≤ m') : BOk m' bd q s l :=
 ⟨hm.t _ _ h.ty, h.q, h.sl.mono hm, h.own, fun b o e => by obtain ⟨h1, h2, h3⟩ := h.row b o e; exact ⟨h1, hm.t _ _ h2, by rw [hm.pin]; exact h3⟩, h.none⟩
set_option maxHeartbeats 800000 in
theorem copyCheck_law (m : Mem) (L : List Item) (bd : Nat) (q : Option Addr) (v : Value) (hv : ∃ a n c, v = .slice a n c) (ht : m.t bd = some (102, 2)) (hq : q = none ∨ q = some ⟨bd, 0, none⟩) :
  TCall Tryz.prog 121 ⟨[.pointer (some ⟨bd, 0, none⟩)]⟩ m (.cells bd 0 [.pointer q, v] :: L) (fun _ m' L' => m' = m ∧ L' = .cells bd 0 [.pointer (some ⟨bd, 0, none⟩), v] :: L) := by
 obtain ⟨a, n, c, rfl⟩ := hv
 unfold TCall
 refine TCallX.enter Tryz.func121 rfl 20 rfl ?_
 repeat (first|refine q1 ?_|refine q3 ?_|refine q4 tab rfl rfl ?_)
 (refine qs rfl (ql tab 0 rfl rfl rfl rfl rfl rfl ?_))
 refine TO.step rfl (OT.ptrNil tab rfl rfl rfl rfl rfl (e := 102) rfl ?_)
 rcases hq with rfl | rfl
 ·repeat (first|refine q3 ?_|refine q4 tab rfl rfl ?_|refine q5 ?_|refine q6 ?_|refine q16 rfl ?_)
  refine TO.step rfl (OT.toUnsafe tab (e := 102) rfl rfl rfl rfl rfl rfl rfl ht (by decide) ?_)
  skip
  refine TO.step rfl (OT.callX (E := Extern.AbiNoEscape.same) (vs := [.pointer (some ⟨bd, 0, none⟩)]) (v := .pointer (some ⟨bd, 0, none⟩)) rfl rfl rfl rfl rfl Tryz.func137 (by kernel_rfl) (by kernel_rfl) (by kernel_rfl) (by kernel_rfl) (fun w _ => rfl) ?_)
  skip
  refine TO.step rfl (OT.fromUnsafe tab (e := 102) rfl rfl rfl rfl rfl rfl ht (by kernel_rfl) rfl ?_)
  repeat (refine q4 tab rfl rfl ?_)
  (refine TO.step rfl (OT.storeL tab 0 rfl rfl rfl rfl rfl rfl rfl rfl ?_))
  repeat (refine q5 ?_)
  refine retQ_n rfl (List.Sublist.refl _) ⟨rfl, rfl⟩
 ·repeat (first|refine q1 ?_|refine q3 ?_|refine q4 tab rfl rfl ?_|refine q5 ?_|refine q6 ?_|refine q17 rfl ?_)
  (refine qs rfl (ql tab 0 rfl rfl rfl rfl rfl rfl ?_))
  repeat (refine q4 tab rfl rfl ?_)
  refine TO.step rfl (OT.ptrSame tab (e := 102) rfl rfl rfl rfl rfl rfl rfl ?_)
  repeat (first|refine q5 ?_|refine q6 ?_|refine q13 ?_|refine q17 rfl ?_)
  refine retQ_n rfl (List.Sublist.refl _) ⟨rfl, rfl⟩
set_option maxHeartbeats 800000 in
theorem writeByte_law (m : Mem) (L : List Item) (bd : Nat) (q : Option Addr) (s : Sl) (l : Str) (c : UInt8) (hB : BOk m bd q s l) (hl : l.length + 1 ≤ 140737488355328) :
  TCall Tryz.prog 96 ⟨[.pointer (some ⟨bd, 0, none⟩), byteV c]⟩ m (.cells bd 0 [.pointer q, s.v] :: tok s 1 :: L) (fun _ m' L' => m ≤ m' ∧ ∃ s' q', L' = .cells bd 0 [.pointer q', s'.v] :: tok s' 1 :: L ∧ BOk m' bd q' s' (l ++ [c])) := by
 unfold TCall
 refine TCallX.enter Tryz.func96 rfl 17 rfl ?_
 repeat (first|refine q1 ?_|refine q3 ?_|refine q4 tab rfl rfl ?_|refine q5 ?_|refine q6 ?_)
 refine TO.step rfl (OT.call rfl rfl rfl rfl rfl rfl goes121 ((copyCheck_law _ _ bd q s.v ⟨_, _, _, rfl⟩ hB.ty hB.q).x ?_));
 rintro _ _ _ ⟨rfl, rfl⟩
 repeat (first|refine q1 ?_|refine q3 ?_|refine q4 tab rfl rfl ?_|refine q5 ?_|refine q6 ?_)
 (refine qs rfl (ql tab 0 rfl rfl rfl rfl rfl rfl ?_))
 repeat (refine q4 tab rfl rfl ?_)
 refine TO.step rfl (OT.lit tab rfl rfl rfl rfl (fun b => ?_))
 refine TO.freeze fun m1 hm1 hA1 => ?_
 have hB1 := hB.mono hm1
 refine TO.step rfl (OT.appendT tab rByte 1 hB1.sl hB1.own (SlRep.one (b := b) (h := c) (a := c) hA1 rfl (by decide)) rfl rfl rfl rfl rfl rfl rfl (by show (l.length + 1) * 1 ≤ _; omega) rfl (fun b o e => by obtain ⟨h1, h2, h3⟩ := hB1.row b o e; exact ⟨h1, by rw [show s.cap * rByte.size = s.cap from Nat.mul_one _]; exact h2, h3⟩) (fun s' m2 hm2 hs2 ho2 hr2 => ?_))
 repeat (refine q4 tab rfl rfl ?_)
 (refine TO.step rfl (OT.storeL tab 0 rfl rfl rfl rfl rfl rfl rfl rfl ?_))
 repeat (first|refine q1 ?_|refine q3 ?_|refine q4 tab rfl rfl ?_|refine q5 ?_|refine q6 ?_|refine q15 ?_)
 refine retQ_ret rfl (List.Sublist.refl _) ⟨Mem.le_trans hm1 hm2, s', _, rfl, hm2.t _ _ hB1.ty, .inr rfl, hs2, ho2, fun b o e => by obtain ⟨h1, h2, h3⟩ := hr2 b o e; exact ⟨h1, by rw [show s'.cap * rByte.size = s'.cap from Nat.mul_one _] at h2; exact h2, h3⟩, fun e => by simp at e⟩
set_option maxHeartbeats 800000 in
theorem string_law (m : Mem) (L : List Item) (bd : Nat) (q : Option Addr) (s : Sl) (l : Str) (hB : BOk m bd q s l) :
  TCall Tryz.prog 95 ⟨[.pointer (some ⟨bd, 0, none⟩)]⟩ m (.cells bd 0 [.pointer q, s.v] :: tok s 1 :: L) (Ret (strV l) m L) := by
 have hlen := hB.sl.len
 have hcap := hB.sl.cap
 have hfit : s.len * 1 ≤ 140737488355328 := hB.sl.fit
 unfold TCall
 refine TCallX.enter Tryz.func95 rfl 14 rfl ?_
 repeat (first|refine q1 ?_|refine q3 ?_|refine q4 tab rfl rfl ?_|refine q5 ?_|refine q6 ?_)
 by_cases hl : l = []
 ·have h0 := hB.none hl
  subst h0
  refine TC.draw0 [] mixed 12 rfl ?_
  refine DO.pure tab (by repeat (first|exact Calm.ret|refine Calm.then ?_)) (by kernel_rfl) [0, 1, 2] (by kernel_rfl) rfl ?_
  (refine DO.loadL tab 3 0 (by repeat (first|exact Calm.ret|refine Calm.then ?_)) (by kernel_rfl) (by kernel_rfl) rfl rfl rfl rfl rfl rfl rfl rfl ?_)
  refine DO.pure tab (by repeat (first|exact Calm.ret|refine Calm.then ?_)) (by kernel_rfl) [5, 6, 7] (by kernel_rfl) rfl ?_
  (refine DO.loadL tab 8 0 (by repeat (first|exact Calm.ret|refine Calm.then ?_)) (by kernel_rfl) (by kernel_rfl) rfl rfl rfl rfl rfl rfl rfl rfl ?_)
  refine DO.pure tab (by repeat (first|exact Calm.ret|refine Calm.then ?_)) (by kernel_rfl) [9] (by kernel_rfl) rfl ?_
  refine DO.run 4 rfl rfl (by kernel_rfl) rfl ?_
  refine OT.sliceData rfl rfl rfl rfl (.inl rfl) ?_; refine ⟨Mem.le_refl _, _, List.Perm.refl _, ?_⟩
  refine DO.run 10 rfl rfl (by kernel_rfl) rfl ?_
  refine OT.unsafeStr0 rfl rfl rfl rfl rfl ?_; refine ⟨Mem.le_refl _, _, List.Perm.refl _, ?_⟩
  refine DO.pure tab (by repeat (first|exact Calm.ret|refine Calm.then ?_)) (by kernel_rfl) [11] (by kernel_rfl) rfl ?_
  (refine DO.nil0 (by kernel_rfl) ?_)
  rotate_left 1
  repeat (first|refine q6 ?_|refine q15 ?_)
  refine retQ_ret rfl (by repeat (first|exact List.Sublist.refl _|refine List.Sublist.cons _ ?_)) ⟨rfl, rfl, ?_⟩
  rw [hl]
 ·obtain ⟨hs, k1, k2⟩ := hB.sl.cells
  have hpos : 0 < l.length := List.length_pos_iff.2 hl
  rcases k2 with ⟨k2, _⟩ | ⟨b, o, k2, k3⟩
  ·exact absurd k2 hl
  obtain ⟨g1, g2, g3⟩ := hB.row b o k2
  subst g1
  have he := byte_all2 k1
  subst he
  rw [encs_byte] at k3
  obtain ⟨sa, sn, sc⟩ := s
  simp only at k2 hlen hcap hfit g2
  subst k2
  refine TC.draw [] mixed 12 rfl [_] (tok ⟨some ⟨b, 0, none⟩, sn, sc⟩ 1 :: L) (by first | exact List.Perm.refl _ | (rw [List.append_nil]; exact List.Perm.refl _)) ?_
  refine DO.pure tab (by repeat (first|exact Calm.ret|refine Calm.then ?_)) (by kernel_rfl) [0, 1, 2] (by kernel_rfl) rfl ?_
  (refine DO.loadL tab 3 0 (by repeat (first|exact Calm.ret|refine Calm.then ?_)) (by kernel_rfl) (by kernel_rfl) rfl rfl rfl rfl rfl rfl rfl rfl ?_)
  refine DO.pure tab (by repeat (first|exact Calm.ret|refine Calm.then ?_)) (by kernel_rfl) [5, 6, 7] (by kernel_rfl) rfl ?_
  (refine DO.loadL tab 8 0 (by repeat (first|exact Calm.ret|refine Calm.then ?_)) (by kernel_rfl) (by kernel_rfl) rfl rfl rfl rfl rfl rfl rfl rfl ?_)
  refine DO.pure tab (by repeat (first|exact Calm.ret|refine Calm.then ?_)) (by kernel_rfl) [9] (by kernel_rfl) rfl ?_
  refine DO.run 4 rfl rfl (by kernel_rfl) rfl ?_
  refine OT.sliceData rfl rfl rfl rfl (.inr (show sc ≠ 0 by omega)) ?_; refine ⟨Mem.le_refl _, _, List.Perm.refl _, ?_⟩
  refine DO.run 10 rfl rfl (by kernel_rfl) rfl ?_
  refine OT.perm pf1 (OT.unsafeStr tab (e := 5) (g := b) (n := sn) (c := sc) rfl rfl rfl rfl rfl rfl (by kernel_rfl) k3 hlen.symm (by omega) hcap (by omega) g2 g3 ?_); refine ⟨Mem.le_refl _, L, List.Perm.refl _, ?_⟩
  refine DO.pure tab (by repeat (first|exact Calm.ret|refine Calm.then ?_)) (by kernel_rfl) [11] (by kernel_rfl) rfl ?_
  (refine DO.nil (by kernel_rfl) ?_)
  rotate_left 1
  repeat (first|refine q6 ?_|refine q15 ?_)
  refine retQ_ret rfl (by repeat (first|exact List.Sublist.refl _|refine List.Sublist.cons _ ?_)) ⟨rfl, rfl, ?_⟩
  rfl
end Go.Sep


/- ScLit0 -/
set_option linter.unusedVariables false
set_option linter.unusedSimpArgs false
namespace Go.Sep
def hexB (a b : UInt8) : Option UInt8 := (pU 16 255 [a, b] 0).map UInt8.ofNat
def escX : Str → Option (UInt8 × Nat)
 | a :: b :: _ => (hexB a b).map fun x => (x, 3)
 | _ => none
def escB : Str → Option (UInt8 × Nat)
 | [] => none
 | c :: r => if c.toNat = 110 then some (10, 1) else if c.toNat = 116 then some (9, 1) else if c.toNat = 34 ∨ c.toNat = 92 then some (c, 1) else if c.toNat = 120 then escX r else none
def litF : Nat → Str → Option (Str × Nat)
 | 0, _ => none
 | _ + 1, [] => none
 | f + 1, c :: r => if c.toNat = 34 then some ([], 1) else if c.toNat = 10 then none else if c.toNat = 92 then (match escB r with
  | none => none
  | some (b, n) => (litF f (r.drop n)).map fun p => (b :: p.1, p.2 + 1 + n)) else (litF f r).map fun p => (c :: p.1, p.2 + 1)
def lit (r : Str) : Option (Str × Nat) := litF (r.length + 1) r
theorem escX_pos {r : Str} {b : UInt8} {n : Nat} (h : escX r = some (b, n)) : 1 ≤ n ∧ n ≤ r.length + 1 := by
 match r, h with
 | a :: b' :: r', h =>
  replace h : (hexB a b').map (fun x => (x, 3)) = some (b, n) := h
  cases hx : hexB a b' with
  | none => rw [hx] at h; cases h
  | some x => rw [hx] at h; cases h; simp
theorem escB_pos {r : Str} {b : UInt8} {n : Nat} (h : escB r = some (b, n)) : 1 ≤ n ∧ n ≤ r.length := by
 cases r with
 | nil => cases h
 | cons c r =>
  rw [escB] at h
  by_cases h1 : c.toNat = 110
  ·rw [if_pos h1] at h; cases h; simp
  ·rw [if_neg h1] at h
   by_cases h2 : c.toNat = 116
   ·rw [if_pos h2] at h; cases h; simp
   ·rw [if_neg h2] at h
    by_cases h3 : c.toNat = 34 ∨ c.toNat = 92
    ·rw [if_pos h3] at h; cases h; simp
    ·rw [if_neg h3] at h
     by_cases h4 : c.toNat = 120
     ·rw [if_pos h4] at h; exact escX_pos h
     ·rw [if_neg h4] at h; cases h
theorem litF_fuel : ∀ (f g : Nat) (r : Str), r.length < f → r.length < g → litF f r = litF g r
 | 0, _, _, h, _ => by omega
 | _, 0, _, _, h => by omega
 | f + 1, g + 1, [], _, _ => rfl
 | f + 1, g + 1, c :: r, h1, h2 => by
  simp only [List.length_cons] at h1 h2
  rw [litF, litF]
  split
  ·rfl
  ·split
   ·rfl
   ·split
    ·cases he : escB r with
     | none => rfl
     | some p =>
      obtain ⟨b, n⟩ := p
      have hl : (r.drop n).length ≤ r.length := by simp
      simp only
      rw [litF_fuel f g (r.drop n) (by omega) (by omega)]
    ·rw [litF_fuel f g r (by omega) (by omega)]
theorem litF_lit {f : Nat} {r : Str} (h : r.length < f) : litF f r = lit r := litF_fuel _ _ _ h (by omega)
theorem lit_quote {c : UInt8} {r : Str} (h : c.toNat = 34) : lit (c :: r) = some ([], 1) := by rw [lit, litF, if_pos h]
theorem lit_nl {c : UInt8} {r : Str} (h : c.toNat = 10) : lit (c :: r) = none := by rw [lit, litF, if_neg (by omega), if_pos h]
theorem lit_esc {c : UInt8} {r : Str} (h : c.toNat = 92) : lit (c :: r) = match escB r with
  | none => none
  | some (b, n) => (lit (r.drop n)).map fun p => (b :: p.1, p.2 + 1 + n) := by
 rw [lit, litF, if_neg (by omega), if_neg (by omega), if_pos h]
 cases he : escB r with
 | none => rfl
 | some p =>
  obtain ⟨b, n⟩ := p
  simp only
  rw [litF_lit (by simp; omega)]
theorem lit_esc_none {c : UInt8} {r : Str} (h : c.toNat = 92) (h2 : escB r = none) : lit (c :: r) = none := by
 rw [lit_esc h, h2]
theorem lit_esc_some {c : UInt8} {r : Str} {b : UInt8} {n : Nat} (h : c.toNat = 92) (h2 : escB r = some (b, n)) : lit (c :: r) = (lit (r.drop n)).map fun p => (b :: p.1, p.2 + 1 + n) := by
 rw [lit_esc h, h2]
theorem lit_one {c : UInt8} {r : Str} (h1 : c.toNat ≠ 34) (h2 : c.toNat ≠ 10) (h3 : c.toNat ≠ 92) : lit (c :: r) = (lit r).map fun p => (c :: p.1, p.2 + 1) := by
 rw [lit, litF, if_neg h1, if_neg h2, if_neg h3, litF_lit (by simp)]
theorem esc_n {c : UInt8} {r : Str} (h : c.toNat = 110) : escB (c :: r) = some (10, 1) := by rw [escB, if_pos h]
theorem esc_t {c : UInt8} {r : Str} (h : c.toNat = 116) : escB (c :: r) = some (9, 1) := by rw [escB, if_neg (by omega), if_pos h]
theorem esc_self {c : UInt8} {r : Str} (h : c.toNat = 34 ∨ c.toNat = 92) : escB (c :: r) = some (c, 1) := by rw [escB, if_neg (by omega), if_neg (by omega), if_pos h]
theorem esc_x {c a b : UInt8} {r : Str} (h : c.toNat = 120) : escB (c :: a :: b :: r) = (hexB a b).map fun x => (x, 3) := by rw [escB, if_neg (by omega), if_neg (by omega), if_neg (by omega), if_pos h, escX]
theorem esc_xs {c : UInt8} {r : Str} (h : c.toNat = 120) (h2 : r.length < 2) : escB (c :: r) = none := by
 rw [escB, if_neg (by omega), if_neg (by omega), if_neg (by omega), if_pos h]
 match r, h2 with
 | [], _ => rfl
 | [_], _ => rfl
theorem esc_no {c : UInt8} {r : Str} (h1 : c.toNat ≠ 110) (h2 : c.toNat ≠ 116) (h3 : c.toNat ≠ 34) (h4 : c.toNat ≠ 92) (h5 : c.toNat ≠ 120) : escB (c :: r) = none := by
 rw [escB, if_neg h1, if_neg h2, if_neg (by omega), if_neg h5]
def LitAt (s : Str) (j i : Nat) (acc : Str) (res : Option (Str × Nat)) : Prop := res = (lit (s.drop i)).map fun p => (acc ++ p.1, i - j + p.2)
theorem LitAt.start (s : Str) (i : Nat) : LitAt s i i [] (lit (s.drop i)) := by
 unfold LitAt
 cases lit (s.drop i) <;> simp
theorem LitAt.end_ {s : Str} {j i : Nat} {acc : Str} {res : Option (Str × Nat)} (h : LitAt s j i acc res) (hi : s.length ≤ i) : res = none := by
 rw [h, List.drop_eq_nil_of_le hi]; rfl
theorem LitAt.quote {s : Str} {j i : Nat} {acc : Str} {res : Option (Str × Nat)} (h : LitAt s j i acc res) (hi : i < s.length) (hc : s[i].toNat = 34) : res = some (acc, i - j + 1) := by
 rw [h, List.drop_eq_getElem_cons hi, lit_quote hc]; simp
theorem LitAt.nl {s : Str} {j i : Nat} {acc : Str} {res : Option (Str × Nat)} (h : LitAt s j i acc res) (hi : i < s.length) (hc : s[i].toNat = 10) : res = none := by
 rw [h, List.drop_eq_getElem_cons hi, lit_nl hc]; rfl
theorem LitAt.bad {s : Str} {j i : Nat} {acc : Str} {res : Option (Str × Nat)} (h : LitAt s j i acc res) (hi : i < s.length) (hc : s[i].toNat = 92) (he : escB (s.drop (i + 1)) = none) : res = none := by
 rw [h, List.drop_eq_getElem_cons hi, lit_esc_none hc he]; rfl
theorem LitAt.esc {s : Str} {j i : Nat} {acc : Str} {res : Option (Str × Nat)} {b : UInt8} {n : Nat} (h : LitAt s j i acc res) (hj : j ≤ i) (hi : i < s.length) (hc : s[i].toNat = 92) (he : escB (s.drop (i + 1)) = some (b, n)) : LitAt s j (i + 1 + n) (acc ++ [b]) res := by
 unfold LitAt at h ⊢
 rw [h, List.drop_eq_getElem_cons hi, lit_esc_some hc he, List.drop_drop, Option.map_map]
 congr 1
 funext p
 simp only [Function.comp, List.append_assoc, List.singleton_append, Prod.mk.injEq, true_and]
 omega
theorem LitAt.one {s : Str} {j i : Nat} {acc : Str} {res : Option (Str × Nat)} (h : LitAt s j i acc res) (hj : j ≤ i) (hi : i < s.length) (h1 : s[i].toNat ≠ 34) (h2 : s[i].toNat ≠ 10) (h3 : s[i].toNat ≠ 92) : LitAt s j (i + 1) (acc ++ [s[i]]) res := by
 unfold LitAt at h ⊢
 rw [h, List.drop_eq_getElem_cons hi, lit_one h1 h2 h3, Option.map_map]
 congr 1
 funext p
 simp only [Function.comp, List.append_assoc, List.singleton_append, Prod.mk.injEq, true_and]
 omega
theorem pU_le {base maxV : Nat} : ∀ (s : Str) (n v : Nat), n ≤ maxV → pU base maxV s n = some v → v ≤ maxV
 | [], n, v, h, e => by cases e; exact h
 | c :: cs, n, v, h, e => by
  rw [pU] at e
  split at e
  ·cases e
  ·split at e
   ·rename_i hc
    exact pU_le cs _ v hc.2 e
   ·cases e
end Go.Sep


/- ScLit -/
set_option linter.unusedVariables false
set_option linter.unusedSimpArgs false
namespace Go.Sep
open Go.Proofs
attribute [local irreducible] TC TO OT TCallX TCall DO DOt thenQ blockQ retQ At
structure LitS where
 m : Mem
 q : Option Addr
 sl : Sl
 i : Nat
 acc : Str
def litR (o : Option (Str × Nat)) : Value := match o with
 | some (t, n) => .tuple ⟨[strV t, .int .i64 ((n + 1 : Nat) : Int)]⟩
 | none => .tuple ⟨[strV [], .int .i64 0]⟩
set_option maxHeartbeats 2000000 in
theorem literal_law (m : Mem) (L : List Item) (s : Str) (h0 : 0 < s.length) (hl : s.length ≤ 70000) (hE : Errs m) : TCall Tryz.prog 63 ⟨[strV s]⟩ m L (Made m L fun r _ => r = litR (lit (s.drop 1))) := by
 unfold TCall
 refine TCallX.enter Tryz.func63 rfl 76 rfl ?_
 repeat (first|refine q1 ?_|refine q3 ?_|refine q4 tab rfl rfl ?_|refine q5 ?_|refine q6 ?_)
 refine TO.step rfl (OT.allocT tab rfl rfl rfl rfl (fun bd m1 hm1 ht1 => ?_))
 repeat (first|refine q1 ?_|refine q2 ?_|refine q3 ?_|refine q4 tab rfl rfl ?_|refine q5 ?_|refine q6 ?_)
 refine TC.grow0 (size := 1) ?_
 refine TC.perm pf1 ?_
 refine TC.loopK (ι := LitS) [0, 4] rfl (fun x => [(5, .int .i64 (x.i : Int))]) (fun x => x.m) (fun x => .cells bd 0 [.pointer x.q, x.sl.v] :: tok x.sl 1 :: L) (fun x => m ≤ x.m ∧ 1 ≤ x.i ∧ x.i ≤ s.length ∧ BOk x.m bd x.q x.sl x.acc ∧ x.acc.length ≤ x.i ∧ LitAt s 1 x.i x.acc (lit (s.drop 1))) (fun x => s.length - x.i) ⟨m1, none, ⟨none, 0, 0⟩, 1, []⟩ (by repeat (first|exact trivial|refine And.intro rfl ?_)) rfl (by repeat (exact List.Sublist.refl _)) ⟨hm1, Nat.le_refl _, h0, ⟨ht1, .inl rfl, SlRep.nil _ _, Own.nil, fun _ _ e => (by cases e), fun _ => rfl⟩, Nat.zero_le _, LitAt.start s 1⟩ ?_
 rintro ⟨m1, q, sl, i, acc⟩ ⟨hm, hi1, hi, hB, hacc, hI⟩
 replace hm : m ≤ m1 := hm
 replace hi1 : 1 ≤ i := hi1
 replace hi : i ≤ s.length := hi
 replace hB : BOk m1 bd q sl acc := hB
 replace hacc : acc.length ≤ i := hacc
 replace hI : LitAt s 1 i acc (lit (s.drop 1)) := hI
 show TC _ _ _ ((5, .int .i64 (i : Int)) :: _) _ m1 (.cells bd 0 [.pointer q, sl.v] :: tok sl 1 :: L) _
 repeat (first|refine q1 ?_|refine q3 ?_|refine q4 tab rfl rfl ?_|refine q5 ?_|refine q6 ?_)
 refine TC.condP rfl (fun g1 => ?_) (fun g1 => ?_)
 ·have hlt : i < s.length := by omega
  have hx : s[i]? = some s[i] := by simp [hlt]
  repeat (first|refine q1 ?_|refine q2 ?_|refine q3 ?_|refine q4 tab rfl rfl ?_|refine q6 ?_|refine q13 ?_)
  refine TO.step rfl (OT.sidx tab i rfl rfl rfl rfl rfl rfl rfl hx ?_)
  repeat (first|refine q1 ?_|refine q2 ?_|refine q3 ?_|refine q4 tab rfl rfl ?_|refine q5 ?_|refine q6 ?_)
  refine TC.condP rfl (fun c1 => ?_) (fun c1 => ?_)
  ·repeat (first|refine q1 ?_|refine q3 ?_)
   refine TO.step rfl (OT.call rfl rfl rfl rfl rfl rfl goes95 ((string_law _ _ bd q sl acc hB).x ?_));
   rintro _ _ _ ⟨rfl, rfl, rfl⟩
   repeat (refine q4 tab rfl rfl ?_)
   refine TO.step rfl (OT.arith (r' := ((i + 1 : Nat) : Int)) rfl rfl rfl rfl rfl rfl rfl (by omega) ?_)
   repeat (first|refine q4 tab rfl rfl ?_|refine q5 ?_|refine q6 ?_|refine q8 ?_|refine q9 ?_|refine q15 ?_)
   refine retQ_ret rfl (by repeat (exact List.Sublist.refl _)) ⟨hm, rfl, ?_⟩
   rw [hI.quote hlt (by omega)]
   show Value.tuple ⟨[strV acc, .int .i64 ((i + 1 : Nat) : Int)]⟩ = .tuple ⟨[strV acc, .int .i64 ((i - 1 + 1 + 1 : Nat) : Int)]⟩
   rw [show i - 1 + 1 + 1 = i + 1 by omega]
  repeat (first|refine q1 ?_|refine q3 ?_|refine q4 tab rfl rfl ?_|refine q5 ?_|refine q6 ?_)
  refine TC.condP rfl (fun c2 => ?_) (fun c2 => ?_)
  ·repeat (first|refine q1 ?_|refine q3 ?_|refine q4 tab rfl rfl ?_|refine q5 ?_|refine q6 ?_|refine q8 ?_|refine q9 ?_|refine q15 ?_)
   refine retQ_ret rfl (by repeat (first|exact List.Sublist.refl _|refine List.Sublist.cons _ ?_)) ⟨hm, rfl, ?_⟩
   rw [hI.nl hlt (by omega)]; rfl
  repeat (first|refine q1 ?_|refine q3 ?_|refine q4 tab rfl rfl ?_|refine q5 ?_|refine q6 ?_)
  refine TC.condP rfl (fun c3 => ?_) (fun c3 => ?_)
  ·repeat (first|refine q1 ?_|refine q3 ?_|refine q4 tab rfl rfl ?_)
   refine TO.step rfl (OT.arith (r' := ((i + 1 : Nat) : Int)) rfl rfl rfl rfl rfl rfl rfl (by omega) ?_)
   repeat (first|refine q1 ?_|refine q3 ?_|refine q4 tab rfl rfl ?_|refine q5 ?_|refine q6 ?_)
   refine TC.condP rfl (fun c4 => ?_) (fun c4 => ?_)
   ·repeat (first|refine q1 ?_|refine q3 ?_|refine q4 tab rfl rfl ?_|refine q5 ?_|refine q6 ?_|refine q8 ?_|refine q9 ?_|refine q15 ?_)
    refine retQ_ret rfl (by repeat (first|exact List.Sublist.refl _|refine List.Sublist.cons _ ?_)) ⟨hm, rfl, ?_⟩
    rw [hI.bad hlt (by omega) (by rw [List.drop_eq_nil_of_le (by omega)]; rfl)]; rfl
   have hlt2 : i + 1 < s.length := by omega
   have hx2 : s[i + 1]? = some s[i + 1] := by simp [hlt2]
   have hd2 := List.drop_eq_getElem_cons hlt2
   repeat (first|refine q1 ?_|refine q3 ?_|refine q4 tab rfl rfl ?_|refine q6 ?_|refine q13 ?_)
   refine TO.step rfl (OT.sidx tab (i + 1) rfl rfl rfl rfl rfl rfl rfl hx2 ?_)
   repeat (first|refine q1 ?_|refine q2 ?_|refine q3 ?_|refine q4 tab rfl rfl ?_|refine q5 ?_|refine q6 ?_)
   refine TC.condP rfl (fun d1 => ?_) (fun d1 => ?_)
   ·have he : escB (s.drop (i + 1)) = some (10, 1) := by rw [hd2]; exact esc_n (by omega)
    repeat (refine q3 ?_)
    refine TO.step rfl (OT.call rfl rfl rfl rfl rfl rfl goes96 ((writeByte_law _ _ bd q sl acc 10 hB (by omega)).x ?_));
    rintro _ m2 _ ⟨hm2, sl2, q2, rfl, hB2⟩
    repeat (first|refine q3 ?_|refine q4 tab rfl rfl ?_|refine q5 ?_|refine q6 ?_|refine q7 ?_)
    refine TO.step rfl (OT.arith (r' := (((i + 1) + 1 : Nat) : Int)) rfl rfl rfl rfl rfl rfl rfl (by omega) ?_)
    repeat (first|refine q4 tab rfl rfl ?_|refine q5 ?_|refine q6 ?_)
    exact ⟨⟨m2, q2, sl2, (i + 1) + 1, acc ++ [10]⟩, (by repeat (first|exact trivial|refine And.intro rfl ?_)), (by repeat (first|exact trivial|refine And.intro rfl ?_)), rfl, rfl, (by repeat (exact List.Sublist.refl _)), ⟨Mem.le_trans hm hm2, by show _ ≤ (i + 1) + 1; omega, by show (i + 1) + 1 ≤ _; omega, hB2, by show (acc ++ [_]).length ≤ (i + 1) + 1; rw [List.length_append]; simp only [List.length_cons, List.length_nil]; omega, (hI.esc hi1 hlt (by omega) he)⟩, by show s.length - ((i + 1) + 1) < s.length - i; omega⟩
   repeat (first|refine q1 ?_|refine q3 ?_|refine q4 tab rfl rfl ?_|refine q5 ?_|refine q6 ?_)
   refine TC.condP rfl (fun d2 => ?_) (fun d2 => ?_)
   ·have he : escB (s.drop (i + 1)) = some (9, 1) := by rw [hd2]; exact esc_t (by omega)
    repeat (refine q3 ?_)
    refine TO.step rfl (OT.call rfl rfl rfl rfl rfl rfl goes96 ((writeByte_law _ _ bd q sl acc 9 hB (by omega)).x ?_));
    rintro _ m2 _ ⟨hm2, sl2, q2, rfl, hB2⟩
    repeat (first|refine q3 ?_|refine q4 tab rfl rfl ?_|refine q5 ?_|refine q6 ?_|refine q7 ?_)
    refine TO.step rfl (OT.arith (r' := (((i + 1) + 1 : Nat) : Int)) rfl rfl rfl rfl rfl rfl rfl (by omega) ?_)
    repeat (first|refine q4 tab rfl rfl ?_|refine q5 ?_|refine q6 ?_)
    exact ⟨⟨m2, q2, sl2, (i + 1) + 1, acc ++ [9]⟩, (by repeat (first|exact trivial|refine And.intro rfl ?_)), (by repeat (first|exact trivial|refine And.intro rfl ?_)), rfl, rfl, (by repeat (exact List.Sublist.refl _)), ⟨Mem.le_trans hm hm2, by show _ ≤ (i + 1) + 1; omega, by show (i + 1) + 1 ≤ _; omega, hB2, by show (acc ++ [_]).length ≤ (i + 1) + 1; rw [List.length_append]; simp only [List.length_cons, List.length_nil]; omega, (hI.esc hi1 hlt (by omega) he)⟩, by show s.length - ((i + 1) + 1) < s.length - i; omega⟩
   repeat (first|refine q1 ?_|refine q3 ?_|refine q4 tab rfl rfl ?_|refine q5 ?_|refine q6 ?_)
   refine TC.condP rfl (fun d3 => ?_) (fun d3 => ?_)
   ·have he : escB (s.drop (i + 1)) = some (s[i + 1], 1) := by rw [hd2]; exact esc_self (by omega)
    repeat (first|refine q6 ?_|refine q13 ?_)
    refine TC.condP rfl (fun _ => ?_) (fun h => absurd d3 h)
    repeat (first|refine q3 ?_|refine q4 tab rfl rfl ?_)
    refine TO.step rfl (OT.sidx tab (i + 1) rfl rfl rfl rfl rfl rfl rfl hx2 ?_)
    skip
    refine TO.step rfl (OT.call rfl rfl rfl rfl rfl rfl goes96 ((writeByte_law _ _ bd q sl acc s[i + 1] hB (by omega)).x ?_));
    rintro _ m2 _ ⟨hm2, sl2, q2, rfl, hB2⟩
    repeat (first|refine q3 ?_|refine q4 tab rfl rfl ?_|refine q5 ?_|refine q6 ?_|refine q7 ?_)
    refine TO.step rfl (OT.arith (r' := (((i + 1) + 1 : Nat) : Int)) rfl rfl rfl rfl rfl rfl rfl (by omega) ?_)
    repeat (first|refine q4 tab rfl rfl ?_|refine q5 ?_|refine q6 ?_)
    exact ⟨⟨m2, q2, sl2, (i + 1) + 1, acc ++ [s[i + 1]]⟩, (by repeat (first|exact trivial|refine And.intro rfl ?_)), (by repeat (first|exact trivial|refine And.intro rfl ?_)), rfl, rfl, (by repeat (exact List.Sublist.refl _)), ⟨Mem.le_trans hm hm2, by show _ ≤ (i + 1) + 1; omega, by show (i + 1) + 1 ≤ _; omega, hB2, by show (acc ++ [_]).length ≤ (i + 1) + 1; rw [List.length_append]; simp only [List.length_cons, List.length_nil]; omega, (hI.esc hi1 hlt (by omega) he)⟩, by show s.length - ((i + 1) + 1) < s.length - i; omega⟩
   repeat (first|refine q3 ?_|refine q4 tab rfl rfl ?_|refine q5 ?_|refine q6 ?_)
   refine TC.condP rfl (fun d4 => ?_) (fun d4 => ?_)
   ·have he : escB (s.drop (i + 1)) = some (s[i + 1], 1) := by rw [hd2]; exact esc_self (by omega)
    repeat (first|refine q3 ?_|refine q4 tab rfl rfl ?_)
    refine TO.step rfl (OT.sidx tab (i + 1) rfl rfl rfl rfl rfl rfl rfl hx2 ?_)
    skip
    refine TO.step rfl (OT.call rfl rfl rfl rfl rfl rfl goes96 ((writeByte_law _ _ bd q sl acc s[i + 1] hB (by omega)).x ?_));
    rintro _ m2 _ ⟨hm2, sl2, q2, rfl, hB2⟩
    repeat (first|refine q3 ?_|refine q4 tab rfl rfl ?_|refine q5 ?_|refine q6 ?_|refine q7 ?_)
    refine TO.step rfl (OT.arith (r' := (((i + 1) + 1 : Nat) : Int)) rfl rfl rfl rfl rfl rfl rfl (by omega) ?_)
    repeat (first|refine q4 tab rfl rfl ?_|refine q5 ?_|refine q6 ?_)
    exact ⟨⟨m2, q2, sl2, (i + 1) + 1, acc ++ [s[i + 1]]⟩, (by repeat (first|exact trivial|refine And.intro rfl ?_)), (by repeat (first|exact trivial|refine And.intro rfl ?_)), rfl, rfl, (by repeat (exact List.Sublist.refl _)), ⟨Mem.le_trans hm hm2, by show _ ≤ (i + 1) + 1; omega, by show (i + 1) + 1 ≤ _; omega, hB2, by show (acc ++ [_]).length ≤ (i + 1) + 1; rw [List.length_append]; simp only [List.length_cons, List.length_nil]; omega, (hI.esc hi1 hlt (by omega) he)⟩, by show s.length - ((i + 1) + 1) < s.length - i; omega⟩
   repeat (first|refine q1 ?_|refine q3 ?_|refine q4 tab rfl rfl ?_|refine q5 ?_|refine q6 ?_)
   refine TC.condP rfl (fun d5 => ?_) (fun d5 => ?_)
   ·repeat (first|refine q1 ?_|refine q3 ?_|refine q4 tab rfl rfl ?_)
    refine TO.step rfl (OT.arith (r' := ((i + 3 : Nat) : Int)) rfl rfl rfl rfl rfl rfl rfl (by omega) ?_)
    repeat (first|refine q4 tab rfl rfl ?_|refine q5 ?_|refine q6 ?_)
    refine TC.condP rfl (fun d6 => ?_) (fun d6 => ?_)
    ·repeat (first|refine q1 ?_|refine q3 ?_|refine q4 tab rfl rfl ?_|refine q5 ?_|refine q6 ?_|refine q8 ?_|refine q9 ?_|refine q15 ?_)
     refine retQ_ret rfl (by repeat (first|exact List.Sublist.refl _|refine List.Sublist.cons _ ?_)) ⟨hm, rfl, ?_⟩
     rw [hI.bad hlt (by omega) (by rw [hd2]; exact esc_xs (by omega) (by rw [List.length_drop]; omega))]; rfl
    have hl3 : i + 2 < s.length := by omega
    have hl4 : i + 3 < s.length := by omega
    have hcut : (s.take (i + 4)).drop (i + 2) = [s[i + 2], s[i + 3]] := by
     rw [List.take_succ_eq_append_getElem hl4, List.take_succ_eq_append_getElem hl3, List.append_assoc, List.drop_append, List.drop_eq_nil_of_le (by simp; omega)]
     simp [Nat.min_eq_left (show i + 2 ≤ s.length by omega)]
    have hd3 : s.drop (i + 1) = s[i + 1] :: s[i + 2] :: s[i + 3] :: s.drop (i + 4) := by
     rw [hd2, List.drop_eq_getElem_cons hl3, List.drop_eq_getElem_cons hl4]
    repeat (first|refine q1 ?_|refine q3 ?_|refine q4 tab rfl rfl ?_|refine q6 ?_|refine q13 ?_)
    refine TO.step rfl (OT.arith (r' := ((i + 2 : Nat) : Int)) rfl rfl rfl rfl rfl rfl rfl (by omega) ?_)
    repeat (refine q4 tab rfl rfl ?_)
    refine TO.step rfl (OT.arith (r' := ((i + 4 : Nat) : Int)) rfl rfl rfl rfl rfl rfl rfl (by omega) ?_)
    refine TO.step rfl (OT.sub tab (i + 2) (i + 4) rfl rfl rfl rfl rfl rfl rfl (.inr rfl) (.inr rfl) (by omega) (by omega) ?_)
    rw [hcut]
    refine TO.step rfl (OT.call rfl rfl rfl rfl rfl rfl goes97 ((parseUint_law _ _ [s[i + 2], s[i + 3]] (by simp) (by simp) (hE.mono hm)).x ?_));
    rintro _ m3 _ ⟨hm3, rfl, ⟨v, e1, rfl⟩ | ⟨e1, v, a, b, rfl⟩⟩
    ·have hv := pU_le _ _ _ (Nat.zero_le _) e1
     have he : escB (s.drop (i + 1)) = some (UInt8.ofNat v, 3) := by rw [hd3, esc_x (by omega), hexB, e1]; rfl
     repeat (first|refine q1 ?_|refine q3 ?_|refine q4 tab rfl rfl ?_|refine q5 ?_|refine q6 ?_)
     refine TO.step rfl (OT.errNe tab rfl rfl rfl rfl (.inl rfl) rfl rfl ?_)
     repeat (first|refine q1 ?_|refine q3 ?_|refine q4 tab rfl rfl ?_|refine q5 ?_|refine q6 ?_|refine q13 ?_|refine q17 rfl ?_)
     refine TO.step rfl (OT.conv tab rfl rfl rfl rfl rfl rfl (r := ((UInt8.ofNat v).toNat : Int)) (by rw [u8_in (by omega) (by omega), UInt8.toNat_ofNat', Nat.mod_eq_of_lt (by omega)]) ?_)
     replace hB := hB.mono hm3
     refine TO.step rfl (OT.call rfl rfl rfl rfl rfl rfl goes96 ((writeByte_law _ _ bd q sl acc (UInt8.ofNat v) hB (by omega)).x ?_));
     rintro _ m2 _ ⟨hm2, sl2, q2, rfl, hB2⟩
     repeat (first|refine q3 ?_|refine q4 tab rfl rfl ?_|refine q5 ?_|refine q6 ?_)
     refine TO.step rfl (OT.arith (r' := ((i + 3 : Nat) : Int)) rfl rfl rfl rfl rfl rfl rfl (by omega) ?_)
     repeat (first|refine q3 ?_|refine q4 tab rfl rfl ?_|refine q5 ?_|refine q6 ?_|refine q7 ?_)
     refine TO.step rfl (OT.arith (r' := (((i + 3) + 1 : Nat) : Int)) rfl rfl rfl rfl rfl rfl rfl (by omega) ?_)
     repeat (first|refine q4 tab rfl rfl ?_|refine q5 ?_|refine q6 ?_)
     exact ⟨⟨m2, q2, sl2, (i + 3) + 1, acc ++ [(UInt8.ofNat v)]⟩, (by repeat (first|exact trivial|refine And.intro rfl ?_)), (by repeat (first|exact trivial|refine And.intro rfl ?_)), rfl, rfl, (by repeat (exact List.Sublist.refl _)), ⟨Mem.le_trans hm (Mem.le_trans hm3 hm2), by show _ ≤ (i + 3) + 1; omega, by show (i + 3) + 1 ≤ _; omega, hB2, by show (acc ++ [_]).length ≤ (i + 3) + 1; rw [List.length_append]; simp only [List.length_cons, List.length_nil]; omega, (hI.esc hi1 hlt (by omega) he)⟩, by show s.length - ((i + 3) + 1) < s.length - i; omega⟩
    ·repeat (first|refine q1 ?_|refine q3 ?_|refine q4 tab rfl rfl ?_|refine q5 ?_|refine q6 ?_)
     refine TO.step rfl (OT.errNe tab rfl rfl rfl rfl (.inr ⟨_, _, rfl⟩) rfl rfl ?_)
     repeat (first|refine q1 ?_|refine q3 ?_|refine q4 tab rfl rfl ?_|refine q5 ?_|refine q6 ?_|refine q8 ?_|refine q9 ?_|refine q15 ?_|refine q16 rfl ?_)
     refine retQ_ret rfl (by repeat (first|exact List.Sublist.refl _|refine List.Sublist.cons _ ?_)) ⟨Mem.le_trans hm hm3, rfl, ?_⟩
     rw [hI.bad hlt (by omega) (by rw [hd3, esc_x (by omega), hexB, e1]; rfl)]; rfl
   ·repeat (first|refine q1 ?_|refine q3 ?_|refine q4 tab rfl rfl ?_|refine q5 ?_|refine q6 ?_|refine q8 ?_|refine q9 ?_|refine q15 ?_)
    refine retQ_ret rfl (by repeat (first|exact List.Sublist.refl _|refine List.Sublist.cons _ ?_)) ⟨hm, rfl, ?_⟩
    rw [hI.bad hlt (by omega) (by rw [hd2]; exact esc_no (by omega) (by omega) (by omega) (by omega) (by omega))]; rfl
  ·repeat (first|refine q3 ?_|refine q4 tab rfl rfl ?_)
   refine TO.step rfl (OT.sidx tab i rfl rfl rfl rfl rfl rfl rfl hx ?_)
   refine TO.step rfl (OT.call rfl rfl rfl rfl rfl rfl goes96 ((writeByte_law _ _ bd q sl acc s[i] hB (by omega)).x ?_));
   rintro _ m2 _ ⟨hm2, sl2, q2, rfl, hB2⟩
   repeat (first|refine q3 ?_|refine q4 tab rfl rfl ?_|refine q5 ?_|refine q6 ?_|refine q7 ?_)
   refine TO.step rfl (OT.arith (r' := ((i + 1 : Nat) : Int)) rfl rfl rfl rfl rfl rfl rfl (by omega) ?_)
   repeat (first|refine q4 tab rfl rfl ?_|refine q5 ?_|refine q6 ?_)
   exact ⟨⟨m2, q2, sl2, i + 1, acc ++ [s[i]]⟩, (by repeat (first|exact trivial|refine And.intro rfl ?_)), (by repeat (first|exact trivial|refine And.intro rfl ?_)), rfl, rfl, (by repeat (exact List.Sublist.refl _)), ⟨Mem.le_trans hm hm2, by show _ ≤ i + 1; omega, by show i + 1 ≤ _; omega, hB2, by show (acc ++ [_]).length ≤ i + 1; rw [List.length_append]; simp only [List.length_cons, List.length_nil]; omega, (hI.one hi1 hlt (by omega) (by omega) (by omega))⟩, by show s.length - (i + 1) < s.length - i; omega⟩
 ·repeat (first|refine q1 ?_|refine q3 ?_|refine q4 tab rfl rfl ?_|refine q5 ?_|refine q6 ?_|refine q10 ?_|refine q11 ?_|refine q14 ?_|refine q15 ?_)
  refine retQ_ret rfl (by repeat (first|exact List.Sublist.refl _|refine List.Sublist.cons _ ?_)) ⟨hm, rfl, ?_⟩
  rw [hI.end_ (by omega)]; rfl
end Go.Sep


/- ScTok0 -/
set_option linter.unusedVariables false
set_option linter.unusedSimpArgs false
namespace Go.Sep
def isSp (c : UInt8) : Bool := decide (c.toNat = 9) || (decide (c.toNat = 10) || (decide (c.toNat = 13) || decide (c.toNat = 32)))
def blk : Bool → Str → Nat
 | _, [] => 0
 | true, c :: r => if c.toNat = 10 then 1 + blk false r else 1 + blk true r
 | false, c :: r => if isSp c = true then 1 + blk false r else if c.toNat = 47 ∧ r.head? = some 47 then 1 + blk true r else 0
theorem blk_le : ∀ (b : Bool) (s : Str), blk b s ≤ s.length
 | _, [] => by simp [blk]
 | true, c :: r => by
  have h1 := blk_le false r
  have h2 := blk_le true r
  rw [blk, List.length_cons]
  split <;> omega
 | false, c :: r => by
  have h1 := blk_le false r
  have h2 := blk_le true r
  rw [blk, List.length_cons]
  split
  ·omega
  ·split <;> omega
theorem isSp_ix_all : ∀ n : Fin 256, decide (0 ≤ Lib.indexByte [9, 10, 13, 32] (UInt8.ofNat n.val)) = isSp (UInt8.ofNat n.val) := by decide +kernel
theorem isSp_ix (c : UInt8) : decide (0 ≤ Lib.indexByte [9, 10, 13, 32] c) = isSp c := by
 have := isSp_ix_all ⟨c.toNat, c.toNat_lt⟩
 simpa using this
theorem blk_line : ∀ l : Str, (Lib.indexByte l 10 = -1 ∧ blk true l = l.length) ∨ ∃ k : Nat, k < l.length ∧ Lib.indexByte l 10 = (k : Int) ∧ blk true l = k + blk false (l.drop k) ∧ (l.drop k).head? = some 10
 | [] => .inl ⟨rfl, rfl⟩
 | c :: r => by
  by_cases hc : c = 10
  ·subst hc
   refine .inr ⟨0, by simp, rfl, ?_, rfl⟩
   rw [List.drop_zero, Nat.zero_add, blk, blk, if_pos (by decide), if_pos (by decide)]
  ·have hn : c.toNat ≠ 10 := fun e => hc (UInt8.toNat_inj.1 e)
   have hb : (c == 10) = false := by simpa using hc
   rw [Lib.indexByte, blk, if_neg hn, hb]
   simp only [Bool.false_eq_true, if_false]
   rcases blk_line r with ⟨h1, h2⟩ | ⟨k, h1, h2, h3, h4⟩
   ·refine .inl ⟨?_, ?_⟩
    ·rw [h1]; rfl
    ·rw [h2, List.length_cons]; omega
   ·refine .inr ⟨k + 1, by simpa using h1, ?_, ?_, by simpa using h4⟩
    ·rw [h2]
     have : ((k : Int) == -1) = false := by
      simp only [beq_eq_false_iff_ne]; omega
     rw [this]; simp
    ·rw [h3]; simp; omega
theorem blk_rem {c : UInt8} {r : Str} (h1 : c.toNat = 47) (h2 : r.head? = some 47) : blk false (c :: r) = blk true (c :: r) := by
 rw [blk, blk, if_neg (by unfold isSp; simp [h1]), if_pos ⟨h1, h2⟩, if_neg (by omega)]
structure Tok where
 kind : Int
 text : Str
 num : Int
 at_ : Int
 deriving DecidableEq
def markL : List Str := [[58, 61], [61, 61], [33, 61], [60, 61], [62, 61], [38, 38], [124, 124], [40], [41], [123], [125], [91], [93], [44], [59], [46], [58], [61], [60], [62], [43], [45], [42], [47], [37], [38], [33]]
def tokD : Str → Option (Tok × Nat)
 | [] => none
 | c :: r =>
  if ltr c = true then (if 64 < spanOf lod (c :: r) then none else some (⟨if (c :: r).take (spanOf lod (c :: r)) ∈ wordL then 5 else 1, (c :: r).take (spanOf lod (c :: r)), 0, 0⟩, spanOf lod (c :: r)))
  else if dgt c = true then (match numOf ((c :: r).take (spanOf lod (c :: r))) with
   | none => none
   | some v => if (c.toNat = 48 ∧ 1 < spanOf lod (c :: r)) ∨ spanOf dgt (c :: r) ≠ spanOf lod (c :: r) then none else some (⟨2, [], v, 0⟩, spanOf lod (c :: r)))
  else if c.toNat = 34 then (match lit r with
   | none => none
   | some (t, n) => if 1024 < t.length then none else some (⟨3, t, 0, 0⟩, n + 1))
  else match markL.find? (fun p => prefixB p (c :: r)) with
   | none => none
   | some p => some (⟨4, p, 0, 0⟩, p.length)
theorem span_pos {p : UInt8 → Bool} {c : UInt8} {r : Str} (h : p c = true) : 0 < spanOf p (c :: r) := by
 rw [spanOf, List.takeWhile_cons_of_pos h]; simp
theorem span_le (p : UInt8 → Bool) (s : Str) : spanOf p s ≤ s.length := by
 unfold spanOf
 induction s with
 | nil => simp
 | cons x xs ih =>
  rw [List.takeWhile_cons]
  split <;> simp
  exact ih
theorem litF_le : ∀ (f : Nat) (r t : Str) (n : Nat), litF f r = some (t, n) → 1 ≤ n ∧ n ≤ r.length
 | 0, _, _, _, h => by cases h
 | f + 1, [], _, _, h => by cases h
 | f + 1, c :: r, t, n, h => by
  rw [litF] at h
  split at h
  ·cases h; simp
  ·split at h
   ·cases h
   ·split at h
    ·cases he : escB r with
     | none => rw [he] at h; cases h
     | some p =>
      obtain ⟨b, k⟩ := p
      rw [he] at h
      simp only at h
      cases hl : litF f (r.drop k) with
      | none => rw [hl] at h; cases h
      | some q =>
       obtain ⟨t', n'⟩ := q
       rw [hl] at h
       simp only [Option.map_some, Option.some.injEq, Prod.mk.injEq] at h
       have h1 := litF_le f _ _ _ hl
       have h2 := escB_pos he
       have h3 : (r.drop k).length = r.length - k := by simp
       simp only [List.length_cons]
       omega
    ·cases hl : litF f r with
     | none => rw [hl] at h; cases h
     | some q =>
      obtain ⟨t', n'⟩ := q
      rw [hl] at h
      simp only [Option.map_some, Option.some.injEq, Prod.mk.injEq] at h
      have h1 := litF_le f _ _ _ hl
      simp only [List.length_cons]
      omega
theorem lit_le {r t : Str} {n : Nat} (h : lit r = some (t, n)) : 1 ≤ n ∧ n ≤ r.length := litF_le _ _ _ _ h
theorem prefixB_len {p s : Str} (h : prefixB p s = true) : p.length ≤ s.length ∧ s.take p.length = p := by
 unfold prefixB at h
 rw [Bool.and_eq_true] at h
 exact ⟨of_decide_eq_true h.1, of_decide_eq_true h.2⟩
theorem markL_len : ∀ p ∈ markL, 1 ≤ p.length := by decide
theorem tokD_le {s : Str} {t : Tok} {n : Nat} (h : tokD s = some (t, n)) : 1 ≤ n ∧ n ≤ s.length := by
 cases s with
 | nil => cases h
 | cons c r =>
  have hs := span_le lod (c :: r)
  rw [tokD] at h
  by_cases h1 : ltr c = true
  ·rw [if_pos h1] at h
   have : lod c = true := by unfold lod; rw [h1]; rfl
   have := span_pos (r := r) this
   split at h
   ·cases h
   ·cases h; omega
  ·rw [if_neg h1] at h
   by_cases h2 : dgt c = true
   ·rw [if_pos h2] at h
    have : lod c = true := by unfold lod; rw [h2]; simp
    have := span_pos (r := r) this
    split at h
    ·cases h
    ·split at h
     ·cases h
     ·cases h; omega
   ·rw [if_neg h2] at h
    by_cases h3 : c.toNat = 34
    ·rw [if_pos h3] at h
     cases hl : lit r with
     | none => rw [hl] at h; cases h
     | some p =>
      obtain ⟨t', n'⟩ := p
      rw [hl] at h
      simp only at h
      have := lit_le hl
      split at h
      ·cases h
      ·cases h; simp; omega
    ·rw [if_neg h3] at h
     cases hf : markL.find? (fun p => prefixB p (c :: r)) with
     | none => rw [hf] at h; cases h
     | some p =>
      rw [hf] at h
      cases h
      have := prefixB_len (p := p) (s := c :: r) (List.find?_some (p := fun p => prefixB p (c :: r)) hf)
      exact ⟨markL_len p (List.mem_of_find?_eq_some hf), this.1⟩
def cutF : Nat → Str → Nat → Nat → Except (Nat × Int) (List Tok)
 | 0, _, _, _ => .error (0, 0)
 | f + 1, r, at_, k => if r.drop (blk false r) = [] then .ok [] else if k = 20000 then .error (at_ + blk false r, 4) else match tokD (r.drop (blk false r)) with
  | none => .error (at_ + blk false r, 3)
  | some (t, n) => match cutF f ((r.drop (blk false r)).drop n) (at_ + blk false r + n) (k + 1) with
   | .error e => .error e
   | .ok l => .ok (⟨t.kind, t.text, t.num, ((at_ + blk false r : Nat) : Int)⟩ :: l)
structure Cut where
 list : List Tok
 at_ : Nat
 e : Int
 deriving DecidableEq
def Cut.of : Except (Nat × Int) (List Tok) → Cut
 | .ok l => ⟨l, 0, 0⟩
 | .error (a, e) => ⟨[], a, e⟩
def scanD (s : Str) : Cut := if 65536 < s.length then ⟨[], 0, 13⟩ else .of (cutF (s.length + 1) s 0 0)
end Go.Sep


/- ScBlank -/
set_option linter.unusedVariables false
set_option linter.unusedSimpArgs false
namespace Go.Sep
open Go.Proofs
attribute [local irreducible] TC TO OT TCallX TCall DO DOt thenQ blockQ retQ At
theorem prefix_2 (l : Str) : prefixB [47, 47] l = true ↔ ∃ r, l = 47 :: 47 :: r := by
 constructor
 ·intro h
  obtain ⟨h1, h2⟩ := prefixB_len h
  match l, h1, h2 with
  | a :: b :: r, _, h2 =>
   simp at h2
   exact ⟨r, by rw [h2.1, h2.2]⟩
  | [a], h1, _ => simp at h1
  | [], h1, _ => simp at h1
 ·rintro ⟨r, rfl⟩
  rfl
set_option maxHeartbeats 800000 in
theorem blank_law (m : Mem) (L : List Item) (s : Str) (hl : s.length ≤ 70000) : TCall Tryz.prog 30 ⟨[strV s]⟩ m L (Ret (.int .i64 ((blk false s : Nat) : Int)) m L) := by
 unfold TCall
 refine TCallX.enter Tryz.func30 rfl 35 rfl ?_
 repeat (first|refine q1 ?_|refine q2 ?_|refine q3 ?_|refine q4 tab rfl rfl ?_|refine q5 ?_|refine q6 ?_)
 refine TC.loopK (ι := Nat) [0] rfl (fun n => [(3, .int .i64 (n : Int))]) (fun _ => m) (fun _ => L) (fun n => n ≤ s.length ∧ blk false s = n + blk false (s.drop n)) (fun n => s.length - n) 0 (by repeat (first|exact trivial|refine And.intro rfl ?_)) rfl (by repeat (exact List.Sublist.refl _)) ⟨Nat.zero_le _, by simp⟩ ?_
 rintro n ⟨hn, hI⟩
 repeat (first|refine q1 ?_|refine q3 ?_|refine q4 tab rfl rfl ?_|refine q5 ?_|refine q6 ?_)
 refine TC.condP rfl (fun g1 => ?_) (fun g1 => ?_)
 ·have hlt : n < s.length := by omega
  have hx : s[n]? = some s[n] := by simp [hlt]
  have hd := List.drop_eq_getElem_cons hlt
  repeat (first|refine q1 ?_|refine q2 ?_|refine q3 ?_|refine q4 tab rfl rfl ?_|refine q6 ?_|refine q13 ?_)
  refine TO.step rfl (OT.sidx tab n rfl rfl rfl rfl rfl rfl rfl hx ?_)
  refine TO.step rfl (OT.call rfl rfl rfl rfl rfl rfl goes54 ((indexByte_law _ _ [9, 10, 13, 32] s[n]).x ?_));
  rintro _ _ _ ⟨rfl, rfl, rfl⟩
  repeat (first|refine q4 tab rfl rfl ?_|refine q5 ?_|refine q6 ?_)
  rw [isSp_ix]
  refine TC.cond rfl (fun c1 => ?_) (fun c1 => ?_)
  ·repeat (first|refine q3 ?_|refine q4 tab rfl rfl ?_)
   refine TO.step rfl (OT.arith (r' := ((n + 1 : Nat) : Int)) rfl rfl rfl rfl rfl rfl rfl (by omega) ?_)
   repeat (first|refine q4 tab rfl rfl ?_|refine q5 ?_|refine q6 ?_|refine q7 ?_)
   exact ⟨n + 1, (by repeat (first|exact trivial|refine And.intro rfl ?_)), (by repeat (first|exact trivial|refine And.intro rfl ?_)), rfl, rfl, (by repeat (exact List.Sublist.refl _)), ⟨by omega, by rw [hI, hd, blk, if_pos c1]; omega⟩, by omega⟩
  ·repeat (first|refine q1 ?_|refine q3 ?_|refine q4 tab rfl rfl ?_)
   refine TO.step rfl (OT.sub tab n s.length rfl rfl rfl rfl rfl rfl rfl (.inr rfl) (.inl ⟨rfl, rfl⟩) (by omega) (by omega) ?_)
   rw [List.take_length]
   refine TO.step rfl (OT.call rfl rfl rfl rfl rfl rfl goes55 ((prefix_law _ _ (s.drop n) [47, 47]).x ?_));
   rintro _ _ _ ⟨rfl, rfl, rfl⟩
   repeat (first|refine q4 tab rfl rfl ?_|refine q5 ?_|refine q6 ?_)
   refine TC.cond rfl (fun c2 => ?_) (fun c2 => ?_)
   ·obtain ⟨r, hr⟩ := (prefix_2 _).1 c2
    have hb : blk false (s.drop n) = blk true (s.drop n) := by rw [hr]; exact blk_rem rfl rfl
    repeat (first|refine q1 ?_|refine q3 ?_|refine q4 tab rfl rfl ?_)
    refine TO.step rfl (OT.sub tab n s.length rfl rfl rfl rfl rfl rfl rfl (.inr rfl) (.inl ⟨rfl, rfl⟩) (by omega) (by omega) ?_)
    rw [List.take_length]
    refine TO.step rfl (OT.call rfl rfl rfl rfl rfl rfl goes54 ((indexByte_law _ _ (s.drop n) 10).x ?_));
    rintro _ _ _ ⟨rfl, rfl, rfl⟩
    rcases blk_line (s.drop n) with ⟨k1, k2⟩ | ⟨k, k0, k1, k2, k3⟩
    ·rw [k1]
     repeat (first|refine q1 ?_|refine q3 ?_|refine q4 tab rfl rfl ?_|refine q5 ?_|refine q6 ?_|refine q8 ?_|refine q9 ?_|refine q15 ?_|refine q16 rfl ?_)
     refine retQ_ret rfl (by repeat (exact List.Sublist.refl _)) ⟨rfl, rfl, ?_⟩
     rw [hI, hb, k2, List.length_drop]
     congr 1; omega
    ·rw [k1]
     have hk : k ≠ 0 := fun e => by rw [e, hr] at k3; simp at k3
     rw [List.length_drop] at k0
     repeat (first|refine q1 ?_|refine q3 ?_|refine q4 tab rfl rfl ?_|refine q5 ?_|refine q6 ?_|refine q13 ?_|refine q17 rfl ?_)
     refine TO.step rfl (OT.arith (r' := ((n + k : Nat) : Int)) rfl rfl rfl rfl rfl rfl rfl (by omega) ?_)
     repeat (first|refine q4 tab rfl rfl ?_|refine q5 ?_|refine q6 ?_|refine q7 ?_)
     exact ⟨n + k, (by repeat (first|exact trivial|refine And.intro rfl ?_)), (by repeat (first|exact trivial|refine And.intro rfl ?_)), rfl, rfl, (by repeat (exact List.Sublist.refl _)), ⟨by omega, by rw [hI, hb, k2, List.drop_drop]; omega⟩, by omega⟩
   ·repeat (first|refine q1 ?_|refine q3 ?_|refine q4 tab rfl rfl ?_|refine q5 ?_|refine q6 ?_|refine q8 ?_|refine q9 ?_|refine q15 ?_)
    refine retQ_ret rfl (by repeat (exact List.Sublist.refl _)) ⟨rfl, rfl, ?_⟩
    have hb : blk false (s.drop n) = 0 := by
     rw [hd, blk, if_neg (by rw [c1]; decide), if_neg]
     rintro ⟨h1, h2⟩
     refine Bool.eq_false_iff.1 c2 ((prefix_2 _).2 ?_)
     rw [hd]
     have h3 : s[n] = 47 := UInt8.toNat_inj.1 h1
     cases hr : s.drop (n + 1) with
     | nil => rw [hr] at h2; cases h2
     | cons x r =>
      rw [hr] at h2
      simp at h2
      exact ⟨r, by rw [h3, h2]⟩
    rw [hI, hb]; rfl
 ·repeat (first|refine q1 ?_|refine q3 ?_|refine q4 tab rfl rfl ?_|refine q5 ?_|refine q6 ?_|refine q10 ?_|refine q11 ?_|refine q14 ?_|refine q15 ?_)
  refine retQ_ret rfl (by repeat (exact List.Sublist.refl _)) ⟨rfl, rfl, ?_⟩
  rw [hI, List.drop_eq_nil_of_le (by omega), blk]
  congr 1
theorem marks_rep {m : Mem} {b : Nat} (h : At m b 0 (encs rStr markL)) : SlRep rStr m ⟨some ⟨b, 0, none⟩, 27, 27⟩ markL :=
 ⟨rfl, Nat.le_refl _, (by show 27 * 16 ≤ _; decide), markL, all_refl2 markL, .inr ⟨b, 0, rfl, h⟩⟩
set_option maxHeartbeats 400000 in
theorem marks_law (m : Mem) (L : List Item) : TCall Tryz.prog 64 ⟨[]⟩ m L (Made m L fun r m' => ∃ s : Sl, r = s.v ∧ SlRep rStr m' s markL) := by
 unfold TCall
 refine TCallX.enter Tryz.func64 rfl 2 rfl ?_
 repeat (first|refine q1 ?_|refine q3 ?_|refine q4 tab rfl rfl ?_|refine q5 ?_|refine q6 ?_)
 refine TO.step rfl (OT.lit tab rfl rfl rfl rfl (fun b => ?_))
 refine TO.freeze fun m1 hm1 hA1 => ?_
 repeat (first|refine q4 tab rfl rfl ?_|refine q5 ?_|refine q6 ?_|refine q15 ?_)
 exact retQ_ret rfl (by repeat (exact List.Sublist.refl _)) ⟨hm1, rfl, _, rfl, marks_rep hA1⟩
end Go.Sep


/- ScNext -/
set_option linter.unusedVariables false
set_option linter.unusedSimpArgs false
namespace Go.Sep
open Go.Proofs
attribute [local irreducible] TC TO OT TCallX TCall DO DOt thenQ blockQ retQ At
def tokC (t : Tok) : List Value := [.int .i64 t.kind, strV t.text, .int .i64 t.num, .int .i64 t.at_]
@[reducible] def tokV (t : Tok) : Value := .agg ⟨tokC t⟩
def NextR (o : Option (Tok × Nat)) (r : Value) : Prop := ∃ t n, r = .tuple ⟨[tokV t, .int .i64 ((n : Nat) : Int)]⟩ ∧ (o = some (t, n) ∨ (o = none ∧ n = 0))
set_option maxHeartbeats 1000000 in
theorem next_law (m : Mem) (L : List Item) (s : Str) (h0 : 0 < s.length) (hl : s.length ≤ 70000) (hE : Errs m) : TCall Tryz.prog 31 ⟨[strV s]⟩ m L (Made m L fun r _ => NextR (tokD s) r) := by
 obtain ⟨c, r, rfl⟩ : ∃ c r, s = c :: r := by
  cases s with
  | nil => simp at h0
  | cons c r => exact ⟨c, r, rfl⟩
 have hx : (c :: r)[0]? = some c := rfl
 have hsl := span_le lod (c :: r)
 unfold TCall
 refine TCallX.enter Tryz.func31 rfl 99 rfl ?_
 repeat (first|refine q1 ?_|refine q3 ?_)
 refine TO.step rfl (OT.alloc tab rfl rfl rfl rfl (fun b2 => ?_))
 repeat (first|refine q1 ?_|refine q2 ?_|refine q3 ?_|refine q4 tab rfl rfl ?_|refine q5 ?_|refine q6 ?_)
 refine TO.step rfl (OT.sidx tab 0 rfl rfl rfl rfl rfl rfl rfl hx ?_)
 refine TO.step rfl (OT.call rfl rfl rfl rfl rfl rfl goes56 ((letter_law _ _ c).x ?_));
 rintro _ _ _ ⟨rfl, rfl, rfl⟩
 repeat (first|refine q4 tab rfl rfl ?_|refine q5 ?_|refine q6 ?_)
 refine TC.cond rfl (fun c1 => ?_) (fun c1 => ?_)
 ·repeat (first|refine q1 ?_|refine q3 ?_|refine q4 tab rfl rfl ?_)
  refine TO.step rfl (OT.call rfl rfl rfl rfl rfl rfl goes58 ((either_law _ _).x ?_));
  rintro _ m1 _ ⟨hm1, rfl, e1, e2, rfl, hA1, hA2⟩
  skip
  refine TO.step rfl (OT.call rfl rfl rfl rfl rfl rfl goes57 ((span_law m1 _ (c :: r) (by omega) lod 91 _ ⟨goes91, fun b => either_cl m1 _ b e1 e2 hA1 hA2⟩).x ?_));
  rintro _ _ _ ⟨rfl, rfl, rfl⟩
  repeat (first|refine q1 ?_|refine q3 ?_|refine q4 tab rfl rfl ?_|refine q5 ?_|refine q6 ?_)
  refine TC.draw0 [] mixed 5 rfl ?_
  refine DO.pure tab (by repeat (first|exact Calm.ret|refine Calm.then ?_|refine Calm.block ?_)) (by kernel_rfl) [1, 2] (by kernel_rfl) rfl ?_
  refine DO.fork 0 [3] (by kernel_rfl) ⟨⟨_, rfl, rfl, rfl, ?_⟩, ⟨_, rfl, rfl, rfl, ?_⟩, trivial⟩
  ·refine OT.call rfl rfl rfl rfl rfl rfl goes61 ((words_law _ _).x ?_)
   rintro _ m2 _ ⟨hm2, rfl, w, rfl, hw⟩
   refine ⟨hm2, _, List.Perm.refl _, ?_⟩
   refine DO.run 3 rfl rfl (by kernel_rfl) rfl ?_
   refine OT.sub tab 0 (spanOf lod (c :: r)) rfl rfl rfl rfl rfl rfl rfl (.inl ⟨rfl, rfl⟩) (.inr rfl) (Nat.zero_le _) hsl ?_
   refine ⟨Mem.le_refl _, _, List.Perm.refl _, ?_⟩
   refine DO.run 4 rfl rfl (by kernel_rfl) rfl ?_
   refine OT.call rfl rfl rfl rfl rfl rfl goes60 ((contains_str m2 _ w wordL _ hw).x ?_)
   rintro _ _ _ ⟨rfl, rfl, rfl⟩
   refine ⟨Mem.le_refl _, _, List.Perm.refl _, ?_⟩
   refine DO.nil0 (by kernel_rfl) ?_
   refine thenQ_n ?_
   refine (fun (hm12 : m ≤ m2) => ?_) (Mem.le_trans hm1 hm2)
   skip
   refine TC.condP rfl (fun k1 => ?_) (fun k1 => ?_)
   ·repeat (first|refine q1 ?_|refine q3 ?_|refine q4 tab rfl rfl ?_|refine q5 ?_|refine q6 ?_)
    refine TC.condP rfl (fun k2 => ?_) (fun k2 => ?_)
    ·skip
     repeat (first|refine q1 ?_|refine q3 ?_|refine q4 tab rfl rfl ?_)
     (refine TO.step rfl (OT.storeL0 tab 0 rfl rfl rfl rfl rfl rfl rfl rfl ?_))
     repeat (first|refine q4 tab rfl rfl ?_|refine q5 ?_|refine q6 ?_|refine q8 ?_|refine q9 ?_|refine q15 ?_)
     refine retQ_ret_c tab 0 rfl rfl rfl rfl rfl (L' := L) (by repeat (first|exact List.Sublist.refl _|refine List.Sublist.cons _ ?_)) ⟨hm12, rfl, ?_⟩
     refine ⟨⟨0, [], 0, 0⟩, 0, rfl, .inr ⟨?_, rfl⟩⟩
     rw [tokD, if_pos c1, if_pos (by omega)]
    ·repeat (first|refine q1 ?_|refine q3 ?_|refine q4 tab rfl rfl ?_|refine q6 ?_|refine q13 ?_)
     refine TO.step rfl (OT.sub tab 0 (spanOf lod (c :: r)) rfl rfl rfl rfl rfl rfl rfl (.inl ⟨rfl, rfl⟩) (.inr rfl) (Nat.zero_le _) hsl ?_)
     repeat (refine q4 tab rfl rfl ?_)
     (refine TO.step rfl (OT.storeL0 tab 0 rfl rfl rfl rfl rfl rfl rfl rfl ?_))
     repeat (first|refine q4 tab rfl rfl ?_|refine q5 ?_|refine q6 ?_|refine q8 ?_|refine q9 ?_|refine q15 ?_)
     refine retQ_ret_c tab 0 rfl rfl rfl rfl rfl (L' := L) (by repeat (first|exact List.Sublist.refl _|refine List.Sublist.cons _ ?_)) ⟨hm12, rfl, ?_⟩
     refine ⟨⟨5, (c :: r).take (spanOf lod (c :: r)), 0, 0⟩, spanOf lod (c :: r), rfl, .inl ?_⟩
     rw [List.drop_zero] at k1
     rw [tokD, if_pos c1, if_neg (by omega), if_pos k1]
   ·repeat (first|refine q1 ?_|refine q3 ?_|refine q4 tab rfl rfl ?_|refine q5 ?_|refine q6 ?_|refine q13 ?_)
    refine TC.condP rfl (fun k2 => ?_) (fun k2 => ?_)
    ·skip
     repeat (first|refine q1 ?_|refine q3 ?_|refine q4 tab rfl rfl ?_)
     (refine TO.step rfl (OT.storeL0 tab 0 rfl rfl rfl rfl rfl rfl rfl rfl ?_))
     repeat (first|refine q4 tab rfl rfl ?_|refine q5 ?_|refine q6 ?_|refine q8 ?_|refine q9 ?_|refine q15 ?_)
     refine retQ_ret_c tab 0 rfl rfl rfl rfl rfl (L' := L) (by repeat (first|exact List.Sublist.refl _|refine List.Sublist.cons _ ?_)) ⟨hm12, rfl, ?_⟩
     refine ⟨⟨0, [], 0, 0⟩, 0, rfl, .inr ⟨?_, rfl⟩⟩
     rw [tokD, if_pos c1, if_pos (by omega)]
    ·repeat (first|refine q1 ?_|refine q3 ?_|refine q4 tab rfl rfl ?_|refine q6 ?_|refine q13 ?_)
     refine TO.step rfl (OT.sub tab 0 (spanOf lod (c :: r)) rfl rfl rfl rfl rfl rfl rfl (.inl ⟨rfl, rfl⟩) (.inr rfl) (Nat.zero_le _) hsl ?_)
     repeat (refine q4 tab rfl rfl ?_)
     (refine TO.step rfl (OT.storeL0 tab 0 rfl rfl rfl rfl rfl rfl rfl rfl ?_))
     repeat (first|refine q4 tab rfl rfl ?_|refine q5 ?_|refine q6 ?_|refine q8 ?_|refine q9 ?_|refine q15 ?_)
     refine retQ_ret_c tab 0 rfl rfl rfl rfl rfl (L' := L) (by repeat (first|exact List.Sublist.refl _|refine List.Sublist.cons _ ?_)) ⟨hm12, rfl, ?_⟩
     refine ⟨⟨1, (c :: r).take (spanOf lod (c :: r)), 0, 0⟩, spanOf lod (c :: r), rfl, .inl ?_⟩
     rw [List.drop_zero] at k1
     rw [tokD, if_pos c1, if_neg (by omega), if_neg k1]
  ·refine OT.sub tab 0 (spanOf lod (c :: r)) rfl rfl rfl rfl rfl rfl rfl (.inl ⟨rfl, rfl⟩) (.inr rfl) (Nat.zero_le _) hsl ?_
   refine ⟨Mem.le_refl _, _, List.Perm.refl _, ?_⟩
   refine DO.run 0 rfl rfl (by kernel_rfl) rfl ?_
   refine OT.call rfl rfl rfl rfl rfl rfl goes61 ((words_law _ _).x ?_)
   rintro _ m2 _ ⟨hm2, rfl, w, rfl, hw⟩
   refine ⟨hm2, _, List.Perm.refl _, ?_⟩
   refine DO.run 4 rfl rfl (by kernel_rfl) rfl ?_
   refine OT.call rfl rfl rfl rfl rfl rfl goes60 ((contains_str m2 _ w wordL _ hw).x ?_)
   rintro _ _ _ ⟨rfl, rfl, rfl⟩
   refine ⟨Mem.le_refl _, _, List.Perm.refl _, ?_⟩
   refine DO.nil0 (by kernel_rfl) ?_
   refine thenQ_n ?_
   refine (fun (hm12 : m ≤ m2) => ?_) (Mem.le_trans hm1 hm2)
   skip
   refine TC.condP rfl (fun k1 => ?_) (fun k1 => ?_)
   ·repeat (first|refine q1 ?_|refine q3 ?_|refine q4 tab rfl rfl ?_|refine q5 ?_|refine q6 ?_)
    refine TC.condP rfl (fun k2 => ?_) (fun k2 => ?_)
    ·skip
     repeat (first|refine q1 ?_|refine q3 ?_|refine q4 tab rfl rfl ?_)
     (refine TO.step rfl (OT.storeL0 tab 0 rfl rfl rfl rfl rfl rfl rfl rfl ?_))
     repeat (first|refine q4 tab rfl rfl ?_|refine q5 ?_|refine q6 ?_|refine q8 ?_|refine q9 ?_|refine q15 ?_)
     refine retQ_ret_c tab 0 rfl rfl rfl rfl rfl (L' := L) (by repeat (first|exact List.Sublist.refl _|refine List.Sublist.cons _ ?_)) ⟨hm12, rfl, ?_⟩
     refine ⟨⟨0, [], 0, 0⟩, 0, rfl, .inr ⟨?_, rfl⟩⟩
     rw [tokD, if_pos c1, if_pos (by omega)]
    ·repeat (first|refine q1 ?_|refine q3 ?_|refine q4 tab rfl rfl ?_|refine q6 ?_|refine q13 ?_)
     refine TO.step rfl (OT.sub tab 0 (spanOf lod (c :: r)) rfl rfl rfl rfl rfl rfl rfl (.inl ⟨rfl, rfl⟩) (.inr rfl) (Nat.zero_le _) hsl ?_)
     repeat (refine q4 tab rfl rfl ?_)
     (refine TO.step rfl (OT.storeL0 tab 0 rfl rfl rfl rfl rfl rfl rfl rfl ?_))
     repeat (first|refine q4 tab rfl rfl ?_|refine q5 ?_|refine q6 ?_|refine q8 ?_|refine q9 ?_|refine q15 ?_)
     refine retQ_ret_c tab 0 rfl rfl rfl rfl rfl (L' := L) (by repeat (first|exact List.Sublist.refl _|refine List.Sublist.cons _ ?_)) ⟨hm12, rfl, ?_⟩
     refine ⟨⟨5, (c :: r).take (spanOf lod (c :: r)), 0, 0⟩, spanOf lod (c :: r), rfl, .inl ?_⟩
     rw [List.drop_zero] at k1
     rw [tokD, if_pos c1, if_neg (by omega), if_pos k1]
   ·repeat (first|refine q1 ?_|refine q3 ?_|refine q4 tab rfl rfl ?_|refine q5 ?_|refine q6 ?_|refine q13 ?_)
    refine TC.condP rfl (fun k2 => ?_) (fun k2 => ?_)
    ·skip
     repeat (first|refine q1 ?_|refine q3 ?_|refine q4 tab rfl rfl ?_)
     (refine TO.step rfl (OT.storeL0 tab 0 rfl rfl rfl rfl rfl rfl rfl rfl ?_))
     repeat (first|refine q4 tab rfl rfl ?_|refine q5 ?_|refine q6 ?_|refine q8 ?_|refine q9 ?_|refine q15 ?_)
     refine retQ_ret_c tab 0 rfl rfl rfl rfl rfl (L' := L) (by repeat (first|exact List.Sublist.refl _|refine List.Sublist.cons _ ?_)) ⟨hm12, rfl, ?_⟩
     refine ⟨⟨0, [], 0, 0⟩, 0, rfl, .inr ⟨?_, rfl⟩⟩
     rw [tokD, if_pos c1, if_pos (by omega)]
    ·repeat (first|refine q1 ?_|refine q3 ?_|refine q4 tab rfl rfl ?_|refine q6 ?_|refine q13 ?_)
     refine TO.step rfl (OT.sub tab 0 (spanOf lod (c :: r)) rfl rfl rfl rfl rfl rfl rfl (.inl ⟨rfl, rfl⟩) (.inr rfl) (Nat.zero_le _) hsl ?_)
     repeat (refine q4 tab rfl rfl ?_)
     (refine TO.step rfl (OT.storeL0 tab 0 rfl rfl rfl rfl rfl rfl rfl rfl ?_))
     repeat (first|refine q4 tab rfl rfl ?_|refine q5 ?_|refine q6 ?_|refine q8 ?_|refine q9 ?_|refine q15 ?_)
     refine retQ_ret_c tab 0 rfl rfl rfl rfl rfl (L' := L) (by repeat (first|exact List.Sublist.refl _|refine List.Sublist.cons _ ?_)) ⟨hm12, rfl, ?_⟩
     refine ⟨⟨1, (c :: r).take (spanOf lod (c :: r)), 0, 0⟩, spanOf lod (c :: r), rfl, .inl ?_⟩
     rw [List.drop_zero] at k1
     rw [tokD, if_pos c1, if_neg (by omega), if_neg k1]
 ·repeat (first|refine q1 ?_|refine q3 ?_|refine q4 tab rfl rfl ?_)
  refine TO.step rfl (OT.sidx tab 0 rfl rfl rfl rfl rfl rfl rfl hx ?_)
  refine TO.step rfl (OT.call rfl rfl rfl rfl rfl rfl goes59 ((digit_law _ _ c).x ?_));
  rintro _ _ _ ⟨rfl, rfl, rfl⟩
  repeat (first|refine q4 tab rfl rfl ?_|refine q5 ?_|refine q6 ?_)
  refine TC.cond rfl (fun c2 => ?_) (fun c2 => ?_)
  ·repeat (first|refine q1 ?_|refine q3 ?_|refine q4 tab rfl rfl ?_)
   refine TO.step rfl (OT.call rfl rfl rfl rfl rfl rfl goes58 ((either_law _ _).x ?_));
   rintro _ m1 _ ⟨hm1, rfl, e1, e2, rfl, hA1, hA2⟩
   skip
   refine TO.step rfl (OT.call rfl rfl rfl rfl rfl rfl goes57 ((span_law m1 _ (c :: r) (by omega) lod 91 _ ⟨goes91, fun b => either_cl m1 _ b e1 e2 hA1 hA2⟩).x ?_));
   rintro _ _ _ ⟨rfl, rfl, rfl⟩
   repeat (first|refine q1 ?_|refine q3 ?_|refine q4 tab rfl rfl ?_|refine q5 ?_|refine q6 ?_)
   refine TO.step rfl (OT.sub tab 0 (spanOf lod (c :: r)) rfl rfl rfl rfl rfl rfl rfl (.inl ⟨rfl, rfl⟩) (.inr rfl) (Nat.zero_le _) hsl ?_)
   have hp : 0 < spanOf lod (c :: r) := span_pos (by unfold lod; rw [c2]; simp)
   have htk : (c :: r).take (spanOf lod (c :: r)) = c :: r.take (spanOf lod (c :: r) - 1) := by
    obtain ⟨k, hk⟩ : ∃ k, spanOf lod (c :: r) = k + 1 := ⟨spanOf lod (c :: r) - 1, by omega⟩
    rw [hk]; rfl
   rw [List.drop_zero]
   have c1' : ¬ ltr c = true := by rw [c1]; decide
   refine TO.step rfl (OT.call rfl rfl rfl rfl rfl rfl goes62 ((parseInt_law _ _ ((c :: r).take (spanOf lod (c :: r))) (by rw [htk]; simp) (fun x hx => by rw [htk] at hx; cases hx; exact c2) (by rw [List.length_take]; omega) (hE.mono hm1)).x ?_));
   rintro _ m2 _ ⟨hm2, rfl, ⟨v, e1, rfl⟩ | ⟨e1, v, a, b, rfl⟩⟩
   ·repeat (first|refine q1 ?_|refine q3 ?_|refine q4 tab rfl rfl ?_|refine q5 ?_|refine q6 ?_)
    refine TO.step rfl (OT.errNe tab rfl rfl rfl rfl (.inl rfl) rfl rfl ?_)
    repeat (refine q4 tab rfl rfl ?_)
    refine TO.step rfl (OT.sidx tab 0 rfl rfl rfl rfl rfl rfl rfl hx ?_)
    repeat (refine q4 tab rfl rfl ?_)
    (refine TO.splitP rfl rfl (fun c3 => ?_) (fun c3 => ?_))
    ·repeat (refine q4 tab rfl rfl ?_)
     (refine TO.splitP rfl rfl (fun c5 => ?_) (fun c5 => ?_))
     ·skip
      repeat (first|refine q1 ?_|refine q3 ?_|refine q4 tab rfl rfl ?_|refine q5 ?_|refine q6 ?_|refine q16 rfl ?_)
      (refine TO.step rfl (OT.storeL0 tab 0 rfl rfl rfl rfl rfl rfl rfl rfl ?_))
      repeat (first|refine q4 tab rfl rfl ?_|refine q5 ?_|refine q6 ?_|refine q8 ?_|refine q9 ?_|refine q15 ?_)
      refine retQ_ret_c tab 0 rfl rfl rfl rfl rfl (L' := L) (by repeat (first|exact List.Sublist.refl _|refine List.Sublist.cons _ ?_)) ⟨(Mem.le_trans hm1 hm2), rfl, ?_⟩
      refine ⟨⟨0, [], 0, 0⟩, 0, rfl, .inr ⟨?_, rfl⟩⟩
      rw [tokD, if_neg c1', if_pos c2, e1]
      simp only
      rw [if_pos (.inl (by omega))]
     ·skip
      repeat (refine q4 tab rfl rfl ?_)
      refine TO.step rfl (OT.call rfl rfl rfl rfl rfl rfl goes57 ((span_law _ _ (c :: r) (by omega) dgt 59 [] ⟨goes59, fun b => digit_law _ _ b⟩).x ?_));
      rintro _ _ _ ⟨rfl, rfl, rfl⟩
      repeat (first|refine q4 tab rfl rfl ?_|refine q5 ?_|refine q6 ?_)
      refine TC.condN rfl (fun c4 => ?_) (fun c4 => ?_)
      ·skip
       repeat (first|refine q1 ?_|refine q3 ?_|refine q4 tab rfl rfl ?_)
       (refine TO.step rfl (OT.storeL0 tab 0 rfl rfl rfl rfl rfl rfl rfl rfl ?_))
       repeat (first|refine q4 tab rfl rfl ?_|refine q5 ?_|refine q6 ?_|refine q8 ?_|refine q9 ?_|refine q15 ?_)
       refine retQ_ret_c tab 0 rfl rfl rfl rfl rfl (L' := L) (by repeat (first|exact List.Sublist.refl _|refine List.Sublist.cons _ ?_)) ⟨(Mem.le_trans hm1 hm2), rfl, ?_⟩
       refine ⟨⟨0, [], 0, 0⟩, 0, rfl, .inr ⟨?_, rfl⟩⟩
       rw [tokD, if_neg c1', if_pos c2, e1]
       simp only
       rw [if_pos (.inr (by omega))]
      ·repeat (first|refine q1 ?_|refine q3 ?_|refine q4 tab rfl rfl ?_|refine q6 ?_|refine q13 ?_)
       (refine TO.step rfl (OT.storeL0 tab 0 rfl rfl rfl rfl rfl rfl rfl rfl ?_))
       repeat (first|refine q4 tab rfl rfl ?_|refine q5 ?_|refine q6 ?_|refine q8 ?_|refine q9 ?_|refine q15 ?_)
       refine retQ_ret_c tab 0 rfl rfl rfl rfl rfl (L' := L) (by repeat (first|exact List.Sublist.refl _|refine List.Sublist.cons _ ?_)) ⟨Mem.le_trans hm1 hm2, rfl, ?_⟩
       refine ⟨⟨2, [], v, 0⟩, spanOf lod (c :: r), rfl, .inl ?_⟩
       rw [tokD, if_neg c1', if_pos c2, e1]
       simp only
       rw [if_neg (by omega)]
    ·skip
     repeat (refine q4 tab rfl rfl ?_)
     refine TO.step rfl (OT.call rfl rfl rfl rfl rfl rfl goes57 ((span_law _ _ (c :: r) (by omega) dgt 59 [] ⟨goes59, fun b => digit_law _ _ b⟩).x ?_));
     rintro _ _ _ ⟨rfl, rfl, rfl⟩
     repeat (first|refine q4 tab rfl rfl ?_|refine q5 ?_|refine q6 ?_)
     refine TC.condN rfl (fun c4 => ?_) (fun c4 => ?_)
     ·skip
      repeat (first|refine q1 ?_|refine q3 ?_|refine q4 tab rfl rfl ?_)
      (refine TO.step rfl (OT.storeL0 tab 0 rfl rfl rfl rfl rfl rfl rfl rfl ?_))
      repeat (first|refine q4 tab rfl rfl ?_|refine q5 ?_|refine q6 ?_|refine q8 ?_|refine q9 ?_|refine q15 ?_)
      refine retQ_ret_c tab 0 rfl rfl rfl rfl rfl (L' := L) (by repeat (first|exact List.Sublist.refl _|refine List.Sublist.cons _ ?_)) ⟨(Mem.le_trans hm1 hm2), rfl, ?_⟩
      refine ⟨⟨0, [], 0, 0⟩, 0, rfl, .inr ⟨?_, rfl⟩⟩
      rw [tokD, if_neg c1', if_pos c2, e1]
      simp only
      rw [if_pos (.inr (by omega))]
     ·repeat (first|refine q1 ?_|refine q3 ?_|refine q4 tab rfl rfl ?_|refine q6 ?_|refine q13 ?_)
      (refine TO.step rfl (OT.storeL0 tab 0 rfl rfl rfl rfl rfl rfl rfl rfl ?_))
      repeat (first|refine q4 tab rfl rfl ?_|refine q5 ?_|refine q6 ?_|refine q8 ?_|refine q9 ?_|refine q15 ?_)
      refine retQ_ret_c tab 0 rfl rfl rfl rfl rfl (L' := L) (by repeat (first|exact List.Sublist.refl _|refine List.Sublist.cons _ ?_)) ⟨Mem.le_trans hm1 hm2, rfl, ?_⟩
      refine ⟨⟨2, [], v, 0⟩, spanOf lod (c :: r), rfl, .inl ?_⟩
      rw [tokD, if_neg c1', if_pos c2, e1]
      simp only
      rw [if_neg (by omega)]
   ·repeat (first|refine q1 ?_|refine q3 ?_|refine q4 tab rfl rfl ?_|refine q5 ?_|refine q6 ?_)
    refine TO.step rfl (OT.errNe tab rfl rfl rfl rfl (.inr ⟨_, _, rfl⟩) rfl rfl ?_)
    repeat (first|refine q1 ?_|refine q3 ?_|refine q4 tab rfl rfl ?_|refine q5 ?_|refine q6 ?_|refine q16 rfl ?_)
    (refine TO.step rfl (OT.storeL0 tab 0 rfl rfl rfl rfl rfl rfl rfl rfl ?_))
    repeat (first|refine q4 tab rfl rfl ?_|refine q5 ?_|refine q6 ?_|refine q8 ?_|refine q9 ?_|refine q15 ?_)
    refine retQ_ret_c tab 0 rfl rfl rfl rfl rfl (L' := L) (by repeat (first|exact List.Sublist.refl _|refine List.Sublist.cons _ ?_)) ⟨(Mem.le_trans hm1 hm2), rfl, ?_⟩
    refine ⟨⟨0, [], 0, 0⟩, 0, rfl, .inr ⟨?_, rfl⟩⟩
    rw [tokD, if_neg c1', if_pos c2, e1]
  ·repeat (first|refine q1 ?_|refine q3 ?_|refine q4 tab rfl rfl ?_)
   refine TO.step rfl (OT.sidx tab 0 rfl rfl rfl rfl rfl rfl rfl hx ?_)
   repeat (first|refine q4 tab rfl rfl ?_|refine q5 ?_|refine q6 ?_)
   have c1' : ¬ ltr c = true := by rw [c1]; decide
   have c2' : ¬ dgt c = true := by rw [c2]; decide
   refine TC.condP rfl (fun c3 => ?_) (fun c3 => ?_)
   ·repeat (first|refine q1 ?_|refine q3 ?_|refine q4 tab rfl rfl ?_)
    refine TO.step rfl (OT.call rfl rfl rfl rfl rfl rfl goes63 ((literal_law _ _ (c :: r) h0 hl hE).x ?_));
    rintro _ m1 _ ⟨hm1, rfl, rfl⟩
    show TO _ _ _ _ ((_, litR (lit r)) :: _) _ _ _ _
    have hD : tokD (c :: r) = (match lit r with
     | none => none
     | some (t, n) => if 1024 < t.length then none else some (⟨3, t, 0, 0⟩, n + 1)) := by
     rw [tokD, if_neg c1', if_neg c2', if_pos (by omega)]
     try rfl
    rcases hlit : lit r with _ | ⟨t, n⟩
    ·rw [hlit] at hD
     show TO _ _ _ _ ((_, .tuple ⟨[strV [], .int .i64 0]⟩) :: _) _ _ _ _
     repeat (first|refine q1 ?_|refine q3 ?_|refine q4 tab rfl rfl ?_|refine q5 ?_|refine q6 ?_|refine q13 ?_|refine q17 rfl ?_)
     (refine TO.step rfl (OT.storeL0 tab 0 rfl rfl rfl rfl rfl rfl rfl rfl ?_))
     repeat (first|refine q4 tab rfl rfl ?_|refine q5 ?_|refine q6 ?_|refine q8 ?_|refine q9 ?_|refine q15 ?_)
     refine retQ_ret_c tab 0 rfl rfl rfl rfl rfl (L' := L) (by repeat (first|exact List.Sublist.refl _|refine List.Sublist.cons _ ?_)) ⟨hm1, rfl, ?_⟩
     refine ⟨⟨3, [], 0, 0⟩, 0, rfl, .inr ⟨?_, rfl⟩⟩
     rw [hD]
    ·rw [hlit] at hD
     show TO _ _ _ _ ((_, .tuple ⟨[strV t, .int .i64 ((n + 1 : Nat) : Int)]⟩) :: _) _ _ _ _
     repeat (first|refine q1 ?_|refine q3 ?_|refine q4 tab rfl rfl ?_|refine q5 ?_|refine q6 ?_)
     refine TC.condP rfl (fun c4 => ?_) (fun c4 => ?_)
     ·repeat (first|refine q1 ?_|refine q3 ?_|refine q4 tab rfl rfl ?_|refine q5 ?_|refine q6 ?_)
      (refine TO.step rfl (OT.storeL0 tab 0 rfl rfl rfl rfl rfl rfl rfl rfl ?_))
      repeat (first|refine q4 tab rfl rfl ?_|refine q5 ?_|refine q6 ?_|refine q8 ?_|refine q9 ?_|refine q15 ?_)
      refine retQ_ret_c tab 0 rfl rfl rfl rfl rfl (L' := L) (by repeat (first|exact List.Sublist.refl _|refine List.Sublist.cons _ ?_)) ⟨hm1, rfl, ?_⟩
      refine ⟨⟨3, t, 0, 0⟩, 0, rfl, .inr ⟨?_, rfl⟩⟩
      rw [hD]
      simp only
      rw [if_pos (by omega)]
     ·repeat (first|refine q1 ?_|refine q3 ?_|refine q4 tab rfl rfl ?_|refine q6 ?_|refine q13 ?_)
      (refine TO.step rfl (OT.storeL0 tab 0 rfl rfl rfl rfl rfl rfl rfl rfl ?_))
      repeat (first|refine q4 tab rfl rfl ?_|refine q5 ?_|refine q6 ?_|refine q8 ?_|refine q9 ?_|refine q15 ?_)
      refine retQ_ret_c tab 0 rfl rfl rfl rfl rfl (L' := L) (by repeat (first|exact List.Sublist.refl _|refine List.Sublist.cons _ ?_)) ⟨hm1, rfl, ?_⟩
      refine ⟨⟨3, t, 0, 0⟩, n + 1, rfl, .inl ?_⟩
      rw [hD]
      simp only
      rw [if_neg (by omega)]
   ·repeat (first|refine q1 ?_|refine q3 ?_|refine q6 ?_|refine q7 ?_|refine q13 ?_)
    refine TO.step rfl (OT.call rfl rfl rfl rfl rfl rfl goes64 ((marks_law _ _).x ?_));
    rintro _ m1 _ ⟨hm1, rfl, w, rfl, hw⟩
    repeat (first|refine q2 ?_|refine q4 tab rfl rfl ?_|refine q5 ?_|refine q6 ?_)
    have hwl : w.len = 27 := hw.len
    rw [hwl]
    have hD : tokD (c :: r) = (match markL.find? (fun p => prefixB p (c :: r)) with
     | none => none
     | some p => some (⟨4, p, 0, 0⟩, p.length)) := by
     rw [tokD, if_neg c1', if_neg c2', if_neg (by omega)]
     try rfl
    refine TC.loopK (ι := Nat) [0, 2, 84, 85] rfl (fun k => [(86, .int .i64 (k : Int))]) (fun _ => m1) (fun _ => .cells b2 0 (tokC ⟨0, [], 0, 0⟩) :: L) (fun k => k ≤ 27 ∧ markL.find? (fun p => prefixB p (c :: r)) = (markL.drop k).find? (fun p => prefixB p (c :: r))) (fun k => 27 - k) 0 (by repeat (first|exact trivial|refine And.intro rfl ?_)) rfl (by repeat (exact List.Sublist.refl _)) ⟨Nat.zero_le _, rfl⟩ ?_
    rintro k ⟨hk, hI⟩
    have hml : markL.length = 27 := rfl
    repeat (first|refine q1 ?_|refine q3 ?_|refine q4 tab rfl rfl ?_|refine q5 ?_|refine q6 ?_)
    refine TC.condP rfl (fun g1 => ?_) (fun g1 => ?_)
    ·have hlt : k < markL.length := by omega
     have hx : markL[k]? = some markL[k] := by simp [hlt]
     repeat (first|refine q1 ?_|refine q2 ?_|refine q3 ?_|refine q6 ?_|refine q13 ?_)
     refine TO.step rfl (OT.index tab rStr k hw rfl rfl rfl rfl rfl (by first | rfl | omega | (simp only; omega)) rfl hx ?_)
     rintro b i hd rfl hA
     (refine TO.step rfl (OT.loadA0 tab hA rfl rfl rfl rfl rfl ?_))
     repeat (first|refine q1 ?_|refine q3 ?_|refine q4 tab rfl rfl ?_|refine q5 ?_|refine q6 ?_)
     refine TO.step rfl (OT.call rfl rfl rfl rfl rfl rfl goes55 ((prefix_law _ _ (c :: r) markL[k]).x ?_));
     rintro _ _ _ ⟨rfl, rfl, rfl⟩
     repeat (first|refine q5 ?_|refine q6 ?_)
     refine TC.cond rfl (fun g2 => ?_) (fun g2 => ?_)
     ·repeat (first|refine q1 ?_|refine q3 ?_|refine q4 tab rfl rfl ?_)
      (refine TO.step rfl (OT.storeL0 tab 0 rfl rfl rfl rfl rfl rfl rfl rfl ?_))
      repeat (first|refine q4 tab rfl rfl ?_|refine q5 ?_|refine q6 ?_|refine q8 ?_|refine q9 ?_|refine q15 ?_)
      refine retQ_ret_c tab 0 rfl rfl rfl rfl rfl (L' := L) (by repeat (first|exact List.Sublist.refl _|refine List.Sublist.cons _ ?_)) ⟨hm1, rfl, ?_⟩
      refine ⟨⟨4, markL[k], 0, 0⟩, markL[k].length, rfl, .inl ?_⟩
      rw [hD, hI, List.drop_eq_getElem_cons hlt, List.find?_cons_of_pos (p := fun p => prefixB p (c :: r)) g2]
     ·repeat (first|refine q3 ?_|refine q6 ?_|refine q7 ?_|refine q13 ?_)
      refine TO.step rfl (OT.arith (r' := ((k + 1 : Nat) : Int)) rfl rfl rfl rfl rfl rfl rfl (by omega) ?_)
      repeat (first|refine q4 tab rfl rfl ?_|refine q5 ?_|refine q6 ?_)
      exact ⟨k + 1, (by repeat (first|exact trivial|refine And.intro rfl ?_)), (by repeat (first|exact trivial|refine And.intro rfl ?_)), rfl, rfl, (by repeat (exact List.Sublist.refl _)), ⟨by omega, by rw [hI, List.drop_eq_getElem_cons hlt, List.find?_cons_of_neg (p := fun p => prefixB p (c :: r)) (by show ¬ prefixB markL[k] (c :: r) = true; rw [g2]; decide)]⟩, by omega⟩
    ·skip
     repeat (first|refine q1 ?_|refine q3 ?_|refine q4 tab rfl rfl ?_|refine q6 ?_|refine q10 ?_|refine q11 ?_|refine q14 ?_)
     (refine TO.step rfl (OT.storeL0 tab 0 rfl rfl rfl rfl rfl rfl rfl rfl ?_))
     repeat (first|refine q4 tab rfl rfl ?_|refine q5 ?_|refine q6 ?_|refine q15 ?_)
     refine retQ_ret_c tab 0 rfl rfl rfl rfl rfl (L' := L) (by repeat (first|exact List.Sublist.refl _|refine List.Sublist.cons _ ?_)) ⟨hm1, rfl, ?_⟩
     refine ⟨⟨0, [], 0, 0⟩, 0, rfl, .inr ⟨?_, rfl⟩⟩
     rw [hD, hI, List.drop_eq_nil_of_le (by omega)]
     rfl
end Go.Sep


/- ScScanW -/
set_option linter.unusedVariables false
set_option linter.unusedSimpArgs false
namespace Go.Sep
open Go.Proofs
attribute [local irreducible] TC TO OT TCallX TCall DO DOt thenQ blockQ retQ At
def rTok : R Tok Tok where
 size := 4
 bytes := 40
 enc t := tokC t
 rep _ h a := h = a
 enc_len _ := rfl
 one _ := rfl
 mono _ h := h
def joinE (l : List Tok) : Except (Nat × Int) (List Tok) → Except (Nat × Int) (List Tok)
 | .error e => .error e
 | .ok l' => .ok (l ++ l')
def CutAt (s : Str) (at_ : Nat) (l : List Tok) (res : Except (Nat × Int) (List Tok)) : Prop := ∃ f, s.length < at_ + f ∧ res = joinE l (cutF f (s.drop at_) at_ l.length)
theorem CutAt.start (s : Str) : CutAt s 0 [] (cutF (s.length + 1) s 0 0) := by
 refine ⟨s.length + 1, by omega, ?_⟩
 rw [List.drop_zero]
 show _ = joinE [] (cutF (s.length + 1) s 0 0)
 cases cutF (s.length + 1) s 0 0 <;> rfl
section
variable {s : Str} {a : Nat} {l : List Tok} {res : Except (Nat × Int) (List Tok)}
theorem CutAt.pos (h : CutAt s a l res) (ha : a ≤ s.length) : ∃ f, s.length < a + (f + 1) ∧ res = joinE l (cutF (f + 1) (s.drop a) a l.length) := by
 obtain ⟨f, h1, h2⟩ := h
 cases f with
 | zero => omega
 | succ f => exact ⟨f, h1, h2⟩
theorem CutAt.end_ (h : CutAt s a l res) (ha : a ≤ s.length) (hb : a + blk false (s.drop a) = s.length) : res = .ok l := by
 obtain ⟨f, h1, h2⟩ := h.pos ha
 rw [h2, cutF, List.drop_drop, List.drop_eq_nil_of_le (by omega), if_pos rfl]
 simp [joinE]
theorem drop_ne {s : Str} {k : Nat} (h : k < s.length) : s.drop k ≠ [] := fun e => by
 have := congrArg List.length e
 simp at this
 omega
theorem CutAt.large (h : CutAt s a l res) (ha : a ≤ s.length) (hb : a + blk false (s.drop a) < s.length) (hl : l.length = 20000) : res = .error (a + blk false (s.drop a), 4) := by
 obtain ⟨f, h1, h2⟩ := h.pos ha
 rw [h2, cutF, List.drop_drop, if_neg (drop_ne hb), if_pos hl]; rfl
theorem CutAt.text (h : CutAt s a l res) (ha : a ≤ s.length) (hb : a + blk false (s.drop a) < s.length) (hl : l.length ≠ 20000) (ht : tokD (s.drop (a + blk false (s.drop a))) = none) : res = .error (a + blk false (s.drop a), 3) := by
 obtain ⟨f, h1, h2⟩ := h.pos ha
 rw [h2, cutF, List.drop_drop, if_neg (drop_ne hb), if_neg hl, ht]; rfl
theorem CutAt.go (h : CutAt s a l res) (ha : a ≤ s.length) (hb : a + blk false (s.drop a) < s.length) (hl : l.length ≠ 20000) {t : Tok} {n : Nat} (ht : tokD (s.drop (a + blk false (s.drop a))) = some (t, n)) :
  CutAt s (a + blk false (s.drop a) + n) (l ++ [⟨t.kind, t.text, t.num, ((a + blk false (s.drop a) : Nat) : Int)⟩]) res := by
 obtain ⟨f, h1, h2⟩ := h.pos ha
 have hn := (tokD_le ht).1
 refine ⟨f, by omega, ?_⟩
 rw [h2, cutF, List.drop_drop, if_neg (drop_ne hb), if_neg hl, ht]
 simp only [List.drop_drop, List.length_append, List.length_cons, List.length_nil]
 cases cutF f (s.drop (a + blk false (s.drop a) + n)) (a + blk false (s.drop a) + n) (l.length + 1) with
 | error e => rfl
 | ok l' => simp [joinE]
end
structure ScanS where
 m : Mem
 sl : Sl
 l : List Tok
 a : Nat
def ScanR (c : Cut) (r : Value) (m' : Mem) : Prop := ∃ sl : Sl, r = .tuple ⟨[sl.v, .int .i64 ((c.at_ : Nat) : Int), .int .i64 c.e]⟩ ∧ SlRep rTok m' sl c.list
set_option maxHeartbeats 1000000 in
theorem scan_law (m : Mem) (L : List Item) (s : Str) (hE : Errs m) : TCall Tryz.prog 14 ⟨[strV s]⟩ m L (Made m L fun r m' => ScanR (scanD s) r m') := by
 unfold TCall
 refine TCallX.enter Tryz.func14 rfl 44 rfl ?_
 repeat (first|refine q1 ?_|refine q3 ?_|refine q4 tab rfl rfl ?_|refine q5 ?_|refine q6 ?_)
 refine TC.condP rfl (fun c0 => ?_) (fun c0 => ?_)
 ·repeat (first|refine q1 ?_|refine q3 ?_|refine q4 tab rfl rfl ?_|refine q5 ?_|refine q6 ?_|refine q8 ?_|refine q15 ?_)
  refine retQ_ret rfl (by repeat (exact List.Sublist.refl _)) ⟨Mem.le_refl _, rfl, ?_⟩
  rw [scanD, if_pos (by omega)]
  exact ⟨⟨none, 0, 0⟩, rfl, SlRep.nil _ _⟩
 have hl : s.length ≤ 65536 := by omega
 have hD : scanD s = .of (cutF (s.length + 1) s 0 0) := by rw [scanD, if_neg (by omega)]
 repeat (first|refine q2 ?_|refine q6 ?_|refine q13 ?_)
 refine TC.grow0 (size := 4) ?_
 refine TC.loopK (ι := ScanS) [0] rfl (fun x => [(2, x.sl.v), (3, .int .i64 (x.a : Int))]) (fun x => x.m) (fun x => tok x.sl 4 :: L) (fun x => m ≤ x.m ∧ x.a ≤ s.length ∧ SlRep rTok x.m x.sl x.l ∧ Own x.sl ∧ x.l.length ≤ 20000 ∧ CutAt s x.a x.l (cutF (s.length + 1) s 0 0)) (fun x => s.length - x.a) ⟨m, ⟨none, 0, 0⟩, [], 0⟩ (by repeat (first|exact trivial|refine And.intro rfl ?_)) rfl (by repeat (exact List.Sublist.refl _)) ⟨Mem.le_refl _, Nat.zero_le _, SlRep.nil _ _, Own.nil, Nat.zero_le _, CutAt.start s⟩ ?_
 rintro ⟨m1, sl, l, a⟩ ⟨hm, ha, hsl, hown, hll, hI⟩
 replace hm : m ≤ m1 := hm
 replace ha : a ≤ s.length := ha
 replace hsl : SlRep rTok m1 sl l := hsl
 replace hown : Own sl := hown
 replace hll : l.length ≤ 20000 := hll
 replace hI : CutAt s a l (cutF (s.length + 1) s 0 0) := hI
 show TC _ _ _ ((2, sl.v) :: (3, .int .i64 (a : Int)) :: _) _ m1 (tok sl 4 :: L) _
 have hlen := hsl.len
 have hb := blk_le false (s.drop a)
 rw [List.length_drop] at hb
 repeat (first|refine q1 ?_|refine q2 ?_|refine q3 ?_|refine q4 tab rfl rfl ?_)
 refine TO.step rfl (OT.sub tab a s.length rfl rfl rfl rfl rfl rfl rfl (.inr rfl) (.inl ⟨rfl, rfl⟩) (by omega) (by omega) ?_)
 rw [List.take_length]
 refine TO.step rfl (OT.call rfl rfl rfl rfl rfl rfl goes30 ((blank_law _ _ (s.drop a) (by rw [List.length_drop]; omega)).x ?_));
 rintro _ _ _ ⟨rfl, rfl, rfl⟩
 skip
 refine TO.step rfl (OT.arith (r' := ((a + blk false (s.drop a) : Nat) : Int)) rfl rfl rfl rfl rfl rfl rfl (by omega) ?_)
 repeat (first|refine q1 ?_|refine q3 ?_|refine q4 tab rfl rfl ?_|refine q5 ?_|refine q6 ?_)
 refine TC.condP rfl (fun c1 => ?_) (fun c1 => ?_)
 ·repeat (first|refine q1 ?_|refine q3 ?_|refine q4 tab rfl rfl ?_|refine q5 ?_|refine q6 ?_|refine q8 ?_|refine q9 ?_|refine q15 ?_)
  refine retQ_ret rfl (by repeat (first|exact List.Sublist.refl _|refine List.Sublist.cons _ ?_)) ⟨hm, rfl, ?_⟩
  rw [hD, hI.end_ ha (by omega)]
  exact ⟨sl, rfl, hsl⟩
 repeat (first|refine q1 ?_|refine q3 ?_|refine q4 tab rfl rfl ?_|refine q5 ?_|refine q6 ?_|refine q13 ?_)
 refine TC.condP rfl (fun c2 => ?_) (fun c2 => ?_)
 ·repeat (first|refine q1 ?_|refine q3 ?_|refine q4 tab rfl rfl ?_|refine q5 ?_|refine q6 ?_|refine q8 ?_|refine q9 ?_|refine q15 ?_)
  refine retQ_ret rfl (by repeat (first|exact List.Sublist.refl _|refine List.Sublist.cons _ ?_)) ⟨hm, rfl, ?_⟩
  rw [hD, hI.large ha (by omega) (by omega)]
  exact ⟨⟨none, 0, 0⟩, rfl, SlRep.nil _ _⟩
 repeat (first|refine q1 ?_|refine q3 ?_|refine q4 tab rfl rfl ?_|refine q6 ?_|refine q13 ?_)
 refine TO.step rfl (OT.sub tab (a + blk false (s.drop a)) s.length rfl rfl rfl rfl rfl rfl rfl (.inr rfl) (.inl ⟨rfl, rfl⟩) (by omega) (by omega) ?_)
 rw [List.take_length]
 refine TO.step rfl (OT.call rfl rfl rfl rfl rfl rfl goes31 ((next_law _ _ (s.drop (a + blk false (s.drop a))) (by rw [List.length_drop]; omega) (by rw [List.length_drop]; omega) (hE.mono hm)).x ?_));
 rintro _ m2 _ ⟨hm2, rfl, t, n, rfl, hn⟩
 repeat (refine q4 tab rfl rfl ?_)
 refine TO.step rfl (OT.alloc tab rfl rfl rfl rfl (fun b5 => ?_))
 skip
 (refine TO.step rfl (OT.storeL0 tab 0 rfl rfl rfl rfl rfl rfl rfl rfl ?_))
 repeat (first|refine q1 ?_|refine q3 ?_|refine q4 tab rfl rfl ?_|refine q5 ?_|refine q6 ?_)
 rcases hn with hn | ⟨hn, rfl⟩
 ·have hnl := tokD_le hn
  rw [List.length_drop] at hnl
  refine TC.condP rfl (fun c3 => ?_) (fun c3 => ?_)
  ·omega
  repeat (first|refine q1 ?_|refine q3 ?_|refine q4 tab rfl rfl ?_|refine q6 ?_|refine q13 ?_)
  (refine TO.step rfl (OT.storeL tab 0 rfl rfl rfl rfl rfl rfl rfl rfl ?_))
  repeat (first|refine q1 ?_|refine q3 ?_|refine q4 tab rfl rfl ?_|refine q5 ?_|refine q6 ?_)
  (refine qs rfl (qz tab 0 rfl rfl rfl rfl rfl rfl ?_))
  skip
  refine TO.step rfl (OT.lit tab rfl rfl rfl rfl (fun b => ?_))
  refine TO.step rfl (OT.append1 tab rTok 1 (hd' := ⟨t.kind, t.text, t.num, ((a + blk false (s.drop a) : Nat) : Int)⟩) (a := ⟨t.kind, t.text, t.num, ((a + blk false (s.drop a) : Nat) : Int)⟩) (hsl.mono hm2) hown rfl rfl rfl rfl rfl rfl rfl rfl (by show (l.length + 1) * 40 ≤ _; omega) (fun s' m3 hm3 hs3 ho3 => ?_))
  repeat (first|refine q3 ?_|refine q4 tab rfl rfl ?_|refine q5 ?_|refine q6 ?_)
  refine TO.step rfl (OT.arith (r' := ((a + blk false (s.drop a) + n : Nat) : Int)) rfl rfl rfl rfl rfl rfl rfl (by omega) ?_)
  repeat (first|refine q4 tab rfl rfl ?_|refine q5 ?_|refine q6 ?_|refine q7 ?_)
  exact ⟨⟨m3, s', l ++ [⟨t.kind, t.text, t.num, ((a + blk false (s.drop a) : Nat) : Int)⟩], a + blk false (s.drop a) + n⟩, (by repeat (first|exact trivial|refine And.intro rfl ?_)), (by repeat (first|exact trivial|refine And.intro rfl ?_)), rfl, rfl, (by repeat (first|exact List.Sublist.refl _|refine List.Sublist.cons _ ?_)), ⟨Mem.le_trans hm (Mem.le_trans hm2 hm3), by show _ + n ≤ _; omega, hs3, ho3, by show (l ++ [_]).length ≤ _; rw [List.length_append]; simp only [List.length_cons, List.length_nil]; omega, hI.go ha (by omega) (by omega) hn⟩, by show s.length - (_ + n) < s.length - a; omega⟩
 ·repeat (first|refine q1 ?_|refine q3 ?_|refine q4 tab rfl rfl ?_|refine q5 ?_|refine q6 ?_|refine q8 ?_|refine q9 ?_|refine q15 ?_|refine q16 rfl ?_)
  refine retQ_ret rfl (by repeat (first|exact List.Sublist.refl _|refine List.Sublist.cons _ ?_)) ⟨Mem.le_trans hm hm2, rfl, ?_⟩
  rw [hD, hI.text ha (by omega) (by omega) hn]
  exact ⟨⟨none, 0, 0⟩, rfl, SlRep.nil _ _⟩
end Go.Sep

