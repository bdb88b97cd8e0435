/-
  The type of a block; what strings.Builder asks: addresses seen as1 others, a row of bytes made a string.
-/
import Derived.Lib.UnsafeStr
import Derived.Test.YtnbimbgapgginaaB4
set_option linter.unusedVariables false
set_option linter.unusedSimpArgs false
namespace Go.Sep
section
variable {P : Program} {N : Nat} {ρ : Env} {D : List Deferred} {m : Mem} {L : List Item} {Q : EPost} {full : List Oper} {o : Oper} {K : Env → Mem → List Item → Prop}
/-- what append does, with the new row's type -/
theorem run_appendT (T : Tab P) {t t2 e e2 ty : TypeId} {ei ei2 : TI} {w : World} {s s2 : Sl} {xs news : List Value} {i : Nat} (he : T.elem t = some (e, ei)) (he2 : T.elem t2 = some (e2, ei2))
    (hw : St m w L) (hi : L[i]? = some (tok s ei.size)) (ho : Own s) (hx : Src w s ei.size xs) (hy : Src w s2 ei.size news) (hn : s2.a = none → s2.len = 0) (h1 : allOne news = true) (hzs : ei.zero.cells.size = ei.size) (hcap : s.len ≤ s.cap)
    (hb : 0 < ei.bytes) (hfit : (s.len + s2.len) * ei.bytes ≤ 140737488355328) (hAt : ∀ b o, s.a = some ⟨b, o, none⟩ → At m b o xs) (hTy : ∀ b o, s.a = some ⟨b, o, none⟩ → o = 0 ∧ m.t b = some (e, s.cap * ei.size) ∧ m.pin.heap.size ≤ b) :
    ∃ s' m' w', (Builtin.append_ #[t, t2] ty #[s.v, s2.v]).run P w = .ok s'.v w' ∧ m ≤ m' ∧ St m' w' (L.set i (tok s' ei.size)) ∧ Own s' ∧ s'.len = s.len + s2.len ∧ s'.len ≤ s'.cap ∧
      ((s'.a = none ∧ xs ++ news = [] ∧ s'.cap = 0) ∨ ∃ b o, s'.a = some ⟨b, o, none⟩ ∧ At m' b o (xs ++ news)) ∧ (∀ b o, s'.a = some ⟨b, o, none⟩ → o = 0 ∧ m'.t b = some (e, s'.cap * ei.size) ∧ m'.pin.heap.size ≤ b) := by
  obtain ⟨ti, h4, h5, h6⟩ := elem_get he
  obtain ⟨ti2, k4, k5, k6⟩ := elem_get he2
  obtain ⟨_, _, hu, _⟩ := T.ok t ti h4
  rw [h5] at hu
  obtain ⟨_, _, hu2, _⟩ := T.ok t2 ti2 k4
  rw [k5] at hu2
  obtain ⟨info, q1, q2, q3, q4, q5⟩ := T.ok e ei h6
  have hnew := run_first (P := P) hy
  have hbound : s.len + s2.len ≤ 140737488355328 := Nat.le_trans (Nat.le_mul_of_pos_right _ hb) hfit
  by_cases hroom : s.len + s2.len ≤ s.cap
  · -- there is room
    rcases ho with hnil | ⟨b, o, ha⟩
    · subst hnil
      simp only at hroom
      have hz : s2.len = 0 := by omega
      have hxs : xs = [] := List.eq_nil_of_length_eq_zero (by have := hx.1; simpa using this)
      have hns : news = [] := List.eq_nil_of_length_eq_zero (by have := hy.1; rw [hz] at this; simpa using this)
      subst hxs; subst hns
      refine ⟨⟨none, 0, 0⟩, m, w, ?_, m.le_refl, by rw [set_same hi]; exact hw, .inl rfl, by simp [hz], by simp, .inl ⟨rfl, rfl, rfl⟩, fun b o q => by cases q⟩
      have hnew' : (Builtin.firstCells ei.size 0 s2.v).run P w = .ok (⟨[]⟩ : Array Value) w := by rw [← hz]; exact hnew
      simp only [Sl.v] at hnew'
      simp [Builtin.append_, run_underlying hu, run_underlying hu2, sizeOf, typeInfo, q1, q3, Builtin.lenOf, hz, hnew']
    · obtain ⟨a, n, c⟩ := s
      simp only at ha hroom hcap hbound hfit hx hAt
      subst ha
      have hst := (hw.at_ hi)
      simp only [tok] at hst
      obtain ⟨vs, hvl, hst⟩ := hst.ofRoom
      have hnl : news.length ≤ vs.length := by
        rw [hvl, hy.1]; exact Nat.mul_le_mul_right _ (by omega)
      obtain ⟨w', hr, hst'⟩ := run_storeCells (P := P) news vs 0 0 w hst h1 (by omega)
      rw [putAt_zero hnl] at hst'
      have hst2 := hst'.split
      obtain ⟨g1, g2, g3⟩ := hst2.freeze
      have g4 := g3.toRoom
      refine ⟨⟨some ⟨b, o, none⟩, n + s2.len, c⟩, m.addCells b (o + n * ei.size) news, w', ?_, g1, ?_, .inr ⟨b, o, rfl⟩, rfl, hroom, .inr ⟨b, o, rfl, ?_⟩, fun b' o' q => by cases q; exact hTy b o rfl⟩
      · have hr' : (storeCells ((⟨b, o, none⟩ : Addr).add (n * ei.size)) news).run P w = .ok () w' := by rw [addr_add]; exact hr
        simp only [Sl.v] at hnew
        simp [Builtin.append_, run_underlying hu, run_underlying hu2, sizeOf, typeInfo, q1, q3, Builtin.lenOf, hroom, hnew, hr']
      · have e1 : Item.room b (o + n * ei.size + news.length) (List.drop news.length vs).length = tok ⟨some ⟨b, o, none⟩, n + s2.len, c⟩ ei.size := by
          simp only [tok, List.length_drop, hvl, hy.1]
          congr 1
          · rw [Nat.add_mul]; omega
          · rw [← Nat.sub_mul]; congr 1; omega
        rw [← e1]
        exact St.back hi g4
      · refine ((hAt b o rfl).mono g1).append ?_
        rw [hx.1]
        exact g2
  · -- it grows
    have hlt : s.cap < s.len + s2.len := by omega
    have h48 : ¬ (Builtin.nextslicecap (s.len + s2.len) s.cap * ei.bytes > 281474976710656) := by
      have := growslice_fits hlt hfit
      omega
    have hold := run_first (P := P) (hx.drew)
    have hnew' := run_first (P := P) (hy.drew)
    obtain ⟨nc, hnc, hge⟩ : ∃ nc, nc = (Question.appendCap (s.len + s2.len) s.cap e).cut (w.tape w.drawn (.appendCap (s.len + s2.len) s.cap e)) ∧ s.len + s2.len ≤ nc := ⟨_, rfl, by simp [Question.cut]⟩
    have hst := hw.drew.allocCells ((⟨xs⟩ : Array Value) ++ (⟨news⟩ : Array Value) ++ Builtin.zeroCells ei.zero.cells (nc - (s.len + s2.len))) e
    have hl1 : ((⟨xs⟩ : Array Value) ++ (⟨news⟩ : Array Value) ++ Builtin.zeroCells ei.zero.cells (nc - (s.len + s2.len))).toList = (xs ++ news) ++ (Builtin.zeroCells ei.zero.cells (nc - (s.len + s2.len))).toList := by simp
    rw [hl1] at hst
    obtain ⟨g1, g2, g3⟩ := hst.split.freeze
    have hheap : (w.drew.alloc (.cells ((⟨xs⟩ : Array Value) ++ (⟨news⟩ : Array Value) ++ Builtin.zeroCells ei.zero.cells (nc - (s.len + s2.len))) e)).heap[w.drew.heap.size]? = some (.cells ((⟨xs⟩ : Array Value) ++ (⟨news⟩ : Array Value) ++ Builtin.zeroCells ei.zero.cells (nc - (s.len + s2.len))) e (0, 0)) := heap_alloc_at _ _
    obtain ⟨f1, f2, f3⟩ := g3.typed hheap
    have g2 := g2.mono f1
    have g1 := Mem.le_trans g1 f1
    have g4 := f3.toRoom
    have hxl : (xs ++ news).length = (s.len + s2.len) * ei.size := by rw [List.length_append, hx.1, hy.1, Nat.add_mul]
    refine ⟨⟨some ⟨w.heap.size, 0, none⟩, s.len + s2.len, nc⟩, _, w.drew.alloc (.cells ((⟨xs⟩ : Array Value) ++ (⟨news⟩ : Array Value) ++ Builtin.zeroCells ei.zero.cells (nc - (s.len + s2.len))) e), ?_, g1, ?_, .inr ⟨_, _, rfl⟩, rfl, hge, .inr ⟨_, _, rfl, g2⟩, fun b' o' q => ?_⟩
    · simp only [Sl.v] at hold hnew'
      have hb0 : ei.bytes ≠ 0 := by omega
      have hmax : ¬ (9223372036854775807 < (s.len : Int) + (s2.len : Int)) := by omega
      simp [Builtin.append_, run_underlying hu, run_underlying hu2, sizeOf, typeInfo, zeroValue, q1, q3, q4, q5, Builtin.lenOf, hroom, hold, hnew', h48, hmax, Question.forced, newRow, ← hnc, IntKind.max, IntKind.signed, IntKind.bits, hb0]
      congr 2
      apply Array.ext'
      simp
    · have e1 : Item.room w.heap.size (0 + (xs ++ news).length) (Builtin.zeroCells ei.zero.cells (nc - (s.len + s2.len))).toList.length = tok ⟨some ⟨w.heap.size, 0, none⟩, s.len + s2.len, nc⟩ ei.size := by
        simp only [tok, hxl, Array.length_toList, size_zeroCells, hzs]
      rw [← e1]
      have hsub : (Item.room w.heap.size (0 + (xs ++ news).length) (Builtin.zeroCells ei.zero.cells (nc - (s.len + s2.len))).toList.length :: L.eraseIdx i).Sublist (Item.room w.heap.size (0 + (xs ++ news).length) (Builtin.zeroCells ei.zero.cells (nc - (s.len + s2.len))).toList.length :: L) :=
        List.Sublist.cons_cons _ (List.eraseIdx_sublist L i)
      exact St.back hi (g4.sub hsub)
    · simp only [Option.some.injEq, Addr.mk.injEq, and_true] at q
      obtain ⟨rfl, rfl⟩ := q
      refine ⟨rfl, f2.trans ?_, by rw [g1.pin]; exact hw.size⟩
      congr 2
      rw [Array.size_append, Array.size_append, size_zeroCells, hzs]
      have h1 : (⟨xs⟩ : Array Value).size = xs.length := rfl
      have h2 : (⟨news⟩ : Array Value).size = news.length := rfl
      rw [h1, h2, hx.1, hy.1, ← Nat.add_mul, ← Nat.add_mul]
      congr 1
      show s.len + s2.len + (nc - (s.len + s2.len)) = nc
      omega

/-- append(xs, ys...): xs may grow (its room is item i), ys is read -/
theorem OT.appendT {H α : Type} (T : Tab P) (r : R H α) (i : Nat) {s s2 : Sl} {l l2 : List α} {x y : Operand} {t t2 : TypeId} {d : Nat} (hs : SlRep r m s l) (hown : Own s) (hs2 : SlRep r m s2 l2)
    (ho : o.op = .call ⟨.builtin .append, ⟨[x, y]⟩, ⟨[t, t2]⟩⟩) (hd : o.dst = some d) (hN : Nat.blt d N = true) (hx : ev ρ x = some s.v) (hy : ev ρ y = some s2.v) (hT : T.okElem t t2 r.size r.bytes = true)
    (hi : L[i]? = some (tok s r.size)) (hfit : (l.length + l2.length) * r.bytes ≤ 140737488355328) {e0 : TypeId} (he0 : (T.elem t).map Prod.fst = some e0) (hTy : ∀ b o, s.a = some ⟨b, o, none⟩ → o = 0 ∧ m.t b = some (e0, s.cap * r.size) ∧ m.pin.heap.size ≤ b)
    (hK : ∀ s' m', m ≤ m' → SlRep r m' s' (l ++ l2) → Own s' → (∀ b o, s'.a = some ⟨b, o, none⟩ → o = 0 ∧ m'.t b = some (e0, s'.cap * r.size) ∧ m'.pin.heap.size ≤ b) → K ((d, s'.v) :: ρ) m' (L.set i (tok s' r.size))) : OT P N o ρ D m L Q K := by
  obtain ⟨e, e2, ei, ei2, q1, q2, q3, q4, q5, q6⟩ := okElem_get hT
  intro a w ha
  obtain ⟨hl, h1, h2, h3, h4⟩ := hs.src ha.st
  obtain ⟨hl2, k1, k2, k3, k4⟩ := hs2.src ha.st
  have hb : 0 < ei.bytes := by omega
  have hee : e0 = e := by rw [q1] at he0; simpa using he0.symm
  subst hee
  obtain ⟨s', m', w', hr, g1, g2, g3, g4, g5, g6, g7⟩ := run_appendT (P := P) (ty := o.type) T q1 q2 ha.st (by rw [q3]; exact hi) hown (by rw [q3]; exact h2) (by rw [q3]; exact k2) (fun hz => (k3 hz).1) (encs_one r hl2) q6 hs.cap hb
    (by rw [hs.len, hs2.len, q4]; exact hfit) h4 (by rw [q3]; exact hTy)
  have he : (execOp a.eval o).run P w = .ok (.value s'.v) w' := by
    simp only [execOp, ho, resolve, invoke, builtin, Sem.run_bind, Sem.run_pure, Result.andThen_ok, List.map_toArray, List.map_cons, List.map_nil, ha.env.eval hx, ha.env.eval hy]
    simp only [List.map_toArray, List.map_cons, List.map_nil, ha.env.eval hx, ha.env.eval hy, hr, Result.andThen_ok]
  have hrep : SlRep r m' s' (l ++ l2) := by
    refine ⟨by rw [g4, hs.len, hs2.len]; simp, g5, by rw [g4, hs.len, hs2.len]; exact hfit, hl ++ hl2, (h1.mono fun _ _ => r.mono g1).append (k1.mono fun _ _ => r.mono g1), ?_⟩
    rcases g6 with ⟨e1, e2, e3⟩ | ⟨b, off, e1, e2⟩
    · left
      have hz : s'.len = 0 := by
        rcases g3 with e | ⟨b, off, e⟩
        · rw [e]
        · rw [e1] at e; cases e
      refine ⟨List.eq_nil_of_length_eq_zero ?_, fun _ => e3⟩
      have j1 := hs.len
      have j2 := hs2.len
      rw [List.length_append]; omega
    · right
      exact ⟨b, off, e1, by rw [encs_append]; exact e2⟩
  simp only [Oper.wp, he, Oper.upon]
  rw [hd]
  have hp := ha.put hN s'.v
  rw [q3] at g2
  exact ⟨_, _, _, ⟨hp.size, hp.env, hp.defers, g2⟩, hK s' m' g1 hrep g3 (by rw [q3] at g7; exact g7)⟩

/-- a new variable, with its block's type -/
theorem OT.allocT (T : Tab P) {t : TypeId} {d : Nat} {cs : List Value} (ho : o.op = .alloc t) (hd : o.dst = some d) (hN : Nat.blt d N = true)
    (hv : T.zeroCells t = some cs) (hK : ∀ b m', m ≤ m' → m'.t b = some (t, cs.length) → K ((d, .pointer (some ⟨b, 0, none⟩)) :: ρ) m' (.cells b 0 cs :: L)) : OT P N o ρ D m L Q K := by
  intro a w ha
  unfold Tab.zeroCells at hv
  split at hv
  · rename_i i hi
    have hr : (execOp a.eval o).run P w = .ok (.value (.pointer (some ⟨w.heap.size, 0, none⟩))) (w.alloc (.cells ⟨cs⟩ t)) := by
      simp only [execOp, ho, Instr.alloc, newVar, newRow, cellsF_eq hv, Sem.run_bind, Sem.run_pure, run_newObj, Result.andThen_ok, World.alloc_eq, T.run_zero w hi]
    simp only [Oper.wp, hr, Oper.upon, hd]
    have hp := ha.put hN (.pointer (some ⟨w.heap.size, 0, none⟩))
    have hst := ha.st.allocCells ⟨cs⟩ t
    obtain ⟨f1, f2, f3⟩ := hst.typed (heap_alloc_at w (.cells ⟨cs⟩ t))
    exact ⟨_, _, _, ⟨hp.size, hp.env, hp.defers, f3⟩, hK _ _ f1 f2⟩
  · cases hv

theorem St.shape {w : World} {b : Nat} {x : TypeId × Nat} (h : St m w L) (hb : m.t b = some x) : w.shape? b = some x := by
  obtain ⟨arr, fr, h1, h2⟩ := h.t b x hb
  simp only [World.shape?, h1]
  rw [h2]
def Tab.isPtr {P : Program} (T : Tab P) (t e : TypeId) : Bool :=
  match T.get t with
  | some ⟨.pointer u, _, _, _⟩ => Nat.beq u e
  | _ => false
theorem isPtr_get {T : Tab P} {t e : TypeId} (h : T.isPtr t e = true) : ∃ i, T.get t = some i ∧ i.u = .pointer e := by
  unfold Tab.isPtr at h
  split at h
  · have := Nat.eq_of_beq_eq_true h
    subst this
    exact ⟨_, by assumption, rfl⟩
  · cases h
def Tab.isUnsafe {P : Program} (T : Tab P) (t : TypeId) : Bool :=
  match T.get t with
  | some ⟨.unsafePointer, _, _, _⟩ => true
  | _ => false
theorem isUnsafe_get {T : Tab P} {t : TypeId} (h : T.isUnsafe t = true) : ∃ i, T.get t = some i ∧ i.u = .unsafePointer := by
  unfold Tab.isUnsafe at h
  split at h
  · exact ⟨_, by assumption, rfl⟩
  · cases h
def Tab.size1 {P : Program} (T : Tab P) (t : TypeId) : Bool :=
  match T.get t with
  | some ⟨_, n + 1, _, _⟩ => true
  | _ => false
theorem size1_get {T : Tab P} {t : TypeId} (h : T.size1 t = true) : ∃ i, T.get t = some i ∧ i.size ≠ 0 := by
  unfold Tab.size1 at h
  split at h
  · exact ⟨_, by assumption, by simp⟩
  · cases h
/-- a pointer at a whole variable, as1 an unsafe.Pointer -/
theorem OT.toUnsafe (T : Tab P) {t u e : TypeId} {x : Operand} {b n : Nat} {d : Nat} (ho : o.op = .convert t u x) (hd : o.dst = some d) (hN : Nat.blt d N = true) (hx : ev ρ x = some (.pointer (some ⟨b, 0, none⟩)))
    (ht : T.isPtr t e = true) (hu : T.isUnsafe u = true) (he : T.size1 e = true) (hb : m.t b = some (e, n)) (hn : 0 < n) (hK : K ((d, .pointer (some ⟨b, 0, none⟩)) :: ρ) m L) : OT P N o ρ D m L Q K := by
  obtain ⟨ti, t1, t2⟩ := isPtr_get ht
  obtain ⟨ui, u1, u2⟩ := isUnsafe_get hu
  obtain ⟨ei, e1, e2⟩ := size1_get he
  refine OT.run hd hN (fun a w ha => ⟨w, ?_, ha.st⟩) hK
  have hut := T.run_underlying w t1
  rw [t2] at hut
  have huu := T.run_underlying w u1
  rw [u2] at huu
  have hse := T.run_sizeOf w e1
  have hsh := ha.st.shape hb
  have hn' : ¬ (0 ≥ n) := by omega
  have hv : (viewAt b).run P w = .ok none w := by simp [viewAt, hsh]
  have hc : (cellsIn b).run P w = .ok (some n) w := by simp [cellsIn, hsh]
  simp only [execOp, ho, ha.env.eval hx, Go.convert, Sem.run_bind, hut, huu, Result.andThen_ok, Conv.unsafePointer, Conv.seenAt, hv, hc, hse, Sem.run_pure]
  simp [hn', hn, e2, hse]
/-- and back -/
theorem OT.fromUnsafe (T : Tab P) {t u e : TypeId} {x : Operand} {b n : Nat} {d : Nat} (ho : o.op = .convert u t x) (hd : o.dst = some d) (hN : Nat.blt d N = true) (hx : ev ρ x = some (.pointer (some ⟨b, 0, none⟩)))
    (ht : T.isPtr t e = true) (hu : T.isUnsafe u = true) (hb : m.t b = some (e, n)) (hlies : liesAt P P.depth e (n / P.cellsOf e) 0 e 1 = true) (he : T.size1 e = true) (hK : K ((d, .pointer (some ⟨b, 0, none⟩)) :: ρ) m L) : OT P N o ρ D m L Q K := by
  obtain ⟨ti, t1, t2⟩ := isPtr_get ht
  obtain ⟨ui, u1, u2⟩ := isUnsafe_get hu
  obtain ⟨ei, e1, e2⟩ := size1_get he
  refine OT.run hd hN (fun a w ha => ⟨w, ?_, ha.st⟩) hK
  have hut := T.run_underlying w t1
  rw [t2] at hut
  have huu := T.run_underlying w u1
  rw [u2] at huu
  have hse := T.run_sizeOf w e1
  have hsh := ha.st.shape hb
  have hv : (viewAt b).run P w = .ok none w := by simp [viewAt, hsh]
  have hva : (variablesAt ⟨b, 0, none⟩ e 1).run P w = .ok true w := by simp [variablesAt, hsh, hlies]
  simp only [execOp, ho, ha.env.eval hx, Go.convert, Sem.run_bind, hut, huu, Result.andThen_ok, Conv.unsafePointer, Conv.seenAt, hv, hse, Sem.run_pure]
  simp [e2, hva, hse]
theorem equalIn_ptrNil {t e : TypeId} {w : World} (dd : Nat) (a : Addr) (hu : (underlying t).run P w = .ok (.pointer e) w) :
    (Op.equalIn (dd + 1) t (.pointer (some a)) (.pointer none)).run P w = .ok false w := by
  simp only [Op.equalIn, Sem.run_bind, hu, Result.andThen_ok, Sem.run_pure]
theorem equalIn_nilPtr {t e : TypeId} {w : World} (dd : Nat) (hu : (underlying t).run P w = .ok (.pointer e) w) :
    (Op.equalIn (dd + 1) t (.pointer none) (.pointer none)).run P w = .ok true w := by
  simp only [Op.equalIn, Sem.run_bind, hu, Result.andThen_ok, Sem.run_pure]
  rfl
/-- p == nil -/
theorem OT.ptrNil (T : Tab P) {t t' e : TypeId} {x y : Operand} {q : Option Addr} {d : Nat} (ho : o.op = .binOp .eql t x y t') (hd : o.dst = some d) (hN : Nat.blt d N = true)
    (hx : ev ρ x = some (.pointer q)) (hy : ev ρ y = some (.pointer none)) (ht : T.isPtr t e = true) (hK : K ((d, .bool q.isNone) :: ρ) m L) : OT P N o ρ D m L Q K := by
  obtain ⟨ti, h1, h2⟩ := isPtr_get ht
  refine OT.run hd hN (fun ac w ha => ⟨w, ?_, ha.st⟩) hK
  have hu := T.run_underlying w h1
  rw [h2] at hu
  have e1 : binOp .eql t (.pointer q) (.pointer none) = (do pure (.bool (← Op.equalIn (9999 + 1) t (.pointer q) (.pointer none))) : Sem Value) := rfl
  have e2 : (eqGuard .eql t x y (.pointer q) (.pointer none)).run P w = .ok () w := by simp [eqGuard]
  cases q with
  | none =>
    have h := equalIn_nilPtr (P := P) 9999 hu
    simp only [execOp, ho, ha.env.eval hx, ha.env.eval hy, Sem.run_bind, e2, Result.andThen_ok, e1, h, Sem.run_pure]; rfl
  | some q =>
    have h := equalIn_ptrNil (P := P) 9999 q hu
    simp only [execOp, ho, ha.env.eval hx, ha.env.eval hy, Sem.run_bind, e2, Result.andThen_ok, e1, h, Sem.run_pure]; rfl
end
end Go.Sep

/-
  Rows of bytes made strings; strings made rows of bytes; what is nil.
-/
set_option linter.unusedVariables false
set_option linter.unusedSimpArgs false
namespace Go.Sep

/-! frozen rows -/
theorem freeze_cell (w : World) (a : Addr) (n : Nat) (x : Addr) : (w.freeze a n).cell? x = w.cell? x := by
  unfold World.freeze
  split
  · rfl
  · simp only [World.cell?, Array.getElem?_modify]
    by_cases e : a.block = x.block
    · rw [if_pos e]
      cases h : w.heap[x.block]? with
      | none => rfl
      | some ob => cases ob <;> rfl
    · rw [if_neg e]
theorem freeze_heap (w : World) (a : Addr) (n : Nat) {b : Nat} (h : a.block ≠ b) : (w.freeze a n).heap[b]? = w.heap[b]? := by
  unfold World.freeze
  split
  · rfl
  · simp only [Array.getElem?_modify]
    rw [if_neg h]
theorem St.frz {m : Mem} {w : World} {L : List Item} (h : St m w L) (g n : Nat) (hp : m.pin.heap.size ≤ g) (hL : ∀ x ∈ L, 0 < x.len → x.blk ≠ g) : St m (w.freeze ⟨g, 0, none⟩ n) L := by
  have hsz : (w.freeze ⟨g, 0, none⟩ n).heap.size = w.heap.size := by
    unfold World.freeze
    split
    · rfl
    · simp
  have hos : (w.freeze ⟨g, 0, none⟩ n).os = w.os ∧ (w.freeze ⟨g, 0, none⟩ n).tape = w.tape ∧ (w.freeze ⟨g, 0, none⟩ n).output = w.output := by
    unfold World.freeze
    split <;> exact ⟨rfl, rfl, rfl⟩
  have hfz : ∀ a : Addr, a.block ≠ g → (w.freeze ⟨g, 0, none⟩ n).frozen? a = w.frozen? a := fun a ha => World.frozen?_of_block (freeze_heap w _ n (fun e => ha e.symm))
  refine { os := hos.1.trans h.os, tape := hos.2.1.trans h.tape, output := hos.2.2.trans h.output, size := by rw [hsz]; exact h.size, pin := fun b hb => (freeze_heap w _ n (show g ≠ b by omega)).trans (h.pin b hb), c := fun b i v hv => (freeze_cell ..).trans (h.c b i v hv), o := fun b x hx => ?_, t := fun b x hx => ?_, items := fun x hx => ?_, free := h.free, disj := h.disj }
  · have h1 := h.o b x hx
    by_cases e : g = b
    · subst e
      unfold World.freeze
      split
      · exact h1
      · refine ⟨?_, h1.2⟩
        simp only [Array.getElem?_modify, if_true, h1.1, Option.map_some]
        cases x <;> simp_all [isCells]
    · exact ⟨(freeze_heap w _ n e).trans h1.1, h1.2⟩
  · obtain ⟨arr, fr, g1, g2⟩ := h.t b x hx
    by_cases e : g = b
    · subst e
      unfold World.freeze
      split
      · exact ⟨arr, fr, g1, g2⟩
      · simp only [Array.getElem?_modify, if_true, g1, Option.map_some]
        exact ⟨arr, _, rfl, g2⟩
    · exact ⟨arr, fr, (freeze_heap w _ n e).trans g1, g2⟩
  · have hi := h.items x hx
    have hl := hL x hx
    cases x with
    | cells b off vs =>
      intro j v hv
      obtain ⟨g1, g2⟩ := hi j v hv
      have hj := (List.getElem?_eq_some_iff.1 hv).1
      have hne : b ≠ g := hl (by simp only [Item.len]; omega)
      exact ⟨(freeze_cell ..).trans g1, fun i => (hfz ⟨b, i, none⟩ hne).trans (g2 i)⟩
    | room b off k =>
      intro j hj
      obtain ⟨v, g1, g2⟩ := hi j hj
      have hne : b ≠ g := hl (by simp only [Item.len]; omega)
      exact ⟨v, (freeze_cell ..).trans g1, fun i => (hfz ⟨b, i, none⟩ hne).trans (g2 i)⟩
    | obj b ob =>
      have hne : b ≠ g := hl (by simp [Item.len])
      exact ⟨(freeze_heap w _ n (fun e => hne e.symm)).trans hi.1, hi.2⟩
theorem cell_arr {w : World} {g i : Nat} {arr : Array Value} {e : TypeId} {fr : Nat × Nat} {v : Value} (hg : w.heap[g]? = some (.cells arr e fr)) (h : w.cell? ⟨g, i, none⟩ = some v) : i < arr.size := by
  simp only [World.cell?, hg] at h
  exact (Array.getElem?_eq_some_iff.1 (by simpa using h)).1
def isObj : Item → Bool
  | .obj .. => true
  | _ => false
/-- nothing else lies in the block of a row and its room -/
theorem St.alone {m : Mem} {w : World} {L : List Item} {g n c : Nat} {e : TypeId} {vs : List Value} (h : St m w (tok ⟨some ⟨g, 0, none⟩, n, c⟩ 1 :: L)) (hn : n ≤ c) (hA : At m g 0 vs) (hv : vs.length = n) (ht : m.t g = some (e, c)) : ∀ x ∈ L, 0 < x.len → x.blk ≠ g := by
  intro x hx hl hb
  obtain ⟨arr, fr, g1, g2⟩ := h.t g _ ht
  have hd := (List.pairwise_cons.1 h.disj).1 x hx
  have hf := h.free x (List.mem_cons_of_mem _ hx)
  have hi := h.items x (List.mem_cons_of_mem _ hx)
  have hoff : x.off < c ∨ isObj x = true := by
    cases x with
    | cells b off us =>
      left
      simp only [Item.blk] at hb
      subst hb
      obtain ⟨q1, _⟩ := hi 0 us[0] (by simp only [Item.len] at hl; simp [hl])
      have := cell_arr g1 q1
      rw [g2] at this
      simpa [Item.off] using this
    | room b off k =>
      left
      simp only [Item.blk] at hb
      subst hb
      obtain ⟨v, q1, _⟩ := hi 0 hl
      have := cell_arr g1 q1
      rw [g2] at this
      simpa [Item.off] using this
    | obj b ob => right; rfl
  rcases hoff with hoff | hoff
  · by_cases hlt : x.off < n
    · have h1 := hf.c 0 hl
      rw [hb, Nat.add_zero] at h1
      have h2 := hA x.off vs[x.off] (by simp [hv, hlt])
      rw [Nat.zero_add, h1] at h2
      cases h2
    · simp only [tok, Item.Disj, Item.len, Item.blk, Item.off, Nat.mul_one, Nat.zero_add] at hd
      rcases hd with q | q | q | q | q
      · omega
      · simp only [Item.len] at hl; cases x <;> simp_all [Item.len] <;> omega
      · exact q hb.symm
      · cases x <;> simp_all [Item.off] <;> omega
      · cases x <;> simp_all [Item.off, Item.len] <;> omega
  · cases x with
    | obj b ob =>
      simp only [Item.blk] at hb
      subst hb
      have h1 := hi.1
      have h2 := hi.2
      rw [g1] at h1
      cases h1
      simp [isCells] at h2
    | cells => cases hoff
    | room => cases hoff

section
variable {P : Program} {N : Nat} {ρ : Env} {D : List Deferred} {m : Mem} {L : List Item} {Q : EPost} {full : List Oper} {o : Oper} {K : Env → Mem → List Item → Prop}
theorem At.bytes {m : Mem} {b : Nat} {bs : List UInt8} (h : At m b 0 (bs.map byteV)) {w : World} (hst : St m w L) : ∀ j x, bs[j]? = some x → w.cell? ((⟨b, 0, none⟩ : Addr).add j) = some (.int .u8 x.toNat) := fun j x hx => by
  rw [addr_add]
  have := hst.c _ _ _ (h j (byteV x) (by simp [hx]))
  simpa using this
/-- unsafe.SliceData of a row -/
theorem OT.sliceData {ts : Array TypeId} {x : Operand} {a : Option Addr} {n c d : Nat} (ho : o.op = .call ⟨.builtin .unsafeSliceData, ⟨[x]⟩, ts⟩) (hd : o.dst = some d) (hN : Nat.blt d N = true) (hx : ev ρ x = some (.slice a n c)) (hc : a = none ∨ c ≠ 0) (hK : K ((d, .pointer a) :: ρ) m L) : OT P N o ρ D m L Q K := by
  refine OT.run hd hN (fun ac w ha => ⟨w, ?_, ha.st⟩) hK
  have hr : (Builtin.unsafeSliceData_ ts o.type #[.slice a n c]).run P w = .ok (.pointer a) w := by
    cases a with
    | none => exact Lib.run_unsafeSliceData_nil w ts o.type n c
    | some a =>
      rcases hc with h | h
      · cases h
      · exact Lib.run_unsafeSliceData_row w ts o.type a n c h
  simp only [execOp, ho, resolve, invoke, builtin, Sem.run_bind, Sem.run_pure, Result.andThen_ok, List.map_toArray, List.map_cons, List.map_nil, ha.env.eval hx, hr]
/-- unsafe.String of no byte -/
theorem OT.unsafeStr0 {pt it : TypeId} {x y : Operand} {p : Option Addr} {d : Nat} (ho : o.op = .call ⟨.builtin .unsafeString, ⟨[x, y]⟩, ⟨[pt, it]⟩⟩) (hd : o.dst = some d) (hN : Nat.blt d N = true) (hx : ev ρ x = some (.pointer p)) (hy : ev ρ y = some (.int .i64 0))
    (hK : K ((d, strV []) :: ρ) m L) : OT P N o ρ D m L Q K := by
  refine OT.run hd hN (fun ac w ha => ⟨w, ?_, ha.st⟩) hK
  have hr := Lib.run_unsafeString_none (P := P) w pt it o.type p
  simp only [execOp, ho, resolve, invoke, builtin, Sem.run_bind, Sem.run_pure, Result.andThen_ok, List.map_toArray, List.map_cons, List.map_nil, ha.env.eval hx, ha.env.eval hy]
  simp only [List.map_toArray, List.map_cons, List.map_nil, ha.env.eval hx, ha.env.eval hy, hr, Result.andThen_ok]
  rfl
/-- unsafe.String of a row of bytes that is known: its room is given up -/
theorem OT.unsafeStr (T : Tab P) {pt it e : TypeId} {x y : Operand} {g n c : Nat} {bs : List UInt8} {d : Nat} (ho : o.op = .call ⟨.builtin .unsafeString, ⟨[x, y]⟩, ⟨[pt, it]⟩⟩) (hd : o.dst = some d) (hN : Nat.blt d N = true) (hx : ev ρ x = some (.pointer (some ⟨g, 0, none⟩))) (hy : ev ρ y = some (.int .i64 (n : Int)))
    (hpt : T.isPtr pt e = true) (hce : P.cellsOf e = 1) (hA : At m g 0 (bs.map byteV)) (hbs : bs.length = n) (hpos : 0 < n) (hc : n ≤ c) (hmax : n ≤ 9223372036854775807) (ht : m.t g = some (e, c)) (hp : m.pin.heap.size ≤ g)
    (hK : K ((d, strV bs) :: ρ) m L) : OT P N o ρ D m (tok ⟨some ⟨g, 0, none⟩, n, c⟩ 1 :: L) Q K := by
  obtain ⟨pi, p1, p2⟩ := isPtr_get hpt
  obtain ⟨_, _, hup, _⟩ := T.ok pt pi p1
  rw [p2] at hup
  refine OT.run hd hN (fun ac w ha => ?_) hK
  have hst := ha.st
  have halone := hst.alone hc hA (by rw [List.length_map]; exact hbs) ht
  have hcell := At.bytes hA hst
  have hne : bs ≠ [] := fun e => by subst e; simp at hbs; omega
  have hr := Lib.run_unsafeString_row (P := P) w pt it o.type e hup hce g c (hst.shape ht) bs hne (by omega) (by omega) hcell
  refine ⟨_, ?_, (hst.sub (List.sublist_cons_self _ _)).frz g bs.length hp halone⟩
  subst hbs
  simp only [execOp, ho, resolve, invoke, builtin, Sem.run_bind, Sem.run_pure, Result.andThen_ok, List.map_toArray, List.map_cons, List.map_nil, ha.env.eval hx, ha.env.eval hy]
  simp only [List.map_toArray, List.map_cons, List.map_nil, ha.env.eval hx, ha.env.eval hy, hr, Result.andThen_ok]

/-- string(b) of a row of bytes -/
theorem OT.bytesStr (T : Tab P) {t u : TypeId} {x : Operand} {s : Sl} {bs : List UInt8} {d : Nat} {e : TypeId} {ei : TI} (ho : o.op = .convert t u x) (hd : o.dst = some d) (hN : Nat.blt d N = true) (hx : ev ρ x = some s.v) (he : T.elem t = some (e, ei)) (hb : ei.u = .int .u8) (hu : T.isStr u = true) (hs : SlRep rByte m s bs) (hpos : 0 < bs.length)
    (hK : K ((d, strV bs) :: ρ) m L) : OT P N o ρ D m L Q K := by
  obtain ⟨ti, h4, h5, h6⟩ := elem_get he
  obtain ⟨ui, u1, u2⟩ := isStr_get hu
  obtain ⟨_, _, hut, _⟩ := T.ok t ti h4
  rw [h5] at hut
  obtain ⟨_, _, huu, _⟩ := T.ok u ui u1
  rw [u2] at huu
  obtain ⟨_, _, hue, _⟩ := T.ok e ei h6
  rw [hb] at hue
  refine OT.run hd hN (fun ac w ha => ⟨w, ?_, ha.st⟩) hK
  obtain ⟨hs', k1, k2⟩ := hs.cells
  have hh := byte_all2 k1
  subst hh
  rcases k2 with ⟨k2, _⟩ | ⟨b, off, k3, k4⟩
  · subst k2; simp at hpos
  · obtain ⟨a, n, c⟩ := s
    simp only at k3
    subst k3
    have hlen : n = hs'.length := hs.len
    subst hlen
    have hr := run_convert_bytes_back (P := P) w t u e ⟨b, off, none⟩ c hs' hut hue huu (fun j hj => by
      rw [addr_add]
      rw [encs_byte] at k4
      exact ha.st.c _ _ _ (k4 j (byteV hs'[j]) (by simp [hj])))
    simp only [execOp, ho, ha.env.eval hx, Sl.v, Sem.run_bind, hr, Result.andThen_ok, Sem.run_pure]

/-- []byte(s) -/
theorem OT.strBytes (T : Tab P) {t u : TypeId} {x : Operand} {bs : List UInt8} {d : Nat} {e : TypeId} {ei : TI} (ho : o.op = .convert t u x) (hd : o.dst = some d) (hN : Nat.blt d N = true) (hx : ev ρ x = some (strV bs)) (he : T.elem u = some (e, ei)) (hb : ei.u = .int .u8) (ht : T.isStr t = true) (hfit : bs.length ≤ 140737488355328)
    (hK : ∀ s m', m ≤ m' → SlRep rByte m' s bs → s.len = bs.length → K ((d, s.v) :: ρ) m' L) : OT P N o ρ D m L Q K := by
  obtain ⟨ui, h4, h5, h6⟩ := elem_get he
  obtain ⟨ti, t1, t2⟩ := isStr_get ht
  obtain ⟨_, _, huu, _⟩ := T.ok u ui h4
  rw [h5] at huu
  obtain ⟨_, _, hut, _⟩ := T.ok t ti t1
  rw [t2] at hut
  obtain ⟨_, _, hue, _⟩ := T.ok e ei h6
  rw [hb] at hue
  intro a w ha
  have hr := Lib.run_convert_string_bytes (P := P) w t u e ⟨⟨bs⟩⟩ hut huu hue
  have hgrow := ha.st.grow (w' := Lib.bytesWorld w e ⟨⟨bs⟩⟩) (by unfold Lib.bytesWorld World.freeze; split <;> rfl) (by unfold Lib.bytesWorld World.freeze; split <;> rfl) (by unfold Lib.bytesWorld World.freeze; split <;> rfl) (by rw [Lib.bytesWorld_size]; omega) (fun b hb => Lib.bytesWorld_at_old w e _ b hb)
  obtain ⟨g1, g2, g3⟩ := hgrow.learn (b := w.heap.size) (vs := bs.map byteV) (fun j v hv => by
    have hj : j < bs.length := by have := (List.getElem?_eq_some_iff.1 hv).1; simpa using this
    have := Lib.bytesWorld_cell w e ⟨⟨bs⟩⟩ j hj
    rw [this]
    simp [hj] at hv
    subst hv
    simp [List.getD, hj]) (fun j => ha.st.new_c j) ha.st.new_L
  have hge : bs.length ≤ grownCap w (⟨⟨bs⟩⟩ : ByteArray).size 0 e := by
    show bs.length ≤ (Question.appendCap _ 0 e).cut _
    have : (⟨⟨bs⟩⟩ : ByteArray).size = bs.length := rfl
    simp [Question.cut]
    omega
  have he' : (execOp a.eval o).run P w = .ok (.value (.slice (some ⟨w.heap.size, 0, none⟩) bs.length (grownCap w (⟨⟨bs⟩⟩ : ByteArray).size 0 e))) (Lib.bytesWorld w e ⟨⟨bs⟩⟩) := by
    simp only [execOp, ho, ha.env.eval hx, Sem.run_bind, hr, Result.andThen_ok, Sem.run_pure]
    rfl
  simp only [Oper.wp, he', Oper.upon, hd]
  have hp := ha.put hN (.slice (some ⟨w.heap.size, 0, none⟩) bs.length (grownCap w (⟨⟨bs⟩⟩ : ByteArray).size 0 e))
  exact ⟨_, _, _, ⟨hp.size, hp.env, hp.defers, g3⟩, hK ⟨some ⟨w.heap.size, 0, none⟩, bs.length, _⟩ _ g1 ⟨rfl, hge, by show bs.length * 1 ≤ _; omega, bs, byte_refl bs, .inr ⟨w.heap.size, 0, rfl, by rw [encs_byte]; exact g2⟩⟩ rfl⟩
end
end Go.Sep

/-
  A string's bytes appended; errors compared; a row made and filled.
-/
set_option linter.unusedVariables false
set_option linter.unusedSimpArgs false
namespace Go.Sep
theorem allOne_bytes : ∀ bs : List UInt8, allOne (bs.map byteV) = true
  | [] => rfl
  | x :: xs => by
    have := allOne_bytes xs
    have h1 : (byteV x).oneCell' = true := rfl
    simpa [allOne, h1] using this
section
variable {P : Program} {N : Nat} {ρ : Env} {D : List Deferred} {m : Mem} {L : List Item} {Q : EPost} {full : List Oper} {o : Oper} {K : Env → Mem → List Item → Prop}
/-- what append of a string's bytes does -/
theorem run_appendS (T : Tab P) {t t2 e ty : TypeId} {ei : TI} {w : World} {s : Sl} {bs : List UInt8} {xs : List Value} {i : Nat} (he : T.elem t = some (e, ei)) (he2 : T.isStr t2 = true)
    (hw : St m w L) (hi : L[i]? = some (tok s ei.size)) (ho : Own s) (hx : Src w s ei.size xs) (hsz1 : ei.size = 1) (hzs : ei.zero.cells.size = ei.size) (hcap : s.len ≤ s.cap)
    (hb : 0 < ei.bytes) (hfit : (s.len + bs.length) * ei.bytes ≤ 140737488355328) (hAt : ∀ b o, s.a = some ⟨b, o, none⟩ → At m b o xs) :
    ∃ s' m' w', (Builtin.append_ #[t, t2] ty #[s.v, strV bs]).run P w = .ok s'.v w' ∧ m ≤ m' ∧ St m' w' (L.set i (tok s' ei.size)) ∧ Own s' ∧ s'.len = s.len + bs.length ∧ s'.len ≤ s'.cap ∧
      ((s'.a = none ∧ xs ++ bs.map byteV = [] ∧ s'.cap = 0) ∨ ∃ b o, s'.a = some ⟨b, o, none⟩ ∧ At m' b o (xs ++ bs.map byteV)) := by
  obtain ⟨ti, h4, h5, h6⟩ := elem_get he
  obtain ⟨ti2, k4, k5⟩ := isStr_get he2
  obtain ⟨_, _, hu, _⟩ := T.ok t ti h4
  rw [h5] at hu
  obtain ⟨_, _, hu2, _⟩ := T.ok t2 ti2 k4
  rw [k5] at hu2
  obtain ⟨info, q1, q2, q3, q4, q5⟩ := T.ok e ei h6
  have hnewA : ∀ w : World, (Builtin.firstCells ei.size bs.length (strV bs)).run P w = .ok (⟨bs.map byteV⟩ : Array Value) w := fun w => by
    have hx : (⟨⟨bs⟩⟩ : ByteArray).extract 0 bs.length = ⟨⟨bs⟩⟩ := by
      apply ByteArray.ext
      apply Array.ext'
      simp
    simp only [Builtin.firstCells, Sem.run_pure]
    rw [hx]
    congr 1
    apply Array.ext'
    simp
  have hnew := hnewA w
  have hsize : (⟨⟨bs⟩⟩ : ByteArray).size = bs.length := rfl
  have hylen : (bs.map byteV).length = bs.length * ei.size := by rw [hsz1]; simp
  have h1 : allOne (bs.map byteV) = true := by
    induction bs with
    | nil => rfl
    | cons x xs ih => exact allOne_bytes (x :: xs)
  have hbound : s.len + bs.length ≤ 140737488355328 := Nat.le_trans (Nat.le_mul_of_pos_right _ hb) hfit
  by_cases hroom : s.len + bs.length ≤ s.cap
  · -- there is room
    rcases ho with hnil | ⟨b, o, ha⟩
    · subst hnil
      simp only at hroom
      have hz : bs.length = 0 := by omega
      have hxs : xs = [] := List.eq_nil_of_length_eq_zero (by have := hx.1; simpa using this)
      have hns : bs = [] := List.eq_nil_of_length_eq_zero hz
      subst hxs; subst hns
      refine ⟨⟨none, 0, 0⟩, m, w, ?_, m.le_refl, by rw [set_same hi]; exact hw, .inl rfl, by simp [hz], by simp, .inl ⟨rfl, rfl, rfl⟩⟩
      have hnew' := hnew
      simp only [List.length_nil, List.map_nil] at hnew'
      simp [Builtin.append_, run_underlying hu, run_underlying hu2, sizeOf, typeInfo, q1, q3, Builtin.lenOf, hsize, hz, hnew']
    · obtain ⟨a, n, c⟩ := s
      simp only at ha hroom hcap hbound hfit hx hAt
      subst ha
      have hst := (hw.at_ hi)
      simp only [tok] at hst
      obtain ⟨vs, hvl, hst⟩ := hst.ofRoom
      have hnl : (bs.map byteV).length ≤ vs.length := by
        rw [hvl, hylen]; exact Nat.mul_le_mul_right _ (by omega)
      obtain ⟨w', hr, hst'⟩ := run_storeCells (P := P) (bs.map byteV) vs 0 0 w hst h1 (by omega)
      rw [putAt_zero hnl] at hst'
      have hst2 := hst'.split
      obtain ⟨g1, g2, g3⟩ := hst2.freeze
      have g4 := g3.toRoom
      refine ⟨⟨some ⟨b, o, none⟩, n + bs.length, c⟩, m.addCells b (o + n * ei.size) (bs.map byteV), w', ?_, g1, ?_, .inr ⟨b, o, rfl⟩, rfl, hroom, .inr ⟨b, o, rfl, ?_⟩⟩
      · have hr' : (storeCells ((⟨b, o, none⟩ : Addr).add (n * ei.size)) (bs.map byteV)).run P w = .ok () w' := by rw [addr_add]; exact hr
        simp [Builtin.append_, run_underlying hu, run_underlying hu2, sizeOf, typeInfo, q1, q3, Builtin.lenOf, hsize, hroom, hnew, hr']
      · have e1 : Item.room b (o + n * ei.size + (bs.map byteV).length) (List.drop (bs.map byteV).length vs).length = tok ⟨some ⟨b, o, none⟩, n + bs.length, c⟩ ei.size := by
          simp only [tok, List.length_drop, hvl, hylen]
          congr 1
          · rw [Nat.add_mul]; omega
          · rw [← Nat.sub_mul]; congr 1; omega
        rw [← e1]
        exact St.back hi g4
      · refine ((hAt b o rfl).mono g1).append ?_
        rw [hx.1]
        exact g2
  · -- it grows
    have hlt : s.cap < s.len + bs.length := by omega
    have h48 : ¬ (Builtin.nextslicecap (s.len + bs.length) s.cap * ei.bytes > 281474976710656) := by
      have := growslice_fits hlt hfit
      omega
    have hold := run_first (P := P) (hx.drew)
    have hnew' := hnewA w.drew
    obtain ⟨nc, hnc, hge⟩ : ∃ nc, nc = (Question.appendCap (s.len + bs.length) s.cap e).cut (w.tape w.drawn (.appendCap (s.len + bs.length) s.cap e)) ∧ s.len + bs.length ≤ nc := ⟨_, rfl, by simp [Question.cut]⟩
    have hst := hw.drew.allocCells ((⟨xs⟩ : Array Value) ++ (⟨bs.map byteV⟩ : Array Value) ++ Builtin.zeroCells ei.zero.cells (nc - (s.len + bs.length))) e
    have hl1 : ((⟨xs⟩ : Array Value) ++ (⟨bs.map byteV⟩ : Array Value) ++ Builtin.zeroCells ei.zero.cells (nc - (s.len + bs.length))).toList = (xs ++ bs.map byteV) ++ (Builtin.zeroCells ei.zero.cells (nc - (s.len + bs.length))).toList := by simp
    rw [hl1] at hst
    obtain ⟨g1, g2, g3⟩ := hst.split.freeze
    have g4 := g3.toRoom
    have hxl : (xs ++ bs.map byteV).length = (s.len + bs.length) * ei.size := by rw [List.length_append, hx.1, hylen, Nat.add_mul]
    refine ⟨⟨some ⟨w.heap.size, 0, none⟩, s.len + bs.length, nc⟩, _, w.drew.alloc (.cells ((⟨xs⟩ : Array Value) ++ (⟨bs.map byteV⟩ : Array Value) ++ Builtin.zeroCells ei.zero.cells (nc - (s.len + bs.length))) e), ?_, g1, ?_, .inr ⟨_, _, rfl⟩, rfl, hge, .inr ⟨_, _, rfl, g2⟩⟩
    · simp only [Sl.v] at hold
      have hb0 : ei.bytes ≠ 0 := by omega
      have hmax : ¬ (9223372036854775807 < (s.len : Int) + (bs.length : Int)) := by omega
      simp [Builtin.append_, run_underlying hu, run_underlying hu2, sizeOf, typeInfo, zeroValue, q1, q3, q4, q5, Builtin.lenOf, hsize, hroom, hold, hnew', h48, hmax, Question.forced, newRow, ← hnc, IntKind.max, IntKind.signed, IntKind.bits, hb0]
      congr 2
      apply Array.ext'
      simp
    · have e1 : Item.room w.heap.size (0 + (xs ++ bs.map byteV).length) (Builtin.zeroCells ei.zero.cells (nc - (s.len + bs.length))).toList.length = tok ⟨some ⟨w.heap.size, 0, none⟩, s.len + bs.length, nc⟩ ei.size := by
        simp only [tok, hxl, Array.length_toList, size_zeroCells, hzs]
      rw [← e1]
      have hsub : (Item.room w.heap.size (0 + (xs ++ bs.map byteV).length) (Builtin.zeroCells ei.zero.cells (nc - (s.len + bs.length))).toList.length :: L.eraseIdx i).Sublist (Item.room w.heap.size (0 + (xs ++ bs.map byteV).length) (Builtin.zeroCells ei.zero.cells (nc - (s.len + bs.length))).toList.length :: L) :=
        List.Sublist.cons_cons _ (List.eraseIdx_sublist L i)
      exact St.back hi (g4.sub hsub)


/-- append(b, s...) of a string -/
theorem OT.appendS (T : Tab P) (i : Nat) {s : Sl} {l bs : List UInt8} {x y : Operand} {t t2 e : TypeId} {ei : TI} {d : Nat} (hs : SlRep rByte m s l) (hown : Own s)
    (ho : o.op = .call ⟨.builtin .append, ⟨[x, y]⟩, ⟨[t, t2]⟩⟩) (hd : o.dst = some d) (hN : Nat.blt d N = true) (hx : ev ρ x = some s.v) (hy : ev ρ y = some (strV bs)) (he : T.elem t = some (e, ei)) (h1 : Nat.beq ei.size 1 = true) (hb : Nat.beq ei.bytes 1 = true) (hz : (cellsF ei.zero).map List.length = some 1) (ht2 : T.isStr t2 = true)
    (hi : L[i]? = some (tok s 1)) (hfit : l.length + bs.length ≤ 140737488355328)
    (hK : ∀ s' m', m ≤ m' → SlRep rByte m' s' (l ++ bs) → Own s' → K ((d, s'.v) :: ρ) m' (L.set i (tok s' 1))) : OT P N o ρ D m L Q K := by
  have e1 : ei.size = 1 := Nat.eq_of_beq_eq_true h1
  have e2 : ei.bytes = 1 := Nat.eq_of_beq_eq_true hb
  have e3 : ei.zero.cells.size = ei.size := by
    cases hc : cellsF ei.zero with
    | none => rw [hc] at hz; cases hz
    | some l => rw [hc] at hz; rw [cellsF_eq hc, e1]; simpa using hz
  intro a w ha
  obtain ⟨hl, g1, g2, g3, g4⟩ := hs.src ha.st
  have hh := byte_all2 g1
  subst hh
  rw [encs_byte] at g2 g4
  obtain ⟨s', m', w', hr, k1, k2, k3, k4, k5, k6⟩ := run_appendS (P := P) (ty := o.type) (bs := bs) T he ht2 ha.st (by rw [e1]; exact hi) hown (by rw [e1]; exact g2) e1 e3 hs.cap (by omega) (by rw [e2, hs.len]; omega) g4
  have hex : (execOp a.eval o).run P w = .ok (.value s'.v) w' := by
    simp only [execOp, ho, resolve, invoke, builtin, Sem.run_bind, Sem.run_pure, Result.andThen_ok, List.map_toArray, List.map_cons, List.map_nil, ha.env.eval hx, ha.env.eval hy]
    simp only [List.map_toArray, List.map_cons, List.map_nil, ha.env.eval hx, ha.env.eval hy, hr, Result.andThen_ok]
  have hrep : SlRep rByte m' s' (hl ++ bs) := by
    refine ⟨by rw [k4, hs.len]; simp, k5, by show s'.len * 1 ≤ _; rw [k4, hs.len]; omega, hl ++ bs, byte_refl _, ?_⟩
    rcases k6 with ⟨f1, f2, f3⟩ | ⟨b, off, f1, f2⟩
    · left
      have f2 : hl ++ bs = [] := by
        have := congrArg List.length f2
        exact List.eq_nil_of_length_eq_zero (by simpa using this)
      exact ⟨f2, fun _ => f3⟩
    · right
      exact ⟨b, off, f1, by rw [encs_byte, List.map_append]; exact f2⟩
  simp only [Oper.wp, hex, Oper.upon, hd]
  have hp := ha.put hN s'.v
  rw [e1] at k2
  exact ⟨_, _, _, ⟨hp.size, hp.env, hp.defers, k2⟩, hK s' m' k1 hrep k3⟩

/-! errors -/
theorem equalIn_ifNil {t : TypeId} {ms : Array (String × TypeId)} {w : World} (dd : Nat) (u : TypeId) (v : Value) (hu : (underlying t).run P w = .ok (.interface ms) w) :
    (Op.equalIn (dd + 1) t (.iface u v) .nilIface).run P w = .ok false w := by
  simp only [Op.equalIn, Sem.run_bind, hu, Result.andThen_ok, Sem.run_pure]
theorem equalIn_nilNil {t : TypeId} {ms : Array (String × TypeId)} {w : World} (dd : Nat) (hu : (underlying t).run P w = .ok (.interface ms) w) :
    (Op.equalIn (dd + 1) t .nilIface .nilIface).run P w = .ok true w := by
  simp only [Op.equalIn, Sem.run_bind, hu, Result.andThen_ok, Sem.run_pure]
def isErr : Value → Bool
  | .iface _ _ => true
  | _ => false
/-- e != nil -/
theorem OT.errNe (T : Tab P) {t t' : TypeId} {x y : Operand} {v : Value} {d : Nat} (ho : o.op = .binOp .neq t x y t') (hd : o.dst = some d) (hN : Nat.blt d N = true)
    (hx : ev ρ x = some v) (hv : v = .nilIface ∨ ∃ u a, v = .iface u a) (hy : y = .const .nilIface) (ht : T.isIface t = true) (hK : K ((d, .bool (isErr v)) :: ρ) m L) : OT P N o ρ D m L Q K := by
  obtain ⟨ti, ms, h1, h2⟩ := isIface_get ht
  subst hy
  have hy : ev ρ (.const .nilIface) = some .nilIface := rfl
  refine OT.run hd hN (fun ac w ha => ⟨w, ?_, ha.st⟩) hK
  have hu := T.run_underlying w h1
  rw [h2] at hu
  have e1 : binOp .neq t v .nilIface = (do pure (.bool (!(← Op.equalIn (9999 + 1) t v .nilIface))) : Sem Value) := by
    rcases hv with rfl | ⟨u, a, rfl⟩ <;> rfl
  rcases hv with rfl | ⟨u, a, rfl⟩
  · have h := equalIn_nilNil (P := P) 9999 hu
    have e2 : (eqGuard .neq t x (.const .nilIface) .nilIface .nilIface).run P w = .ok () w := by simp [eqGuard]
    simp only [execOp, ho, ha.env.eval hx, ha.env.eval hy, Sem.run_bind, e2, Result.andThen_ok, e1, h, Sem.run_pure]; rfl
  · have h := equalIn_ifNil (P := P) 9999 u a hu
    have e2 : (eqGuard .neq t x (.const .nilIface) (.iface u a) .nilIface).run P w = .ok () w := by simp [eqGuard]
    simp only [execOp, ho, ha.env.eval hx, ha.env.eval hy, Sem.run_bind, e2, Result.andThen_ok, e1, h, Sem.run_pure]; rfl
theorem equalIn_ints {t u : TypeId} {k : IntKind} {info : TypeInfo} {ms : Array (String × TypeId)} {w : World} (dd : Nat) (a b : Int) (hu : (underlying t).run P w = .ok (.interface ms) w) (hi : P.info? u = some info) (hc : info.comparable = true) (hk : (underlying u).run P w = .ok (.int k) w) :
    (Op.equalIn (dd + 1 + 1) t (.iface u (.int k a)) (.iface u (.int k b))).run P w = .ok (a == b) w := by
  rw [Op.equalIn]
  simp only [Sem.run_bind, hu, Result.andThen_ok]
  simp [typeInfo, hi, hc, Op.equalIn, hk]
/-- two errors that are numbers compared -/
theorem OT.errEq (T : Tab P) {op : BinOp} {t t' u : TypeId} {k : IntKind} {info : TypeInfo} {x y : Operand} {a b : Int} {d : Nat} (hop : op = .eql ∨ op = .neq) (ho : o.op = .binOp op t x y t') (hd : o.dst = some d) (hN : Nat.blt d N = true)
    (hx : ev ρ x = some (.iface u (.int k a))) (hy : ev ρ y = some (.iface u (.int k b))) (ht : T.isIface t = true) (hi : P.info? u = some info) (hc : info.comparable = true) (hk : T.intK u = some k) (hK : K ((d, .bool (if op = .eql then decide (a = b) else !decide (a = b))) :: ρ) m L) : OT P N o ρ D m L Q K := by
  obtain ⟨ti, ms, h1, h2⟩ := isIface_get ht
  obtain ⟨ui, u1, u2⟩ := intK_get hk
  refine OT.run hd hN (fun ac w ha => ⟨w, ?_, ha.st⟩) hK
  have hu := T.run_underlying w h1
  rw [h2] at hu
  have hku := T.run_underlying w u1
  rw [u2] at hku
  have h := equalIn_ints (P := P) (k := k) 9998 a b hu hi hc hku
  rcases hop with rfl | rfl
  · have e1 : binOp .eql t (.iface u (.int k a)) (.iface u (.int k b)) = (do pure (.bool (← Op.equalIn (9998 + 1 + 1) t (.iface u (.int k a)) (.iface u (.int k b)))) : Sem Value) := rfl
    have e2 : (eqGuard .eql t x y (.iface u (.int k a)) (.iface u (.int k b))).run P w = .ok () w := by simp [eqGuard]
    simp only [execOp, ho, ha.env.eval hx, ha.env.eval hy, Sem.run_bind, e2, Result.andThen_ok, e1, h, Sem.run_pure, if_true, beq_dec]
  · have e1 : binOp .neq t (.iface u (.int k a)) (.iface u (.int k b)) = (do pure (.bool (!(← Op.equalIn (9998 + 1 + 1) t (.iface u (.int k a)) (.iface u (.int k b))))) : Sem Value) := rfl
    have e2 : (eqGuard .neq t x y (.iface u (.int k a)) (.iface u (.int k b))).run P w = .ok () w := by simp [eqGuard]
    simp only [execOp, ho, ha.env.eval hx, ha.env.eval hy, Sem.run_bind, e2, Result.andThen_ok, e1, h, Sem.run_pure, beq_dec]
    simp
theorem equalIn_ptrSame {t e : TypeId} {w : World} {ei : TI} (T : Tab P) (dd : Nat) (b : Nat) (hu : (underlying t).run P w = .ok (.pointer e) w) (he : T.get e = some ei) (hz : ei.size ≠ 0) :
    (Op.equalIn (dd + 1) t (.pointer (some ⟨b, 0, none⟩)) (.pointer (some ⟨b, 0, none⟩))).run P w = .ok true w := by
  have hs := T.run_sizeOf w he
  simp only [Op.equalIn, Sem.run_bind, hu, Result.andThen_ok, hs]
  simp [hz, sameAddr]
/-- p != p -/
theorem OT.ptrSame (T : Tab P) {t t' e : TypeId} {x y : Operand} {b d : Nat} (ho : o.op = .binOp .neq t x y t') (hd : o.dst = some d) (hN : Nat.blt d N = true)
    (hx : ev ρ x = some (.pointer (some ⟨b, 0, none⟩))) (hy : ev ρ y = some (.pointer (some ⟨b, 0, none⟩))) (ht : T.isPtr t e = true) (he : T.size1 e = true) (hK : K ((d, .bool false) :: ρ) m L) : OT P N o ρ D m L Q K := by
  obtain ⟨ti, h1, h2⟩ := isPtr_get ht
  obtain ⟨ei, e1, e2⟩ := size1_get he
  refine OT.run hd hN (fun ac w ha => ⟨w, ?_, ha.st⟩) hK
  have hu := T.run_underlying w h1
  rw [h2] at hu
  have g1 : binOp .neq t (.pointer (some ⟨b, 0, none⟩)) (.pointer (some ⟨b, 0, none⟩)) = (do pure (.bool (!(← Op.equalIn (9999 + 1) t (.pointer (some ⟨b, 0, none⟩)) (.pointer (some ⟨b, 0, none⟩))))) : Sem Value) := rfl
  have g2 : (eqGuard .neq t x y (.pointer (some ⟨b, 0, none⟩)) (.pointer (some ⟨b, 0, none⟩))).run P w = .ok () w := by simp [eqGuard]
  have h := equalIn_ptrSame (P := P) T 9999 b hu e1 e2
  simp only [execOp, ho, ha.env.eval hx, ha.env.eval hy, Sem.run_bind, g2, Result.andThen_ok, g1, h, Sem.run_pure]; rfl
end
end Go.Sep

/-
  A row of bytes made, filled from a string, made a string.
-/
set_option linter.unusedVariables false
set_option linter.unusedSimpArgs false
namespace Go.Sep
section
variable {P : Program} {N : Nat} {ρ : Env} {D : List Deferred} {m : Mem} {L : List Item} {Q : EPost} {full : List Oper} {o : Oper} {K : Env → Mem → List Item → Prop}
/-- make([]T, n), with the block's type -/
theorem OT.makeT (T : Tab P) {t : TypeId} {n d : Nat} {z : Value} {x y : Operand} {e : TypeId} {ei : TI} (ho : o.op = .makeSlice t x y) (hd : o.dst = some d) (hN : Nat.blt d N = true)
    (hx : ev ρ x = some (.int .i64 (n : Int))) (hy : ev ρ y = some (.int .i64 (n : Int))) (he : T.elem t = some (e, ei)) (hs : Nat.beq ei.size 1 = true) (hz : cellsF ei.zero = some [z]) (hfit : n * ei.bytes ≤ 281474976710656) (hb : Nat.blt 0 ei.bytes = true)
    (hK : ∀ b m', m ≤ m' → m'.t b = some (e, n) → m'.pin.heap.size ≤ b → K ((d, .slice (some ⟨b, 0, none⟩) n n) :: ρ) m' (.cells b 0 (List.replicate n z) :: L)) : OT P N o ρ D m L Q K := by
  intro a w ha
  obtain ⟨ti, h4, h5, h6⟩ := elem_get he
  have hu := T.run_underlying w h4
  rw [h5] at hu
  obtain ⟨info, q1, q2, q3, q4, q5⟩ := T.ok e ei h6
  have hs1 := Nat.eq_of_beq_eq_true hs
  have hbp : 0 < ei.bytes := by simpa [Nat.blt_eq] using hb
  have hn : n ≤ 281474976710656 := Nat.le_trans (Nat.le_mul_of_pos_right _ hbp) hfit
  have hzc := cellsF_eq hz
  obtain ⟨_, _, hu', _⟩ := T.ok t ti h4
  rw [h5] at hu'
  have hcast : ((info.bytes : Int) * (n : Int)) = ((n * ei.bytes : Nat) : Int) := by rw [q4, Nat.mul_comm]; simp
  have hmk := run_make (P := P) w t e info ei.zero hu' q1 q5 .i64 .i64 (n : Int) (n : Int) (by omega) (by omega) (by rw [hcast]; omega) (by omega)
  have hrow : madeCells (⟨[z]⟩ : Array Value) (n * 1) = ⟨List.replicate n z⟩ := by
    apply Array.ext'
    simp only [madeCells, Nat.mul_one, Array.toList_map, Array.toList_range]
    apply List.ext_getElem
    · simp
    · intro i h1 h2
      simp [Nat.mod_one]
  rw [Int.toNat_natCast, q3, hs1, hzc, hrow] at hmk
  have hr : (execOp a.eval o).run P w = .ok (.value (.slice (some ⟨w.heap.size, 0, none⟩) n n)) (w.alloc (.cells ⟨List.replicate n z⟩ e)) := by
    simp only [execOp, ho, ha.env.eval hx, ha.env.eval hy, Sem.run_bind, hmk, Result.andThen_ok, Sem.run_pure]
  simp only [Oper.wp, hr, Oper.upon, hd]
  have hp := ha.put hN (.slice (some ⟨w.heap.size, 0, none⟩) n n)
  have hst := ha.st.allocCells ⟨List.replicate n z⟩ e
  obtain ⟨f1, f2, f3⟩ := hst.typed (heap_alloc_at w (.cells ⟨List.replicate n z⟩ e))
  exact ⟨_, _, _, ⟨hp.size, hp.env, hp.defers, f3⟩, hK _ _ f1 (by simpa using f2) (by rw [f1.pin]; exact ha.st.size)⟩

/-- copy(b, s) of a string -/
theorem OT.copyS (T : Tab P) (i : Nat) {x y : Operand} {t t2 e : TypeId} {ei : TI} {b off k n c : Nat} {bs : List UInt8} {vs : List Value} {d : Nat} (ho : o.op = .call ⟨.builtin .copy, ⟨[x, y]⟩, ⟨[t, t2]⟩⟩) (hd : o.dst = some d) (hN : Nat.blt d N = true)
    (hx : ev ρ x = some (.slice (some ⟨b, off + k, none⟩) n c)) (hy : ev ρ y = some (strV bs)) (hle : bs.length ≤ n) (he : T.elem t = some (e, ei)) (hsz : Nat.beq ei.size 1 = true)
    (hi : L[i]? = some (.cells b off vs)) (hk : k + bs.length ≤ vs.length)
    (hK : K ((d, .int .i64 (bs.length : Int)) :: ρ) m (L.set i (.cells b off (putAt vs k (bs.map byteV))))) : OT P N o ρ D m L Q K := by
  obtain ⟨ti, h4, h5, h6⟩ := elem_get he
  have hs1 := Nat.eq_of_beq_eq_true hsz
  intro ac w ha
  have hu := T.run_underlying w h4
  rw [h5] at hu
  have hes := T.run_sizeOf w h6
  rw [hs1] at hes
  have hst := ha.st.at_ hi
  obtain ⟨w', hr, hst'⟩ := run_storeCells (P := P) (bs.map byteV) vs k 0 w hst (allOne_bytes bs) (by rw [List.length_map]; omega)
  have hx2 : (⟨⟨bs⟩⟩ : ByteArray).extract 0 bs.length = ⟨⟨bs⟩⟩ := by
    apply ByteArray.ext
    apply Array.ext'
    simp
  have hfirst' : (Builtin.firstCells 1 bs.length (strV bs)).run P w = .ok (⟨bs.map byteV⟩ : Array Value) w := by
    simp only [Builtin.firstCells, Sem.run_pure]
    rw [hx2]
    congr 1
    apply Array.ext'
    simp
  have he' : (execOp ac.eval o).run P w = .ok (.value (.int .i64 (bs.length : Int))) w' := by
    simp only [execOp, ho, resolve, invoke, builtin, Sem.run_bind, Sem.run_pure, Result.andThen_ok, List.map_toArray, List.map_cons, List.map_nil, ha.env.eval hx, ha.env.eval hy]
    have hlen : (Builtin.lenOf (strV bs)).run P w = .ok bs.length w := rfl
    have hmin : Nat.min bs.length n = bs.length := Nat.min_eq_left hle
    simp [Builtin.copy_, hu, hes, hlen, hfirst', hr, goInt, hmin]
  simp only [Oper.wp, he', Oper.upon, hd]
  have hp := ha.put hN (.int .i64 (bs.length : Int))
  exact ⟨_, _, _, ⟨hp.size, hp.env, hp.defers, hst'.back hi⟩, hK⟩


theorem tok_full (b n : Nat) : tok ⟨some ⟨b, 0, none⟩, n, n⟩ 1 = .room b n 0 := by simp [tok]
theorem TO.tokFull {l : List Oper} (b n : Nat) (h : TO P N ⟨full⟩ l ρ D m (tok ⟨some ⟨b, 0, none⟩, n, n⟩ 1 :: L) Q) : TO P N ⟨full⟩ l ρ D m L Q := by
  rw [tok_full] at h
  exact TO.room0 b n h
theorem putAt_all {vs cs : List Value} (h : vs.length = cs.length) : putAt vs 0 cs = cs := by
  rw [putAt_zero (by omega), List.drop_of_length_le (by omega), List.append_nil]
end
end Go.Sep

/-
  Bytes' bits; freezing within a region; rows of bytes.
-/
set_option linter.unusedVariables false
set_option linter.unusedSimpArgs false
namespace Go.Sep
section
variable {P : Program} {N : Nat} {ρ : Env} {D : List Deferred} {m : Mem} {L : List Item} {Q : EPost} {full : List Oper} {o : Oper} {K : Env → Mem → List Item → Prop}
theorem OT.freeze {b off : Nat} {vs : List Value} (h : ∀ m', m ≤ m' → At m' b off vs → OT P N o ρ D m' L Q K) : OT P N o ρ D m (.cells b off vs :: L) Q K := by
  intro a w ha
  obtain ⟨h1, h2, h3⟩ := ha.st.freeze
  exact h _ h1 h2 a w ⟨ha.size, ha.env, ha.defers, h3⟩
theorem u8_and15 (a : Nat) (ha : a < 256) : IntKind.wrap .u8 (((BitVec.ofInt 8 (a : Int)) &&& (BitVec.ofInt 8 15)).toNat : Int) = ((a % 16 : Nat) : Int) := by
  have := (by decide +kernel : ∀ n : Fin 256, IntKind.wrap .u8 (((BitVec.ofInt 8 (n.val : Int)) &&& (BitVec.ofInt 8 15)).toNat : Int) = ((n.val % 16 : Nat) : Int)) ⟨a, ha⟩
  exact this
/-- a & 15 of a byte -/
theorem OT.and15 {t t' : TypeId} {x y : Operand} {a : Nat} {d : Nat} (ho : o.op = .binOp .and t x y t') (hd : o.dst = some d) (hN : Nat.blt d N = true)
    (hx : ev ρ x = some (.int .u8 (a : Int))) (hy : ev ρ y = some (.int .u8 15)) (ha' : a < 256) (hK : K ((d, .int .u8 ((a % 16 : Nat) : Int)) :: ρ) m L) : OT P N o ρ D m L Q K := by
  refine OT.run hd hN (fun ac w ha => ⟨w, ?_, ha.st⟩) hK
  have hr := u8_and15 a ha'
  simp only [execOp, ho, ha.env.eval hx, ha.env.eval hy, Sem.run_bind, eqGuard, binOp, Op.intBits]
  simp [IntKind.bits] at hr ⊢
  exact hr
/-- s[k] of a string, k an integer of any kind -/
theorem OT.sidxK (T : Tab P) {t : TypeId} {x y : Operand} {s : Str} {i : Int} {kd : IntKind} {b : UInt8} {d : Nat} (k : Nat) (ho : o.op = .index t x y) (hd : o.dst = some d) (hN : Nat.blt d N = true)
    (ht : T.isStr t = true) (hx : ev ρ x = some (strV s)) (hy : ev ρ y = some (.int kd i)) (hi : i = (k : Int)) (hb : s[k]? = some b) (hK : K ((d, byteV b) :: ρ) m L) : OT P N o ρ D m L Q K := by
  obtain ⟨ti, h1, h2⟩ := isStr_get ht
  subst hi
  refine OT.run hd hN (fun a w ha => ⟨w, ?_, ha.st⟩) hK
  have hu := T.run_underlying w h1
  rw [h2] at hu
  have hg := getElem_data s k hb
  simp only [execOp, ho, ha.env.eval hx, ha.env.eval hy, Instr.index, asIntOf, Sem.run_bind, Sem.run_pure, Result.andThen_ok, hu, Int.toNat_natCast, Int.natCast_nonneg, if_true, hg]
theorem SlRep.bytes {b : Nat} {bs : List UInt8} {n : Nat} (hA : At m b 0 (bs.map byteV)) (hn : bs.length = n) (hfit : n ≤ 140737488355328) : SlRep rByte m ⟨some ⟨b, 0, none⟩, n, n⟩ bs := by
  subst hn
  exact ⟨rfl, Nat.le_refl _, by show bs.length * 1 ≤ _; omega, bs, byte_refl bs, .inr ⟨b, 0, rfl, by rw [encs_byte]; exact hA⟩⟩
theorem run_bytes_zero {P : Program} (w : World) (src e dst : TypeId) (hs : P.underlying src = some (.slice e)) (he : P.underlying e = some (.int .u8)) (p : Option Addr) (c : Nat) (hd : P.underlying dst = some .string) :
    (convert src dst (.slice p 0 c)).run P w = .ok (.string ByteArray.empty) w := by
  rw [run_convert_bytes_string w src dst e _ 0 c hs he hd]
  cases p <;> simp [Conv.bytesToString, loadCells]
  all_goals rfl
/-- string(b) of any row of bytes -/
theorem OT.bytesStrA (T : Tab P) {t u : TypeId} {x : Operand} {s : Sl} {bs : List UInt8} {d : Nat} {e : TypeId} {ei : TI} (ho : o.op = .convert t u x) (hd : o.dst = some d) (hN : Nat.blt d N = true) (hx : ev ρ x = some s.v) (he : T.elem t = some (e, ei)) (hb : ei.u = .int .u8) (hu : T.isStr u = true) (hs : SlRep rByte m s bs)
    (hK : K ((d, strV bs) :: ρ) m L) : OT P N o ρ D m L Q K := by
  by_cases hpos : 0 < bs.length
  · exact OT.bytesStr T ho hd hN hx he hb hu hs hpos hK
  · have h0 : bs = [] := List.eq_nil_of_length_eq_zero (by omega)
    subst h0
    obtain ⟨ti, h4, h5, h6⟩ := elem_get he
    obtain ⟨ui, u1, u2⟩ := isStr_get hu
    obtain ⟨_, _, hut, _⟩ := T.ok t ti h4
    rw [h5] at hut
    obtain ⟨_, _, huu, _⟩ := T.ok u ui u1
    rw [u2] at huu
    obtain ⟨_, _, hue, _⟩ := T.ok e ei h6
    rw [hb] at hue
    refine OT.run hd hN (fun ac w ha => ⟨w, ?_, ha.st⟩) hK
    obtain ⟨a, n, c⟩ := s
    have hlen : n = 0 := hs.len
    subst hlen
    have hr := run_bytes_zero (P := P) w t e u hut hue a c huu
    simp only [execOp, ho, ha.env.eval hx, Sl.v, Sem.run_bind, hr, Result.andThen_ok, Sem.run_pure]
    rfl
theorem TC.tokFull {c : Code} (b n : Nat) (h : TC P N c ρ D m (tok ⟨some ⟨b, 0, none⟩, n, n⟩ 1 :: L) Q) : TC P N c ρ D m L Q := by
  rw [tok_full] at h
  exact TC.room0 b n h
end
end Go.Sep

/-
  Within a region whose order is drawn: operations that only compute, taken first.
-/
set_option linter.unusedVariables false
set_option linter.unusedSimpArgs false
namespace Go.Sep
section
variable {P : Program} {N : Nat} {ρ : Env} {D : List Deferred} {m : Mem} {L Ls Lp : List Item} {Q : EPost} {ops : List Oper} {ts : List Nat} {fuel : Nat} {listed : List Bool}
/-- s[k] of a string, taken first -/
theorem DO.sidx (T : Tab P) (i : Nat) {t : TypeId} {x y : Operand} {o : Oper} {s : Str} {iv : Int} {kd : IntKind} {b : UInt8} {d : Nat} (k : Nat) (hc : Calm Q) (hns : Region.noSelect ⟨ops⟩ = true) (hok : orderOkP ops ts [i] listed = true)
    (hi : ops[i]? = some o) (hg : gv ops ρ o = some true) (ho : o.op = .index t x y) (hd : o.dst = some d) (hN : Nat.blt d N = true)
    (ht : T.isStr t = true) (hx : ev ρ x = some (strV s)) (hy : ev ρ y = some (.int kd iv)) (hik : iv = (k : Int)) (hb : s[k]? = some b)
    (h : DO P N ops ts fuel (listed.set i true) ((d, byteV b) :: ρ) D m Ls Lp Q) : DO P N ops ts (fuel + 1) listed ρ D m Ls Lp Q := by
  simp only [orderOkP, Bool.and_eq_true] at hok
  obtain ⟨o1, o2, o3, _⟩ := hok
  obtain ⟨ti, h1, h2⟩ := isStr_get ht
  subst hik
  refine DO.takeP i hc hi hd hN hg hns o1 o2 (by simpa using o3) (fun ac w hA => ?_) h
  have hu := T.run_underlying w h1
  rw [h2] at hu
  have hg := getElem_data s k hb
  simp only [execOp, ho, hA.eval hx, hA.eval hy, Instr.index, asIntOf, Sem.run_bind, Sem.run_pure, Result.andThen_ok, hu, Int.toNat_natCast, Int.natCast_nonneg, if_true, hg]
/-- an integer seen as1 another kind, taken first -/
theorem DO.conv (T : Tab P) (i : Nat) {s t : TypeId} {x : Operand} {o : Oper} {k ks kt : IntKind} {d : Nat} {a r : Int} (hc : Calm Q) (hns : Region.noSelect ⟨ops⟩ = true) (hok : orderOkP ops ts [i] listed = true)
    (hi : ops[i]? = some o) (hg : gv ops ρ o = some true) (ho : o.op = .convert s t x) (hd : o.dst = some d) (hN : Nat.blt d N = true)
    (hs : T.intK s = some ks) (ht : T.intK t = some kt) (hx : ev ρ x = some (.int k a)) (hr : kt.wrap a = r)
    (h : DO P N ops ts fuel (listed.set i true) ((d, .int kt r) :: ρ) D m Ls Lp Q) : DO P N ops ts (fuel + 1) listed ρ D m Ls Lp Q := by
  simp only [orderOkP, Bool.and_eq_true] at hok
  obtain ⟨o1, o2, o3, _⟩ := hok
  obtain ⟨si, s1, s2⟩ := intK_get hs
  obtain ⟨ti, t1, t2⟩ := intK_get ht
  refine DO.takeP i hc hi hd hN hg hns o1 o2 (by simpa using o3) (fun ac w hA => ?_) h
  have hus := T.run_underlying w s1
  have hut := T.run_underlying w t1
  rw [s2] at hus
  rw [t2] at hut
  simp only [execOp, ho, hA.eval hx, Go.convert, Sem.run_bind, hus, hut, Result.andThen_ok, Conv.intToInt, Sem.run_pure, hr]
end
section
variable {P : Program} {N : Nat} {ρ : Env} {D : List Deferred} {m : Mem} {L : List Item} {Q : EPost} {o : Oper} {K : Env → Mem → List Item → Prop}
/-- xs[k] of a slice, k an integer of any kind -/
theorem OT.indexK {H α : Type} (T : Tab P) (r : R H α) {s : Sl} {l : List α} (k : Nat) {kd : IntKind} {x y : Operand} {t : TypeId} {d : Nat} {a : α} (hs : SlRep r m s l)
    (ho : o.op = .indexAddr t x y) (hd : o.dst = some d) (hN : Nat.blt d N = true) (hx : ev ρ x = some s.v) {iv : Int} (hy : ev ρ y = some (.int kd iv)) (hik : iv = (k : Int)) (hsz : T.esize t = some r.size) (hk : l[k]? = some a)
    (hK : ∀ b i hd', r.rep m hd' a → At m b i (r.enc hd') → K ((d, .pointer (some ⟨b, i, none⟩)) :: ρ) m L) : OT P N o ρ D m L Q K := by
  subst hik
  obtain ⟨b, i, hd', h1, h2, h3⟩ := hs.elem hk
  have hlt : k < s.len := by rw [hs.len]; exact (List.getElem?_eq_some_iff.1 hk).1
  refine OT.run hd hN (fun ac w ha => ⟨w, ?_, ha.st⟩) (hK b (i + k * r.size) hd' h2 h3)
  have hx' := ha.env.eval hx
  simp only [Sl.v, h1] at hx'
  have := run_indexAddr (P := P) T (n := 0) (len := s.len) (cap := s.cap) (ad := ⟨b, i, none⟩) (k := kd) (w := w) hsz (Int.natCast_nonneg k) (by omega : (k : Int) < s.len)
  rw [addr_add, Int.toNat_natCast] at this
  simp only [execOp, ho, hx', ha.env.eval hy, Sem.run_bind, this, Result.andThen_ok, Sem.run_pure]
end
end Go.Sep

/-
  Rows that the call owns with their room, of elements of any size: append of one.
-/
set_option linter.unusedVariables false
set_option linter.unusedSimpArgs false
namespace Go.Sep
/-- an owned row: what it holds, and its room -/
structure ORow {H : Type} (s : Sl) (hs : List H) : Prop where
  len : s.len ≤ s.cap
  all : hs.length = s.cap
  adr : (s = ⟨none, 0, 0⟩) ∨ ∃ b, s.a = some ⟨b, 0, none⟩
theorem ORow.nil {H : Type} : ORow (H := H) ⟨none, 0, 0⟩ [] := ⟨Nat.le_refl _, rfl, .inl rfl⟩
theorem ORow.pos {H : Type} {s : Sl} {hs : List H} (h : ORow s hs) (hp : 0 < s.len) : ∃ b, s = ⟨some ⟨b, 0, none⟩, s.len, s.cap⟩ := by
  rcases h.adr with e | ⟨b, e⟩
  · rw [e] at hp; simp at hp
  · refine ⟨b, ?_⟩
    obtain ⟨a, n, c⟩ := s
    simp only at e
    rw [e]
theorem encs_rep {H α : Type} (r : R H α) (z : H) : ∀ n, encs r (List.replicate n z) = (List.replicate n (r.enc z)).flatten := by
  intro n
  induction n with
  | zero => rfl
  | succ n ih => rw [List.replicate_succ, encs_cons, ih, List.replicate_succ, List.flatten_cons]
theorem zeroCells_list (l : List Value) (hl : 0 < l.length) (n : Nat) : (Builtin.zeroCells ⟨l⟩ n).toList = (List.replicate n l).flatten := by
  simp only [Builtin.zeroCells, Array.toList_map, Array.toList_range]
  apply List.ext_getElem
  · simp [List.length_flatten]
  · intro i h1 h2
    simp only [List.length_map, List.length_range] at h1
    have hm : i % l.length < l.length := Nat.mod_lt _ hl
    have key : ∀ n i, i < n * l.length → ((List.replicate n l).flatten)[i]? = l[i % l.length]? := by
      intro n
      induction n with
      | zero => intro i h; simp at h
      | succ n ih =>
        intro i h
        rw [List.replicate_succ, List.flatten_cons]
        by_cases hi : i < l.length
        · rw [List.getElem?_append_left hi, Nat.mod_eq_of_lt hi]
        · rw [List.getElem?_append_right (by omega), ih _ (by rw [Nat.add_mul] at h; omega)]
          congr 1
          exact (Nat.mod_eq_sub_mod (by omega)).symm
    have := key n i (by simpa using h1)
    rw [List.getElem?_eq_getElem h2, List.getElem?_eq_getElem hm] at this
    simp only [List.getElem_map, List.getElem_range, Option.some.injEq] at this ⊢
    rw [this]
    simp [hm]
section
variable {P : Program} {N : Nat} {ρ : Env} {D : List Deferred} {m : Mem} {L : List Item} {Q : EPost} {full : List Oper} {o : Oper} {K : Env → Mem → List Item → Prop}
theorem run_pushR {H α : Type} (T : Tab P) (r : R H α) {t t2 e e2 ty : TypeId} {ei ei2 : TI} {w : World} {s s2 : Sl} {hs : List H} {x z : H} (he : T.elem t = some (e, ei)) (he2 : T.elem t2 = some (e2, ei2))
    (hw : St m w (mcell s (encs r hs) :: L)) (hM : ORow s hs) (hsz : ei.size = r.size) (hy : Src w s2 ei.size (r.enc x)) (hn : s2.len = 1) (hz : ei.zero.cells = ⟨r.enc z⟩) (hrp : 0 < r.size)
    (hb : 0 < ei.bytes) (hfit : (s.len + 1) * ei.bytes ≤ 140737488355328) :
    ∃ s' hs' w', (Builtin.append_ #[t, t2] ty #[s.v, s2.v]).run P w = .ok s'.v w' ∧ St m w' (mcell s' (encs r hs') :: L) ∧ ORow s' hs' ∧ s'.len = s.len + 1 ∧ hs'.take s'.len = hs.take s.len ++ [x] := by
  obtain ⟨ti, h4, h5, h6⟩ := elem_get he
  obtain ⟨ti2, k4, k5, k6⟩ := elem_get he2
  obtain ⟨_, _, hu, _⟩ := T.ok t ti h4
  rw [h5] at hu
  obtain ⟨_, _, hu2, _⟩ := T.ok t2 ti2 k4
  rw [k5] at hu2
  obtain ⟨info, q1, q2, q3, q4, q5⟩ := T.ok e ei h6
  have hnew := run_first (P := P) hy
  have hbound : s.len + 1 ≤ 140737488355328 := Nat.le_trans (Nat.le_mul_of_pos_right _ hb) hfit
  have hcap := hM.len
  have hall := hM.all
  have hsrc : Src w s ei.size (encs r (hs.take s.len)) := by
    refine ⟨by rw [hsz, encs_len, List.length_take]; congr 1; omega, ?_⟩
    rcases hM.adr with h | ⟨b, h⟩
    · left; rw [h]
    · right
      refine ⟨b, 0, h, fun j v hv => ?_⟩
      have hc := hw.cells (i := 0) (b := b) (off := 0) (vs := encs r hs) (by simp [mcell, h])
      refine hc j v ?_
      have e : encs r hs = encs r (hs.take s.len) ++ encs r (hs.drop s.len) := by rw [← encs_append, List.take_append_drop]
      rw [e, List.getElem?_append_left (List.getElem?_eq_some_iff.1 hv).1]
      exact hv
  by_cases hroom : s.len + s2.len ≤ s.cap
  · rcases hM.adr with hnil | ⟨b, ha⟩
    · subst hnil; simp only at hroom; omega
    · obtain ⟨a, n, c⟩ := s
      simp only at ha hroom hcap hbound hfit hall hsrc
      subst ha
      simp only [mcell] at hw
      have hnl : n < hs.length := by omega
      have hgx : hs[n]? = some hs[n] := List.getElem?_eq_getElem hnl
      have hlen2 : (n + 1) * r.size ≤ hs.length * r.size := Nat.mul_le_mul_right _ hnl
      obtain ⟨w', hr, hst'⟩ := run_storeCells (P := P) (r.enc x) (encs r hs) (n * r.size) 0 w hw (r.one x) (by rw [encs_len, r.enc_len]; rw [Nat.add_mul] at hlen2; omega)
      have hput : putAt (encs r hs) (n * r.size + 0) (r.enc x) = encs r (hs.set n x) := by
        refine putAt_encs r hgx (fun rest => ?_)
        have e := putAt_front (r.enc x) (r.enc hs[n] ++ rest) (by simp [r.enc_len]) []
        simp only [List.nil_append, List.length_nil] at e
        rw [e, List.drop_append, List.drop_of_length_le (by rw [r.enc_len, r.enc_len]; exact Nat.le_refl _), r.enc_len, r.enc_len, Nat.sub_self]
        simp
      rw [hput] at hst'
      refine ⟨⟨some ⟨b, 0, none⟩, n + s2.len, c⟩, hs.set n x, w', ?_, hst', ⟨hroom, by rw [List.length_set]; exact hall, .inr ⟨b, rfl⟩⟩, by rw [hn], ?_⟩
      · have hr' : (storeCells ((⟨b, 0, none⟩ : Addr).add (n * ei.size)) (r.enc x)).run P w = .ok () w' := by rw [hsz, addr_add]; exact hr
        simp only [Sl.v] at hnew
        simp [Builtin.append_, run_underlying hu, run_underlying hu2, sizeOf, typeInfo, q1, q3, Builtin.lenOf, hroom, hnew] at hnew ⊢
        simp [hnew, hr']
      · simp only [hn]
        rw [List.take_add_one, List.getElem?_set_self hnl, List.take_set_of_le (Nat.le_refl _)]
        rfl
  · have hlt : s.cap < s.len + s2.len := by omega
    have h48 : ¬ (Builtin.nextslicecap (s.len + s2.len) s.cap * ei.bytes > 281474976710656) := by
      have := growslice_fits hlt (by rw [hn]; exact hfit)
      omega
    have hold := run_first (P := P) (hsrc.drew)
    have hnew' := run_first (P := P) (hy.drew)
    obtain ⟨nc, hnc, hge⟩ : ∃ nc, nc = (Question.appendCap (s.len + s2.len) s.cap e).cut (w.tape w.drawn (.appendCap (s.len + s2.len) s.cap e)) ∧ s.len + s2.len ≤ nc := ⟨_, rfl, by simp [Question.cut]⟩
    have hst := (hw.sub (List.sublist_cons_self _ _)).drew.allocCells ((⟨encs r (hs.take s.len)⟩ : Array Value) ++ (⟨r.enc x⟩ : Array Value) ++ Builtin.zeroCells ei.zero.cells (nc - (s.len + s2.len))) e
    have hcs : ((⟨encs r (hs.take s.len)⟩ : Array Value) ++ (⟨r.enc x⟩ : Array Value) ++ Builtin.zeroCells ei.zero.cells (nc - (s.len + s2.len))).toList = encs r (hs.take s.len ++ x :: List.replicate (nc - (s.len + s2.len)) z) := by
      rw [Array.toList_append, Array.toList_append, hz, zeroCells_list _ (by rw [r.enc_len]; exact hrp), encs_append, encs_cons, encs_rep, List.append_assoc]
    rw [hcs] at hst
    refine ⟨⟨some ⟨w.heap.size, 0, none⟩, s.len + s2.len, nc⟩, hs.take s.len ++ x :: List.replicate (nc - (s.len + s2.len)) z, w.drew.alloc (.cells ((⟨encs r (hs.take s.len)⟩ : Array Value) ++ (⟨r.enc x⟩ : Array Value) ++ Builtin.zeroCells ei.zero.cells (nc - (s.len + s2.len))) e), ?_, hst, ⟨hge, ?_, .inr ⟨_, rfl⟩⟩, by rw [hn], ?_⟩
    · simp only [Sl.v] at hold hnew'
      have hb0 : ei.bytes ≠ 0 := by omega
      have hmax : ¬ (9223372036854775807 < (s.len : Int) + (s2.len : Int)) := by omega
      simp [Builtin.append_, run_underlying hu, run_underlying hu2, sizeOf, typeInfo, zeroValue, q1, q3, q4, q5, Builtin.lenOf, hroom, hold, hnew', h48, hmax, Question.forced, newRow, ← hnc, IntKind.max, IntKind.signed, IntKind.bits, hb0]
      congr 2
      apply Array.ext'
      simp
    · simp
      omega
    · simp only [hn]
      rw [List.take_append, List.take_take, Nat.min_eq_right (by omega), List.length_take, Nat.min_eq_left (by omega), Nat.add_sub_cancel_left]
      rfl

theorem OT.pushR {H α : Type} (T : Tab P) (r : R H α) {s : Sl} {hs : List H} {v z : H} {b : Nat} {x y : Operand} {t t2 : TypeId} {d : Nat} {e e2 : TypeId} {ei ei2 : TI} (hM : ORow s hs)
    (ho : o.op = .call ⟨.builtin .append, ⟨[x, y]⟩, ⟨[t, t2]⟩⟩) (hd : o.dst = some d) (hN : Nat.blt d N = true) (hx : ev ρ x = some s.v) (hy : ev ρ y = some (.slice (some ⟨b, 0, none⟩) 1 1))
    (he : T.elem t = some (e, ei)) (he2 : T.elem t2 = some (e2, ei2)) (hsz : Nat.beq ei.size r.size = true) (hz : cellsF ei.zero = some (r.enc z)) (hrp : Nat.blt 0 r.size = true) (hb : Nat.blt 0 ei.bytes = true)
    (hfit : (s.len + 1) * ei.bytes ≤ 140737488355328)
    (hK : ∀ s' hs', ORow s' hs' → s'.len = s.len + 1 → hs'.take (s.len + 1) = hs.take s.len ++ [v] → K ((d, s'.v) :: ρ) m (mcell s' (encs r hs') :: L)) : OT P N o ρ D m (.cells b 0 (r.enc v) :: mcell s (encs r hs) :: L) Q K := by
  intro ac w ha
  have hsz' := Nat.eq_of_beq_eq_true hsz
  have hcells := ha.st.cells (i := 0) rfl
  have hsub : St m w (mcell s (encs r hs) :: L) := ha.st.sub (List.sublist_cons_self _ _)
  have hsrc : Src w ⟨some ⟨b, 0, none⟩, 1, 1⟩ ei.size (r.enc v) := ⟨by rw [hsz', r.enc_len]; simp, .inr ⟨b, 0, rfl, hcells⟩⟩
  obtain ⟨s', hs', w', hr, g1, g2, g3, g4⟩ := run_pushR (P := P) (ty := o.type) (z := z) T r he he2 hsub hM hsz' hsrc rfl (by rw [cellsF_eq hz]) (by simpa [Nat.blt_eq] using hrp) (by simpa [Nat.blt_eq] using hb) hfit
  have he : (execOp ac.eval o).run P w = .ok (.value s'.v) w' := by
    simp only [execOp, ho, resolve, invoke, builtin, Sem.run_bind, Sem.run_pure, Result.andThen_ok, List.map_toArray, List.map_cons, List.map_nil, ha.env.eval hx, ha.env.eval hy]
    simp only [List.map_toArray, List.map_cons, List.map_nil, ha.env.eval hx, ha.env.eval hy, hr, Result.andThen_ok]
  simp only [Oper.wp, he, Oper.upon]
  rw [hd]
  have hp := ha.put hN s'.v
  refine ⟨_, _, _, ⟨hp.size, hp.env, hp.defers, g1⟩, hK s' hs' g2 g3 ?_⟩
  rw [← g4, g3]
end
end Go.Sep

/-
  The walks of slices.Index, Contains, IndexFunc, ContainsFunc. Written by program (gen1.py).
-/
set_option linter.unusedVariables false
set_option linter.unusedSimpArgs false
namespace Go.Sep
open Go.Proofs
attribute [local irreducible] TC TO OT TCallX TCall DO DOt thenQ blockQ retQ At

def idxP {α : Type} : List α → (α → Bool) → Nat → Int
  | [], _, _ => -1
  | x :: xs, p, k => if p x = true then (k : Int) else idxP xs p (k + 1)

theorem idxP_ge0 {α : Type} : ∀ (l : List α) (p : α → Bool) (k : Nat), decide (0 ≤ idxP l p k) = l.any p
  | [], p, k => by simp [idxP]
  | x :: xs, p, k => by
    simp only [idxP, List.any_cons]
    split
    · rename_i h; simp [h]
    · rename_i h; rw [idxP_ge0 xs p (k + 1)]; simp [h]
theorem idxP_ge {α : Type} (l : List α) (p : α → Bool) : decide (0 ≤ idxP l p 0) = l.any p := idxP_ge0 l p 0


set_option maxHeartbeats 400000 in
theorem index_int (m : Mem) (L : List Item) (s : Sl) (l : List Int) (v : Int) (hs : SlRep rInt m s l) :
    TCall Try.prog 46 ⟨[s.v, .int .i64 v]⟩ m L (Ret (.int .i64 (idx l v 0)) m L) := by
  unfold TCall
  refine TCallX.enter Try.func46 rfl 19 rfl ?_
  repeat (first|refine q1 ?_|refine q2 ?_|refine q3 ?_|refine q4 tab rfl rfl ?_|refine q5 ?_|refine q6 ?_)
  refine TC.loopK (ι := Nat) [0, 1, 7] rfl (fun k => [(8, .int .i64 (k : Int))]) (fun _ => m) (fun _ => L) (fun k => k ≤ l.length ∧ idx l v 0 = idx (l.drop k) v k) (fun k => l.length - k) 0 (by repeat (first|exact trivial|refine And.intro rfl ?_)) rfl (by repeat (exact List.Sublist.refl _)) ⟨Nat.zero_le _, rfl⟩ ?_
  rintro k ⟨hk, hI⟩
  have hl := hs.len
  have hsm := hs.small rfl
  repeat (first|refine q1 ?_|refine q3 ?_|refine q4 tab rfl rfl ?_|refine q5 ?_|refine q6 ?_)
  refine TC.condP rfl (fun h => ?_) (fun h => ?_)
  · have hlt : k < l.length := by omega
    have hx : l[k]? = some l[k] := by simp [hlt]
    repeat (first|refine q1 ?_|refine q2 ?_|refine q3 ?_|refine q4 tab rfl rfl ?_|refine q5 ?_|refine q6 ?_|refine q13 ?_)
    refine TO.step rfl (OT.index tab rInt k hs rfl rfl rfl rfl rfl (by first | rfl | omega) rfl hx ?_)
    rintro b i hd rfl hA
    (refine TO.step rfl (OT.loadA0 tab hA rfl rfl rfl rfl rfl ?_))
    repeat (first|refine q4 tab rfl rfl ?_|refine q5 ?_|refine q6 ?_)
    refine TC.condP rfl (fun h => ?_) (fun h => ?_)
    · repeat (first|refine q1 ?_|refine q3 ?_|refine q4 tab rfl rfl ?_|refine q5 ?_|refine q6 ?_|refine q8 ?_|refine q9 ?_|refine q15 ?_)
      refine retQ_ret rfl (by repeat (exact List.Sublist.refl _)) ⟨rfl, rfl, ?_⟩
      rw [hI, List.drop_eq_getElem_cons hlt, idx, if_pos h]
    · repeat (first|refine q3 ?_|refine q6 ?_|refine q7 ?_|refine q13 ?_)
      refine TO.step rfl (OT.arith (r' := ((k + 1 : Nat) : Int)) rfl rfl rfl rfl rfl rfl rfl (by omega) ?_)
      repeat (first|refine q4 tab rfl rfl ?_|refine q5 ?_|refine q6 ?_)
      exact ⟨k + 1, (by repeat (first|exact trivial|refine And.intro rfl ?_)), (by repeat (first|exact trivial|refine And.intro rfl ?_)), rfl, rfl, (by repeat (exact List.Sublist.refl _)), ⟨by omega, by rw [hI, List.drop_eq_getElem_cons hlt, idx, if_neg h]⟩, by omega⟩
  · repeat (first|refine q1 ?_|refine q3 ?_|refine q4 tab rfl rfl ?_|refine q5 ?_|refine q6 ?_|refine q10 ?_|refine q11 ?_|refine q14 ?_|refine q15 ?_)
    refine retQ_ret rfl (by repeat (exact List.Sublist.refl _)) ⟨rfl, rfl, ?_⟩
    rw [hI, List.drop_eq_nil_of_le (by omega)]
    rfl


set_option maxHeartbeats 400000 in
theorem contains_int (m : Mem) (L : List Item) (s : Sl) (l : List Int) (v : Int) (hs : SlRep rInt m s l) :
    TCall Try.prog 37 ⟨[s.v, .int .i64 v]⟩ m L (Ret (.bool (decide (v ∈ l))) m L) := by
  unfold TCall
  refine TCallX.enter Try.func37 rfl 9 rfl ?_
  repeat (first|refine q1 ?_|refine q3 ?_|refine q4 tab rfl rfl ?_|refine q5 ?_|refine q6 ?_)
  refine TO.step rfl (OT.call rfl rfl rfl rfl rfl rfl goes46 ((index_int m L s l v hs).x ?_));
  rintro _ _ _ ⟨rfl, rfl, rfl⟩
  repeat (first|refine q4 tab rfl rfl ?_|refine q5 ?_|refine q6 ?_|refine q15 ?_)
  refine retQ_ret rfl (by repeat (exact List.Sublist.refl _)) ⟨rfl, rfl, ?_⟩
  exact congrArg Value.bool (by rw [idx_ge]; try congr)


set_option maxHeartbeats 400000 in
theorem index_str (m : Mem) (L : List Item) (s : Sl) (l : List Str) (v : Str) (hs : SlRep rStr m s l) :
    TCall Try.prog 43 ⟨[s.v, strV v]⟩ m L (Ret (.int .i64 (idx l v 0)) m L) := by
  unfold TCall
  refine TCallX.enter Try.func43 rfl 19 rfl ?_
  repeat (first|refine q1 ?_|refine q2 ?_|refine q3 ?_|refine q4 tab rfl rfl ?_|refine q5 ?_|refine q6 ?_)
  refine TC.loopK (ι := Nat) [0, 1, 7] rfl (fun k => [(8, .int .i64 (k : Int))]) (fun _ => m) (fun _ => L) (fun k => k ≤ l.length ∧ idx l v 0 = idx (l.drop k) v k) (fun k => l.length - k) 0 (by repeat (first|exact trivial|refine And.intro rfl ?_)) rfl (by repeat (exact List.Sublist.refl _)) ⟨Nat.zero_le _, rfl⟩ ?_
  rintro k ⟨hk, hI⟩
  have hl := hs.len
  have hsm := hs.small rfl
  repeat (first|refine q1 ?_|refine q3 ?_|refine q4 tab rfl rfl ?_|refine q5 ?_|refine q6 ?_)
  refine TC.condP rfl (fun h => ?_) (fun h => ?_)
  · have hlt : k < l.length := by omega
    have hx : l[k]? = some l[k] := by simp [hlt]
    repeat (first|refine q1 ?_|refine q2 ?_|refine q3 ?_|refine q4 tab rfl rfl ?_|refine q5 ?_|refine q6 ?_|refine q13 ?_)
    refine TO.step rfl (OT.index tab rStr k hs rfl rfl rfl rfl rfl (by first | rfl | omega) rfl hx ?_)
    rintro b i hd rfl hA
    (refine TO.step rfl (OT.loadA0 tab hA rfl rfl rfl rfl rfl ?_))
    repeat (first|refine q4 tab rfl rfl ?_|refine q5 ?_|refine q6 ?_)
    refine TC.condP rfl (fun h => ?_) (fun h => ?_)
    · repeat (first|refine q1 ?_|refine q3 ?_|refine q4 tab rfl rfl ?_|refine q5 ?_|refine q6 ?_|refine q8 ?_|refine q9 ?_|refine q15 ?_)
      refine retQ_ret rfl (by repeat (exact List.Sublist.refl _)) ⟨rfl, rfl, ?_⟩
      rw [hI, List.drop_eq_getElem_cons hlt, idx, if_pos h]
    · repeat (first|refine q3 ?_|refine q6 ?_|refine q7 ?_|refine q13 ?_)
      refine TO.step rfl (OT.arith (r' := ((k + 1 : Nat) : Int)) rfl rfl rfl rfl rfl rfl rfl (by omega) ?_)
      repeat (first|refine q4 tab rfl rfl ?_|refine q5 ?_|refine q6 ?_)
      exact ⟨k + 1, (by repeat (first|exact trivial|refine And.intro rfl ?_)), (by repeat (first|exact trivial|refine And.intro rfl ?_)), rfl, rfl, (by repeat (exact List.Sublist.refl _)), ⟨by omega, by rw [hI, List.drop_eq_getElem_cons hlt, idx, if_neg h]⟩, by omega⟩
  · repeat (first|refine q1 ?_|refine q3 ?_|refine q4 tab rfl rfl ?_|refine q5 ?_|refine q6 ?_|refine q10 ?_|refine q11 ?_|refine q14 ?_|refine q15 ?_)
    refine retQ_ret rfl (by repeat (exact List.Sublist.refl _)) ⟨rfl, rfl, ?_⟩
    rw [hI, List.drop_eq_nil_of_le (by omega)]
    rfl


set_option maxHeartbeats 400000 in
theorem contains_str (m : Mem) (L : List Item) (s : Sl) (l : List Str) (v : Str) (hs : SlRep rStr m s l) :
    TCall Try.prog 36 ⟨[s.v, strV v]⟩ m L (Ret (.bool (decide (v ∈ l))) m L) := by
  unfold TCall
  refine TCallX.enter Try.func36 rfl 9 rfl ?_
  repeat (first|refine q1 ?_|refine q3 ?_|refine q4 tab rfl rfl ?_|refine q5 ?_|refine q6 ?_)
  refine TO.step rfl (OT.call rfl rfl rfl rfl rfl rfl goes43 ((index_str m L s l v hs).x ?_));
  rintro _ _ _ ⟨rfl, rfl, rfl⟩
  repeat (first|refine q4 tab rfl rfl ?_|refine q5 ?_|refine q6 ?_|refine q15 ?_)
  refine retQ_ret rfl (by repeat (exact List.Sublist.refl _)) ⟨rfl, rfl, ?_⟩
  exact congrArg Value.bool (by rw [idx_ge]; try congr)


set_option maxHeartbeats 400000 in
theorem indexFunc_int (m : Mem) (L : List Item) (s : Sl) (l : List Int) (p : Int → Bool) (fn : FuncId) (cap : List Value) (hg : Goes Try.prog fn) (hs : SlRep rInt m s l)
    (hp : ∀ (h : Int) (a : Int), a ∈ l → rInt.rep m h a → TCall Try.prog fn ⟨.int .i64 h :: cap⟩ m L (Ret (.bool (p a)) m L)) :
    TCall Try.prog 45 ⟨[s.v, .func (.func fn) ⟨[]⟩ ⟨cap⟩]⟩ m L (Ret (.int .i64 (idxP l p 0)) m L) := by
  unfold TCall
  refine TCallX.enter Try.func45 rfl 19 rfl ?_
  repeat (first|refine q1 ?_|refine q2 ?_|refine q3 ?_|refine q4 tab rfl rfl ?_|refine q5 ?_|refine q6 ?_)
  refine TC.loopK (ι := Nat) [0, 1, 7] rfl (fun k => [(8, .int .i64 (k : Int))]) (fun _ => m) (fun _ => L) (fun k => k ≤ l.length ∧ idxP l p 0 = idxP (l.drop k) p k) (fun k => l.length - k) 0 (by repeat (first|exact trivial|refine And.intro rfl ?_)) rfl (by repeat (exact List.Sublist.refl _)) ⟨Nat.zero_le _, rfl⟩ ?_
  rintro k ⟨hk, hI⟩
  have hl := hs.len
  have hsm := hs.small rfl
  repeat (first|refine q1 ?_|refine q3 ?_|refine q4 tab rfl rfl ?_|refine q5 ?_|refine q6 ?_)
  refine TC.condP rfl (fun h => ?_) (fun h => ?_)
  · have hlt : k < l.length := by omega
    have hx : l[k]? = some l[k] := by simp [hlt]
    repeat (first|refine q1 ?_|refine q2 ?_|refine q3 ?_|refine q4 tab rfl rfl ?_|refine q5 ?_|refine q6 ?_|refine q13 ?_)
    refine TO.step rfl (OT.index tab rInt k hs rfl rfl rfl rfl rfl (by first | rfl | omega) rfl hx ?_)
    rintro b i hd hr hA
    (refine TO.step rfl (OT.loadA0 tab hA rfl rfl rfl rfl rfl ?_))
    skip
    refine TO.step rfl (OT.call (all := .int .i64 hd :: cap) rfl rfl rfl rfl rfl (by rw [fl_eq]; rfl) hg ((hp hd l[k] (List.getElem_mem hlt) hr).x ?_))
    rintro _ _ _ ⟨rfl, rfl, rfl⟩
    repeat (first|refine q5 ?_|refine q6 ?_)
    refine TC.cond rfl (fun h => ?_) (fun h => ?_)
    · repeat (first|refine q1 ?_|refine q3 ?_|refine q4 tab rfl rfl ?_|refine q5 ?_|refine q6 ?_|refine q8 ?_|refine q9 ?_|refine q15 ?_)
      refine retQ_ret rfl (by repeat (exact List.Sublist.refl _)) ⟨rfl, rfl, ?_⟩
      rw [hI, List.drop_eq_getElem_cons hlt, idxP, if_pos h]
    · repeat (first|refine q3 ?_|refine q6 ?_|refine q7 ?_|refine q13 ?_)
      refine TO.step rfl (OT.arith (r' := ((k + 1 : Nat) : Int)) rfl rfl rfl rfl rfl rfl rfl (by omega) ?_)
      repeat (first|refine q4 tab rfl rfl ?_|refine q5 ?_|refine q6 ?_)
      exact ⟨k + 1, (by repeat (first|exact trivial|refine And.intro rfl ?_)), (by repeat (first|exact trivial|refine And.intro rfl ?_)), rfl, rfl, (by repeat (exact List.Sublist.refl _)), ⟨by omega, by rw [hI, List.drop_eq_getElem_cons hlt, idxP, if_neg (by simp [h])]⟩, by omega⟩
  · repeat (first|refine q1 ?_|refine q3 ?_|refine q4 tab rfl rfl ?_|refine q5 ?_|refine q6 ?_|refine q10 ?_|refine q11 ?_|refine q14 ?_|refine q15 ?_)
    refine retQ_ret rfl (by repeat (exact List.Sublist.refl _)) ⟨rfl, rfl, ?_⟩
    rw [hI, List.drop_eq_nil_of_le (by omega)]
    rfl


set_option maxHeartbeats 400000 in
theorem containsFunc_int (m : Mem) (L : List Item) (s : Sl) (l : List Int) (p : Int → Bool) (fn : FuncId) (cap : List Value) (hg : Goes Try.prog fn) (hs : SlRep rInt m s l)
    (hp : ∀ (h : Int) (a : Int), a ∈ l → rInt.rep m h a → TCall Try.prog fn ⟨.int .i64 h :: cap⟩ m L (Ret (.bool (p a)) m L)) :
    TCall Try.prog 35 ⟨[s.v, .func (.func fn) ⟨[]⟩ ⟨cap⟩]⟩ m L (Ret (.bool (l.any p)) m L) := by
  unfold TCall
  refine TCallX.enter Try.func35 rfl 9 rfl ?_
  repeat (first|refine q1 ?_|refine q3 ?_|refine q4 tab rfl rfl ?_|refine q5 ?_|refine q6 ?_)
  refine TO.step rfl (OT.call rfl rfl rfl rfl rfl rfl goes45 ((indexFunc_int m L s l p fn cap hg hs hp).x ?_));
  rintro _ _ _ ⟨rfl, rfl, rfl⟩
  repeat (first|refine q4 tab rfl rfl ?_|refine q5 ?_|refine q6 ?_|refine q15 ?_)
  refine retQ_ret rfl (by repeat (exact List.Sublist.refl _)) ⟨rfl, rfl, ?_⟩
  rw [idxP_ge]


set_option maxHeartbeats 400000 in
theorem indexFunc_str (m : Mem) (L : List Item) (s : Sl) (l : List Str) (p : Str → Bool) (fn : FuncId) (cap : List Value) (hg : Goes Try.prog fn) (hs : SlRep rStr m s l)
    (hp : ∀ (h : Str) (a : Str), a ∈ l → rStr.rep m h a → TCall Try.prog fn ⟨strV h :: cap⟩ m L (Ret (.bool (p a)) m L)) :
    TCall Try.prog 52 ⟨[s.v, .func (.func fn) ⟨[]⟩ ⟨cap⟩]⟩ m L (Ret (.int .i64 (idxP l p 0)) m L) := by
  unfold TCall
  refine TCallX.enter Try.func52 rfl 19 rfl ?_
  repeat (first|refine q1 ?_|refine q2 ?_|refine q3 ?_|refine q4 tab rfl rfl ?_|refine q5 ?_|refine q6 ?_)
  refine TC.loopK (ι := Nat) [0, 1, 7] rfl (fun k => [(8, .int .i64 (k : Int))]) (fun _ => m) (fun _ => L) (fun k => k ≤ l.length ∧ idxP l p 0 = idxP (l.drop k) p k) (fun k => l.length - k) 0 (by repeat (first|exact trivial|refine And.intro rfl ?_)) rfl (by repeat (exact List.Sublist.refl _)) ⟨Nat.zero_le _, rfl⟩ ?_
  rintro k ⟨hk, hI⟩
  have hl := hs.len
  have hsm := hs.small rfl
  repeat (first|refine q1 ?_|refine q3 ?_|refine q4 tab rfl rfl ?_|refine q5 ?_|refine q6 ?_)
  refine TC.condP rfl (fun h => ?_) (fun h => ?_)
  · have hlt : k < l.length := by omega
    have hx : l[k]? = some l[k] := by simp [hlt]
    repeat (first|refine q1 ?_|refine q2 ?_|refine q3 ?_|refine q4 tab rfl rfl ?_|refine q5 ?_|refine q6 ?_|refine q13 ?_)
    refine TO.step rfl (OT.index tab rStr k hs rfl rfl rfl rfl rfl (by first | rfl | omega) rfl hx ?_)
    rintro b i hd hr hA
    (refine TO.step rfl (OT.loadA0 tab hA rfl rfl rfl rfl rfl ?_))
    skip
    refine TO.step rfl (OT.call (all := strV hd :: cap) rfl rfl rfl rfl rfl (by rw [fl_eq]; rfl) hg ((hp hd l[k] (List.getElem_mem hlt) hr).x ?_))
    rintro _ _ _ ⟨rfl, rfl, rfl⟩
    repeat (first|refine q5 ?_|refine q6 ?_)
    refine TC.cond rfl (fun h => ?_) (fun h => ?_)
    · repeat (first|refine q1 ?_|refine q3 ?_|refine q4 tab rfl rfl ?_|refine q5 ?_|refine q6 ?_|refine q8 ?_|refine q9 ?_|refine q15 ?_)
      refine retQ_ret rfl (by repeat (exact List.Sublist.refl _)) ⟨rfl, rfl, ?_⟩
      rw [hI, List.drop_eq_getElem_cons hlt, idxP, if_pos h]
    · repeat (first|refine q3 ?_|refine q6 ?_|refine q7 ?_|refine q13 ?_)
      refine TO.step rfl (OT.arith (r' := ((k + 1 : Nat) : Int)) rfl rfl rfl rfl rfl rfl rfl (by omega) ?_)
      repeat (first|refine q4 tab rfl rfl ?_|refine q5 ?_|refine q6 ?_)
      exact ⟨k + 1, (by repeat (first|exact trivial|refine And.intro rfl ?_)), (by repeat (first|exact trivial|refine And.intro rfl ?_)), rfl, rfl, (by repeat (exact List.Sublist.refl _)), ⟨by omega, by rw [hI, List.drop_eq_getElem_cons hlt, idxP, if_neg (by simp [h])]⟩, by omega⟩
  · repeat (first|refine q1 ?_|refine q3 ?_|refine q4 tab rfl rfl ?_|refine q5 ?_|refine q6 ?_|refine q10 ?_|refine q11 ?_|refine q14 ?_|refine q15 ?_)
    refine retQ_ret rfl (by repeat (exact List.Sublist.refl _)) ⟨rfl, rfl, ?_⟩
    rw [hI, List.drop_eq_nil_of_le (by omega)]
    rfl


set_option maxHeartbeats 400000 in
theorem containsFunc_str (m : Mem) (L : List Item) (s : Sl) (l : List Str) (p : Str → Bool) (fn : FuncId) (cap : List Value) (hg : Goes Try.prog fn) (hs : SlRep rStr m s l)
    (hp : ∀ (h : Str) (a : Str), a ∈ l → rStr.rep m h a → TCall Try.prog fn ⟨strV h :: cap⟩ m L (Ret (.bool (p a)) m L)) :
    TCall Try.prog 49 ⟨[s.v, .func (.func fn) ⟨[]⟩ ⟨cap⟩]⟩ m L (Ret (.bool (l.any p)) m L) := by
  unfold TCall
  refine TCallX.enter Try.func49 rfl 9 rfl ?_
  repeat (first|refine q1 ?_|refine q3 ?_|refine q4 tab rfl rfl ?_|refine q5 ?_|refine q6 ?_)
  refine TO.step rfl (OT.call rfl rfl rfl rfl rfl rfl goes52 ((indexFunc_str m L s l p fn cap hg hs hp).x ?_));
  rintro _ _ _ ⟨rfl, rfl, rfl⟩
  repeat (first|refine q4 tab rfl rfl ?_|refine q5 ?_|refine q6 ?_|refine q15 ?_)
  refine retQ_ret rfl (by repeat (exact List.Sublist.refl _)) ⟨rfl, rfl, ?_⟩
  rw [idxP_ge]


set_option maxHeartbeats 400000 in
theorem indexFunc_sls (m : Mem) (L : List Item) (s : Sl) (l : List (List Str)) (p : (List Str) → Bool) (fn : FuncId) (cap : List Value) (hg : Goes Try.prog fn) (hs : SlRep rStrs m s l)
    (hp : ∀ (h : Sl) (a : (List Str)), a ∈ l → rStrs.rep m h a → TCall Try.prog fn ⟨h.v :: cap⟩ m L (Ret (.bool (p a)) m L)) :
    TCall Try.prog 44 ⟨[s.v, .func (.func fn) ⟨[]⟩ ⟨cap⟩]⟩ m L (Ret (.int .i64 (idxP l p 0)) m L) := by
  unfold TCall
  refine TCallX.enter Try.func44 rfl 19 rfl ?_
  repeat (first|refine q1 ?_|refine q2 ?_|refine q3 ?_|refine q4 tab rfl rfl ?_|refine q5 ?_|refine q6 ?_)
  refine TC.loopK (ι := Nat) [0, 1, 7] rfl (fun k => [(8, .int .i64 (k : Int))]) (fun _ => m) (fun _ => L) (fun k => k ≤ l.length ∧ idxP l p 0 = idxP (l.drop k) p k) (fun k => l.length - k) 0 (by repeat (first|exact trivial|refine And.intro rfl ?_)) rfl (by repeat (exact List.Sublist.refl _)) ⟨Nat.zero_le _, rfl⟩ ?_
  rintro k ⟨hk, hI⟩
  have hl := hs.len
  have hsm := hs.small rfl
  repeat (first|refine q1 ?_|refine q3 ?_|refine q4 tab rfl rfl ?_|refine q5 ?_|refine q6 ?_)
  refine TC.condP rfl (fun h => ?_) (fun h => ?_)
  · have hlt : k < l.length := by omega
    have hx : l[k]? = some l[k] := by simp [hlt]
    repeat (first|refine q1 ?_|refine q2 ?_|refine q3 ?_|refine q4 tab rfl rfl ?_|refine q5 ?_|refine q6 ?_|refine q13 ?_)
    refine TO.step rfl (OT.index tab rStrs k hs rfl rfl rfl rfl rfl (by first | rfl | omega) rfl hx ?_)
    rintro b i hd hr hA
    (refine TO.step rfl (OT.loadA0 tab hA rfl rfl rfl rfl rfl ?_))
    skip
    refine TO.step rfl (OT.call (all := hd.v :: cap) rfl rfl rfl rfl rfl (by rw [fl_eq]; rfl) hg ((hp hd l[k] (List.getElem_mem hlt) hr).x ?_))
    rintro _ _ _ ⟨rfl, rfl, rfl⟩
    repeat (first|refine q5 ?_|refine q6 ?_)
    refine TC.cond rfl (fun h => ?_) (fun h => ?_)
    · repeat (first|refine q1 ?_|refine q3 ?_|refine q4 tab rfl rfl ?_|refine q5 ?_|refine q6 ?_|refine q8 ?_|refine q9 ?_|refine q15 ?_)
      refine retQ_ret rfl (by repeat (exact List.Sublist.refl _)) ⟨rfl, rfl, ?_⟩
      rw [hI, List.drop_eq_getElem_cons hlt, idxP, if_pos h]
    · repeat (first|refine q3 ?_|refine q6 ?_|refine q7 ?_|refine q13 ?_)
      refine TO.step rfl (OT.arith (r' := ((k + 1 : Nat) : Int)) rfl rfl rfl rfl rfl rfl rfl (by omega) ?_)
      repeat (first|refine q4 tab rfl rfl ?_|refine q5 ?_|refine q6 ?_)
      exact ⟨k + 1, (by repeat (first|exact trivial|refine And.intro rfl ?_)), (by repeat (first|exact trivial|refine And.intro rfl ?_)), rfl, rfl, (by repeat (exact List.Sublist.refl _)), ⟨by omega, by rw [hI, List.drop_eq_getElem_cons hlt, idxP, if_neg (by simp [h])]⟩, by omega⟩
  · repeat (first|refine q1 ?_|refine q3 ?_|refine q4 tab rfl rfl ?_|refine q5 ?_|refine q6 ?_|refine q10 ?_|refine q11 ?_|refine q14 ?_|refine q15 ?_)
    refine retQ_ret rfl (by repeat (exact List.Sublist.refl _)) ⟨rfl, rfl, ?_⟩
    rw [hI, List.drop_eq_nil_of_le (by omega)]
    rfl


set_option maxHeartbeats 400000 in
theorem containsFunc_sls (m : Mem) (L : List Item) (s : Sl) (l : List (List Str)) (p : (List Str) → Bool) (fn : FuncId) (cap : List Value) (hg : Goes Try.prog fn) (hs : SlRep rStrs m s l)
    (hp : ∀ (h : Sl) (a : (List Str)), a ∈ l → rStrs.rep m h a → TCall Try.prog fn ⟨h.v :: cap⟩ m L (Ret (.bool (p a)) m L)) :
    TCall Try.prog 33 ⟨[s.v, .func (.func fn) ⟨[]⟩ ⟨cap⟩]⟩ m L (Ret (.bool (l.any p)) m L) := by
  unfold TCall
  refine TCallX.enter Try.func33 rfl 9 rfl ?_
  repeat (first|refine q1 ?_|refine q3 ?_|refine q4 tab rfl rfl ?_|refine q5 ?_|refine q6 ?_)
  refine TO.step rfl (OT.call rfl rfl rfl rfl rfl rfl goes44 ((indexFunc_sls m L s l p fn cap hg hs hp).x ?_));
  rintro _ _ _ ⟨rfl, rfl, rfl⟩
  repeat (first|refine q4 tab rfl rfl ?_|refine q5 ?_|refine q6 ?_|refine q15 ?_)
  refine retQ_ret rfl (by repeat (exact List.Sublist.refl _)) ⟨rfl, rfl, ?_⟩
  rw [idxP_ge]

end Go.Sep

/-
  Walks of layer 13: the small functions of the reference and of the program.
-/
set_option linter.unusedVariables false
set_option linter.unusedSimpArgs false
namespace Go.Sep
open Go.Proofs
attribute [local irreducible] TC TO OT TCallX TCall DO DOt thenQ blockQ retQ At

set_option maxHeartbeats 400000 in
theorem place_str (m : Mem) (L : List Item) (s : Sl) (l : List Str) (v : Str) (hs : SlRep rStr m s l) :
    TCall Try.prog 14 ⟨[s.v, strV v]⟩ m L (Ret (.int .i64 (idx l v 0)) m L) := by
  unfold TCall
  refine TCallX.enter Try.func14 rfl 19 rfl ?_
  repeat (first|refine q1 ?_|refine q2 ?_|refine q3 ?_|refine q4 tab rfl rfl ?_|refine q5 ?_|refine q6 ?_)
  refine TC.loopK (ι := Nat) [0, 1] rfl (fun k => [(5, .int .i64 (k : Int))]) (fun _ => m) (fun _ => L) (fun k => k ≤ l.length ∧ idx l v 0 = idx (l.drop k) v k) (fun k => l.length - k) 0 (by repeat (first|exact trivial|refine And.intro rfl ?_)) rfl (by repeat (exact List.Sublist.refl _)) ⟨Nat.zero_le _, rfl⟩ ?_
  rintro k ⟨hk, hI⟩
  have hl := hs.len
  have hsm := hs.small rfl
  repeat (first|refine q1 ?_|refine q3 ?_|refine q4 tab rfl rfl ?_|refine q5 ?_|refine q6 ?_)
  refine TC.condP rfl (fun h => ?_) (fun h => ?_)
  · have hlt : k < l.length := by omega
    have hx : l[k]? = some l[k] := by simp [hlt]
    repeat (first|refine q1 ?_|refine q2 ?_|refine q3 ?_|refine q4 tab rfl rfl ?_|refine q6 ?_|refine q13 ?_)
    refine TO.step rfl (OT.index tab rStr k hs rfl rfl rfl rfl rfl (by first | rfl | omega) rfl hx ?_)
    rintro b i hd rfl hA
    (refine TO.step rfl (OT.loadA0 tab hA rfl rfl rfl rfl rfl ?_))
    repeat (first|refine q4 tab rfl rfl ?_|refine q5 ?_|refine q6 ?_)
    refine TC.condP rfl (fun h => ?_) (fun h => ?_)
    · repeat (first|refine q1 ?_|refine q3 ?_|refine q4 tab rfl rfl ?_|refine q5 ?_|refine q6 ?_|refine q8 ?_|refine q9 ?_|refine q15 ?_)
      refine retQ_ret rfl (by repeat (exact List.Sublist.refl _)) ⟨rfl, rfl, ?_⟩
      rw [hI, List.drop_eq_getElem_cons hlt, idx, if_pos h.symm]
    · repeat (first|refine q3 ?_|refine q4 tab rfl rfl ?_|refine q6 ?_|refine q7 ?_|refine q13 ?_)
      refine TO.step rfl (OT.arith (r' := ((k + 1 : Nat) : Int)) rfl rfl rfl rfl rfl rfl rfl (by omega) ?_)
      repeat (first|refine q4 tab rfl rfl ?_|refine q5 ?_|refine q6 ?_)
      exact ⟨k + 1, (by repeat (first|exact trivial|refine And.intro rfl ?_)), (by repeat (first|exact trivial|refine And.intro rfl ?_)), rfl, rfl, (by repeat (exact List.Sublist.refl _)), ⟨by omega, by rw [hI, List.drop_eq_getElem_cons hlt, idx, if_neg (fun e => h e.symm)]⟩, by omega⟩
  · repeat (first|refine q1 ?_|refine q3 ?_|refine q4 tab rfl rfl ?_|refine q5 ?_|refine q6 ?_|refine q10 ?_|refine q11 ?_|refine q14 ?_|refine q15 ?_)
    refine retQ_ret rfl (by repeat (exact List.Sublist.refl _)) ⟨rfl, rfl, ?_⟩
    rw [hI, List.drop_eq_nil_of_le (by omega)]
    rfl

set_option maxHeartbeats 400000 in
theorem has_int (m : Mem) (L : List Item) (s : Sl) (l : List Int) (v : Int) (hs : SlRep rInt m s l) :
    TCall Try.prog 26 ⟨[s.v, .int .i64 v]⟩ m L (Ret (.bool (decide (v ∈ l))) m L) := by
  unfold TCall
  refine TCallX.enter Try.func26 rfl 18 rfl ?_
  repeat (first|refine q1 ?_|refine q2 ?_|refine q3 ?_|refine q4 tab rfl rfl ?_|refine q5 ?_|refine q6 ?_)
  refine TC.loopK (ι := Nat) [0, 1] rfl (fun k => [(5, .int .i64 (k : Int))]) (fun _ => m) (fun _ => L) (fun k => k ≤ l.length ∧ ∀ x ∈ l.take k, v ≠ x) (fun k => l.length - k) 0 (by repeat (first|exact trivial|refine And.intro rfl ?_)) rfl (by repeat (exact List.Sublist.refl _)) ⟨Nat.zero_le _, by simp⟩ ?_
  rintro k ⟨hk, hI⟩
  have hl := hs.len
  have hsm := hs.small rfl
  repeat (first|refine q1 ?_|refine q3 ?_|refine q4 tab rfl rfl ?_|refine q5 ?_|refine q6 ?_)
  refine TC.condP rfl (fun h => ?_) (fun h => ?_)
  · have hlt : k < l.length := by omega
    have hx : l[k]? = some l[k] := by simp [hlt]
    repeat (first|refine q1 ?_|refine q2 ?_|refine q3 ?_|refine q4 tab rfl rfl ?_|refine q6 ?_|refine q13 ?_)
    refine TO.step rfl (OT.index tab rInt k hs rfl rfl rfl rfl rfl (by first | rfl | omega) rfl hx ?_)
    rintro b i hd rfl hA
    (refine TO.step rfl (OT.loadA0 tab hA rfl rfl rfl rfl rfl ?_))
    repeat (first|refine q4 tab rfl rfl ?_|refine q5 ?_|refine q6 ?_)
    refine TC.condP rfl (fun h => ?_) (fun h => ?_)
    · repeat (first|refine q1 ?_|refine q3 ?_|refine q4 tab rfl rfl ?_|refine q5 ?_|refine q6 ?_|refine q8 ?_|refine q9 ?_|refine q15 ?_)
      refine retQ_ret rfl (by repeat (exact List.Sublist.refl _)) ⟨rfl, rfl, ?_⟩
      have : v ∈ l := by rw [← h]; exact List.getElem_mem hlt
      simp [this]
    · repeat (first|refine q3 ?_|refine q4 tab rfl rfl ?_|refine q6 ?_|refine q7 ?_|refine q13 ?_)
      refine TO.step rfl (OT.arith (r' := ((k + 1 : Nat) : Int)) rfl rfl rfl rfl rfl rfl rfl (by omega) ?_)
      repeat (first|refine q4 tab rfl rfl ?_|refine q5 ?_|refine q6 ?_)
      refine ⟨k + 1, (by repeat (first|exact trivial|refine And.intro rfl ?_)), (by repeat (first|exact trivial|refine And.intro rfl ?_)), rfl, rfl, (by repeat (exact List.Sublist.refl _)), ⟨by omega, ?_⟩, by omega⟩
      intro x hx
      rw [List.take_succ_eq_append_getElem hlt] at hx
      rcases List.mem_append.1 hx with hx | hx
      · exact hI x hx
      · simp at hx; subst hx; exact fun e => h e.symm
  · repeat (first|refine q1 ?_|refine q3 ?_|refine q4 tab rfl rfl ?_|refine q5 ?_|refine q6 ?_|refine q10 ?_|refine q11 ?_|refine q14 ?_|refine q15 ?_)
    refine retQ_ret rfl (by repeat (exact List.Sublist.refl _)) ⟨rfl, rfl, ?_⟩
    have : v ∉ l := fun hv => hI v (by rw [List.take_of_length_le (by omega)]; exact hv) rfl
    simp [this]

theorem idx_prefix {α : Type} [DecidableEq α] (l : List α) (k : Nat) (hk : k < l.length) : (idx l l[k] 0 < (k : Int)) ↔ l[k] ∈ l.take k := by
  have key : ∀ (l : List α) (k j : Nat) (v : α), l[k]? = some v → ((idx l v j < ((j + k : Nat) : Int)) ↔ v ∈ l.take k) := by
    intro l
    induction l with
    | nil => intro k j v h; simp at h
    | cons x xs ih =>
      intro k j v h
      by_cases e : v = x
      · cases k with
        | zero => rw [idx, if_pos e]; simp
        | succ k => rw [idx, if_pos e]; simp [e]; omega
      · cases k with
        | zero => simp at h; exact absurd h.symm e
        | succ k =>
          rw [idx, if_neg e]
          rw [List.getElem?_cons_succ] at h
          have := ih k (j + 1) v h
          rw [show j + 1 + k = j + (k + 1) by omega] at this
          rw [this]
          simp [e]
  have := key l k 0 l[k] (by simp [hk])
  simpa using this

theorem nodup_take {α : Type} : ∀ (l : List α), l.Nodup ↔ ∀ k (hk : k < l.length), l[k] ∉ l.take k
  | [] => by simp
  | x :: xs => by
    rw [List.nodup_cons, nodup_take xs]
    constructor
    · rintro ⟨h1, h2⟩ k hk
      cases k with
      | zero => simp
      | succ k =>
        simp only [List.length_cons] at hk
        simp only [List.getElem_cons_succ, List.take_succ_cons, List.mem_cons, not_or]
        exact ⟨fun e => h1 (e ▸ List.getElem_mem _), h2 k (by omega)⟩
    · intro h
      refine ⟨fun hm => ?_, fun k hk => ?_⟩
      · obtain ⟨j, hj, he⟩ := List.getElem_of_mem hm
        have := h (j + 1) (by simp; omega)
        simp only [List.getElem_cons_succ, List.take_succ_cons, List.mem_cons, not_or] at this
        exact this.1 he
      · have := h (k + 1) (by simp; omega)
        simp only [List.getElem_cons_succ, List.take_succ_cons, List.mem_cons, not_or] at this
        exact this.2

open Classical in
set_option maxHeartbeats 400000 in
theorem twice_ref (m : Mem) (L : List Item) (s : Sl) (l : List Str) (hs : SlRep rStr m s l) :
    TCall Try.prog 13 ⟨[s.v]⟩ m L (Ret (.bool (!decide l.Nodup)) m L) := by
  unfold TCall
  refine TCallX.enter Try.func13 rfl 18 rfl ?_
  repeat (first|refine q1 ?_|refine q2 ?_|refine q3 ?_|refine q4 tab rfl rfl ?_|refine q5 ?_|refine q6 ?_)
  refine TC.loopK (ι := Nat) [0] rfl (fun k => [(3, .int .i64 (k : Int))]) (fun _ => m) (fun _ => L) (fun k => k ≤ l.length ∧ ∀ j (hj : j < l.length), j < k → l[j] ∉ l.take j) (fun k => l.length - k) 0 (by repeat (first|exact trivial|refine And.intro rfl ?_)) rfl (by repeat (exact List.Sublist.refl _)) ⟨Nat.zero_le _, by simp⟩ ?_
  rintro k ⟨hk, hI⟩
  have hl := hs.len
  have hsm := hs.small rfl
  repeat (first|refine q1 ?_|refine q3 ?_|refine q4 tab rfl rfl ?_|refine q5 ?_|refine q6 ?_)
  refine TC.condP rfl (fun h => ?_) (fun h => ?_)
  · have hlt : k < l.length := by omega
    have hx : l[k]? = some l[k] := by simp [hlt]
    repeat (first|refine q1 ?_|refine q2 ?_|refine q3 ?_|refine q4 tab rfl rfl ?_|refine q6 ?_|refine q13 ?_)
    refine TO.step rfl (OT.index tab rStr k hs rfl rfl rfl rfl rfl (by first | rfl | omega) rfl hx ?_)
    rintro b i hd rfl hA
    (refine TO.step rfl (OT.loadA0 tab hA rfl rfl rfl rfl rfl ?_))
    skip
    refine TO.step rfl (OT.call rfl rfl rfl rfl rfl rfl goes14 ((place_str m L s l l[k] hs).x ?_));
    rintro _ _ _ ⟨rfl, rfl, rfl⟩
    repeat (first|refine q4 tab rfl rfl ?_|refine q5 ?_|refine q6 ?_)
    refine TC.condP rfl (fun h => ?_) (fun h => ?_)
    · repeat (first|refine q1 ?_|refine q3 ?_|refine q4 tab rfl rfl ?_|refine q5 ?_|refine q6 ?_|refine q8 ?_|refine q9 ?_|refine q15 ?_)
      refine retQ_ret rfl (by repeat (exact List.Sublist.refl _)) ⟨rfl, rfl, ?_⟩
      have hn : ¬ l.Nodup := fun hn => (nodup_take l).1 hn k hlt ((idx_prefix l k hlt).1 h)
      simp [hn]
    · repeat (first|refine q3 ?_|refine q4 tab rfl rfl ?_|refine q6 ?_|refine q7 ?_|refine q13 ?_)
      refine TO.step rfl (OT.arith (r' := ((k + 1 : Nat) : Int)) rfl rfl rfl rfl rfl rfl rfl (by omega) ?_)
      repeat (first|refine q4 tab rfl rfl ?_|refine q5 ?_|refine q6 ?_)
      refine ⟨k + 1, (by repeat (first|exact trivial|refine And.intro rfl ?_)), (by repeat (first|exact trivial|refine And.intro rfl ?_)), rfl, rfl, (by repeat (exact List.Sublist.refl _)), ⟨by omega, fun j hj hjk => ?_⟩, by omega⟩
      rcases Nat.lt_or_eq_of_le (Nat.le_of_lt_succ hjk) with hj' | rfl
      · exact hI j hj hj'
      · exact fun hm => h ((idx_prefix l j hlt).2 hm)
  · repeat (first|refine q1 ?_|refine q3 ?_|refine q4 tab rfl rfl ?_|refine q5 ?_|refine q6 ?_|refine q10 ?_|refine q11 ?_|refine q14 ?_|refine q15 ?_)
    refine retQ_ret rfl (by repeat (exact List.Sublist.refl _)) ⟨rfl, rfl, ?_⟩
    have hn : l.Nodup := (nodup_take l).2 fun j hj => hI j hj (by omega)
    simp [hn]

/-- the keys of a set: each string once, in the order of their coming -/
def dedup (l : List Str) : List Str := l.foldl (fun acc x => if x ∈ acc then acc else acc ++ [x]) []
def setE (l : List Str) : Ents Str := l.zipIdx.map fun p => (p.1, .agg ⟨[]⟩, p.2)

theorem setE_has (l : List Str) (x : Str) : mhas (setE l) x = decide (x ∈ l) := by
  rw [Bool.eq_iff_iff]
  simp only [mhas, setE, List.any_map, List.any_eq_true, decide_eq_true_eq, Function.comp]
  constructor
  · rintro ⟨p, hp, rfl⟩
    exact List.fst_mem_of_mem_zipIdx hp
  · intro h
    obtain ⟨j, hj, rfl⟩ := List.getElem_of_mem h
    exact ⟨(l[j], j), List.mk_mem_zipIdx_iff_getElem?.2 (by simp [hj]), rfl⟩

theorem setE_set (l : List Str) (x : Str) : mset (setE l) x (.agg ⟨[]⟩) l.length = setE (if x ∈ l then l else l ++ [x]) ∧ mclock (setE l) x l.length = (if x ∈ l then l else l ++ [x]).length := by
  unfold mset mclock
  rw [setE_has]
  by_cases h : x ∈ l
  · simp only [h, decide_true, if_true, List.map_id']
    refine ⟨?_, trivial⟩
    apply List.ext_getElem?
    intro j
    rw [List.getElem?_modify]
    split
    · rename_i hj
      simp only [setE, List.getElem?_map, List.getElem?_zipIdx]
      cases l[j]? <;> simp
    · simp
  · simp [h, setE, List.zipIdx_append]

open Classical in
set_option maxHeartbeats 400000 in
theorem twice_own (m : Mem) (L : List Item) (s : Sl) (l : List Str) (hs : SlRep rStr m s l) :
    TCall Try.prog 34 ⟨[s.v]⟩ m L (Ret (.bool (decide ((dedup l).length < l.length))) m L) := by
  unfold TCall
  refine TCallX.enter Try.func34 rfl 22 rfl ?_
  repeat (first|refine q1 ?_|refine q3 ?_|refine q4 tab rfl rfl ?_|refine q5 ?_|refine q6 ?_)
  refine TO.step rfl (OT.makeMap kStr rfl rfl rfl (fun b => ?_))
  repeat (first|refine q1 ?_|refine q2 ?_|refine q3 ?_|refine q4 tab rfl rfl ?_|refine q5 ?_|refine q6 ?_)
  refine TC.loopK (ι := Nat) [0, 3, 7, 8] rfl (fun k => [(9, .int .i64 (k : Int))]) (fun _ => m) (fun k => .obj b (mapO kStr (setE (dedup (l.take k))) (dedup (l.take k)).length) :: L) (fun k => k ≤ l.length) (fun k => l.length - k) 0 (by repeat (first|exact trivial|refine And.intro rfl ?_)) rfl (by repeat (exact List.Sublist.refl _)) (Nat.zero_le _) ?_
  rintro k hk
  have hl := hs.len
  have hsm := hs.small rfl
  repeat (first|refine q1 ?_|refine q3 ?_|refine q4 tab rfl rfl ?_|refine q5 ?_|refine q6 ?_)
  refine TC.condP rfl (fun h => ?_) (fun h => ?_)
  · have hlt : k < l.length := by omega
    have hx : l[k]? = some l[k] := by simp [hlt]
    repeat (first|refine q1 ?_|refine q2 ?_|refine q3 ?_|refine q6 ?_|refine q13 ?_)
    refine TO.step rfl (OT.index tab rStr k hs rfl rfl rfl rfl rfl (by first | rfl | omega) rfl hx ?_)
    rintro b' i hd rfl hA
    (refine TO.step rfl (OT.loadA0 tab hA rfl rfl rfl rfl rfl ?_))
    repeat (first|refine q3 ?_|refine q4 tab rfl rfl ?_|refine q5 ?_|refine q6 ?_)
    refine TO.step rfl (OT.mapSet tab kStr 0 l[k] rfl rfl rfl rfl rfl rfl rfl ?_)
    have e1 := setE_set (dedup (l.take k)) l[k]
    have e2 : dedup (l.take (k + 1)) = if l[k] ∈ dedup (l.take k) then dedup (l.take k) else dedup (l.take k) ++ [l[k]] := by
      rw [List.take_succ_eq_append_getElem hlt]
      unfold dedup
      rw [List.foldl_append]
      rfl
    rw [e1.1, e1.2, ← e2]
    repeat (first|refine q3 ?_|refine q5 ?_|refine q6 ?_|refine q7 ?_)
    refine TO.step rfl (OT.arith (r' := ((k + 1 : Nat) : Int)) rfl rfl rfl rfl rfl rfl rfl (by omega) ?_)
    repeat (first|refine q4 tab rfl rfl ?_|refine q5 ?_|refine q6 ?_)
    exact ⟨k + 1, (by repeat (first|exact trivial|refine And.intro rfl ?_)), (by repeat (first|exact trivial|refine And.intro rfl ?_)), rfl, rfl, (by repeat (exact List.Sublist.refl _)), by omega, by omega⟩
  · have hkl : k = l.length := by omega
    subst hkl
    repeat (first|refine q1 ?_|refine q3 ?_|refine q4 tab rfl rfl ?_|refine q6 ?_|refine q10 ?_|refine q11 ?_|refine q14 ?_)
    refine TO.step rfl (OT.mapLen tab kStr 0 rfl rfl rfl rfl rfl rfl ?_)
    repeat (first|refine q4 tab rfl rfl ?_|refine q5 ?_|refine q6 ?_|refine q15 ?_)
    refine retQ_ret rfl (by repeat (first|exact List.Sublist.refl _|refine List.Sublist.cons _ ?_)) ⟨rfl, rfl, ?_⟩
    have : (setE (dedup (l.take l.length))).length = (dedup l).length := by simp [setE]
    rw [this]
    simp [hl]
end Go.Sep

/-
  Walks of layer 13: satisfies, Sound's closure, Satisfies, small, SameLists.
-/
set_option linter.unusedVariables false
set_option linter.unusedSimpArgs false
namespace Go.Sep
open Go.Proofs
attribute [local irreducible] TC TO OT TCallX TCall DO DOt thenQ blockQ retQ At

theorem dedup_inv : ∀ (l acc : List Str), ((l.foldl (fun acc x => if x ∈ acc then acc else acc ++ [x]) acc).length ≤ acc.length + l.length) ∧
    ((l.foldl (fun acc x => if x ∈ acc then acc else acc ++ [x]) acc).length = acc.length + l.length ↔ l.Nodup ∧ ∀ x ∈ l, x ∉ acc)
  | [], acc => by simp
  | x :: xs, acc => by
    rw [List.foldl_cons]
    by_cases h : x ∈ acc
    · have ih := dedup_inv xs acc
      rw [if_pos h]
      refine ⟨by simp only [List.length_cons]; omega, ⟨fun e => ?_, fun e => absurd h (e.2 x (by simp))⟩⟩
      simp only [List.length_cons] at e
      omega
    · have ih := dedup_inv xs (acc ++ [x])
      rw [if_neg h]
      simp only [List.length_append, List.length_cons, List.length_nil] at ih ⊢
      refine ⟨by omega, ?_⟩
      rw [show acc.length + (xs.length + 1) = acc.length + (0 + 1) + xs.length by omega, ih.2, List.nodup_cons]
      constructor
      · rintro ⟨h1, h2⟩
        refine ⟨⟨fun hm => h2 x hm (by simp), h1⟩, fun y hy => ?_⟩
        rcases List.mem_cons.1 hy with rfl | hy
        · exact h
        · exact fun hm => h2 y hy (by simp [hm])
      · rintro ⟨⟨h1, h2⟩, h3⟩
        refine ⟨h2, fun y hy hm => ?_⟩
        rcases List.mem_append.1 hm with hm | hm
        · exact h3 y (by simp [hy]) hm
        · simp at hm; subst hm; exact h1 hy

theorem dedup_nodup (l : List Str) : (dedup l).length < l.length ↔ ¬ l.Nodup := by
  have := dedup_inv l []
  simp only [List.length_nil, Nat.zero_add, List.not_mem_nil, not_false_eq_true, implies_true, and_true] at this
  unfold dedup
  rw [← this.2]
  omega

set_option maxHeartbeats 400000 in
theorem satisfies_cl (m : Mem) (L : List Item) (b : Nat) (hc : HClass) (c : Class) (hr : rClass.rep m hc c) (i : Nat) (hi : L[i]? = some (.cells b 0 (classC hc))) (x : Str) :
    TCall Try.prog 50 ⟨[strV x, .pointer (some ⟨b, 0, none⟩)]⟩ m L (Ret (.bool (!decide (x ∈ c.methods))) m L) := by
  unfold TCall
  refine TCallX.enter Try.func50 rfl 9 rfl ?_
  repeat (first|refine q1 ?_|refine q3 ?_|refine q4 tab rfl rfl ?_|refine q5 ?_|refine q6 ?_)
  refine TO.step rfl (OT.loadL tab i rfl rfl rfl rfl hi rfl ?_)
  repeat (refine q4 tab rfl rfl ?_)
  refine TO.step rfl (OT.call rfl rfl rfl rfl rfl rfl goes36 ((contains_str m L hc.methods c.methods x hr.1).x ?_));
  rintro _ _ _ ⟨rfl, rfl, rfl⟩
  repeat (first|refine q4 tab rfl rfl ?_|refine q5 ?_|refine q6 ?_|refine q15 ?_)
  refine retQ_ret rfl (by repeat (exact List.Sublist.refl _)) ⟨rfl, rfl, ?_⟩
  rfl

set_option maxHeartbeats 400000 in
theorem satisfies_own (m : Mem) (L : List Item) (hc : HClass) (c : Class) (hr : rClass.rep m hc c) (s : Sl) (l : List Str) (hs : SlRep rStr m s l) :
    TCall Try.prog 42 ⟨[classV hc, s.v]⟩ m L (Ret (.bool (satM c l)) m L) := by
  unfold TCall
  refine TCallX.enter Try.func42 rfl 9 rfl ?_
  repeat (first|refine q1 ?_|refine q3 ?_)
  refine TO.step rfl (OT.box rfl rfl rfl rfl rfl (fun b => ?_))
  repeat (first|refine q1 ?_|refine q3 ?_|refine q4 tab rfl rfl ?_|refine q5 ?_|refine q6 ?_)
  refine TO.step rfl (OT.call rfl rfl rfl rfl rfl rfl goes49 ((containsFunc_str m _ s l (fun x => !decide (x ∈ c.methods)) 50 [.pointer (some ⟨b, 0, none⟩)] goes50 hs (fun h a _ ha => by cases ha; exact satisfies_cl m _ b hc c hr 0 rfl h)).x ?_));
  rintro _ _ _ ⟨rfl, rfl, rfl⟩
  repeat (first|refine q4 tab rfl rfl ?_|refine q5 ?_|refine q6 ?_|refine q15 ?_)
  refine retQ_ret rfl (by repeat (first|exact List.Sublist.refl _|refine List.Sublist.cons _ ?_)) ⟨rfl, rfl, ?_⟩
  unfold satM
  rw [← List.not_all_eq_any_not]
  simp

set_option maxHeartbeats 400000 in
theorem satisfies_ref (m : Mem) (L : List Item) (hc : HClass) (c : Class) (hr : rClass.rep m hc c) (s : Sl) (l : List Str) (hs : SlRep rStr m s l) :
    TCall Try.prog 25 ⟨[classV hc, s.v]⟩ m L (Ret (.bool (satM c l)) m L) := by
  unfold TCall
  refine TCallX.enter Try.func25 rfl 20 rfl ?_
  repeat (first|refine q1 ?_|refine q3 ?_)
  refine TO.step rfl (OT.box rfl rfl rfl rfl rfl (fun b => ?_))
  repeat (first|refine q1 ?_|refine q2 ?_|refine q3 ?_|refine q4 tab rfl rfl ?_|refine q5 ?_|refine q6 ?_)
  refine TC.loopK (ι := Nat) [1, 2] rfl (fun k => [(5, .int .i64 (k : Int))]) (fun _ => m) (fun _ => .cells b 0 (classC hc) :: L) (fun k => k ≤ l.length ∧ ∀ x ∈ l.take k, x ∈ c.methods) (fun k => l.length - k) 0 (by repeat (first|exact trivial|refine And.intro rfl ?_)) rfl (by repeat (exact List.Sublist.refl _)) ⟨Nat.zero_le _, by simp⟩ ?_
  rintro k ⟨hk, hI⟩
  have hl := hs.len
  have hsm := hs.small rfl
  repeat (first|refine q1 ?_|refine q3 ?_|refine q4 tab rfl rfl ?_|refine q5 ?_|refine q6 ?_)
  refine TC.condP rfl (fun h => ?_) (fun h => ?_)
  · have hlt : k < l.length := by omega
    have hx : l[k]? = some l[k] := by simp [hlt]
    repeat (first|refine q1 ?_|refine q2 ?_|refine q6 ?_|refine q13 ?_)
    refine TC.draw0 [] mixed 8 rfl ?_
    refine DO.pure tab (by repeat (first|exact Calm.ret|refine Calm.then ?_|refine Calm.block ?_)) (by kernel_rfl) [0] (by kernel_rfl) rfl ?_
    (refine DO.loadL tab 1 0 (by repeat (first|exact Calm.ret|refine Calm.then ?_|refine Calm.block ?_)) (by kernel_rfl) (by kernel_rfl) rfl rfl rfl rfl rfl rfl rfl rfl ?_)
    refine DO.pure tab (by repeat (first|exact Calm.ret|refine Calm.then ?_|refine Calm.block ?_)) (by kernel_rfl) [2, 3] (by kernel_rfl) rfl ?_
    refine DO.index tab rStr 4 k hs (by repeat (first|exact Calm.ret|refine Calm.then ?_|refine Calm.block ?_)) (by kernel_rfl) (by kernel_rfl) rfl rfl rfl rfl rfl rfl rfl (by first | rfl | omega) rfl hx ?_
    rintro b' i hd rfl hA
    (refine DO.loadA (k := 0) tab 5 hA (by repeat (first|exact Calm.ret|refine Calm.then ?_|refine Calm.block ?_)) (by kernel_rfl) (by kernel_rfl) rfl rfl rfl rfl rfl rfl rfl ?_)
    refine DO.run 6 rfl rfl (by kernel_rfl) rfl (OT.call rfl rfl rfl rfl rfl rfl goes14 ((place_str m _ hc.methods c.methods l[k] hr.1).x ?_))
    rintro _ _ _ ⟨rfl, rfl, rfl⟩; refine ⟨Mem.le_refl _, _, List.Perm.refl _, ?_⟩
    refine DO.pure tab (by repeat (first|exact Calm.ret|refine Calm.then ?_|refine Calm.block ?_)) (by kernel_rfl) [7] (by kernel_rfl) rfl ?_
    (refine DO.nil0 (by kernel_rfl) ?_)
    rotate_left 1
    repeat (refine q6 ?_)
    refine TC.condP rfl (fun h => ?_) (fun h => ?_)
    · repeat (first|refine q1 ?_|refine q3 ?_|refine q4 tab rfl rfl ?_|refine q5 ?_|refine q6 ?_|refine q8 ?_|refine q9 ?_|refine q15 ?_)
      refine retQ_ret rfl (by repeat (first|exact List.Sublist.refl _|refine List.Sublist.cons _ ?_)) ⟨rfl, rfl, ?_⟩
      have : l[k] ∉ c.methods := fun hm => by
        obtain ⟨j, _, hj⟩ := idx_mem c.methods l[k] 0 hm
        omega
      have : satM c l = false := by
        simp only [satM, List.all_eq_false]
        exact ⟨l[k], List.getElem_mem hlt, by simpa using this⟩
      rw [this]
    · repeat (first|refine q3 ?_|refine q4 tab rfl rfl ?_|refine q6 ?_|refine q7 ?_|refine q13 ?_)
      refine TO.step rfl (OT.arith (r' := ((k + 1 : Nat) : Int)) rfl rfl rfl rfl rfl rfl rfl (by omega) ?_)
      repeat (first|refine q4 tab rfl rfl ?_|refine q5 ?_|refine q6 ?_)
      refine ⟨k + 1, (by repeat (first|exact trivial|refine And.intro rfl ?_)), (by repeat (first|exact trivial|refine And.intro rfl ?_)), rfl, rfl, (by repeat (exact List.Sublist.refl _)), ⟨by omega, ?_⟩, by omega⟩
      intro x hx
      rw [List.take_succ_eq_append_getElem hlt] at hx
      rcases List.mem_append.1 hx with hx | hx
      · exact hI x hx
      · simp at hx; subst hx
        exact Decidable.byContradiction fun hn => h (by rw [idx_not _ _ _ hn]; decide)
  · repeat (first|refine q1 ?_|refine q3 ?_|refine q4 tab rfl rfl ?_|refine q5 ?_|refine q6 ?_|refine q10 ?_|refine q11 ?_|refine q14 ?_|refine q15 ?_)
    refine retQ_ret rfl (by repeat (first|exact List.Sublist.refl _|refine List.Sublist.cons _ ?_)) ⟨rfl, rfl, ?_⟩
    have : satM c l = true := by
      simp only [satM, List.all_eq_true, decide_eq_true_eq]
      intro x hx
      exact hI x (by rw [List.take_of_length_le (by omega)]; exact hx)
    rw [this]

set_option maxHeartbeats 400000 in
theorem none_cl (m : Mem) (L : List Item) (b : Nat) (hh : HHier) (i : Nat) (hi : L[i]? = some (.cells b 0 (hierC hh))) (x : Int) :
    TCall Try.prog 32 ⟨[.int .i64 x, .pointer (some ⟨b, 0, none⟩)]⟩ m L (Ret (.bool (decide (¬ (0 ≤ x ∧ x < hh.funcs)))) m L) := by
  unfold TCall
  refine TCallX.enter Try.func32 rfl 12 rfl ?_
  repeat (first|refine q1 ?_|refine q3 ?_|refine q4 tab rfl rfl ?_|refine q5 ?_|refine q6 ?_)
  (refine TO.splitP rfl rfl (fun h => ?_) (fun h => ?_))
  · repeat (first|refine q4 tab rfl rfl ?_|refine q5 ?_|refine q6 ?_|refine q15 ?_)
    refine retQ_ret rfl (by repeat (exact List.Sublist.refl _)) ⟨rfl, rfl, ?_⟩
    simp; omega
  · repeat (refine q4 tab rfl rfl ?_)
    refine TO.step rfl (OT.loadL tab i rfl rfl rfl rfl hi rfl ?_)
    repeat (first|refine q4 tab rfl rfl ?_|refine q5 ?_|refine q6 ?_|refine q15 ?_)
    refine retQ_ret rfl (by repeat (exact List.Sublist.refl _)) ⟨rfl, rfl, ?_⟩
    simp; omega

end Go.Sep

/-
  Walks of layer 13: Sound, of the program.
-/
set_option linter.unusedVariables false
set_option linter.unusedSimpArgs false
namespace Go.Sep
open Go.Proofs
attribute [local irreducible] TC TO OT TCallX TCall DO DOt thenQ blockQ retQ At

theorem getD_some {α : Type} (l : List α) (k : Nat) (d : α) (h : k < l.length) : l[k]? = some (l[k]?.getD d) := by simp [h]

theorem sound4 {h : Hier} (hs : ¬ Small h) : soundM h = 4 := by simp [soundM, hs]
theorem sound2 {h : Hier} (hs : Small h) (hg : ¬ Good h) : soundM h = 2 := by simp [soundM, hs, hg]
theorem sound0 {h : Hier} (hs : Small h) (hg : Good h) : soundM h = 0 := by simp [soundM, hs, hg]

set_option maxHeartbeats 1000000 in
theorem sound_own (m : Mem) (L : List Item) (hh : HHier) (h : Hier) (hr : HierRep m hh h) :
    TCall Try.prog 27 ⟨[hierV hh]⟩ m L (Ret (.int .i64 (soundM h)) m L) := by
  have h1 := hr.classes.len
  have h2 := hr.ifaces.len
  have h3 := hr.sites.len
  have h4 := hr.funcs
  have hq1 := hr.classes.small rfl
  have hq2 := hr.ifaces.small rfl
  have hq3 := hr.sites.small rfl
  unfold TCall
  refine TCallX.enter Try.func27 rfl 128 rfl ?_
  repeat (first|refine q1 ?_|refine q3 ?_)
  refine TO.step rfl (OT.box rfl rfl rfl rfl rfl (fun b => ?_))
  repeat' (first|(first|refine q1 ?_|refine q3 ?_|refine q4 tab rfl rfl ?_|refine q5 ?_|refine q6 ?_|refine q8 ?_|refine q15 ?_|refine q16 rfl ?_)|(refine qs rfl (ql tab 0 rfl rfl rfl rfl rfl rfl ?_))|(refine TO.splitP rfl rfl (fun hb => ?_) (fun hb => ?_)))
  · refine retQ_ret rfl (by repeat (first|exact List.Sublist.refl _|refine List.Sublist.cons _ ?_)) ⟨rfl, rfl, ?_⟩
    rw [sound4 (fun hs => by have := hs.1; omega)]
  · refine retQ_ret rfl (by repeat (first|exact List.Sublist.refl _|refine List.Sublist.cons _ ?_)) ⟨rfl, rfl, ?_⟩
    rw [sound4 (fun hs => by have := hs.2.1; omega)]
  · refine retQ_ret rfl (by repeat (first|exact List.Sublist.refl _|refine List.Sublist.cons _ ?_)) ⟨rfl, rfl, ?_⟩
    rw [sound4 (fun hs => by have := hs.2.2.1; omega)]
  refine TC.condP rfl (fun hb => ?_) (fun hb => ?_)
  · repeat (first|refine q1 ?_|refine q3 ?_|refine q4 tab rfl rfl ?_|refine q5 ?_|refine q6 ?_|refine q8 ?_|refine q15 ?_)
    refine retQ_ret rfl (by repeat (first|exact List.Sublist.refl _|refine List.Sublist.cons _ ?_)) ⟨rfl, rfl, ?_⟩
    rw [sound4 (fun hs => by have := hs.2.2.2; omega)]
  have hsm : Small h := ⟨by omega, by omega, by omega, by omega⟩
  repeat' (first|(first|refine q1 ?_|refine q3 ?_|refine q4 tab rfl rfl ?_|refine q5 ?_|refine q6 ?_|refine q8 ?_|refine q13 ?_|refine q15 ?_|refine q16 rfl ?_)|(refine qs rfl (ql tab 0 rfl rfl rfl rfl rfl rfl ?_))|(refine TO.splitP rfl rfl (fun hb => ?_) (fun hb => ?_)))
  · refine retQ_ret rfl (by repeat (first|exact List.Sublist.refl _|refine List.Sublist.cons _ ?_)) ⟨rfl, rfl, ?_⟩
    rw [sound2 hsm (fun hg => by have := hg.funcs; omega)]
  refine TO.step rfl (OT.call rfl rfl rfl rfl rfl rfl goes33 ((containsFunc_sls m _ hh.ifaces h.ifaces (fun l => decide ((dedup l).length < l.length)) 34 [] goes34 hr.ifaces (fun s l _ hs => twice_own m _ s l hs)).x ?_));
  rintro _ _ _ ⟨rfl, rfl, rfl⟩
  repeat (first|refine q4 tab rfl rfl ?_|refine q5 ?_|refine q6 ?_)
  refine TC.cond rfl (fun hi => ?_) (fun hi => ?_)
  · repeat (first|refine q1 ?_|refine q3 ?_|refine q4 tab rfl rfl ?_|refine q5 ?_|refine q6 ?_|refine q8 ?_|refine q15 ?_)
    refine retQ_ret rfl (by repeat (first|exact List.Sublist.refl _|refine List.Sublist.cons _ ?_)) ⟨rfl, rfl, ?_⟩
    rw [sound2 hsm (fun hg => ?_)]
    obtain ⟨l, hl, hd⟩ := List.any_eq_true.1 hi
    exact (dedup_nodup l).1 (by simpa using hd) (hg.ifaces l hl)
  have hif : ∀ i ∈ h.ifaces, i.Nodup := fun i hm => by
    have := List.any_eq_false.1 hi i hm
    exact Decidable.byContradiction fun hn => this (by simpa using (dedup_nodup i).2 hn)
  repeat (first|(first|refine q1 ?_|refine q2 ?_|refine q3 ?_|refine q4 tab rfl rfl ?_|refine q5 ?_|refine q6 ?_|refine q13 ?_)|(refine qs rfl (ql tab 0 rfl rfl rfl rfl rfl rfl ?_)))
  refine TC.loopK (ι := Nat) [1, 3, 41, 42] rfl (fun k => [(43, .int .i64 (k : Int))]) (fun _ => m) (fun _ => .cells b 0 (hierC hh) :: L) (fun k => k ≤ h.classes.length ∧ ∀ c ∈ h.classes.take k, ClassOk h c) (fun k => h.classes.length - k) 0 (by repeat (first|exact trivial|refine And.intro rfl ?_)) rfl (by repeat (exact List.Sublist.refl _)) ⟨Nat.zero_le _, by simp⟩ ?_
  · rintro k ⟨hk, hI⟩
    repeat (first|refine q1 ?_|refine q3 ?_|refine q4 tab rfl rfl ?_|refine q5 ?_|refine q6 ?_)
    refine TC.condP rfl (fun hlt' => ?_) (fun hlt' => ?_)
    · have hlt : k < h.classes.length := by omega
      have hx : h.classes[k]? = some h.classes[k] := by simp [hlt]
      repeat (first|refine q1 ?_|refine q2 ?_|refine q3 ?_|refine q6 ?_|refine q13 ?_)
      refine TO.step rfl (OT.index tab rClass k hr.classes rfl rfl rfl rfl rfl (by first | rfl | omega) rfl hx ?_)
      rintro b' i hd hrc hA
      (refine TO.step rfl (OT.loadA0 tab hA rfl rfl rfl rfl rfl ?_))
      refine TO.step rfl (OT.alloc tab rfl rfl rfl rfl (fun bc => ?_))
      (refine TO.step rfl (OT.storeL0 tab 0 rfl rfl rfl rfl rfl rfl rfl rfl ?_))
      repeat (first|(first|refine q1 ?_|refine q3 ?_|refine q4 tab rfl rfl ?_|refine q5 ?_|refine q6 ?_)|(refine qs rfl (ql tab 0 rfl rfl rfl rfl rfl rfl ?_)))
      refine TO.step rfl (OT.call rfl rfl rfl rfl rfl rfl goes34 ((twice_own m _ hd.methods _ hrc.1).x ?_));
      rintro _ _ _ ⟨rfl, rfl, rfl⟩
      repeat' (first|(first|refine q1 ?_|refine q3 ?_|refine q4 tab rfl rfl ?_|refine q5 ?_|refine q6 ?_|refine q8 ?_|refine q9 ?_|refine q15 ?_|refine q16 rfl ?_)|(refine qs rfl (ql tab 0 rfl rfl rfl rfl rfl rfl ?_))|(first|refine TO.splitP rfl rfl (fun hb => ?_) (fun hb => ?_)|refine TO.splitN rfl rfl (fun hb => ?_) (fun hb => ?_)))
      · refine retQ_ret rfl (by repeat (first|exact List.Sublist.refl _|refine List.Sublist.cons _ ?_)) ⟨rfl, rfl, ?_⟩
        rw [sound2 hsm (fun hg => ?_)]
        exact (dedup_nodup _).1 hb (hg.classes _ (List.getElem_mem hlt)).once
      · refine retQ_ret rfl (by repeat (first|exact List.Sublist.refl _|refine List.Sublist.cons _ ?_)) ⟨rfl, rfl, ?_⟩
        rw [sound2 hsm (fun hg => ?_)]
        have e1 := (hg.classes _ (List.getElem_mem hlt)).len
        have e2 := hrc.1.len
        have e3 := hrc.2.len
        omega
      refine TO.step rfl (OT.call rfl rfl rfl rfl rfl rfl goes35 ((containsFunc_int m _ hd.funcs h.classes[k].funcs (fun x => decide (¬ (0 ≤ x ∧ x < hh.funcs))) 32 [.pointer (some ⟨b, 0, none⟩)] goes32 hrc.2 (fun x a _ hx => by cases hx; exact none_cl m _ b hh 1 rfl x)).x ?_));
      rintro _ _ _ ⟨rfl, rfl, rfl⟩
      repeat (first|refine q4 tab rfl rfl ?_|refine q5 ?_|refine q6 ?_)
      refine TC.cond rfl (fun hf => ?_) (fun hf => ?_)
      · repeat (first|refine q1 ?_|refine q3 ?_|refine q4 tab rfl rfl ?_|refine q5 ?_|refine q6 ?_|refine q8 ?_|refine q9 ?_|refine q15 ?_)
        refine retQ_ret rfl (by repeat (first|exact List.Sublist.refl _|refine List.Sublist.cons _ ?_)) ⟨rfl, rfl, ?_⟩
        rw [sound2 hsm (fun hg => ?_)]
        obtain ⟨x, hx1, hx2⟩ := List.any_eq_true.1 hf
        have := (hg.classes _ (List.getElem_mem hlt)).funcs x hx1
        simp only [decide_eq_true_eq] at hx2
        exact hx2 (by omega)
      · repeat (first|refine q3 ?_|refine q6 ?_|refine q7 ?_|refine q13 ?_)
        refine TO.step rfl (OT.arith (r' := ((k + 1 : Nat) : Int)) rfl rfl rfl rfl rfl rfl rfl (by omega) ?_)
        repeat (first|refine q4 tab rfl rfl ?_|refine q5 ?_|refine q6 ?_)
        refine ⟨k + 1, (by repeat (first|exact trivial|refine And.intro rfl ?_)), (by repeat (first|exact trivial|refine And.intro rfl ?_)), rfl, rfl, (by repeat (first|exact List.Sublist.refl _|refine List.Sublist.cons _ ?_)), ⟨by omega, ?_⟩, by omega⟩
        intro c hc
        rw [List.take_succ_eq_append_getElem hlt] at hc
        rcases List.mem_append.1 hc with hc | hc
        · exact hI c hc
        · simp only [List.mem_singleton] at hc
          subst hc
          have e2 := hrc.1.len
          have e3 := hrc.2.len
          refine ⟨Decidable.byContradiction fun hn => ‹¬ (dedup _).length < _› ((dedup_nodup _).2 hn), ?_, fun x hx1 => ?_⟩
          · simp at *
            omega
          · have := List.any_eq_false.1 hf x hx1
            simp only [decide_eq_true_eq, Decidable.not_not] at this
            omega
    · have hcl : ∀ c ∈ h.classes, ClassOk h c := fun c hc => hI c (by rw [List.take_of_length_le (by omega)]; exact hc)
      repeat (first|(first|refine q1 ?_|refine q2 ?_|refine q3 ?_|refine q4 tab rfl rfl ?_|refine q5 ?_|refine q6 ?_|refine q10 ?_|refine q11 ?_|refine q14 ?_)|(refine qs rfl (ql tab 0 rfl rfl rfl rfl rfl rfl ?_)))
      refine TC.loopK (ι := Nat) [1, 3, 67, 68] rfl (fun k => [(69, .int .i64 (k : Int))]) (fun _ => m) (fun _ => .cells b 0 (hierC hh) :: L) (fun k => k ≤ h.sites.length ∧ ∀ c ∈ h.sites.take k, SiteOk h c) (fun k => h.sites.length - k) 0 (by repeat (first|exact trivial|refine And.intro rfl ?_)) rfl (by repeat (exact List.Sublist.refl _)) ⟨Nat.zero_le _, by simp⟩ ?_
      clear hI hlt' hk k
      rintro k ⟨hk, hI⟩
      repeat (first|refine q1 ?_|refine q3 ?_|refine q4 tab rfl rfl ?_|refine q5 ?_|refine q6 ?_)
      refine TC.condP rfl (fun hlt' => ?_) (fun hlt' => ?_)
      · have hlt : k < h.sites.length := by omega
        have hx : h.sites[k]? = some h.sites[k] := by simp [hlt]
        repeat (first|refine q1 ?_|refine q2 ?_|refine q3 ?_|refine q6 ?_|refine q13 ?_)
        refine TO.step rfl (OT.index tab rSite k hr.sites rfl rfl rfl rfl rfl (by first | rfl | omega) rfl hx ?_)
        rintro b' i hd rfl hA
        (refine TO.step rfl (OT.loadA0 tab hA rfl rfl rfl rfl rfl ?_))
        refine TO.step rfl (OT.alloc tab rfl rfl rfl rfl (fun bc => ?_))
        (refine TO.step rfl (OT.storeL0 tab 0 rfl rfl rfl rfl rfl rfl rfl rfl ?_))
        generalize hsx : h.sites[k] = s at *
        refine TO.nil (thenQ_n ?_)
        refine TC.cut (ι := Bool) [1, 3, 7, 67, 68, 69] rfl (fun d => [(8, .bool d)]) (fun _ => m) (fun _ => .cells bc 0 (siteC s) :: .cells b 0 (hierC hh) :: L) (fun d => (d = true ↔ (s.iface = -1 ∧ 0 ≤ s.to ∧ s.to < h.funcs ∧ s.method = []))) ?_ ?_
        · repeat' (first|(first|refine q3 ?_|refine q4 tab rfl rfl ?_|refine q5 ?_|refine q6 ?_)|(refine qs rfl (ql tab 0 rfl rfl rfl rfl rfl rfl ?_))|(refine TO.splitP rfl rfl (fun hb => ?_) (fun hb => ?_)))
          · refine TO.step rfl (OT.call rfl rfl rfl rfl rfl rfl goes32 ((none_cl m _ b hh 1 rfl s.to).x ?_));
            rintro _ _ _ ⟨rfl, rfl, rfl⟩
            repeat (refine q4 tab rfl rfl ?_)
            (refine TO.splitN rfl rfl (fun hd => ?_) (fun hd => ?_))
            · repeat (first|(first|refine q4 tab rfl rfl ?_|refine q5 ?_|refine q6 ?_)|(refine qs rfl (ql tab 0 rfl rfl rfl rfl rfl rfl ?_)))
              refine ⟨_, (by repeat (first|exact trivial|refine And.intro rfl ?_)), (by repeat (first|exact trivial|refine And.intro rfl ?_)), rfl, rfl, (by repeat (exact List.Sublist.refl _)), ?_⟩
              simp only [decide_eq_true_eq, Bool.not_eq_true', decide_eq_false_iff_not, Decidable.not_not] at hd ⊢
              constructor
              · intro e; exact ⟨hb, by omega, by omega, e⟩
              · intro e; exact e.2.2.2
            · repeat ((first|refine q4 tab rfl rfl ?_|refine q5 ?_|refine q6 ?_))
              refine ⟨_, (by repeat (first|exact trivial|refine And.intro rfl ?_)), (by repeat (first|exact trivial|refine And.intro rfl ?_)), rfl, rfl, (by repeat (exact List.Sublist.refl _)), ?_⟩
              constructor
              · intro e; cases e
              · intro e; exact absurd (show 0 ≤ s.to ∧ s.to < hh.funcs from by omega) hd
          · refine ⟨_, (by repeat (first|exact trivial|refine And.intro rfl ?_)), (by repeat (first|exact trivial|refine And.intro rfl ?_)), rfl, rfl, (by repeat (exact List.Sublist.refl _)), ?_⟩
            constructor
            · intro e; cases e
            · intro e; exact absurd e.1 hb
        intro d hd
        refine TC.cut (ι := Bool) [1, 3, 7, 8, 67, 68, 69] rfl (fun t => [(9, .bool t)]) (fun _ => m) (fun _ => .cells bc 0 (siteC s) :: .cells b 0 (hierC hh) :: L) (fun t => (t = true ↔ (0 ≤ s.iface ∧ s.iface < h.ifaces.length ∧ s.to = 0 ∧ s.method ∈ h.ifaces[s.iface.toNat]?.getD []))) ?_ ?_
        · refine TC.draw0 [] mixed 28 rfl ?_
          refine DO.pure tab (by repeat (first|exact Calm.ret|refine Calm.then ?_|refine Calm.block ?_)) (by kernel_rfl) [0] (by kernel_rfl) rfl ?_
          (refine DO.loadL tab 1 0 (by repeat (first|exact Calm.ret|refine Calm.then ?_|refine Calm.block ?_)) (by kernel_rfl) (by kernel_rfl) rfl rfl rfl rfl rfl rfl rfl rfl ?_)
          refine DO.pure tab (by repeat (first|exact Calm.ret|refine Calm.then ?_|refine Calm.block ?_)) (by kernel_rfl) [2, 3] (by kernel_rfl) rfl ?_
          (refine DO.splitP (d := 91) rfl (fun hg3 => ?_) (fun hg3 => ?_))
          refine DO.pure tab (by repeat (first|exact Calm.ret|refine Calm.then ?_|refine Calm.block ?_)) (by kernel_rfl) [4] (by kernel_rfl) rfl ?_
          (refine DO.loadL tab 5 0 (by repeat (first|exact Calm.ret|refine Calm.then ?_|refine Calm.block ?_)) (by kernel_rfl) (by kernel_rfl) rfl rfl rfl rfl rfl rfl rfl rfl ?_)
          refine DO.pure tab (by repeat (first|exact Calm.ret|refine Calm.then ?_|refine Calm.block ?_)) (by kernel_rfl) [6] (by kernel_rfl) rfl ?_
          (refine DO.loadL tab 7 1 (by repeat (first|exact Calm.ret|refine Calm.then ?_|refine Calm.block ?_)) (by kernel_rfl) (by kernel_rfl) rfl rfl rfl rfl rfl rfl rfl rfl ?_)
          refine DO.pure tab (by repeat (first|exact Calm.ret|refine Calm.then ?_|refine Calm.block ?_)) (by kernel_rfl) [8, 9, 10, 11] (by kernel_rfl) rfl ?_
          (refine DO.splitP (d := 99) rfl (fun hg11 => ?_) (fun hg11 => ?_))
          refine DO.pure tab (by repeat (first|exact Calm.ret|refine Calm.then ?_|refine Calm.block ?_)) (by kernel_rfl) [12] (by kernel_rfl) rfl ?_
          (refine DO.loadL tab 13 0 (by repeat (first|exact Calm.ret|refine Calm.then ?_|refine Calm.block ?_)) (by kernel_rfl) (by kernel_rfl) rfl rfl rfl rfl rfl rfl rfl rfl ?_)
          refine DO.pure tab (by repeat (first|exact Calm.ret|refine Calm.then ?_|refine Calm.block ?_)) (by kernel_rfl) [14, 15, 16] (by kernel_rfl) rfl ?_
          (refine DO.splitP (d := 104) rfl (fun hg16 => ?_) (fun hg16 => ?_))
          refine DO.pure tab (by repeat (first|exact Calm.ret|refine Calm.then ?_|refine Calm.block ?_)) (by kernel_rfl) [17] (by kernel_rfl) rfl ?_
          (refine DO.loadL tab 18 1 (by repeat (first|exact Calm.ret|refine Calm.then ?_|refine Calm.block ?_)) (by kernel_rfl) (by kernel_rfl) rfl rfl rfl rfl rfl rfl rfl rfl ?_)
          refine DO.pure tab (by repeat (first|exact Calm.ret|refine Calm.then ?_|refine Calm.block ?_)) (by kernel_rfl) [19] (by kernel_rfl) rfl ?_
          (refine DO.loadL tab 20 0 (by repeat (first|exact Calm.ret|refine Calm.then ?_|refine Calm.block ?_)) (by kernel_rfl) (by kernel_rfl) rfl rfl rfl rfl rfl rfl rfl rfl ?_)
          refine DO.index tab rStrs 21 s.iface.toNat hr.ifaces (by repeat (first|exact Calm.ret|refine Calm.then ?_|refine Calm.block ?_)) (by kernel_rfl) (by kernel_rfl) rfl rfl rfl rfl rfl rfl rfl (by first | rfl | omega) rfl (getD_some _ _ [] (by omega)) ?_
          rintro bi ii hi hri hAi
          (refine DO.loadA (k := 0) tab 22 hAi (by repeat (first|exact Calm.ret|refine Calm.then ?_|refine Calm.block ?_)) (by kernel_rfl) (by kernel_rfl) rfl rfl rfl rfl rfl rfl rfl ?_)
          refine DO.pure tab (by repeat (first|exact Calm.ret|refine Calm.then ?_|refine Calm.block ?_)) (by kernel_rfl) [23] (by kernel_rfl) rfl ?_
          (refine DO.loadL tab 24 0 (by repeat (first|exact Calm.ret|refine Calm.then ?_|refine Calm.block ?_)) (by kernel_rfl) (by kernel_rfl) rfl rfl rfl rfl rfl rfl rfl rfl ?_)
          refine DO.run 25 rfl rfl (by kernel_rfl) rfl (OT.call rfl rfl rfl rfl rfl rfl goes36 ((contains_str m _ hi _ s.method hri).x ?_))
          rintro _ _ _ ⟨rfl, rfl, rfl⟩; refine ⟨Mem.le_refl _, _, List.Perm.refl _, ?_⟩
          refine DO.pure tab (by repeat (first|exact Calm.ret|refine Calm.then ?_|refine Calm.block ?_)) (by kernel_rfl) [26, 27] (by kernel_rfl) rfl ?_
          (refine DO.nil0 (by kernel_rfl) ?_)
          rotate_left 1
          refine DO.pure tab (by repeat (first|exact Calm.ret|refine Calm.then ?_|refine Calm.block ?_)) (by kernel_rfl) [17, 18, 19, 20, 21, 22, 23, 24, 25, 26, 27] (by kernel_rfl) rfl ?_
          (refine DO.nil0 (by kernel_rfl) ?_)
          rotate_left 1
          refine DO.pure tab (by repeat (first|exact Calm.ret|refine Calm.then ?_|refine Calm.block ?_)) (by kernel_rfl) [12, 13, 14, 15, 16, 17, 18, 19, 20, 21, 22, 23, 24, 25, 26, 27] (by kernel_rfl) rfl ?_
          (refine DO.nil0 (by kernel_rfl) ?_)
          rotate_left 1
          refine DO.pure tab (by repeat (first|exact Calm.ret|refine Calm.then ?_|refine Calm.block ?_)) (by kernel_rfl) [4, 5, 6, 7, 8, 9, 10, 11, 12, 13, 14, 15, 16, 17, 18, 19, 20, 21, 22, 23, 24, 25, 26, 27] (by kernel_rfl) rfl ?_
          (refine DO.nil0 (by kernel_rfl) ?_)
          rotate_left 1
          · repeat (refine q6 ?_)
            refine ⟨_, (by repeat (first|exact trivial|refine And.intro rfl ?_)), (by repeat (first|exact trivial|refine And.intro rfl ?_)), rfl, rfl, (by repeat (exact List.Sublist.refl _)), ?_⟩
            rw [decide_eq_true_eq]
            exact ⟨fun e => ⟨by omega, by omega, by omega, e⟩, fun e => e.2.2.2⟩
          · repeat (refine q6 ?_)
            refine ⟨_, (by repeat (first|exact trivial|refine And.intro rfl ?_)), (by repeat (first|exact trivial|refine And.intro rfl ?_)), rfl, rfl, (by repeat (exact List.Sublist.refl _)), ?_⟩
            exact ⟨fun e => (by cases e), fun e => absurd e.2.2.1 (by omega)⟩
          · repeat (refine q6 ?_)
            refine ⟨_, (by repeat (first|exact trivial|refine And.intro rfl ?_)), (by repeat (first|exact trivial|refine And.intro rfl ?_)), rfl, rfl, (by repeat (exact List.Sublist.refl _)), ?_⟩
            exact ⟨fun e => (by cases e), fun e => absurd e.2.1 (by omega)⟩
          · repeat (refine q6 ?_)
            refine ⟨_, (by repeat (first|exact trivial|refine And.intro rfl ?_)), (by repeat (first|exact trivial|refine And.intro rfl ?_)), rfl, rfl, (by repeat (exact List.Sublist.refl _)), ?_⟩
            exact ⟨fun e => (by cases e), fun e => absurd e.1 (by omega)⟩
        intro t ht
        repeat (first|(first|refine q1 ?_|refine q3 ?_|refine q4 tab rfl rfl ?_)|(refine qs rfl (ql tab 0 rfl rfl rfl rfl rfl rfl ?_)))
        refine TO.step rfl (OT.call rfl rfl rfl rfl rfl rfl goes32 ((none_cl m _ b hh 1 rfl s.frm).x ?_));
        rintro _ _ _ ⟨rfl, rfl, rfl⟩
        repeat (refine q4 tab rfl rfl ?_)
        have hsok : SiteOk h s ↔ (0 ≤ s.frm ∧ s.frm < h.funcs) ∧ (d = true ∨ t = true) := by
          rw [hd, ht]
          exact ⟨fun e => ⟨e.frm, e.how⟩, fun e => ⟨e.1, e.2⟩⟩
        (refine TO.splitP rfl rfl (fun hn => ?_) (fun hn => ?_))
        · repeat (first|refine q1 ?_|refine q3 ?_|refine q4 tab rfl rfl ?_|refine q5 ?_|refine q6 ?_|refine q8 ?_|refine q9 ?_|refine q15 ?_|refine q16 rfl ?_)
          refine retQ_ret rfl (by repeat (first|exact List.Sublist.refl _|refine List.Sublist.cons _ ?_)) ⟨rfl, rfl, ?_⟩
          rw [sound2 hsm (fun hg => ?_)]
          have := (hsok.1 (hg.sites s (by rw [← hsx]; exact List.getElem_mem hlt))).1
          omega
        repeat (refine q4 tab rfl rfl ?_)
        have fin : ∀ (hok : SiteOk h s), ∃ x', x' = k + 1 ∧ (x' ≤ h.sites.length ∧ ∀ c ∈ h.sites.take x', SiteOk h c) ∧ h.sites.length - x' < h.sites.length - k := fun hok => by
          refine ⟨k + 1, rfl, ⟨by omega, fun c hc => ?_⟩, by omega⟩
          rw [List.take_succ_eq_append_getElem hlt] at hc
          rcases List.mem_append.1 hc with hc | hc
          · exact hI c hc
          · simp only [List.mem_singleton] at hc
            subst hc; rw [hsx]; exact hok
        cases d with
        | true =>
          repeat (first|refine q3 ?_|refine q4 tab rfl rfl ?_|refine q5 ?_|refine q6 ?_|refine q7 ?_|refine q13 ?_|refine q17 rfl ?_)
          refine TO.step rfl (OT.arith (r' := ((k + 1 : Nat) : Int)) rfl rfl rfl rfl rfl rfl rfl (by omega) ?_)
          repeat (first|refine q4 tab rfl rfl ?_|refine q5 ?_|refine q6 ?_)
          obtain ⟨_, rfl, f1, f2⟩ := fin (hsok.2 ⟨by omega, .inl rfl⟩)
          exact ⟨k + 1, (by repeat (first|exact trivial|refine And.intro rfl ?_)), (by repeat (first|exact trivial|refine And.intro rfl ?_)), rfl, rfl, (by repeat (first|exact List.Sublist.refl _|refine List.Sublist.cons _ ?_)), f1, f2⟩
        | false =>
          cases t with
          | true =>
            repeat (first|refine q3 ?_|refine q4 tab rfl rfl ?_|refine q5 ?_|refine q6 ?_|refine q7 ?_|refine q13 ?_|refine q17 rfl ?_)
            refine TO.step rfl (OT.arith (r' := ((k + 1 : Nat) : Int)) rfl rfl rfl rfl rfl rfl rfl (by omega) ?_)
            repeat (first|refine q4 tab rfl rfl ?_|refine q5 ?_|refine q6 ?_)
            obtain ⟨_, rfl, f1, f2⟩ := fin (hsok.2 ⟨by omega, .inr rfl⟩)
            exact ⟨k + 1, (by repeat (first|exact trivial|refine And.intro rfl ?_)), (by repeat (first|exact trivial|refine And.intro rfl ?_)), rfl, rfl, (by repeat (first|exact List.Sublist.refl _|refine List.Sublist.cons _ ?_)), f1, f2⟩
          | false =>
            repeat (first|refine q1 ?_|refine q3 ?_|refine q4 tab rfl rfl ?_|refine q5 ?_|refine q6 ?_|refine q8 ?_|refine q9 ?_|refine q15 ?_|refine q16 rfl ?_)
            refine retQ_ret rfl (by repeat (first|exact List.Sublist.refl _|refine List.Sublist.cons _ ?_)) ⟨rfl, rfl, ?_⟩
            rw [sound2 hsm (fun hg => ?_)]
            have := (hsok.1 (hg.sites s (by rw [← hsx]; exact List.getElem_mem hlt))).2
            simp at this
      · repeat (first|refine q1 ?_|refine q3 ?_|refine q4 tab rfl rfl ?_|refine q5 ?_|refine q6 ?_|refine q10 ?_|refine q11 ?_|refine q14 ?_|refine q15 ?_)
        refine retQ_ret rfl (by repeat (first|exact List.Sublist.refl _|refine List.Sublist.cons _ ?_)) ⟨rfl, rfl, ?_⟩
        rw [sound0 hsm]
        exact ⟨by omega, hcl, hif, fun s hs => hI s (by rw [List.take_of_length_le (by omega)]; exact hs)⟩
end Go.Sep

/-
  Walks of layer 13: Sound, of the reference.
-/
set_option linter.unusedVariables false
set_option linter.unusedSimpArgs false
namespace Go.Sep
open Go.Proofs
attribute [local irreducible] TC TO OT TCallX TCall DO DOt thenQ blockQ retQ At

set_option maxHeartbeats 1000000 in
theorem sound_ref (m : Mem) (L : List Item) (hh : HHier) (h : Hier) (hr : HierRep m hh h) :
    TCall Try.prog 6 ⟨[hierV hh]⟩ m L (Ret (.int .i64 (soundM h)) m L) := by
  have h1 := hr.classes.len
  have h2 := hr.ifaces.len
  have h3 := hr.sites.len
  have h4 := hr.funcs
  have hq1 := hr.classes.small rfl
  have hq2 := hr.ifaces.small rfl
  have hq3 := hr.sites.small rfl
  unfold TCall
  refine TCallX.enter Try.func6 rfl 161 rfl ?_
  repeat (first|refine q1 ?_|refine q3 ?_)
  refine TO.step rfl (OT.box rfl rfl rfl rfl rfl (fun b => ?_))
  repeat' (first|(first|refine q1 ?_|refine q3 ?_|refine q4 tab rfl rfl ?_|refine q5 ?_|refine q6 ?_|refine q8 ?_|refine q15 ?_|refine q16 rfl ?_)|(refine qs rfl (ql tab 0 rfl rfl rfl rfl rfl rfl ?_))|(refine TO.splitP rfl rfl (fun hb => ?_) (fun hb => ?_)))
  · refine retQ_ret rfl (by repeat (first|exact List.Sublist.refl _|refine List.Sublist.cons _ ?_)) ⟨rfl, rfl, ?_⟩
    rw [sound4 (fun hs => by have := hs.1; omega)]
  · refine retQ_ret rfl (by repeat (first|exact List.Sublist.refl _|refine List.Sublist.cons _ ?_)) ⟨rfl, rfl, ?_⟩
    rw [sound4 (fun hs => by have := hs.2.1; omega)]
  · refine retQ_ret rfl (by repeat (first|exact List.Sublist.refl _|refine List.Sublist.cons _ ?_)) ⟨rfl, rfl, ?_⟩
    rw [sound4 (fun hs => by have := hs.2.2.1; omega)]
  refine TC.condP rfl (fun hb => ?_) (fun hb => ?_)
  · repeat (first|refine q1 ?_|refine q3 ?_|refine q4 tab rfl rfl ?_|refine q5 ?_|refine q6 ?_|refine q8 ?_|refine q15 ?_)
    refine retQ_ret rfl (by repeat (first|exact List.Sublist.refl _|refine List.Sublist.cons _ ?_)) ⟨rfl, rfl, ?_⟩
    rw [sound4 (fun hs => by have := hs.2.2.2; omega)]
  have hsm : Small h := ⟨by omega, by omega, by omega, by omega⟩
  repeat (first|(first|refine q1 ?_|refine q3 ?_|refine q4 tab rfl rfl ?_|refine q5 ?_|refine q6 ?_|refine q13 ?_)|(refine qs rfl (ql tab 0 rfl rfl rfl rfl rfl rfl ?_)))
  refine TC.condP rfl (fun hb => ?_) (fun hb => ?_)
  · repeat (first|refine q1 ?_|refine q3 ?_|refine q4 tab rfl rfl ?_|refine q5 ?_|refine q6 ?_|refine q8 ?_|refine q15 ?_)
    refine retQ_ret rfl (by repeat (first|exact List.Sublist.refl _|refine List.Sublist.cons _ ?_)) ⟨rfl, rfl, ?_⟩
    rw [sound2 hsm (fun hg => by have := hg.funcs; omega)]
  repeat (first|refine q1 ?_|refine q2 ?_|refine q3 ?_|refine q4 tab rfl rfl ?_|refine q5 ?_|refine q6 ?_|refine q13 ?_)
  refine TC.loopK (ι := Nat) [1] rfl (fun k => [(3, .int .i64 (k : Int))]) (fun _ => m) (fun _ => .cells b 0 (hierC hh) :: L) (fun k => k ≤ h.classes.length ∧ ∀ c ∈ h.classes.take k, ClassOk h c) (fun k => h.classes.length - k) 0 (by repeat (first|exact trivial|refine And.intro rfl ?_)) rfl (by repeat (exact List.Sublist.refl _)) ⟨Nat.zero_le _, by simp⟩ ?_
  rintro k ⟨hk, hI⟩
  repeat (first|(first|refine q1 ?_|refine q3 ?_|refine q4 tab rfl rfl ?_|refine q5 ?_|refine q6 ?_)|(refine qs rfl (ql tab 0 rfl rfl rfl rfl rfl rfl ?_)))
  refine TC.condP rfl (fun hlt' => ?_) (fun hlt' => ?_)
  · have hlt : k < h.classes.length := by omega
    have hx : h.classes[k]? = some h.classes[k] := by simp [hlt]
    repeat (first|(first|refine q1 ?_|refine q2 ?_|refine q3 ?_|refine q4 tab rfl rfl ?_|refine q6 ?_|refine q13 ?_)|(refine qs rfl (ql tab 0 rfl rfl rfl rfl rfl rfl ?_)))
    refine TO.step rfl (OT.index tab rClass k hr.classes rfl rfl rfl rfl rfl (by first | rfl | omega) rfl hx ?_)
    rintro b' i hd hrc hA
    (refine TO.step rfl (OT.loadA0 tab hA rfl rfl rfl rfl rfl ?_))
    refine TO.step rfl (OT.alloc tab rfl rfl rfl rfl (fun bc => ?_))
    (refine TO.step rfl (OT.storeL0 tab 0 rfl rfl rfl rfl rfl rfl rfl rfl ?_))
    generalize hcx : h.classes[k] = c at *
    repeat (first|(first|refine q1 ?_|refine q3 ?_|refine q4 tab rfl rfl ?_|refine q5 ?_|refine q6 ?_)|(refine qs rfl (ql tab 0 rfl rfl rfl rfl rfl rfl ?_)))
    refine TO.step rfl (OT.call rfl rfl rfl rfl rfl rfl goes13 ((twice_ref m _ hd.methods _ hrc.1).x ?_));
    rintro _ _ _ ⟨rfl, rfl, rfl⟩
    have e2 := hrc.1.len
    have e3 := hrc.2.len
    repeat' (first|(first|refine q1 ?_|refine q3 ?_|refine q4 tab rfl rfl ?_|refine q5 ?_|refine q6 ?_|refine q8 ?_|refine q9 ?_|refine q15 ?_|refine q16 rfl ?_)|(refine qs rfl (ql tab 0 rfl rfl rfl rfl rfl rfl ?_))|(refine TO.splitN rfl rfl (fun hb => ?_) (fun hb => ?_)))
    · refine retQ_ret rfl (by repeat (first|exact List.Sublist.refl _|refine List.Sublist.cons _ ?_)) ⟨rfl, rfl, ?_⟩
      rw [sound2 hsm (fun hg => ?_)]
      exact hb (hg.classes c (by rw [← hcx]; exact List.getElem_mem hlt)).once
    refine TC.condN rfl (fun hle => ?_) (fun hle => ?_)
    · repeat (first|refine q1 ?_|refine q3 ?_|refine q4 tab rfl rfl ?_|refine q5 ?_|refine q6 ?_|refine q8 ?_|refine q9 ?_|refine q15 ?_)
      refine retQ_ret rfl (by repeat (first|exact List.Sublist.refl _|refine List.Sublist.cons _ ?_)) ⟨rfl, rfl, ?_⟩
      rw [sound2 hsm (fun hg => ?_)]
      have e1 := (hg.classes c (by rw [← hcx]; exact List.getElem_mem hlt)).len
      omega
    repeat (first|refine q1 ?_|refine q2 ?_|refine q3 ?_|refine q4 tab rfl rfl ?_|refine q5 ?_|refine q6 ?_|refine q13 ?_)
    refine TC.loopK (ι := Nat) [1, 3, 4] rfl (fun j => [(5, .int .i64 (j : Int))]) (fun _ => m) (fun _ => .cells bc 0 (classC hd) :: .cells b 0 (hierC hh) :: L) (fun j => j ≤ c.funcs.length ∧ ∀ x ∈ c.funcs.take j, 0 ≤ x ∧ x < h.funcs) (fun j => c.funcs.length - j) 0 (by repeat (first|exact trivial|refine And.intro rfl ?_)) rfl (by repeat (exact List.Sublist.refl _)) ⟨Nat.zero_le _, by simp⟩ ?_
    rintro j ⟨hj, hJ⟩
    have qc := hrc.2.small rfl
    repeat (first|(first|refine q1 ?_|refine q3 ?_|refine q4 tab rfl rfl ?_|refine q5 ?_|refine q6 ?_)|(refine qs rfl (ql tab 0 rfl rfl rfl rfl rfl rfl ?_)))
    refine TC.condP rfl (fun hjt' => ?_) (fun hjt' => ?_)
    · have hjt : j < c.funcs.length := by omega
      have hjx : c.funcs[j]? = some c.funcs[j] := by simp [hjt]
      repeat (first|refine q1 ?_|refine q2 ?_|refine q6 ?_|refine q13 ?_)
      refine TC.draw0 [] mixed 16 rfl ?_
      refine DO.pure tab (by repeat (first|exact Calm.ret|refine Calm.then ?_|refine Calm.block ?_)) (by kernel_rfl) [0] (by kernel_rfl) rfl ?_
      (refine DO.loadL tab 1 0 (by repeat (first|exact Calm.ret|refine Calm.then ?_|refine Calm.block ?_)) (by kernel_rfl) (by kernel_rfl) rfl rfl rfl rfl rfl rfl rfl rfl ?_)
      refine DO.pure tab (by repeat (first|exact Calm.ret|refine Calm.then ?_|refine Calm.block ?_)) (by kernel_rfl) [2] (by kernel_rfl) rfl ?_
      refine DO.index tab rInt 3 j hrc.2 (by repeat (first|exact Calm.ret|refine Calm.then ?_|refine Calm.block ?_)) (by kernel_rfl) (by kernel_rfl) rfl rfl rfl rfl rfl rfl rfl (by first | rfl | omega) rfl hjx ?_
      rintro bf fi _ rfl hAf
      (refine DO.loadA (k := 0) tab 4 hAf (by repeat (first|exact Calm.ret|refine Calm.then ?_|refine Calm.block ?_)) (by kernel_rfl) (by kernel_rfl) rfl rfl rfl rfl rfl rfl rfl ?_)
      refine DO.pure tab (by repeat (first|exact Calm.ret|refine Calm.then ?_|refine Calm.block ?_)) (by kernel_rfl) [5, 6] (by kernel_rfl) rfl ?_
      (refine DO.splitP (d := 70) rfl (fun hg6 => ?_) (fun hg6 => ?_))
      refine DO.pure tab (by repeat (first|exact Calm.ret|refine Calm.then ?_|refine Calm.block ?_)) (by kernel_rfl) [7, 8, 9, 10, 11, 12, 13, 14, 15] (by kernel_rfl) rfl ?_
      (refine DO.nil0 (by kernel_rfl) ?_)
      rotate_left 1
      refine DO.pure tab (by repeat (first|exact Calm.ret|refine Calm.then ?_|refine Calm.block ?_)) (by kernel_rfl) [7] (by kernel_rfl) rfl ?_
      (refine DO.loadL tab 8 0 (by repeat (first|exact Calm.ret|refine Calm.then ?_|refine Calm.block ?_)) (by kernel_rfl) (by kernel_rfl) rfl rfl rfl rfl rfl rfl rfl rfl ?_)
      refine DO.pure tab (by repeat (first|exact Calm.ret|refine Calm.then ?_|refine Calm.block ?_)) (by kernel_rfl) [9] (by kernel_rfl) rfl ?_
      refine DO.index tab rInt 10 j hrc.2 (by repeat (first|exact Calm.ret|refine Calm.then ?_|refine Calm.block ?_)) (by kernel_rfl) (by kernel_rfl) rfl rfl rfl rfl rfl rfl rfl (by first | rfl | omega) rfl hjx ?_
      rintro bf2 fi2 _ rfl hAf2
      (refine DO.loadA (k := 0) tab 11 hAf2 (by repeat (first|exact Calm.ret|refine Calm.then ?_|refine Calm.block ?_)) (by kernel_rfl) (by kernel_rfl) rfl rfl rfl rfl rfl rfl rfl ?_)
      refine DO.pure tab (by repeat (first|exact Calm.ret|refine Calm.then ?_|refine Calm.block ?_)) (by kernel_rfl) [12] (by kernel_rfl) rfl ?_
      (refine DO.loadL tab 13 1 (by repeat (first|exact Calm.ret|refine Calm.then ?_|refine Calm.block ?_)) (by kernel_rfl) (by kernel_rfl) rfl rfl rfl rfl rfl rfl rfl rfl ?_)
      refine DO.pure tab (by repeat (first|exact Calm.ret|refine Calm.then ?_|refine Calm.block ?_)) (by kernel_rfl) [14, 15] (by kernel_rfl) rfl ?_
      (refine DO.nil0 (by kernel_rfl) ?_)
      rotate_left 1
      · repeat (first|refine q1 ?_|refine q3 ?_|refine q4 tab rfl rfl ?_|refine q5 ?_|refine q6 ?_|refine q8 ?_|refine q9 ?_|refine q15 ?_|refine q16 rfl ?_)
        refine retQ_ret rfl (by repeat (first|exact List.Sublist.refl _|refine List.Sublist.cons _ ?_)) ⟨rfl, rfl, ?_⟩
        rw [sound2 hsm (fun hg => ?_)]
        have := (hg.classes c (by rw [← hcx]; exact List.getElem_mem hlt)).funcs _ (List.getElem_mem hjt)
        omega
      · repeat (refine q6 ?_)
        refine TC.condP rfl (fun hge => ?_) (fun hge => ?_)
        · repeat (first|refine q1 ?_|refine q3 ?_|refine q4 tab rfl rfl ?_|refine q5 ?_|refine q6 ?_|refine q8 ?_|refine q9 ?_|refine q15 ?_)
          refine retQ_ret rfl (by repeat (first|exact List.Sublist.refl _|refine List.Sublist.cons _ ?_)) ⟨rfl, rfl, ?_⟩
          rw [sound2 hsm (fun hg => ?_)]
          have := (hg.classes c (by rw [← hcx]; exact List.getElem_mem hlt)).funcs _ (List.getElem_mem hjt)
          omega
        · repeat (first|refine q3 ?_|refine q4 tab rfl rfl ?_|refine q6 ?_|refine q7 ?_|refine q13 ?_)
          refine TO.step rfl (OT.arith (r' := ((j + 1 : Nat) : Int)) rfl rfl rfl rfl rfl rfl rfl (by omega) ?_)
          repeat (first|refine q4 tab rfl rfl ?_|refine q5 ?_|refine q6 ?_)
          refine ⟨j + 1, (by repeat (first|exact trivial|refine And.intro rfl ?_)), (by repeat (first|exact trivial|refine And.intro rfl ?_)), rfl, rfl, (by repeat (exact List.Sublist.refl _)), ⟨by omega, ?_⟩, by omega⟩
          intro x hx
          rw [List.take_succ_eq_append_getElem hjt] at hx
          rcases List.mem_append.1 hx with hx | hx
          · exact hJ x hx
          · simp at hx; subst hx; omega
    · repeat (first|refine q3 ?_|refine q4 tab rfl rfl ?_|refine q6 ?_|refine q7 ?_|refine q10 ?_|refine q11 ?_|refine q14 ?_)
      refine TO.step rfl (OT.arith (r' := ((k + 1 : Nat) : Int)) rfl rfl rfl rfl rfl rfl rfl (by omega) ?_)
      repeat (first|refine q4 tab rfl rfl ?_|refine q5 ?_|refine q6 ?_)
      refine ⟨k + 1, (by repeat (first|exact trivial|refine And.intro rfl ?_)), (by repeat (first|exact trivial|refine And.intro rfl ?_)), rfl, rfl, (by repeat (first|exact List.Sublist.refl _|refine List.Sublist.cons _ ?_)), ⟨by omega, ?_⟩, by omega⟩
      intro c' hc
      rw [List.take_succ_eq_append_getElem hlt] at hc
      rcases List.mem_append.1 hc with hc | hc
      · exact hI c' hc
      · simp only [List.mem_singleton] at hc
        subst hc
        rw [hcx]
        exact ⟨hb, by omega, fun x hx1 => hJ x (by rw [List.take_of_length_le (by omega)]; exact hx1)⟩
  · have hcl : ∀ c ∈ h.classes, ClassOk h c := fun c hc => hI c (by rw [List.take_of_length_le (by omega)]; exact hc)
    clear hI hlt' hk
    repeat (first|refine q1 ?_|refine q2 ?_|refine q3 ?_|refine q4 tab rfl rfl ?_|refine q5 ?_|refine q6 ?_|refine q10 ?_|refine q11 ?_|refine q14 ?_)
    refine TC.loopK (ι := Nat) [1] rfl (fun k => [(6, .int .i64 (k : Int))]) (fun _ => m) (fun _ => .cells b 0 (hierC hh) :: L) (fun k => k ≤ h.ifaces.length ∧ ∀ c ∈ h.ifaces.take k, c.Nodup) (fun k => h.ifaces.length - k) 0 (by repeat (first|exact trivial|refine And.intro rfl ?_)) rfl (by repeat (exact List.Sublist.refl _)) ⟨Nat.zero_le _, by simp⟩ ?_
    rintro k ⟨hk, hI⟩
    repeat (first|(first|refine q1 ?_|refine q3 ?_|refine q4 tab rfl rfl ?_|refine q5 ?_|refine q6 ?_)|(refine qs rfl (ql tab 0 rfl rfl rfl rfl rfl rfl ?_)))
    refine TC.condP rfl (fun hlt' => ?_) (fun hlt' => ?_)
    · have hlt : k < h.ifaces.length := by omega
      have hx : h.ifaces[k]? = some h.ifaces[k] := by simp [hlt]
      repeat (first|(first|refine q1 ?_|refine q2 ?_|refine q3 ?_|refine q4 tab rfl rfl ?_|refine q6 ?_|refine q13 ?_)|(refine qs rfl (ql tab 0 rfl rfl rfl rfl rfl rfl ?_)))
      refine TO.step rfl (OT.index tab rStrs k hr.ifaces rfl rfl rfl rfl rfl (by first | rfl | omega) rfl hx ?_)
      rintro b' i hi hri hA
      (refine TO.step rfl (OT.loadA0 tab hA rfl rfl rfl rfl rfl ?_))
      skip
      refine TO.step rfl (OT.call rfl rfl rfl rfl rfl rfl goes13 ((twice_ref m _ hi _ hri).x ?_));
      rintro _ _ _ ⟨rfl, rfl, rfl⟩
      repeat (first|refine q5 ?_|refine q6 ?_)
      refine TC.condN rfl (fun hnd => ?_) (fun hnd => ?_)
      · repeat (first|refine q1 ?_|refine q3 ?_|refine q4 tab rfl rfl ?_|refine q5 ?_|refine q6 ?_|refine q8 ?_|refine q9 ?_|refine q15 ?_)
        refine retQ_ret rfl (by repeat (first|exact List.Sublist.refl _|refine List.Sublist.cons _ ?_)) ⟨rfl, rfl, ?_⟩
        rw [sound2 hsm (fun hg => hnd (hg.ifaces _ (List.getElem_mem hlt)))]
      · repeat (first|refine q3 ?_|refine q4 tab rfl rfl ?_|refine q6 ?_|refine q7 ?_|refine q13 ?_)
        refine TO.step rfl (OT.arith (r' := ((k + 1 : Nat) : Int)) rfl rfl rfl rfl rfl rfl rfl (by omega) ?_)
        repeat (first|refine q4 tab rfl rfl ?_|refine q5 ?_|refine q6 ?_)
        refine ⟨k + 1, (by repeat (first|exact trivial|refine And.intro rfl ?_)), (by repeat (first|exact trivial|refine And.intro rfl ?_)), rfl, rfl, (by repeat (exact List.Sublist.refl _)), ⟨by omega, ?_⟩, by omega⟩
        intro c' hc
        rw [List.take_succ_eq_append_getElem hlt] at hc
        rcases List.mem_append.1 hc with hc | hc
        · exact hI c' hc
        · simp only [List.mem_singleton] at hc
          subst hc; exact hnd
    · have hif : ∀ i ∈ h.ifaces, i.Nodup := fun c hc => hI c (by rw [List.take_of_length_le (by omega)]; exact hc)
      clear hI hlt' hk
      repeat (first|refine q1 ?_|refine q2 ?_|refine q3 ?_|refine q4 tab rfl rfl ?_|refine q5 ?_|refine q6 ?_|refine q10 ?_|refine q11 ?_|refine q14 ?_)
      refine TC.loopK (ι := Nat) [1] rfl (fun k => [(7, .int .i64 (k : Int))]) (fun _ => m) (fun _ => .cells b 0 (hierC hh) :: L) (fun k => k ≤ h.sites.length ∧ ∀ c ∈ h.sites.take k, SiteOk h c) (fun k => h.sites.length - k) 0 (by repeat (first|exact trivial|refine And.intro rfl ?_)) rfl (by repeat (exact List.Sublist.refl _)) ⟨Nat.zero_le _, by simp⟩ ?_
      rintro k ⟨hk, hI⟩
      repeat (first|(first|refine q1 ?_|refine q3 ?_|refine q4 tab rfl rfl ?_|refine q5 ?_|refine q6 ?_)|(refine qs rfl (ql tab 0 rfl rfl rfl rfl rfl rfl ?_)))
      refine TC.condP rfl (fun hlt' => ?_) (fun hlt' => ?_)
      · have hlt : k < h.sites.length := by omega
        have hx : h.sites[k]? = some h.sites[k] := by simp [hlt]
        repeat (first|(first|refine q1 ?_|refine q2 ?_|refine q3 ?_|refine q4 tab rfl rfl ?_|refine q6 ?_|refine q13 ?_)|(refine qs rfl (ql tab 0 rfl rfl rfl rfl rfl rfl ?_)))
        refine TO.step rfl (OT.index tab rSite k hr.sites rfl rfl rfl rfl rfl (by first | rfl | omega) rfl hx ?_)
        rintro b' i hd rfl hA
        (refine TO.step rfl (OT.loadA0 tab hA rfl rfl rfl rfl rfl ?_))
        refine TO.step rfl (OT.alloc tab rfl rfl rfl rfl (fun bc => ?_))
        (refine TO.step rfl (OT.storeL0 tab 0 rfl rfl rfl rfl rfl rfl rfl rfl ?_))
        generalize hsx : h.sites[k] = s at *
        have hms : s ∈ h.sites := by rw [← hsx]; exact List.getElem_mem hlt
        have fin : ∀ (hok : SiteOk h s), (k + 1 ≤ h.sites.length ∧ ∀ c ∈ h.sites.take (k + 1), SiteOk h c) ∧ h.sites.length - (k + 1) < h.sites.length - k := fun hok => by
          refine ⟨⟨by omega, fun c hc => ?_⟩, by omega⟩
          rw [List.take_succ_eq_append_getElem hlt] at hc
          rcases List.mem_append.1 hc with hc | hc
          · exact hI c hc
          · simp only [List.mem_singleton] at hc
            subst hc; rw [hsx]; exact hok
        repeat' (first|(first|refine q1 ?_|refine q3 ?_|refine q4 tab rfl rfl ?_|refine q5 ?_|refine q6 ?_|refine q8 ?_|refine q9 ?_|refine q15 ?_|refine q16 rfl ?_)|(first|refine qs rfl (ql tab 0 rfl rfl rfl rfl rfl rfl ?_)|refine qs rfl (ql tab 1 rfl rfl rfl rfl rfl rfl ?_))|(refine TO.splitP rfl rfl (fun hb => ?_) (fun hb => ?_)))
        · refine retQ_ret rfl (by repeat (first|exact List.Sublist.refl _|refine List.Sublist.cons _ ?_)) ⟨rfl, rfl, ?_⟩
          rw [sound2 hsm (fun hg => by have := (hg.sites s hms).frm; omega)]
        refine TC.condP rfl (fun hfr => ?_) (fun hfr => ?_)
        · repeat (first|refine q1 ?_|refine q3 ?_|refine q4 tab rfl rfl ?_|refine q5 ?_|refine q6 ?_|refine q8 ?_|refine q9 ?_|refine q15 ?_)
          refine retQ_ret rfl (by repeat (first|exact List.Sublist.refl _|refine List.Sublist.cons _ ?_)) ⟨rfl, rfl, ?_⟩
          rw [sound2 hsm (fun hg => by have := (hg.sites s hms).frm; omega)]
        repeat (first|(first|refine q1 ?_|refine q3 ?_|refine q4 tab rfl rfl ?_|refine q5 ?_|refine q6 ?_|refine q13 ?_)|(refine qs rfl (ql tab 0 rfl rfl rfl rfl rfl rfl ?_)))
        refine TC.condP rfl (fun hin => ?_) (fun hin => ?_)
        · have nog : ∀ hg : Good h, s.iface = -1 ∧ 0 ≤ s.to ∧ s.to < h.funcs ∧ s.method = [] := fun hg => by
            rcases (hg.sites s hms).how with e | e
            · exact e
            · omega
          repeat' (first|(first|refine q1 ?_|refine q3 ?_|refine q4 tab rfl rfl ?_|refine q5 ?_|refine q6 ?_|refine q8 ?_|refine q9 ?_|refine q15 ?_|refine q16 rfl ?_)|(first|refine qs rfl (ql tab 0 rfl rfl rfl rfl rfl rfl ?_)|refine qs rfl (ql tab 1 rfl rfl rfl rfl rfl rfl ?_))|(first|refine TO.splitP rfl rfl (fun hb => ?_) (fun hb => ?_)|refine TO.splitN rfl rfl (fun hb => ?_) (fun hb => ?_)))
          · refine retQ_ret rfl (by repeat (first|exact List.Sublist.refl _|refine List.Sublist.cons _ ?_)) ⟨rfl, rfl, ?_⟩
            rw [sound2 hsm (fun hg => by have := nog hg; omega)]
          · refine retQ_ret rfl (by repeat (first|exact List.Sublist.refl _|refine List.Sublist.cons _ ?_)) ⟨rfl, rfl, ?_⟩
            rw [sound2 hsm (fun hg => by have := nog hg; omega)]
          · refine retQ_ret rfl (by repeat (first|exact List.Sublist.refl _|refine List.Sublist.cons _ ?_)) ⟨rfl, rfl, ?_⟩
            rw [sound2 hsm (fun hg => by have := nog hg; omega)]
          refine TC.condN rfl (fun hme => ?_) (fun hme => ?_)
          · repeat (first|refine q1 ?_|refine q3 ?_|refine q4 tab rfl rfl ?_|refine q5 ?_|refine q6 ?_|refine q8 ?_|refine q9 ?_|refine q15 ?_)
            refine retQ_ret rfl (by repeat (first|exact List.Sublist.refl _|refine List.Sublist.cons _ ?_)) ⟨rfl, rfl, ?_⟩
            rw [sound2 hsm (fun hg => hme (nog hg).2.2.2)]
          · repeat (first|refine q3 ?_|refine q4 tab rfl rfl ?_|refine q6 ?_|refine q10 ?_|refine q11 ?_|refine q13 ?_|refine q14 ?_)
            refine TO.step rfl (OT.arith (r' := ((k + 1 : Nat) : Int)) rfl rfl rfl rfl rfl rfl rfl (by omega) ?_)
            repeat (first|refine q4 tab rfl rfl ?_|refine q5 ?_|refine q6 ?_)
            obtain ⟨f1, f2⟩ := fin ⟨by omega, .inl ⟨by omega, by omega, by omega, hme⟩⟩
            exact ⟨k + 1, (by repeat (first|exact trivial|refine And.intro rfl ?_)), (by repeat (first|exact trivial|refine And.intro rfl ?_)), rfl, rfl, (by repeat (first|exact List.Sublist.refl _|refine List.Sublist.cons _ ?_)), f1, f2⟩
        · have nog : ∀ hg : Good h, 0 ≤ s.iface ∧ s.iface < h.ifaces.length ∧ s.to = 0 ∧ s.method ∈ h.ifaces[s.iface.toNat]?.getD [] := fun hg => by
            rcases (hg.sites s hms).how with e | e
            · omega
            · exact e
          repeat (first|refine q1 ?_|refine q6 ?_|refine q13 ?_)
          refine TC.draw0 [] mixed 23 rfl ?_
          refine DO.pure tab (by repeat (first|exact Calm.ret|refine Calm.then ?_|refine Calm.block ?_)) (by kernel_rfl) [0] (by kernel_rfl) rfl ?_
          (refine DO.loadL tab 1 0 (by repeat (first|exact Calm.ret|refine Calm.then ?_|refine Calm.block ?_)) (by kernel_rfl) (by kernel_rfl) rfl rfl rfl rfl rfl rfl rfl rfl ?_)
          refine DO.pure tab (by repeat (first|exact Calm.ret|refine Calm.then ?_|refine Calm.block ?_)) (by kernel_rfl) [2] (by kernel_rfl) rfl ?_
          (refine DO.loadL tab 3 1 (by repeat (first|exact Calm.ret|refine Calm.then ?_|refine Calm.block ?_)) (by kernel_rfl) (by kernel_rfl) rfl rfl rfl rfl rfl rfl rfl rfl ?_)
          refine DO.pure tab (by repeat (first|exact Calm.ret|refine Calm.then ?_|refine Calm.block ?_)) (by kernel_rfl) [4, 5, 6] (by kernel_rfl) rfl ?_
          (refine DO.splitP (d := 144) rfl (fun hg6 => ?_) (fun hg6 => ?_))
          refine DO.pure tab (by repeat (first|exact Calm.ret|refine Calm.then ?_|refine Calm.block ?_)) (by kernel_rfl) [7, 8, 9, 10, 11, 12, 13, 14, 15, 16, 17, 18, 19, 20, 21, 22] (by kernel_rfl) rfl ?_
          (refine DO.nil0 (by kernel_rfl) ?_)
          rotate_left 1
          refine DO.pure tab (by repeat (first|exact Calm.ret|refine Calm.then ?_|refine Calm.block ?_)) (by kernel_rfl) [7] (by kernel_rfl) rfl ?_
          (refine DO.loadL tab 8 0 (by repeat (first|exact Calm.ret|refine Calm.then ?_|refine Calm.block ?_)) (by kernel_rfl) (by kernel_rfl) rfl rfl rfl rfl rfl rfl rfl rfl ?_)
          refine DO.pure tab (by repeat (first|exact Calm.ret|refine Calm.then ?_|refine Calm.block ?_)) (by kernel_rfl) [9, 10, 11] (by kernel_rfl) rfl ?_
          (refine DO.splitN (d := 149) rfl (fun hg11 => ?_) (fun hg11 => ?_))
          refine DO.pure tab (by repeat (first|exact Calm.ret|refine Calm.then ?_|refine Calm.block ?_)) (by kernel_rfl) [12, 13, 14, 15, 16, 17, 18, 19, 20, 21, 22] (by kernel_rfl) rfl ?_
          (refine DO.nil0 (by kernel_rfl) ?_)
          rotate_left 1
          refine DO.pure tab (by repeat (first|exact Calm.ret|refine Calm.then ?_|refine Calm.block ?_)) (by kernel_rfl) [12] (by kernel_rfl) rfl ?_
          (refine DO.loadL tab 13 1 (by repeat (first|exact Calm.ret|refine Calm.then ?_|refine Calm.block ?_)) (by kernel_rfl) (by kernel_rfl) rfl rfl rfl rfl rfl rfl rfl rfl ?_)
          refine DO.pure tab (by repeat (first|exact Calm.ret|refine Calm.then ?_|refine Calm.block ?_)) (by kernel_rfl) [14] (by kernel_rfl) rfl ?_
          (refine DO.loadL tab 15 0 (by repeat (first|exact Calm.ret|refine Calm.then ?_|refine Calm.block ?_)) (by kernel_rfl) (by kernel_rfl) rfl rfl rfl rfl rfl rfl rfl rfl ?_)
          refine DO.index tab rStrs 16 s.iface.toNat hr.ifaces (by repeat (first|exact Calm.ret|refine Calm.then ?_|refine Calm.block ?_)) (by kernel_rfl) (by kernel_rfl) rfl rfl rfl rfl rfl rfl rfl (by first | rfl | omega) rfl (getD_some _ _ [] (by omega)) ?_
          rintro bi ii hi hri hAi
          (refine DO.loadA (k := 0) tab 17 hAi (by repeat (first|exact Calm.ret|refine Calm.then ?_|refine Calm.block ?_)) (by kernel_rfl) (by kernel_rfl) rfl rfl rfl rfl rfl rfl rfl ?_)
          refine DO.pure tab (by repeat (first|exact Calm.ret|refine Calm.then ?_|refine Calm.block ?_)) (by kernel_rfl) [18] (by kernel_rfl) rfl ?_
          (refine DO.loadL tab 19 0 (by repeat (first|exact Calm.ret|refine Calm.then ?_|refine Calm.block ?_)) (by kernel_rfl) (by kernel_rfl) rfl rfl rfl rfl rfl rfl rfl rfl ?_)
          refine DO.run 20 rfl rfl (by kernel_rfl) rfl (OT.call rfl rfl rfl rfl rfl rfl goes14 ((place_str m _ hi _ s.method hri).x ?_))
          rintro _ _ _ ⟨rfl, rfl, rfl⟩; refine ⟨Mem.le_refl _, _, List.Perm.refl _, ?_⟩
          refine DO.pure tab (by repeat (first|exact Calm.ret|refine Calm.then ?_|refine Calm.block ?_)) (by kernel_rfl) [21, 22] (by kernel_rfl) rfl ?_
          (refine DO.nil0 (by kernel_rfl) ?_)
          rotate_left 1
          · repeat (first|refine q1 ?_|refine q3 ?_|refine q4 tab rfl rfl ?_|refine q5 ?_|refine q6 ?_|refine q8 ?_|refine q9 ?_|refine q15 ?_|refine q16 rfl ?_)
            refine retQ_ret rfl (by repeat (first|exact List.Sublist.refl _|refine List.Sublist.cons _ ?_)) ⟨rfl, rfl, ?_⟩
            rw [sound2 hsm (fun hg => by have := nog hg; omega)]
          · repeat (first|refine q1 ?_|refine q3 ?_|refine q4 tab rfl rfl ?_|refine q5 ?_|refine q6 ?_|refine q8 ?_|refine q9 ?_|refine q15 ?_|refine q16 rfl ?_)
            refine retQ_ret rfl (by repeat (first|exact List.Sublist.refl _|refine List.Sublist.cons _ ?_)) ⟨rfl, rfl, ?_⟩
            rw [sound2 hsm (fun hg => by have := nog hg; omega)]
          · repeat (refine q6 ?_)
            refine TC.condP rfl (fun hpl => ?_) (fun hpl => ?_)
            · repeat (first|refine q1 ?_|refine q3 ?_|refine q4 tab rfl rfl ?_|refine q5 ?_|refine q6 ?_|refine q8 ?_|refine q9 ?_|refine q15 ?_)
              refine retQ_ret rfl (by repeat (first|exact List.Sublist.refl _|refine List.Sublist.cons _ ?_)) ⟨rfl, rfl, ?_⟩
              rw [sound2 hsm (fun hg => ?_)]
              obtain ⟨jj, _, hjj⟩ := idx_mem _ s.method 0 (nog hg).2.2.2
              omega
            · repeat (first|refine q3 ?_|refine q4 tab rfl rfl ?_|refine q6 ?_|refine q7 ?_|refine q13 ?_)
              refine TO.step rfl (OT.arith (r' := ((k + 1 : Nat) : Int)) rfl rfl rfl rfl rfl rfl rfl (by omega) ?_)
              repeat (first|refine q4 tab rfl rfl ?_|refine q5 ?_|refine q6 ?_)
              obtain ⟨f1, f2⟩ := fin ⟨by omega, .inr ⟨by omega, by omega, by omega, Decidable.byContradiction fun hn => hpl (by rw [idx_not _ _ _ hn]; decide)⟩⟩
              exact ⟨k + 1, (by repeat (first|exact trivial|refine And.intro rfl ?_)), (by repeat (first|exact trivial|refine And.intro rfl ?_)), rfl, rfl, (by repeat (first|exact List.Sublist.refl _|refine List.Sublist.cons _ ?_)), f1, f2⟩
      · repeat (first|refine q1 ?_|refine q3 ?_|refine q4 tab rfl rfl ?_|refine q5 ?_|refine q6 ?_|refine q10 ?_|refine q11 ?_|refine q14 ?_|refine q15 ?_)
        refine retQ_ret rfl (by repeat (first|exact List.Sublist.refl _|refine List.Sublist.cons _ ?_)) ⟨rfl, rfl, ?_⟩
        rw [sound0 hsm]
        exact ⟨by omega, hcl, hif, fun s hs => hI s (by rw [List.take_of_length_le (by omega)]; exact hs)⟩
end Go.Sep

/-
  Walks of layer 13: the targets of one site, of both.
-/
set_option linter.unusedVariables false
set_option linter.unusedSimpArgs false
namespace Go.Sep
open Go.Proofs
attribute [local irreducible] TC TO OT TCallX TCall DO DOt thenQ blockQ retQ At

def steps (h : Hier) (s : Site) (k : Nat) : List Int := (h.classes.take k).foldl (stepT h s) []

theorem steps_succ (h : Hier) (s : Site) {k : Nat} (hk : k < h.classes.length) : steps h s (k + 1) = stepT h s (steps h s k) h.classes[k] := foldl_take _ _ _ hk

theorem steps_le (h : Hier) (s : Site) : ∀ {k : Nat}, k ≤ h.classes.length → (steps h s k).length ≤ k
  | 0, _ => by simp [steps]
  | k + 1, hk => by
    have ih := steps_le h s (k := k) (by omega)
    rw [steps_succ h s (by omega)]
    unfold stepT
    split
    · simp only; split
      · omega
      · simp; omega
    · omega

theorem steps_all (h : Hier) (s : Site) {k : Nat} (hk : h.classes.length ≤ k) (hi : ¬ s.iface < 0) : steps h s k = targetsM h s := by
  rw [targetsM, if_neg hi, steps, List.take_of_length_le hk]

/-- where a method is of one list that another list has wholly, it is of the other -/
theorem sat_mem {c : Class} {l : List Str} {x : Str} (h : satM c l = true) (hx : x ∈ l) : x ∈ c.methods := by
  simp only [satM, List.all_eq_true, decide_eq_true_eq] at h
  exact h x hx

theorem fun_at {h : Hier} {c : Class} (hc : ClassOk h c) {x : Str} (hx : x ∈ c.methods) : ∃ j : Nat, idx c.methods x 0 = (j : Int) ∧ ∃ f, c.funcs[j]? = some f ∧ c.funcs[(idx c.methods x 0).toNat]?.getD 0 = f := by
  obtain ⟨j, h1, h2⟩ := idx_mem c.methods x 0 hx
  have hj : j < c.methods.length := (List.getElem?_eq_some_iff.1 h1).1
  have hl := hc.len
  have hf : c.funcs[j]? = some (c.funcs[j]'(by omega)) := by simp [show j < c.funcs.length by omega]
  refine ⟨j, by rw [h2]; simp, _, hf, ?_⟩
  rw [h2]
  simp [hf]

set_option maxHeartbeats 1000000 in
theorem targets_own (m : Mem) (L : List Item) (hh : HHier) (h : Hier) (hr : HierRep m hh h) (s : Site) (hcl : ∀ c ∈ h.classes, ClassOk h c) (hs : SiteOk h s) :
    TCall Try.prog 31 ⟨[hierV hh, siteV s]⟩ m L (Made m L fun r m' => ∃ t : Sl, r = t.v ∧ SlRep rInt m' t (targetsM h s)) := by
  have h1 := hr.classes.len
  have h2 := hr.ifaces.len
  have hq1 := hr.classes.small rfl
  have hq4 : hh.classes.len * 48 ≤ 140737488355328 := hr.classes.fit
  unfold TCall
  refine TCallX.enter Try.func31 rfl 50 rfl ?_
  repeat (first|refine q1 ?_|refine q3 ?_)
  refine TO.step rfl (OT.box rfl rfl rfl rfl rfl (fun b => ?_))
  refine TO.step rfl (OT.box rfl rfl rfl rfl rfl (fun bs => ?_))
  repeat (first|(first|refine q1 ?_|refine q3 ?_|refine q4 tab rfl rfl ?_|refine q5 ?_|refine q6 ?_)|(refine qs rfl (ql tab 0 rfl rfl rfl rfl rfl rfl ?_)))
  refine TC.condP rfl (fun hb => ?_) (fun hb => ?_)
  · repeat (first|(first|refine q1 ?_|refine q3 ?_|refine q4 tab rfl rfl ?_)|(refine qs rfl (ql tab 0 rfl rfl rfl rfl rfl rfl ?_)))
    refine TO.step rfl (OT.lit tab rfl rfl rfl rfl (fun bl => ?_))
    refine TO.freeze fun m1 hm1 hA => ?_
    repeat (first|refine q4 tab rfl rfl ?_|refine q5 ?_|refine q6 ?_|refine q8 ?_|refine q15 ?_)
    refine retQ_ret rfl (by repeat (first|exact List.Sublist.refl _|refine List.Sublist.cons _ ?_)) ⟨hm1, rfl, ⟨some ⟨bl, 0, none⟩, 1, 1⟩, rfl, ?_⟩
    rw [targetsM, if_pos hb]
    exact SlRep.one hA rfl (by decide)
  · have hw := hs.how
    repeat (first|(first|refine q1 ?_|refine q2 ?_|refine q3 ?_|refine q4 tab rfl rfl ?_|refine q5 ?_|refine q6 ?_|refine q13 ?_)|(refine qs rfl (ql tab 1 rfl rfl rfl rfl rfl rfl ?_)))
    refine TC.grow0 (size := 1) ?_
    refine TC.loopK (ι := Grow) [2, 3, 16, 17] rfl (fun x => [(18, .int .i64 (x.k : Int)), (5, x.s.v)]) (fun x => x.m) (fun x => tok x.s 1 :: .cells bs 0 (siteC s) :: .cells b 0 (hierC hh) :: L) (fun x => x.k ≤ h.classes.length ∧ m ≤ x.m ∧ Own x.s ∧ SlRep rInt x.m x.s (steps h s x.k)) (fun x => h.classes.length - x.k) ⟨0, ⟨none, 0, 0⟩, m⟩ (by repeat (first|exact trivial|refine And.intro rfl ?_)) rfl (by repeat (exact List.Sublist.refl _)) ⟨Nat.zero_le _, Mem.le_refl _, Own.nil, SlRep.nil _ _⟩ ?_
    rintro ⟨k, t, m1⟩ ⟨hk, hm, ho, ht⟩
    simp only at hk hm ho ht ⊢
    have hr1 := hr.mono hm
    repeat (first|refine q1 ?_|refine q3 ?_|refine q4 tab rfl rfl ?_|refine q5 ?_|refine q6 ?_)
    refine TC.condP rfl (fun hlt' => ?_) (fun hlt' => ?_)
    · have hlt : k < h.classes.length := by omega
      have hx : h.classes[k]? = some h.classes[k] := by simp [hlt]
      have hc := hcl _ (List.getElem_mem hlt)
      have hst := steps_succ h s hlt
      have hle := steps_le h s hk
      repeat (first|refine q1 ?_|refine q2 ?_|refine q3 ?_|refine q6 ?_|refine q13 ?_)
      refine TO.step rfl (OT.index tab rClass k hr1.classes rfl rfl rfl rfl rfl (by first | rfl | omega) rfl hx ?_)
      rintro b' i hd hrc hA
      (refine TO.step rfl (OT.loadA0 tab hA rfl rfl rfl rfl rfl ?_))
      refine TO.step rfl (OT.alloc tab rfl rfl rfl rfl (fun bc => ?_))
      (refine TO.step rfl (OT.storeL0 tab 0 rfl rfl rfl rfl rfl rfl rfl rfl ?_))
      generalize hcx : h.classes[k] = c at *
      repeat (first|refine q1 ?_|refine q5 ?_|refine q6 ?_)
      have hid : s.iface.toNat < h.ifaces.length := by omega
      refine TC.draw0 [] mixed 9 rfl ?_
      (refine DO.loadL (k := 0) tab 0 0 (by repeat (first|exact Calm.ret|refine Calm.then ?_|refine Calm.block ?_)) (by kernel_rfl) (by kernel_rfl) rfl rfl rfl rfl rfl rfl rfl rfl ?_)
      refine DO.pure tab (by repeat (first|exact Calm.ret|refine Calm.then ?_|refine Calm.block ?_)) (by kernel_rfl) [1] (by kernel_rfl) rfl ?_
      (refine DO.loadL tab 2 3 (by repeat (first|exact Calm.ret|refine Calm.then ?_|refine Calm.block ?_)) (by kernel_rfl) (by kernel_rfl) rfl rfl rfl rfl rfl rfl rfl rfl ?_)
      refine DO.pure tab (by repeat (first|exact Calm.ret|refine Calm.then ?_|refine Calm.block ?_)) (by kernel_rfl) [3] (by kernel_rfl) rfl ?_
      (refine DO.loadL tab 4 2 (by repeat (first|exact Calm.ret|refine Calm.then ?_|refine Calm.block ?_)) (by kernel_rfl) (by kernel_rfl) rfl rfl rfl rfl rfl rfl rfl rfl ?_)
      refine DO.index tab rStrs 5 s.iface.toNat hr1.ifaces (by repeat (first|exact Calm.ret|refine Calm.then ?_|refine Calm.block ?_)) (by kernel_rfl) (by kernel_rfl) rfl rfl rfl rfl rfl rfl rfl (by first | rfl | omega) rfl (getD_some _ _ [] (by omega)) ?_
      rintro bi ii hi hri hAi
      (refine DO.loadA (k := 0) tab 6 hAi (by repeat (first|exact Calm.ret|refine Calm.then ?_|refine Calm.block ?_)) (by kernel_rfl) (by kernel_rfl) rfl rfl rfl rfl rfl rfl rfl ?_)
      refine DO.run 7 rfl rfl (by kernel_rfl) rfl (OT.call rfl rfl rfl rfl rfl rfl goes42 ((satisfies_own m1 _ hd c hrc hi _ hri).x ?_))
      rintro _ _ _ ⟨rfl, rfl, rfl⟩; refine ⟨Mem.le_refl _, _, List.Perm.refl _, ?_⟩
      refine DO.pure tab (by repeat (first|exact Calm.ret|refine Calm.then ?_|refine Calm.block ?_)) (by kernel_rfl) [8] (by kernel_rfl) rfl ?_
      (refine DO.nil0 (by kernel_rfl) ?_)
      rotate_left 1
      repeat (refine q6 ?_)
      refine TC.cond rfl (fun hsat => ?_) (fun hsat => ?_)
      · repeat (first|refine q3 ?_|refine q6 ?_|refine q10 ?_|refine q11 ?_|refine q14 ?_)
        refine TO.step rfl (OT.arith (r' := ((k + 1 : Nat) : Int)) rfl rfl rfl rfl rfl rfl rfl (by omega) ?_)
        repeat (first|refine q4 tab rfl rfl ?_|refine q5 ?_|refine q6 ?_)
        refine ⟨⟨k + 1, t, m1⟩, (by repeat (first|exact trivial|refine And.intro rfl ?_)), (by repeat (first|exact trivial|refine And.intro rfl ?_)), rfl, rfl, (by repeat (first|exact List.Sublist.refl _|refine List.Sublist.cons _ ?_)), ⟨by simp only; omega, hm, ho, ?_⟩, by simp only; omega⟩
        rw [hst, stepT, if_neg (by simpa using hsat)]
        exact ht
      · have hsat' : satM c (h.ifaces[s.iface.toNat]?.getD []) = true := by simpa using hsat
        have hmem : s.method ∈ c.methods := by
          rcases hw with e | e
          · omega
          · exact sat_mem hsat' e.2.2.2
        obtain ⟨j, hj, f, hf, hfd⟩ := fun_at hc hmem
        repeat (first|refine q1 ?_|refine q6 ?_|refine q13 ?_)
        refine TC.draw0 [] mixed 10 rfl ?_
        refine DO.pure tab (by repeat (first|exact Calm.ret|refine Calm.then ?_|refine Calm.block ?_)) (by kernel_rfl) [0] (by kernel_rfl) rfl ?_
        (refine DO.loadL tab 1 0 (by repeat (first|exact Calm.ret|refine Calm.then ?_|refine Calm.block ?_)) (by kernel_rfl) (by kernel_rfl) rfl rfl rfl rfl rfl rfl rfl rfl ?_)
        refine DO.pure tab (by repeat (first|exact Calm.ret|refine Calm.then ?_|refine Calm.block ?_)) (by kernel_rfl) [2] (by kernel_rfl) rfl ?_
        (refine DO.loadL tab 3 0 (by repeat (first|exact Calm.ret|refine Calm.then ?_|refine Calm.block ?_)) (by kernel_rfl) (by kernel_rfl) rfl rfl rfl rfl rfl rfl rfl rfl ?_)
        refine DO.pure tab (by repeat (first|exact Calm.ret|refine Calm.then ?_|refine Calm.block ?_)) (by kernel_rfl) [4] (by kernel_rfl) rfl ?_
        (refine DO.loadL tab 5 2 (by repeat (first|exact Calm.ret|refine Calm.then ?_|refine Calm.block ?_)) (by kernel_rfl) (by kernel_rfl) rfl rfl rfl rfl rfl rfl rfl rfl ?_)
        refine DO.run 6 rfl rfl (by kernel_rfl) rfl (OT.call rfl rfl rfl rfl rfl rfl goes43 ((index_str m1 _ hd.methods c.methods s.method hrc.1).x ?_))
        rintro _ _ _ ⟨rfl, rfl, rfl⟩; refine ⟨Mem.le_refl _, _, List.Perm.refl _, ?_⟩
        refine DO.index tab rInt 7 j hrc.2 (by repeat (first|exact Calm.ret|refine Calm.then ?_|refine Calm.block ?_)) (by kernel_rfl) (by kernel_rfl) rfl rfl rfl rfl rfl rfl rfl (by first | rfl | omega) rfl hf ?_
        rintro bf oi fi hfe hAf; obtain rfl : f = fi := hfe.symm
        (refine DO.loadA (k := 0) tab 8 hAf (by repeat (first|exact Calm.ret|refine Calm.then ?_|refine Calm.block ?_)) (by kernel_rfl) (by kernel_rfl) rfl rfl rfl rfl rfl rfl rfl ?_)
        refine DO.pure tab (by repeat (first|exact Calm.ret|refine Calm.then ?_|refine Calm.block ?_)) (by kernel_rfl) [9] (by kernel_rfl) rfl ?_
        (refine DO.nil0 (by kernel_rfl) ?_)
        rotate_left 1
        repeat (first|refine q1 ?_|refine q3 ?_|refine q4 tab rfl rfl ?_|refine q6 ?_)
        refine TO.step rfl (OT.call rfl rfl rfl rfl rfl rfl goes37 ((contains_int m1 _ t (steps h s k) f ht).x ?_));
        rintro _ _ _ ⟨rfl, rfl, rfl⟩
        repeat (first|refine q4 tab rfl rfl ?_|refine q5 ?_|refine q6 ?_)
        refine TC.cond rfl (fun hin => ?_) (fun hin => ?_)
        · repeat (first|refine q3 ?_|refine q4 tab rfl rfl ?_)
          refine TO.step rfl (OT.lit tab rfl rfl rfl rfl (fun bl => ?_))
          refine TO.step rfl (OT.append1 tab rInt 1 (hd' := f) (a := f) ht ho rfl rfl rfl rfl rfl rfl rfl rfl (by simp only [rInt]; omega) (fun t' m2 hm2 ht' ho' => ?_))
          repeat (first|refine q3 ?_|refine q4 tab rfl rfl ?_|refine q5 ?_|refine q6 ?_|refine q7 ?_)
          refine TO.step rfl (OT.arith (r' := ((k + 1 : Nat) : Int)) rfl rfl rfl rfl rfl rfl rfl (by omega) ?_)
          repeat (first|refine q4 tab rfl rfl ?_|refine q5 ?_|refine q6 ?_)
          refine ⟨⟨k + 1, t', m2⟩, (by repeat (first|exact trivial|refine And.intro rfl ?_)), (by repeat (first|exact trivial|refine And.intro rfl ?_)), rfl, rfl, (by repeat (first|exact List.Sublist.refl _|refine List.Sublist.cons _ ?_)), ⟨by simp only; omega, Mem.le_trans hm hm2, ho', ?_⟩, by simp only; omega⟩
          rw [hst, stepT, if_pos hsat', hfd]
          simp only
          rw [if_neg (by simpa using hin)]
          exact ht'
        · repeat (first|refine q3 ?_|refine q6 ?_|refine q7 ?_|refine q13 ?_)
          refine TO.step rfl (OT.arith (r' := ((k + 1 : Nat) : Int)) rfl rfl rfl rfl rfl rfl rfl (by omega) ?_)
          repeat (first|refine q4 tab rfl rfl ?_|refine q5 ?_|refine q6 ?_)
          refine ⟨⟨k + 1, t, m1⟩, (by repeat (first|exact trivial|refine And.intro rfl ?_)), (by repeat (first|exact trivial|refine And.intro rfl ?_)), rfl, rfl, (by repeat (first|exact List.Sublist.refl _|refine List.Sublist.cons _ ?_)), ⟨by simp only; omega, hm, ho, ?_⟩, by simp only; omega⟩
          rw [hst, stepT, if_pos hsat', hfd]
          simp only
          rw [if_pos (by simpa using hin)]
          exact ht
    · repeat (first|refine q1 ?_|refine q3 ?_|refine q4 tab rfl rfl ?_|refine q5 ?_|refine q6 ?_|refine q10 ?_|refine q11 ?_|refine q14 ?_|refine q15 ?_)
      refine retQ_ret rfl (by repeat (first|exact List.Sublist.refl _|refine List.Sublist.cons _ ?_)) ⟨hm, rfl, t, rfl, ?_⟩
      rw [← steps_all h s (k := k) (by omega) hb]
      exact ht

set_option maxHeartbeats 1000000 in
theorem of_ref (m : Mem) (L : List Item) (hh : HHier) (h : Hier) (hr : HierRep m hh h) (s : Site) (hcl : ∀ c ∈ h.classes, ClassOk h c) (hs : SiteOk h s) :
    TCall Try.prog 20 ⟨[hierV hh, siteV s]⟩ m L (Made m L fun r m' => ∃ t : Sl, r = t.v ∧ SlRep rInt m' t (targetsM h s)) := by
  have h1 := hr.classes.len
  have h2 := hr.ifaces.len
  have hq1 := hr.classes.small rfl
  have hq4 : hh.classes.len * 48 ≤ 140737488355328 := hr.classes.fit
  unfold TCall
  refine TCallX.enter Try.func20 rfl 62 rfl ?_
  repeat (first|refine q1 ?_|refine q3 ?_)
  refine TO.step rfl (OT.box rfl rfl rfl rfl rfl (fun b => ?_))
  refine TO.step rfl (OT.box rfl rfl rfl rfl rfl (fun bs => ?_))
  repeat (first|(first|refine q1 ?_|refine q3 ?_|refine q4 tab rfl rfl ?_|refine q5 ?_|refine q6 ?_)|(refine qs rfl (ql tab 0 rfl rfl rfl rfl rfl rfl ?_)))
  refine TC.condP rfl (fun hb => ?_) (fun hb => ?_)
  · repeat (first|(first|refine q1 ?_|refine q3 ?_|refine q4 tab rfl rfl ?_)|(refine qs rfl (ql tab 0 rfl rfl rfl rfl rfl rfl ?_)))
    refine TO.step rfl (OT.lit tab rfl rfl rfl rfl (fun bl => ?_))
    refine TO.freeze fun m1 hm1 hA => ?_
    repeat (first|refine q4 tab rfl rfl ?_|refine q5 ?_|refine q6 ?_|refine q8 ?_|refine q15 ?_)
    refine retQ_ret rfl (by repeat (first|exact List.Sublist.refl _|refine List.Sublist.cons _ ?_)) ⟨hm1, rfl, ⟨some ⟨bl, 0, none⟩, 1, 1⟩, rfl, ?_⟩
    rw [targetsM, if_pos hb]
    exact SlRep.one hA rfl (by decide)
  · have hw := hs.how
    repeat ((first|refine q1 ?_|refine q3 ?_|refine q6 ?_|refine q13 ?_))
    refine TO.step rfl (OT.lit tab rfl rfl rfl rfl (fun bl => ?_))
    repeat (first|refine q1 ?_|refine q2 ?_|refine q3 ?_|refine q4 tab rfl rfl ?_|refine q5 ?_|refine q6 ?_)
    refine TC.growL (size := 1) bl ?_
    refine TC.loopK (ι := Grow) [2, 3] rfl (fun x => [(6, .int .i64 (x.k : Int)), (5, x.s.v)]) (fun x => x.m) (fun x => tok x.s 1 :: .cells bs 0 (siteC s) :: .cells b 0 (hierC hh) :: L) (fun x => x.k ≤ h.classes.length ∧ m ≤ x.m ∧ Own x.s ∧ SlRep rInt x.m x.s (steps h s x.k)) (fun x => h.classes.length - x.k) ⟨0, ⟨some ⟨bl, 0, none⟩, 0, 0⟩, m⟩ (by repeat (first|exact trivial|refine And.intro rfl ?_)) rfl (by repeat (first|exact List.Sublist.refl _|refine List.Sublist.cons_cons _ ?_|refine List.Sublist.cons _ ?_)) ⟨Nat.zero_le _, Mem.le_refl _, Own.lit _ _ _, SlRep.lit0 _ _ _⟩ ?_
    rintro ⟨k, t, m1⟩ ⟨hk, hm, ho, ht⟩
    simp only at hk hm ho ht ⊢
    have hr1 := hr.mono hm
    repeat (first|(first|refine q1 ?_|refine q3 ?_|refine q4 tab rfl rfl ?_|refine q5 ?_|refine q6 ?_)|(refine qs rfl (ql tab 2 rfl rfl rfl rfl rfl rfl ?_)))
    refine TC.condP rfl (fun hlt' => ?_) (fun hlt' => ?_)
    · have hlt : k < h.classes.length := by omega
      have hx : h.classes[k]? = some h.classes[k] := by simp [hlt]
      have hc := hcl _ (List.getElem_mem hlt)
      have hst := steps_succ h s hlt
      have hle := steps_le h s hk
      repeat (first|(first|refine q1 ?_|refine q2 ?_|refine q3 ?_|refine q4 tab rfl rfl ?_|refine q6 ?_|refine q13 ?_)|(refine qs rfl (ql tab 2 rfl rfl rfl rfl rfl rfl ?_)))
      refine TO.step rfl (OT.index tab rClass k hr1.classes rfl rfl rfl rfl rfl (by first | rfl | omega) rfl hx ?_)
      rintro b' i hd hrc hA
      (refine TO.step rfl (OT.loadA0 tab hA rfl rfl rfl rfl rfl ?_))
      refine TO.step rfl (OT.alloc tab rfl rfl rfl rfl (fun bc => ?_))
      (refine TO.step rfl (OT.storeL0 tab 0 rfl rfl rfl rfl rfl rfl rfl rfl ?_))
      generalize hcx : h.classes[k] = c at *
      repeat (first|refine q1 ?_|refine q5 ?_|refine q6 ?_)
      have hid : s.iface.toNat < h.ifaces.length := by omega
      have hat : satM c (h.ifaces[s.iface.toNat]?.getD []) = true → ∃ j : Nat, idx c.methods s.method 0 = (j : Int) ∧ ∃ f, c.funcs[j]? = some f ∧ c.funcs[(idx c.methods s.method 0).toNat]?.getD 0 = f := fun hsat => by
        rcases hw with e | e
        · omega
        · exact fun_at hc (sat_mem hsat e.2.2.2)
      refine TC.draw0 [] mixed 22 rfl ?_
      (refine DO.loadL (k := 0) tab 0 0 (by repeat (first|exact Calm.ret|refine Calm.then ?_|refine Calm.block ?_)) (by kernel_rfl) (by kernel_rfl) rfl rfl rfl rfl rfl rfl rfl rfl ?_)
      refine DO.pure tab (by repeat (first|exact Calm.ret|refine Calm.then ?_|refine Calm.block ?_)) (by kernel_rfl) [1] (by kernel_rfl) rfl ?_
      (refine DO.loadL tab 2 3 (by repeat (first|exact Calm.ret|refine Calm.then ?_|refine Calm.block ?_)) (by kernel_rfl) (by kernel_rfl) rfl rfl rfl rfl rfl rfl rfl rfl ?_)
      refine DO.pure tab (by repeat (first|exact Calm.ret|refine Calm.then ?_|refine Calm.block ?_)) (by kernel_rfl) [3] (by kernel_rfl) rfl ?_
      (refine DO.loadL tab 4 2 (by repeat (first|exact Calm.ret|refine Calm.then ?_|refine Calm.block ?_)) (by kernel_rfl) (by kernel_rfl) rfl rfl rfl rfl rfl rfl rfl rfl ?_)
      refine DO.index tab rStrs 5 s.iface.toNat hr1.ifaces (by repeat (first|exact Calm.ret|refine Calm.then ?_|refine Calm.block ?_)) (by kernel_rfl) (by kernel_rfl) rfl rfl rfl rfl rfl rfl rfl (by first | rfl | omega) rfl (getD_some _ _ [] (by omega)) ?_
      rintro bi ii hi hri hAi
      (refine DO.loadA (k := 0) tab 6 hAi (by repeat (first|exact Calm.ret|refine Calm.then ?_|refine Calm.block ?_)) (by kernel_rfl) (by kernel_rfl) rfl rfl rfl rfl rfl rfl rfl ?_)
      refine DO.run 7 rfl rfl (by kernel_rfl) rfl (OT.call rfl rfl rfl rfl rfl rfl goes25 ((satisfies_ref m1 _ hd c hrc hi _ hri).x ?_))
      rintro _ _ _ ⟨rfl, rfl, rfl⟩; refine ⟨Mem.le_refl _, _, List.Perm.refl _, ?_⟩
      refine DO.pure tab (by repeat (first|exact Calm.ret|refine Calm.then ?_|refine Calm.block ?_)) (by kernel_rfl) [8] (by kernel_rfl) rfl ?_
      (refine DO.split (d := 35) rfl (fun hg8 => ?_) (fun hg8 => ?_))
      refine DO.pure tab (by repeat (first|exact Calm.ret|refine Calm.then ?_|refine Calm.block ?_)) (by kernel_rfl) [9, 10] (by kernel_rfl) rfl ?_
      (refine DO.loadL tab 11 0 (by repeat (first|exact Calm.ret|refine Calm.then ?_|refine Calm.block ?_)) (by kernel_rfl) (by kernel_rfl) rfl rfl rfl rfl rfl rfl rfl rfl ?_)
      refine DO.pure tab (by repeat (first|exact Calm.ret|refine Calm.then ?_|refine Calm.block ?_)) (by kernel_rfl) [12] (by kernel_rfl) rfl ?_
      (refine DO.loadL tab 13 0 (by repeat (first|exact Calm.ret|refine Calm.then ?_|refine Calm.block ?_)) (by kernel_rfl) (by kernel_rfl) rfl rfl rfl rfl rfl rfl rfl rfl ?_)
      refine DO.pure tab (by repeat (first|exact Calm.ret|refine Calm.then ?_|refine Calm.block ?_)) (by kernel_rfl) [14] (by kernel_rfl) rfl ?_
      (refine DO.loadL tab 15 2 (by repeat (first|exact Calm.ret|refine Calm.then ?_|refine Calm.block ?_)) (by kernel_rfl) (by kernel_rfl) rfl rfl rfl rfl rfl rfl rfl rfl ?_)
      refine DO.run 16 rfl rfl (by kernel_rfl) rfl (OT.call rfl rfl rfl rfl rfl rfl goes14 ((place_str m1 _ hd.methods c.methods s.method hrc.1).x ?_))
      rintro _ _ _ ⟨rfl, rfl, rfl⟩; obtain ⟨j, hj, f, hf, hfd⟩ := hat hg8; refine ⟨Mem.le_refl _, _, List.Perm.refl _, ?_⟩
      refine DO.index tab rInt 17 j hrc.2 (by repeat (first|exact Calm.ret|refine Calm.then ?_|refine Calm.block ?_)) (by kernel_rfl) (by kernel_rfl) rfl rfl rfl rfl rfl rfl rfl (by first | rfl | omega) rfl hf ?_
      rintro bf oi fi hfe hAf; obtain rfl : f = fi := hfe.symm
      (refine DO.loadA (k := 0) tab 18 hAf (by repeat (first|exact Calm.ret|refine Calm.then ?_|refine Calm.block ?_)) (by kernel_rfl) (by kernel_rfl) rfl rfl rfl rfl rfl rfl rfl ?_)
      refine DO.run 19 rfl rfl (by kernel_rfl) rfl (OT.call rfl rfl rfl rfl rfl rfl goes26 ((has_int m1 _ t (steps h s k) f ht).x ?_))
      rintro _ _ _ ⟨rfl, rfl, rfl⟩; refine ⟨Mem.le_refl _, _, List.Perm.refl _, ?_⟩
      refine DO.pure tab (by repeat (first|exact Calm.ret|refine Calm.then ?_|refine Calm.block ?_)) (by kernel_rfl) [20, 21] (by kernel_rfl) rfl ?_
      (refine DO.nil0 (by kernel_rfl) ?_)
      rotate_left 1
      refine DO.pure tab (by repeat (first|exact Calm.ret|refine Calm.then ?_|refine Calm.block ?_)) (by kernel_rfl) [9, 10, 11, 12, 13, 14, 15, 16, 17, 18, 19, 20, 21] (by kernel_rfl) rfl ?_
      (refine DO.nil0 (by kernel_rfl) ?_)
      rotate_left 1
      · repeat (refine q6 ?_)
        refine TC.cond rfl (fun hin => ?_) (fun hin => ?_)
        · skip
          refine TC.perm (List.Perm.swap _ _ _) ?_
          refine TC.draw [] mixed 13 rfl (_::_::_::L) [tok t 1] perm_last ?_
          refine DO.pure tab (by repeat (first|exact Calm.ret|refine Calm.then ?_|refine Calm.block ?_)) (by kernel_rfl) [0, 1] (by kernel_rfl) rfl ?_
          (refine DO.loadL tab 2 0 (by repeat (first|exact Calm.ret|refine Calm.then ?_|refine Calm.block ?_)) (by kernel_rfl) (by kernel_rfl) rfl rfl rfl rfl rfl rfl rfl rfl ?_)
          refine DO.pure tab (by repeat (first|exact Calm.ret|refine Calm.then ?_|refine Calm.block ?_)) (by kernel_rfl) [3] (by kernel_rfl) rfl ?_
          (refine DO.loadL tab 4 0 (by repeat (first|exact Calm.ret|refine Calm.then ?_|refine Calm.block ?_)) (by kernel_rfl) (by kernel_rfl) rfl rfl rfl rfl rfl rfl rfl rfl ?_)
          refine DO.pure tab (by repeat (first|exact Calm.ret|refine Calm.then ?_|refine Calm.block ?_)) (by kernel_rfl) [5] (by kernel_rfl) rfl ?_
          (refine DO.loadL tab 6 1 (by repeat (first|exact Calm.ret|refine Calm.then ?_|refine Calm.block ?_)) (by kernel_rfl) (by kernel_rfl) rfl rfl rfl rfl rfl rfl rfl rfl ?_)
          refine DO.run 7 rfl rfl (by kernel_rfl) rfl (OT.call rfl rfl rfl rfl rfl rfl goes14 ((place_str m1 _ hd.methods c.methods s.method hrc.1).x ?_))
          rintro _ _ _ ⟨rfl, rfl, rfl⟩; refine ⟨Mem.le_refl _, _, List.Perm.refl _, ?_⟩
          refine DO.index tab rInt 8 j hrc.2 (by repeat (first|exact Calm.ret|refine Calm.then ?_|refine Calm.block ?_)) (by kernel_rfl) (by kernel_rfl) rfl rfl rfl rfl rfl rfl rfl (by first | rfl | omega) rfl hf ?_
          rintro bf oi fi hfe hAf; obtain rfl : f = fi := hfe.symm
          (refine DO.loadA (k := 0) tab 9 hAf (by repeat (first|exact Calm.ret|refine Calm.then ?_|refine Calm.block ?_)) (by kernel_rfl) (by kernel_rfl) rfl rfl rfl rfl rfl rfl rfl ?_)
          refine DO.run 10 rfl rfl (by kernel_rfl) rfl ?_
          refine OT.lit tab rfl rfl rfl rfl (fun bl => ?_); refine ⟨Mem.le_refl _, _, perm_mid, ?_⟩
          refine DO.run 11 rfl rfl (by kernel_rfl) rfl ?_
          refine OT.perm List.perm_append_comm (OT.append1 tab rInt 0 (hd' := f) (a := f) ht ho rfl rfl rfl rfl rfl rfl rfl rfl (by simp only [rInt]; omega) (fun t' m2 hm2 ht' ho' => ?_)); refine ⟨hm2, _, perm_last, ?_⟩
          refine DO.pure tab (by repeat (first|exact Calm.ret|refine Calm.then ?_|refine Calm.block ?_)) (by kernel_rfl) [12] (by kernel_rfl) rfl ?_
          (refine DO.nil (by kernel_rfl) ?_)
          rotate_left 1
          repeat (first|refine q3 ?_|refine q4 tab rfl rfl ?_|refine q6 ?_|refine q7 ?_)
          refine TO.perm perm_first ?_
          refine TO.step rfl (OT.arith (r' := ((k + 1 : Nat) : Int)) rfl rfl rfl rfl rfl rfl rfl (by omega) ?_)
          repeat (first|refine q4 tab rfl rfl ?_|refine q5 ?_|refine q6 ?_)
          refine ⟨⟨k + 1, t', m2⟩, (by repeat (first|exact trivial|refine And.intro rfl ?_)), (by repeat (first|exact trivial|refine And.intro rfl ?_)), rfl, rfl, (by repeat (first|exact List.Sublist.refl _|refine List.Sublist.cons_cons _ ?_|refine List.Sublist.cons _ ?_)), ⟨by simp only; omega, Mem.le_trans hm hm2, ho', ?_⟩, by simp only; omega⟩
          rw [hst, stepT, if_pos hg8, hfd]
          simp only
          rw [if_neg (by simpa using hin)]
          exact ht'
        · repeat (first|refine q3 ?_|refine q4 tab rfl rfl ?_|refine q6 ?_|refine q7 ?_|refine q13 ?_)
          refine TO.step rfl (OT.arith (r' := ((k + 1 : Nat) : Int)) rfl rfl rfl rfl rfl rfl rfl (by omega) ?_)
          repeat (first|refine q4 tab rfl rfl ?_|refine q5 ?_|refine q6 ?_)
          refine ⟨⟨k + 1, t, m1⟩, (by repeat (first|exact trivial|refine And.intro rfl ?_)), (by repeat (first|exact trivial|refine And.intro rfl ?_)), rfl, rfl, (by repeat (first|exact List.Sublist.refl _|refine List.Sublist.cons _ ?_)), ⟨by simp only; omega, hm, ho, ?_⟩, by simp only; omega⟩
          rw [hst, stepT, if_pos hg8, hfd]
          simp only
          rw [if_pos (by simpa using hin)]
          exact ht
      · repeat (first|refine q3 ?_|refine q4 tab rfl rfl ?_|refine q6 ?_|refine q7 ?_|refine q13 ?_|refine q17 rfl ?_)
        refine TO.step rfl (OT.arith (r' := ((k + 1 : Nat) : Int)) rfl rfl rfl rfl rfl rfl rfl (by omega) ?_)
        repeat (first|refine q4 tab rfl rfl ?_|refine q5 ?_|refine q6 ?_)
        refine ⟨⟨k + 1, t, m1⟩, (by repeat (first|exact trivial|refine And.intro rfl ?_)), (by repeat (first|exact trivial|refine And.intro rfl ?_)), rfl, rfl, (by repeat (first|exact List.Sublist.refl _|refine List.Sublist.cons _ ?_)), ⟨by simp only; omega, hm, ho, ?_⟩, by simp only; omega⟩
        rw [hst, stepT, if_neg (by simpa using hg8)]
        exact ht
    · repeat (first|refine q1 ?_|refine q3 ?_|refine q4 tab rfl rfl ?_|refine q5 ?_|refine q6 ?_|refine q10 ?_|refine q11 ?_|refine q14 ?_|refine q15 ?_)
      refine retQ_ret rfl (by repeat (first|exact List.Sublist.refl _|refine List.Sublist.cons _ ?_)) ⟨hm, rfl, t, rfl, ?_⟩
      rw [← steps_all h s (k := k) (by omega) hb]
      exact ht
end Go.Sep
