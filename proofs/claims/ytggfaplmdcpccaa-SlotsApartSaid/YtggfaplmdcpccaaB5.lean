/-
  The type of a block; what strings.Builder asks: addresses seen as1 others, a row of bytes made a string.
-/
import Derived.Lib.UnsafeStr
import Derived.Test.YtggfaplmdcpccaaB4
set_option linter.unusedVariables false
set_option linter.unusedSimpArgs false
namespace Go.Sep
section
variable {P : Program} {N : Nat} {ρ : Env} {D : List Deferred} {m : Mem} {L : List Item} {Q : EPost} {full : List Oper} {o : Oper} {K : Env → Mem → List Item → Prop}
/-- what append does, with the new row's type -/
theorem run_appendT (T : Tab P) {t t2 e e2 ty : TypeId} {ei ei2 : TI} {w : World} {s s2 : Sl} {xs news : List Value} {i : Nat} (he : T.elem t = some (e, ei)) (he2 : T.elem t2 = some (e2, ei2))
    (hw : St m w L) (hi : L[i]? = some (tok s ei.size)) (ho : Own s) (hx : Src w s ei.size xs) (hy : Src w s2 ei.size news) (hn : s2.a = none → s2.len = 0) (h1 : allOne news = true) (hzs : ei.zero.cells.size = ei.size) (hcap : s.len ≤ s.cap)
    (hb : 0 < ei.bytes) (hfit : (s.len + s2.len) * ei.bytes ≤ 140737488355328) (hAt : ∀ b o, s.a = some ⟨b, o, none⟩ → At m b o xs) (hTy : ∀ b o, s.a = some ⟨b, o, none⟩ → o = 0 ∧ m.t b = some (e, s.cap * ei.size) ∧ m.pin.heap.size ≤ b) :
    ∃ s' m' w', (Builtin.append_ #[t, t2] ty #[s.v, s2.v]).run P w = .ok s'.v w' ∧ m ≤ m' ∧ St m' w' (L.set i (tok s' ei.size)) ∧ Own s' ∧ s'.len = s.len + s2.len ∧ s'.len ≤ s'.cap ∧
      ((s'.a = none ∧ xs ++ news = [] ∧ s'.cap = 0) ∨ ∃ b o, s'.a = some ⟨b, o, none⟩ ∧ At m' b o (xs ++ news)) ∧ (∀ b o, s'.a = some ⟨b, o, none⟩ → o = 0 ∧ m'.t b = some (e, s'.cap * ei.size) ∧ m'.pin.heap.size ≤ b) := by
  obtain ⟨ti, h4, h5, h6⟩ := elem_get he
  obtain ⟨ti2, k4, k5, k6⟩ := elem_get he2
  obtain ⟨_, _, hu, _⟩ := T.ok t ti h4
  rw [h5] at hu
  obtain ⟨_, _, hu2, _⟩ := T.ok t2 ti2 k4
  rw [k5] at hu2
  obtain ⟨info, q1, q2, q3, q4, q5⟩ := T.ok e ei h6
  have hnew := run_first (P := P) hy
  have hbound : s.len + s2.len ≤ 140737488355328 := Nat.le_trans (Nat.le_mul_of_pos_right _ hb) hfit
  by_cases hroom : s.len + s2.len ≤ s.cap
  · -- there is room
    rcases ho with hnil | ⟨b, o, ha⟩
    · subst hnil
      simp only at hroom
      have hz : s2.len = 0 := by omega
      have hxs : xs = [] := List.eq_nil_of_length_eq_zero (by have := hx.1; simpa using this)
      have hns : news = [] := List.eq_nil_of_length_eq_zero (by have := hy.1; rw [hz] at this; simpa using this)
      subst hxs; subst hns
      refine ⟨⟨none, 0, 0⟩, m, w, ?_, m.le_refl, by rw [set_same hi]; exact hw, .inl rfl, by simp [hz], by simp, .inl ⟨rfl, rfl, rfl⟩, fun b o q => by cases q⟩
      have hnew' : (Builtin.firstCells ei.size 0 s2.v).run P w = .ok (⟨[]⟩ : Array Value) w := by rw [← hz]; exact hnew
      simp only [Sl.v] at hnew'
      simp [Builtin.append_, run_underlying hu, run_underlying hu2, sizeOf, typeInfo, q1, q3, Builtin.lenOf, hz, hnew']
    · obtain ⟨a, n, c⟩ := s
      simp only at ha hroom hcap hbound hfit hx hAt
      subst ha
      have hst := (hw.at_ hi)
      simp only [tok] at hst
      obtain ⟨vs, hvl, hst⟩ := hst.ofRoom
      have hnl : news.length ≤ vs.length := by
        rw [hvl, hy.1]; exact Nat.mul_le_mul_right _ (by omega)
      obtain ⟨w', hr, hst'⟩ := run_storeCells (P := P) news vs 0 0 w hst h1 (by omega)
      rw [putAt_zero hnl] at hst'
      have hst2 := hst'.split
      obtain ⟨g1, g2, g3⟩ := hst2.freeze
      have g4 := g3.toRoom
      refine ⟨⟨some ⟨b, o, none⟩, n + s2.len, c⟩, m.addCells b (o + n * ei.size) news, w', ?_, g1, ?_, .inr ⟨b, o, rfl⟩, rfl, hroom, .inr ⟨b, o, rfl, ?_⟩, fun b' o' q => by cases q; exact hTy b o rfl⟩
      · have hr' : (storeCells ((⟨b, o, none⟩ : Addr).add (n * ei.size)) news).run P w = .ok () w' := by rw [addr_add]; exact hr
        simp only [Sl.v] at hnew
        simp [Builtin.append_, run_underlying hu, run_underlying hu2, sizeOf, typeInfo, q1, q3, Builtin.lenOf, hroom, hnew, hr']
      · have e1 : Item.room b (o + n * ei.size + news.length) (List.drop news.length vs).length = tok ⟨some ⟨b, o, none⟩, n + s2.len, c⟩ ei.size := by
          simp only [tok, List.length_drop, hvl, hy.1]
          congr 1
          · rw [Nat.add_mul]; omega
          · rw [← Nat.sub_mul]; congr 1; omega
        rw [← e1]
        exact St.back hi g4
      · refine ((hAt b o rfl).mono g1).append ?_
        rw [hx.1]
        exact g2
  · -- it grows
    have hlt : s.cap < s.len + s2.len := by omega
    have h48 : ¬ (Builtin.nextslicecap (s.len + s2.len) s.cap * ei.bytes > 281474976710656) := by
      have := growslice_fits hlt hfit
      omega
    have hold := run_first (P := P) (hx.drew)
    have hnew' := run_first (P := P) (hy.drew)
    obtain ⟨nc, hnc, hge⟩ : ∃ nc, nc = (Question.appendCap (s.len + s2.len) s.cap e).cut (w.tape w.drawn (.appendCap (s.len + s2.len) s.cap e)) ∧ s.len + s2.len ≤ nc := ⟨_, rfl, by simp [Question.cut]⟩
    have hst := hw.drew.allocCells ((⟨xs⟩ : Array Value) ++ (⟨news⟩ : Array Value) ++ Builtin.zeroCells ei.zero.cells (nc - (s.len + s2.len))) e
    have hl1 : ((⟨xs⟩ : Array Value) ++ (⟨news⟩ : Array Value) ++ Builtin.zeroCells ei.zero.cells (nc - (s.len + s2.len))).toList = (xs ++ news) ++ (Builtin.zeroCells ei.zero.cells (nc - (s.len + s2.len))).toList := by simp
    rw [hl1] at hst
    obtain ⟨g1, g2, g3⟩ := hst.split.freeze
    have hheap : (w.drew.alloc (.cells ((⟨xs⟩ : Array Value) ++ (⟨news⟩ : Array Value) ++ Builtin.zeroCells ei.zero.cells (nc - (s.len + s2.len))) e)).heap[w.drew.heap.size]? = some (.cells ((⟨xs⟩ : Array Value) ++ (⟨news⟩ : Array Value) ++ Builtin.zeroCells ei.zero.cells (nc - (s.len + s2.len))) e (0, 0)) := heap_alloc_at _ _
    obtain ⟨f1, f2, f3⟩ := g3.typed hheap
    have g2 := g2.mono f1
    have g1 := Mem.le_trans g1 f1
    have g4 := f3.toRoom
    have hxl : (xs ++ news).length = (s.len + s2.len) * ei.size := by rw [List.length_append, hx.1, hy.1, Nat.add_mul]
    refine ⟨⟨some ⟨w.heap.size, 0, none⟩, s.len + s2.len, nc⟩, _, w.drew.alloc (.cells ((⟨xs⟩ : Array Value) ++ (⟨news⟩ : Array Value) ++ Builtin.zeroCells ei.zero.cells (nc - (s.len + s2.len))) e), ?_, g1, ?_, .inr ⟨_, _, rfl⟩, rfl, hge, .inr ⟨_, _, rfl, g2⟩, fun b' o' q => ?_⟩
    · simp only [Sl.v] at hold hnew'
      have hb0 : ei.bytes ≠ 0 := by omega
      have hmax : ¬ (9223372036854775807 < (s.len : Int) + (s2.len : Int)) := by omega
      simp [Builtin.append_, run_underlying hu, run_underlying hu2, sizeOf, typeInfo, zeroValue, q1, q3, q4, q5, Builtin.lenOf, hroom, hold, hnew', h48, hmax, Question.forced, newRow, ← hnc, IntKind.max, IntKind.signed, IntKind.bits, hb0]
      congr 2
      apply Array.ext'
      simp
    · have e1 : Item.room w.heap.size (0 + (xs ++ news).length) (Builtin.zeroCells ei.zero.cells (nc - (s.len + s2.len))).toList.length = tok ⟨some ⟨w.heap.size, 0, none⟩, s.len + s2.len, nc⟩ ei.size := by
        simp only [tok, hxl, Array.length_toList, size_zeroCells, hzs]
      rw [← e1]
      have hsub : (Item.room w.heap.size (0 + (xs ++ news).length) (Builtin.zeroCells ei.zero.cells (nc - (s.len + s2.len))).toList.length :: L.eraseIdx i).Sublist (Item.room w.heap.size (0 + (xs ++ news).length) (Builtin.zeroCells ei.zero.cells (nc - (s.len + s2.len))).toList.length :: L) :=
        List.Sublist.cons_cons _ (List.eraseIdx_sublist L i)
      exact St.back hi (g4.sub hsub)
    · simp only [Option.some.injEq, Addr.mk.injEq, and_true] at q
      obtain ⟨rfl, rfl⟩ := q
      refine ⟨rfl, f2.trans ?_, by rw [g1.pin]; exact hw.size⟩
      congr 2
      rw [Array.size_append, Array.size_append, size_zeroCells, hzs]
      have h1 : (⟨xs⟩ : Array Value).size = xs.length := rfl
      have h2 : (⟨news⟩ : Array Value).size = news.length := rfl
      rw [h1, h2, hx.1, hy.1, ← Nat.add_mul, ← Nat.add_mul]
      congr 1
      show s.len + s2.len + (nc - (s.len + s2.len)) = nc
      omega

/-- append(xs, ys...): xs may grow (its room is item i), ys is read -/
theorem OT.appendT {H α : Type} (T : Tab P) (r : R H α) (i : Nat) {s s2 : Sl} {l l2 : List α} {x y : Operand} {t t2 : TypeId} {d : Nat} (hs : SlRep r m s l) (hown : Own s) (hs2 : SlRep r m s2 l2)
    (ho : o.op = .call ⟨.builtin .append, ⟨[x, y]⟩, ⟨[t, t2]⟩⟩) (hd : o.dst = some d) (hN : Nat.blt d N = true) (hx : ev ρ x = some s.v) (hy : ev ρ y = some s2.v) (hT : T.okElem t t2 r.size r.bytes = true)
    (hi : L[i]? = some (tok s r.size)) (hfit : (l.length + l2.length) * r.bytes ≤ 140737488355328) {e0 : TypeId} (he0 : (T.elem t).map Prod.fst = some e0) (hTy : ∀ b o, s.a = some ⟨b, o, none⟩ → o = 0 ∧ m.t b = some (e0, s.cap * r.size) ∧ m.pin.heap.size ≤ b)
    (hK : ∀ s' m', m ≤ m' → SlRep r m' s' (l ++ l2) → Own s' → (∀ b o, s'.a = some ⟨b, o, none⟩ → o = 0 ∧ m'.t b = some (e0, s'.cap * r.size) ∧ m'.pin.heap.size ≤ b) → K ((d, s'.v) :: ρ) m' (L.set i (tok s' r.size))) : OT P N o ρ D m L Q K := by
  obtain ⟨e, e2, ei, ei2, q1, q2, q3, q4, q5, q6⟩ := okElem_get hT
  intro a w ha
  obtain ⟨hl, h1, h2, h3, h4⟩ := hs.src ha.st
  obtain ⟨hl2, k1, k2, k3, k4⟩ := hs2.src ha.st
  have hb : 0 < ei.bytes := by omega
  have hee : e0 = e := by rw [q1] at he0; simpa using he0.symm
  subst hee
  obtain ⟨s', m', w', hr, g1, g2, g3, g4, g5, g6, g7⟩ := run_appendT (P := P) (ty := o.type) T q1 q2 ha.st (by rw [q3]; exact hi) hown (by rw [q3]; exact h2) (by rw [q3]; exact k2) (fun hz => (k3 hz).1) (encs_one r hl2) q6 hs.cap hb
    (by rw [hs.len, hs2.len, q4]; exact hfit) h4 (by rw [q3]; exact hTy)
  have he : (execOp a.eval o).run P w = .ok (.value s'.v) w' := by
    simp only [execOp, ho, resolve, invoke, builtin, Sem.run_bind, Sem.run_pure, Result.andThen_ok, List.map_toArray, List.map_cons, List.map_nil, ha.env.eval hx, ha.env.eval hy]
    simp only [List.map_toArray, List.map_cons, List.map_nil, ha.env.eval hx, ha.env.eval hy, hr, Result.andThen_ok]
  have hrep : SlRep r m' s' (l ++ l2) := by
    refine ⟨by rw [g4, hs.len, hs2.len]; simp, g5, by rw [g4, hs.len, hs2.len]; exact hfit, hl ++ hl2, (h1.mono fun _ _ => r.mono g1).append (k1.mono fun _ _ => r.mono g1), ?_⟩
    rcases g6 with ⟨e1, e2, e3⟩ | ⟨b, off, e1, e2⟩
    · left
      have hz : s'.len = 0 := by
        rcases g3 with e | ⟨b, off, e⟩
        · rw [e]
        · rw [e1] at e; cases e
      refine ⟨List.eq_nil_of_length_eq_zero ?_, fun _ => e3⟩
      have j1 := hs.len
      have j2 := hs2.len
      rw [List.length_append]; omega
    · right
      exact ⟨b, off, e1, by rw [encs_append]; exact e2⟩
  simp only [Oper.wp, he, Oper.upon]
  rw [hd]
  have hp := ha.put hN s'.v
  rw [q3] at g2
  exact ⟨_, _, _, ⟨hp.size, hp.env, hp.defers, g2⟩, hK s' m' g1 hrep g3 (by rw [q3] at g7; exact g7)⟩

/-- a new variable, with its block's type -/
theorem OT.allocT (T : Tab P) {t : TypeId} {d : Nat} {cs : List Value} (ho : o.op = .alloc t) (hd : o.dst = some d) (hN : Nat.blt d N = true)
    (hv : T.zeroCells t = some cs) (hK : ∀ b m', m ≤ m' → m'.t b = some (t, cs.length) → K ((d, .pointer (some ⟨b, 0, none⟩)) :: ρ) m' (.cells b 0 cs :: L)) : OT P N o ρ D m L Q K := by
  intro a w ha
  unfold Tab.zeroCells at hv
  split at hv
  · rename_i i hi
    have hr : (execOp a.eval o).run P w = .ok (.value (.pointer (some ⟨w.heap.size, 0, none⟩))) (w.alloc (.cells ⟨cs⟩ t)) := by
      simp only [execOp, ho, Instr.alloc, newVar, newRow, cellsF_eq hv, Sem.run_bind, Sem.run_pure, run_newObj, Result.andThen_ok, World.alloc_eq, T.run_zero w hi]
    simp only [Oper.wp, hr, Oper.upon, hd]
    have hp := ha.put hN (.pointer (some ⟨w.heap.size, 0, none⟩))
    have hst := ha.st.allocCells ⟨cs⟩ t
    obtain ⟨f1, f2, f3⟩ := hst.typed (heap_alloc_at w (.cells ⟨cs⟩ t))
    exact ⟨_, _, _, ⟨hp.size, hp.env, hp.defers, f3⟩, hK _ _ f1 f2⟩
  · cases hv

theorem St.shape {w : World} {b : Nat} {x : TypeId × Nat} (h : St m w L) (hb : m.t b = some x) : w.shape? b = some x := by
  obtain ⟨arr, fr, h1, h2⟩ := h.t b x hb
  simp only [World.shape?, h1]
  rw [h2]
def Tab.isPtr {P : Program} (T : Tab P) (t e : TypeId) : Bool :=
  match T.get t with
  | some ⟨.pointer u, _, _, _⟩ => Nat.beq u e
  | _ => false
theorem isPtr_get {T : Tab P} {t e : TypeId} (h : T.isPtr t e = true) : ∃ i, T.get t = some i ∧ i.u = .pointer e := by
  unfold Tab.isPtr at h
  split at h
  · have := Nat.eq_of_beq_eq_true h
    subst this
    exact ⟨_, by assumption, rfl⟩
  · cases h
def Tab.isUnsafe {P : Program} (T : Tab P) (t : TypeId) : Bool :=
  match T.get t with
  | some ⟨.unsafePointer, _, _, _⟩ => true
  | _ => false
theorem isUnsafe_get {T : Tab P} {t : TypeId} (h : T.isUnsafe t = true) : ∃ i, T.get t = some i ∧ i.u = .unsafePointer := by
  unfold Tab.isUnsafe at h
  split at h
  · exact ⟨_, by assumption, rfl⟩
  · cases h
def Tab.size1 {P : Program} (T : Tab P) (t : TypeId) : Bool :=
  match T.get t with
  | some ⟨_, n + 1, _, _⟩ => true
  | _ => false
theorem size1_get {T : Tab P} {t : TypeId} (h : T.size1 t = true) : ∃ i, T.get t = some i ∧ i.size ≠ 0 := by
  unfold Tab.size1 at h
  split at h
  · exact ⟨_, by assumption, by simp⟩
  · cases h
/-- a pointer at a whole variable, as1 an unsafe.Pointer -/
theorem OT.toUnsafe (T : Tab P) {t u e : TypeId} {x : Operand} {b n : Nat} {d : Nat} (ho : o.op = .convert t u x) (hd : o.dst = some d) (hN : Nat.blt d N = true) (hx : ev ρ x = some (.pointer (some ⟨b, 0, none⟩)))
    (ht : T.isPtr t e = true) (hu : T.isUnsafe u = true) (he : T.size1 e = true) (hb : m.t b = some (e, n)) (hn : 0 < n) (hK : K ((d, .pointer (some ⟨b, 0, none⟩)) :: ρ) m L) : OT P N o ρ D m L Q K := by
  obtain ⟨ti, t1, t2⟩ := isPtr_get ht
  obtain ⟨ui, u1, u2⟩ := isUnsafe_get hu
  obtain ⟨ei, e1, e2⟩ := size1_get he
  refine OT.run hd hN (fun a w ha => ⟨w, ?_, ha.st⟩) hK
  have hut := T.run_underlying w t1
  rw [t2] at hut
  have huu := T.run_underlying w u1
  rw [u2] at huu
  have hse := T.run_sizeOf w e1
  have hsh := ha.st.shape hb
  have hn' : ¬ (0 ≥ n) := by omega
  have hv : (viewAt b).run P w = .ok none w := by simp [viewAt, hsh]
  have hc : (cellsIn b).run P w = .ok (some n) w := by simp [cellsIn, hsh]
  simp only [execOp, ho, ha.env.eval hx, Go.convert, Sem.run_bind, hut, huu, Result.andThen_ok, Conv.unsafePointer, Conv.seenAt, hv, hc, hse, Sem.run_pure]
  simp [hn', hn, e2, hse]
/-- and back -/
theorem OT.fromUnsafe (T : Tab P) {t u e : TypeId} {x : Operand} {b n : Nat} {d : Nat} (ho : o.op = .convert u t x) (hd : o.dst = some d) (hN : Nat.blt d N = true) (hx : ev ρ x = some (.pointer (some ⟨b, 0, none⟩)))
    (ht : T.isPtr t e = true) (hu : T.isUnsafe u = true) (hb : m.t b = some (e, n)) (hlies : liesAt P P.depth e (n / P.cellsOf e) 0 e 1 = true) (he : T.size1 e = true) (hK : K ((d, .pointer (some ⟨b, 0, none⟩)) :: ρ) m L) : OT P N o ρ D m L Q K := by
  obtain ⟨ti, t1, t2⟩ := isPtr_get ht
  obtain ⟨ui, u1, u2⟩ := isUnsafe_get hu
  obtain ⟨ei, e1, e2⟩ := size1_get he
  refine OT.run hd hN (fun a w ha => ⟨w, ?_, ha.st⟩) hK
  have hut := T.run_underlying w t1
  rw [t2] at hut
  have huu := T.run_underlying w u1
  rw [u2] at huu
  have hse := T.run_sizeOf w e1
  have hsh := ha.st.shape hb
  have hv : (viewAt b).run P w = .ok none w := by simp [viewAt, hsh]
  have hva : (variablesAt ⟨b, 0, none⟩ e 1).run P w = .ok true w := by simp [variablesAt, hsh, hlies]
  simp only [execOp, ho, ha.env.eval hx, Go.convert, Sem.run_bind, hut, huu, Result.andThen_ok, Conv.unsafePointer, Conv.seenAt, hv, hse, Sem.run_pure]
  simp [e2, hva, hse]
theorem equalIn_ptrNil {t e : TypeId} {w : World} (dd : Nat) (a : Addr) (hu : (underlying t).run P w = .ok (.pointer e) w) :
    (Op.equalIn (dd + 1) t (.pointer (some a)) (.pointer none)).run P w = .ok false w := by
  simp only [Op.equalIn, Sem.run_bind, hu, Result.andThen_ok, Sem.run_pure]
theorem equalIn_nilPtr {t e : TypeId} {w : World} (dd : Nat) (hu : (underlying t).run P w = .ok (.pointer e) w) :
    (Op.equalIn (dd + 1) t (.pointer none) (.pointer none)).run P w = .ok true w := by
  simp only [Op.equalIn, Sem.run_bind, hu, Result.andThen_ok, Sem.run_pure]
  rfl
/-- p == nil -/
theorem OT.ptrNil (T : Tab P) {t t' e : TypeId} {x y : Operand} {q : Option Addr} {d : Nat} (ho : o.op = .binOp .eql t x y t') (hd : o.dst = some d) (hN : Nat.blt d N = true)
    (hx : ev ρ x = some (.pointer q)) (hy : ev ρ y = some (.pointer none)) (ht : T.isPtr t e = true) (hK : K ((d, .bool q.isNone) :: ρ) m L) : OT P N o ρ D m L Q K := by
  obtain ⟨ti, h1, h2⟩ := isPtr_get ht
  refine OT.run hd hN (fun ac w ha => ⟨w, ?_, ha.st⟩) hK
  have hu := T.run_underlying w h1
  rw [h2] at hu
  have e1 : binOp .eql t (.pointer q) (.pointer none) = (do pure (.bool (← Op.equalIn (9999 + 1) t (.pointer q) (.pointer none))) : Sem Value) := rfl
  have e2 : (eqGuard .eql t x y (.pointer q) (.pointer none)).run P w = .ok () w := by simp [eqGuard]
  cases q with
  | none =>
    have h := equalIn_nilPtr (P := P) 9999 hu
    simp only [execOp, ho, ha.env.eval hx, ha.env.eval hy, Sem.run_bind, e2, Result.andThen_ok, e1, h, Sem.run_pure]; rfl
  | some q =>
    have h := equalIn_ptrNil (P := P) 9999 q hu
    simp only [execOp, ho, ha.env.eval hx, ha.env.eval hy, Sem.run_bind, e2, Result.andThen_ok, e1, h, Sem.run_pure]; rfl
end
end Go.Sep

/-
  Rows of bytes made strings; strings made rows of bytes; what is nil.
-/
set_option linter.unusedVariables false
set_option linter.unusedSimpArgs false
namespace Go.Sep

/-! frozen rows -/
theorem freeze_cell (w : World) (a : Addr) (n : Nat) (x : Addr) : (w.freeze a n).cell? x = w.cell? x := by
  unfold World.freeze
  split
  · rfl
  · simp only [World.cell?, Array.getElem?_modify]
    by_cases e : a.block = x.block
    · rw [if_pos e]
      cases h : w.heap[x.block]? with
      | none => rfl
      | some ob => cases ob <;> rfl
    · rw [if_neg e]
theorem freeze_heap (w : World) (a : Addr) (n : Nat) {b : Nat} (h : a.block ≠ b) : (w.freeze a n).heap[b]? = w.heap[b]? := by
  unfold World.freeze
  split
  · rfl
  · simp only [Array.getElem?_modify]
    rw [if_neg h]
theorem St.frz {m : Mem} {w : World} {L : List Item} (h : St m w L) (g n : Nat) (hp : m.pin.heap.size ≤ g) (hL : ∀ x ∈ L, 0 < x.len → x.blk ≠ g) : St m (w.freeze ⟨g, 0, none⟩ n) L := by
  have hsz : (w.freeze ⟨g, 0, none⟩ n).heap.size = w.heap.size := by
    unfold World.freeze
    split
    · rfl
    · simp
  have hos : (w.freeze ⟨g, 0, none⟩ n).os = w.os ∧ (w.freeze ⟨g, 0, none⟩ n).tape = w.tape ∧ (w.freeze ⟨g, 0, none⟩ n).output = w.output := by
    unfold World.freeze
    split <;> exact ⟨rfl, rfl, rfl⟩
  have hfz : ∀ a : Addr, a.block ≠ g → (w.freeze ⟨g, 0, none⟩ n).frozen? a = w.frozen? a := fun a ha => World.frozen?_of_block (freeze_heap w _ n (fun e => ha e.symm))
  refine { os := hos.1.trans h.os, tape := hos.2.1.trans h.tape, output := hos.2.2.trans h.output, size := by rw [hsz]; exact h.size, pin := fun b hb => (freeze_heap w _ n (show g ≠ b by omega)).trans (h.pin b hb), c := fun b i v hv => (freeze_cell ..).trans (h.c b i v hv), o := fun b x hx => ?_, t := fun b x hx => ?_, items := fun x hx => ?_, free := h.free, disj := h.disj }
  · have h1 := h.o b x hx
    by_cases e : g = b
    · subst e
      unfold World.freeze
      split
      · exact h1
      · refine ⟨?_, h1.2⟩
        simp only [Array.getElem?_modify, if_true, h1.1, Option.map_some]
        cases x <;> simp_all [isCells]
    · exact ⟨(freeze_heap w _ n e).trans h1.1, h1.2⟩
  · obtain ⟨arr, fr, g1, g2⟩ := h.t b x hx
    by_cases e : g = b
    · subst e
      unfold World.freeze
      split
      · exact ⟨arr, fr, g1, g2⟩
      · simp only [Array.getElem?_modify, if_true, g1, Option.map_some]
        exact ⟨arr, _, rfl, g2⟩
    · exact ⟨arr, fr, (freeze_heap w _ n e).trans g1, g2⟩
  · have hi := h.items x hx
    have hl := hL x hx
    cases x with
    | cells b off vs =>
      intro j v hv
      obtain ⟨g1, g2⟩ := hi j v hv
      have hj := (List.getElem?_eq_some_iff.1 hv).1
      have hne : b ≠ g := hl (by simp only [Item.len]; omega)
      exact ⟨(freeze_cell ..).trans g1, fun i => (hfz ⟨b, i, none⟩ hne).trans (g2 i)⟩
    | room b off k =>
      intro j hj
      obtain ⟨v, g1, g2⟩ := hi j hj
      have hne : b ≠ g := hl (by simp only [Item.len]; omega)
      exact ⟨v, (freeze_cell ..).trans g1, fun i => (hfz ⟨b, i, none⟩ hne).trans (g2 i)⟩
    | obj b ob =>
      have hne : b ≠ g := hl (by simp [Item.len])
      exact ⟨(freeze_heap w _ n (fun e => hne e.symm)).trans hi.1, hi.2⟩
theorem cell_arr {w : World} {g i : Nat} {arr : Array Value} {e : TypeId} {fr : Nat × Nat} {v : Value} (hg : w.heap[g]? = some (.cells arr e fr)) (h : w.cell? ⟨g, i, none⟩ = some v) : i < arr.size := by
  simp only [World.cell?, hg] at h
  exact (Array.getElem?_eq_some_iff.1 (by simpa using h)).1
def isObj : Item → Bool
  | .obj .. => true
  | _ => false
/-- nothing else lies in the block of a row and its room -/
theorem St.alone {m : Mem} {w : World} {L : List Item} {g n c : Nat} {e : TypeId} {vs : List Value} (h : St m w (tok ⟨some ⟨g, 0, none⟩, n, c⟩ 1 :: L)) (hn : n ≤ c) (hA : At m g 0 vs) (hv : vs.length = n) (ht : m.t g = some (e, c)) : ∀ x ∈ L, 0 < x.len → x.blk ≠ g := by
  intro x hx hl hb
  obtain ⟨arr, fr, g1, g2⟩ := h.t g _ ht
  have hd := (List.pairwise_cons.1 h.disj).1 x hx
  have hf := h.free x (List.mem_cons_of_mem _ hx)
  have hi := h.items x (List.mem_cons_of_mem _ hx)
  have hoff : x.off < c ∨ isObj x = true := by
    cases x with
    | cells b off us =>
      left
      simp only [Item.blk] at hb
      subst hb
      obtain ⟨q1, _⟩ := hi 0 us[0] (by simp only [Item.len] at hl; simp [hl])
      have := cell_arr g1 q1
      rw [g2] at this
      simpa [Item.off] using this
    | room b off k =>
      left
      simp only [Item.blk] at hb
      subst hb
      obtain ⟨v, q1, _⟩ := hi 0 hl
      have := cell_arr g1 q1
      rw [g2] at this
      simpa [Item.off] using this
    | obj b ob => right; rfl
  rcases hoff with hoff | hoff
  · by_cases hlt : x.off < n
    · have h1 := hf.c 0 hl
      rw [hb, Nat.add_zero] at h1
      have h2 := hA x.off vs[x.off] (by simp [hv, hlt])
      rw [Nat.zero_add, h1] at h2
      cases h2
    · simp only [tok, Item.Disj, Item.len, Item.blk, Item.off, Nat.mul_one, Nat.zero_add] at hd
      rcases hd with q | q | q | q | q
      · omega
      · simp only [Item.len] at hl; cases x <;> simp_all [Item.len] <;> omega
      · exact q hb.symm
      · cases x <;> simp_all [Item.off] <;> omega
      · cases x <;> simp_all [Item.off, Item.len] <;> omega
  · cases x with
    | obj b ob =>
      simp only [Item.blk] at hb
      subst hb
      have h1 := hi.1
      have h2 := hi.2
      rw [g1] at h1
      cases h1
      simp [isCells] at h2
    | cells => cases hoff
    | room => cases hoff

section
variable {P : Program} {N : Nat} {ρ : Env} {D : List Deferred} {m : Mem} {L : List Item} {Q : EPost} {full : List Oper} {o : Oper} {K : Env → Mem → List Item → Prop}
theorem At.bytes {m : Mem} {b : Nat} {bs : List UInt8} (h : At m b 0 (bs.map byteV)) {w : World} (hst : St m w L) : ∀ j x, bs[j]? = some x → w.cell? ((⟨b, 0, none⟩ : Addr).add j) = some (.int .u8 x.toNat) := fun j x hx => by
  rw [addr_add]
  have := hst.c _ _ _ (h j (byteV x) (by simp [hx]))
  simpa using this
/-- unsafe.SliceData of a row -/
theorem OT.sliceData {ts : Array TypeId} {x : Operand} {a : Option Addr} {n c d : Nat} (ho : o.op = .call ⟨.builtin .unsafeSliceData, ⟨[x]⟩, ts⟩) (hd : o.dst = some d) (hN : Nat.blt d N = true) (hx : ev ρ x = some (.slice a n c)) (hc : a = none ∨ c ≠ 0) (hK : K ((d, .pointer a) :: ρ) m L) : OT P N o ρ D m L Q K := by
  refine OT.run hd hN (fun ac w ha => ⟨w, ?_, ha.st⟩) hK
  have hr : (Builtin.unsafeSliceData_ ts o.type #[.slice a n c]).run P w = .ok (.pointer a) w := by
    cases a with
    | none => exact Lib.run_unsafeSliceData_nil w ts o.type n c
    | some a =>
      rcases hc with h | h
      · cases h
      · exact Lib.run_unsafeSliceData_row w ts o.type a n c h
  simp only [execOp, ho, resolve, invoke, builtin, Sem.run_bind, Sem.run_pure, Result.andThen_ok, List.map_toArray, List.map_cons, List.map_nil, ha.env.eval hx, hr]
/-- unsafe.String of no byte -/
theorem OT.unsafeStr0 {pt it : TypeId} {x y : Operand} {p : Option Addr} {d : Nat} (ho : o.op = .call ⟨.builtin .unsafeString, ⟨[x, y]⟩, ⟨[pt, it]⟩⟩) (hd : o.dst = some d) (hN : Nat.blt d N = true) (hx : ev ρ x = some (.pointer p)) (hy : ev ρ y = some (.int .i64 0))
    (hK : K ((d, strV []) :: ρ) m L) : OT P N o ρ D m L Q K := by
  refine OT.run hd hN (fun ac w ha => ⟨w, ?_, ha.st⟩) hK
  have hr := Lib.run_unsafeString_none (P := P) w pt it o.type p
  simp only [execOp, ho, resolve, invoke, builtin, Sem.run_bind, Sem.run_pure, Result.andThen_ok, List.map_toArray, List.map_cons, List.map_nil, ha.env.eval hx, ha.env.eval hy]
  simp only [List.map_toArray, List.map_cons, List.map_nil, ha.env.eval hx, ha.env.eval hy, hr, Result.andThen_ok]
  rfl
/-- unsafe.String of a row of bytes that is known: its room is given up -/
theorem OT.unsafeStr (T : Tab P) {pt it e : TypeId} {x y : Operand} {g n c : Nat} {bs : List UInt8} {d : Nat} (ho : o.op = .call ⟨.builtin .unsafeString, ⟨[x, y]⟩, ⟨[pt, it]⟩⟩) (hd : o.dst = some d) (hN : Nat.blt d N = true) (hx : ev ρ x = some (.pointer (some ⟨g, 0, none⟩))) (hy : ev ρ y = some (.int .i64 (n : Int)))
    (hpt : T.isPtr pt e = true) (hce : P.cellsOf e = 1) (hA : At m g 0 (bs.map byteV)) (hbs : bs.length = n) (hpos : 0 < n) (hc : n ≤ c) (hmax : n ≤ 9223372036854775807) (ht : m.t g = some (e, c)) (hp : m.pin.heap.size ≤ g)
    (hK : K ((d, strV bs) :: ρ) m L) : OT P N o ρ D m (tok ⟨some ⟨g, 0, none⟩, n, c⟩ 1 :: L) Q K := by
  obtain ⟨pi, p1, p2⟩ := isPtr_get hpt
  obtain ⟨_, _, hup, _⟩ := T.ok pt pi p1
  rw [p2] at hup
  refine OT.run hd hN (fun ac w ha => ?_) hK
  have hst := ha.st
  have halone := hst.alone hc hA (by rw [List.length_map]; exact hbs) ht
  have hcell := At.bytes hA hst
  have hne : bs ≠ [] := fun e => by subst e; simp at hbs; omega
  have hr := Lib.run_unsafeString_row (P := P) w pt it o.type e hup hce g c (hst.shape ht) bs hne (by omega) (by omega) hcell
  refine ⟨_, ?_, (hst.sub (List.sublist_cons_self _ _)).frz g bs.length hp halone⟩
  subst hbs
  simp only [execOp, ho, resolve, invoke, builtin, Sem.run_bind, Sem.run_pure, Result.andThen_ok, List.map_toArray, List.map_cons, List.map_nil, ha.env.eval hx, ha.env.eval hy]
  simp only [List.map_toArray, List.map_cons, List.map_nil, ha.env.eval hx, ha.env.eval hy, hr, Result.andThen_ok]

/-- string(b) of a row of bytes -/
theorem OT.bytesStr (T : Tab P) {t u : TypeId} {x : Operand} {s : Sl} {bs : List UInt8} {d : Nat} {e : TypeId} {ei : TI} (ho : o.op = .convert t u x) (hd : o.dst = some d) (hN : Nat.blt d N = true) (hx : ev ρ x = some s.v) (he : T.elem t = some (e, ei)) (hb : ei.u = .int .u8) (hu : T.isStr u = true) (hs : SlRep rByte m s bs) (hpos : 0 < bs.length)
    (hK : K ((d, strV bs) :: ρ) m L) : OT P N o ρ D m L Q K := by
  obtain ⟨ti, h4, h5, h6⟩ := elem_get he
  obtain ⟨ui, u1, u2⟩ := isStr_get hu
  obtain ⟨_, _, hut, _⟩ := T.ok t ti h4
  rw [h5] at hut
  obtain ⟨_, _, huu, _⟩ := T.ok u ui u1
  rw [u2] at huu
  obtain ⟨_, _, hue, _⟩ := T.ok e ei h6
  rw [hb] at hue
  refine OT.run hd hN (fun ac w ha => ⟨w, ?_, ha.st⟩) hK
  obtain ⟨hs', k1, k2⟩ := hs.cells
  have hh := byte_all2 k1
  subst hh
  rcases k2 with ⟨k2, _⟩ | ⟨b, off, k3, k4⟩
  · subst k2; simp at hpos
  · obtain ⟨a, n, c⟩ := s
    simp only at k3
    subst k3
    have hlen : n = hs'.length := hs.len
    subst hlen
    have hr := run_convert_bytes_back (P := P) w t u e ⟨b, off, none⟩ c hs' hut hue huu (fun j hj => by
      rw [addr_add]
      rw [encs_byte] at k4
      exact ha.st.c _ _ _ (k4 j (byteV hs'[j]) (by simp [hj])))
    simp only [execOp, ho, ha.env.eval hx, Sl.v, Sem.run_bind, hr, Result.andThen_ok, Sem.run_pure]

/-- []byte(s) -/
theorem OT.strBytes (T : Tab P) {t u : TypeId} {x : Operand} {bs : List UInt8} {d : Nat} {e : TypeId} {ei : TI} (ho : o.op = .convert t u x) (hd : o.dst = some d) (hN : Nat.blt d N = true) (hx : ev ρ x = some (strV bs)) (he : T.elem u = some (e, ei)) (hb : ei.u = .int .u8) (ht : T.isStr t = true) (hfit : bs.length ≤ 140737488355328)
    (hK : ∀ s m', m ≤ m' → SlRep rByte m' s bs → s.len = bs.length → K ((d, s.v) :: ρ) m' L) : OT P N o ρ D m L Q K := by
  obtain ⟨ui, h4, h5, h6⟩ := elem_get he
  obtain ⟨ti, t1, t2⟩ := isStr_get ht
  obtain ⟨_, _, huu, _⟩ := T.ok u ui h4
  rw [h5] at huu
  obtain ⟨_, _, hut, _⟩ := T.ok t ti t1
  rw [t2] at hut
  obtain ⟨_, _, hue, _⟩ := T.ok e ei h6
  rw [hb] at hue
  intro a w ha
  have hr := Lib.run_convert_string_bytes (P := P) w t u e ⟨⟨bs⟩⟩ hut huu hue
  have hgrow := ha.st.grow (w' := Lib.bytesWorld w e ⟨⟨bs⟩⟩) (by unfold Lib.bytesWorld World.freeze; split <;> rfl) (by unfold Lib.bytesWorld World.freeze; split <;> rfl) (by unfold Lib.bytesWorld World.freeze; split <;> rfl) (by rw [Lib.bytesWorld_size]; omega) (fun b hb => Lib.bytesWorld_at_old w e _ b hb)
  obtain ⟨g1, g2, g3⟩ := hgrow.learn (b := w.heap.size) (vs := bs.map byteV) (fun j v hv => by
    have hj : j < bs.length := by have := (List.getElem?_eq_some_iff.1 hv).1; simpa using this
    have := Lib.bytesWorld_cell w e ⟨⟨bs⟩⟩ j hj
    rw [this]
    simp [hj] at hv
    subst hv
    simp [List.getD, hj]) (fun j => ha.st.new_c j) ha.st.new_L
  have hge : bs.length ≤ grownCap w (⟨⟨bs⟩⟩ : ByteArray).size 0 e := by
    show bs.length ≤ (Question.appendCap _ 0 e).cut _
    have : (⟨⟨bs⟩⟩ : ByteArray).size = bs.length := rfl
    simp [Question.cut]
    omega
  have he' : (execOp a.eval o).run P w = .ok (.value (.slice (some ⟨w.heap.size, 0, none⟩) bs.length (grownCap w (⟨⟨bs⟩⟩ : ByteArray).size 0 e))) (Lib.bytesWorld w e ⟨⟨bs⟩⟩) := by
    simp only [execOp, ho, ha.env.eval hx, Sem.run_bind, hr, Result.andThen_ok, Sem.run_pure]
    rfl
  simp only [Oper.wp, he', Oper.upon, hd]
  have hp := ha.put hN (.slice (some ⟨w.heap.size, 0, none⟩) bs.length (grownCap w (⟨⟨bs⟩⟩ : ByteArray).size 0 e))
  exact ⟨_, _, _, ⟨hp.size, hp.env, hp.defers, g3⟩, hK ⟨some ⟨w.heap.size, 0, none⟩, bs.length, _⟩ _ g1 ⟨rfl, hge, by show bs.length * 1 ≤ _; omega, bs, byte_refl bs, .inr ⟨w.heap.size, 0, rfl, by rw [encs_byte]; exact g2⟩⟩ rfl⟩
end
end Go.Sep

/-
  A string's bytes appended; errors compared; a row made and filled.
-/
set_option linter.unusedVariables false
set_option linter.unusedSimpArgs false
namespace Go.Sep
theorem allOne_bytes : ∀ bs : List UInt8, allOne (bs.map byteV) = true
  | [] => rfl
  | x :: xs => by
    have := allOne_bytes xs
    have h1 : (byteV x).oneCell' = true := rfl
    simpa [allOne, h1] using this
section
variable {P : Program} {N : Nat} {ρ : Env} {D : List Deferred} {m : Mem} {L : List Item} {Q : EPost} {full : List Oper} {o : Oper} {K : Env → Mem → List Item → Prop}
/-- what append of a string's bytes does -/
theorem run_appendS (T : Tab P) {t t2 e ty : TypeId} {ei : TI} {w : World} {s : Sl} {bs : List UInt8} {xs : List Value} {i : Nat} (he : T.elem t = some (e, ei)) (he2 : T.isStr t2 = true)
    (hw : St m w L) (hi : L[i]? = some (tok s ei.size)) (ho : Own s) (hx : Src w s ei.size xs) (hsz1 : ei.size = 1) (hzs : ei.zero.cells.size = ei.size) (hcap : s.len ≤ s.cap)
    (hb : 0 < ei.bytes) (hfit : (s.len + bs.length) * ei.bytes ≤ 140737488355328) (hAt : ∀ b o, s.a = some ⟨b, o, none⟩ → At m b o xs) :
    ∃ s' m' w', (Builtin.append_ #[t, t2] ty #[s.v, strV bs]).run P w = .ok s'.v w' ∧ m ≤ m' ∧ St m' w' (L.set i (tok s' ei.size)) ∧ Own s' ∧ s'.len = s.len + bs.length ∧ s'.len ≤ s'.cap ∧
      ((s'.a = none ∧ xs ++ bs.map byteV = [] ∧ s'.cap = 0) ∨ ∃ b o, s'.a = some ⟨b, o, none⟩ ∧ At m' b o (xs ++ bs.map byteV)) := by
  obtain ⟨ti, h4, h5, h6⟩ := elem_get he
  obtain ⟨ti2, k4, k5⟩ := isStr_get he2
  obtain ⟨_, _, hu, _⟩ := T.ok t ti h4
  rw [h5] at hu
  obtain ⟨_, _, hu2, _⟩ := T.ok t2 ti2 k4
  rw [k5] at hu2
  obtain ⟨info, q1, q2, q3, q4, q5⟩ := T.ok e ei h6
  have hnewA : ∀ w : World, (Builtin.firstCells ei.size bs.length (strV bs)).run P w = .ok (⟨bs.map byteV⟩ : Array Value) w := fun w => by
    have hx : (⟨⟨bs⟩⟩ : ByteArray).extract 0 bs.length = ⟨⟨bs⟩⟩ := by
      apply ByteArray.ext
      apply Array.ext'
      simp
    simp only [Builtin.firstCells, Sem.run_pure]
    rw [hx]
    congr 1
    apply Array.ext'
    simp
  have hnew := hnewA w
  have hsize : (⟨⟨bs⟩⟩ : ByteArray).size = bs.length := rfl
  have hylen : (bs.map byteV).length = bs.length * ei.size := by rw [hsz1]; simp
  have h1 : allOne (bs.map byteV) = true := by
    induction bs with
    | nil => rfl
    | cons x xs ih => exact allOne_bytes (x :: xs)
  have hbound : s.len + bs.length ≤ 140737488355328 := Nat.le_trans (Nat.le_mul_of_pos_right _ hb) hfit
  by_cases hroom : s.len + bs.length ≤ s.cap
  · -- there is room
    rcases ho with hnil | ⟨b, o, ha⟩
    · subst hnil
      simp only at hroom
      have hz : bs.length = 0 := by omega
      have hxs : xs = [] := List.eq_nil_of_length_eq_zero (by have := hx.1; simpa using this)
      have hns : bs = [] := List.eq_nil_of_length_eq_zero hz
      subst hxs; subst hns
      refine ⟨⟨none, 0, 0⟩, m, w, ?_, m.le_refl, by rw [set_same hi]; exact hw, .inl rfl, by simp [hz], by simp, .inl ⟨rfl, rfl, rfl⟩⟩
      have hnew' := hnew
      simp only [List.length_nil, List.map_nil] at hnew'
      simp [Builtin.append_, run_underlying hu, run_underlying hu2, sizeOf, typeInfo, q1, q3, Builtin.lenOf, hsize, hz, hnew']
    · obtain ⟨a, n, c⟩ := s
      simp only at ha hroom hcap hbound hfit hx hAt
      subst ha
      have hst := (hw.at_ hi)
      simp only [tok] at hst
      obtain ⟨vs, hvl, hst⟩ := hst.ofRoom
      have hnl : (bs.map byteV).length ≤ vs.length := by
        rw [hvl, hylen]; exact Nat.mul_le_mul_right _ (by omega)
      obtain ⟨w', hr, hst'⟩ := run_storeCells (P := P) (bs.map byteV) vs 0 0 w hst h1 (by omega)
      rw [putAt_zero hnl] at hst'
      have hst2 := hst'.split
      obtain ⟨g1, g2, g3⟩ := hst2.freeze
      have g4 := g3.toRoom
      refine ⟨⟨some ⟨b, o, none⟩, n + bs.length, c⟩, m.addCells b (o + n * ei.size) (bs.map byteV), w', ?_, g1, ?_, .inr ⟨b, o, rfl⟩, rfl, hroom, .inr ⟨b, o, rfl, ?_⟩⟩
      · have hr' : (storeCells ((⟨b, o, none⟩ : Addr).add (n * ei.size)) (bs.map byteV)).run P w = .ok () w' := by rw [addr_add]; exact hr
        simp [Builtin.append_, run_underlying hu, run_underlying hu2, sizeOf, typeInfo, q1, q3, Builtin.lenOf, hsize, hroom, hnew, hr']
      · have e1 : Item.room b (o + n * ei.size + (bs.map byteV).length) (List.drop (bs.map byteV).length vs).length = tok ⟨some ⟨b, o, none⟩, n + bs.length, c⟩ ei.size := by
          simp only [tok, List.length_drop, hvl, hylen]
          congr 1
          · rw [Nat.add_mul]; omega
          · rw [← Nat.sub_mul]; congr 1; omega
        rw [← e1]
        exact St.back hi g4
      · refine ((hAt b o rfl).mono g1).append ?_
        rw [hx.1]
        exact g2
  · -- it grows
    have hlt : s.cap < s.len + bs.length := by omega
    have h48 : ¬ (Builtin.nextslicecap (s.len + bs.length) s.cap * ei.bytes > 281474976710656) := by
      have := growslice_fits hlt hfit
      omega
    have hold := run_first (P := P) (hx.drew)
    have hnew' := hnewA w.drew
    obtain ⟨nc, hnc, hge⟩ : ∃ nc, nc = (Question.appendCap (s.len + bs.length) s.cap e).cut (w.tape w.drawn (.appendCap (s.len + bs.length) s.cap e)) ∧ s.len + bs.length ≤ nc := ⟨_, rfl, by simp [Question.cut]⟩
    have hst := hw.drew.allocCells ((⟨xs⟩ : Array Value) ++ (⟨bs.map byteV⟩ : Array Value) ++ Builtin.zeroCells ei.zero.cells (nc - (s.len + bs.length))) e
    have hl1 : ((⟨xs⟩ : Array Value) ++ (⟨bs.map byteV⟩ : Array Value) ++ Builtin.zeroCells ei.zero.cells (nc - (s.len + bs.length))).toList = (xs ++ bs.map byteV) ++ (Builtin.zeroCells ei.zero.cells (nc - (s.len + bs.length))).toList := by simp
    rw [hl1] at hst
    obtain ⟨g1, g2, g3⟩ := hst.split.freeze
    have g4 := g3.toRoom
    have hxl : (xs ++ bs.map byteV).length = (s.len + bs.length) * ei.size := by rw [List.length_append, hx.1, hylen, Nat.add_mul]
    refine ⟨⟨some ⟨w.heap.size, 0, none⟩, s.len + bs.length, nc⟩, _, w.drew.alloc (.cells ((⟨xs⟩ : Array Value) ++ (⟨bs.map byteV⟩ : Array Value) ++ Builtin.zeroCells ei.zero.cells (nc - (s.len + bs.length))) e), ?_, g1, ?_, .inr ⟨_, _, rfl⟩, rfl, hge, .inr ⟨_, _, rfl, g2⟩⟩
    · simp only [Sl.v] at hold
      have hb0 : ei.bytes ≠ 0 := by omega
      have hmax : ¬ (9223372036854775807 < (s.len : Int) + (bs.length : Int)) := by omega
      simp [Builtin.append_, run_underlying hu, run_underlying hu2, sizeOf, typeInfo, zeroValue, q1, q3, q4, q5, Builtin.lenOf, hsize, hroom, hold, hnew', h48, hmax, Question.forced, newRow, ← hnc, IntKind.max, IntKind.signed, IntKind.bits, hb0]
      congr 2
      apply Array.ext'
      simp
    · have e1 : Item.room w.heap.size (0 + (xs ++ bs.map byteV).length) (Builtin.zeroCells ei.zero.cells (nc - (s.len + bs.length))).toList.length = tok ⟨some ⟨w.heap.size, 0, none⟩, s.len + bs.length, nc⟩ ei.size := by
        simp only [tok, hxl, Array.length_toList, size_zeroCells, hzs]
      rw [← e1]
      have hsub : (Item.room w.heap.size (0 + (xs ++ bs.map byteV).length) (Builtin.zeroCells ei.zero.cells (nc - (s.len + bs.length))).toList.length :: L.eraseIdx i).Sublist (Item.room w.heap.size (0 + (xs ++ bs.map byteV).length) (Builtin.zeroCells ei.zero.cells (nc - (s.len + bs.length))).toList.length :: L) :=
        List.Sublist.cons_cons _ (List.eraseIdx_sublist L i)
      exact St.back hi (g4.sub hsub)


/-- append(b, s...) of a string -/
theorem OT.appendS (T : Tab P) (i : Nat) {s : Sl} {l bs : List UInt8} {x y : Operand} {t t2 e : TypeId} {ei : TI} {d : Nat} (hs : SlRep rByte m s l) (hown : Own s)
    (ho : o.op = .call ⟨.builtin .append, ⟨[x, y]⟩, ⟨[t, t2]⟩⟩) (hd : o.dst = some d) (hN : Nat.blt d N = true) (hx : ev ρ x = some s.v) (hy : ev ρ y = some (strV bs)) (he : T.elem t = some (e, ei)) (h1 : Nat.beq ei.size 1 = true) (hb : Nat.beq ei.bytes 1 = true) (hz : (cellsF ei.zero).map List.length = some 1) (ht2 : T.isStr t2 = true)
    (hi : L[i]? = some (tok s 1)) (hfit : l.length + bs.length ≤ 140737488355328)
    (hK : ∀ s' m', m ≤ m' → SlRep rByte m' s' (l ++ bs) → Own s' → K ((d, s'.v) :: ρ) m' (L.set i (tok s' 1))) : OT P N o ρ D m L Q K := by
  have e1 : ei.size = 1 := Nat.eq_of_beq_eq_true h1
  have e2 : ei.bytes = 1 := Nat.eq_of_beq_eq_true hb
  have e3 : ei.zero.cells.size = ei.size := by
    cases hc : cellsF ei.zero with
    | none => rw [hc] at hz; cases hz
    | some l => rw [hc] at hz; rw [cellsF_eq hc, e1]; simpa using hz
  intro a w ha
  obtain ⟨hl, g1, g2, g3, g4⟩ := hs.src ha.st
  have hh := byte_all2 g1
  subst hh
  rw [encs_byte] at g2 g4
  obtain ⟨s', m', w', hr, k1, k2, k3, k4, k5, k6⟩ := run_appendS (P := P) (ty := o.type) (bs := bs) T he ht2 ha.st (by rw [e1]; exact hi) hown (by rw [e1]; exact g2) e1 e3 hs.cap (by omega) (by rw [e2, hs.len]; omega) g4
  have hex : (execOp a.eval o).run P w = .ok (.value s'.v) w' := by
    simp only [execOp, ho, resolve, invoke, builtin, Sem.run_bind, Sem.run_pure, Result.andThen_ok, List.map_toArray, List.map_cons, List.map_nil, ha.env.eval hx, ha.env.eval hy]
    simp only [List.map_toArray, List.map_cons, List.map_nil, ha.env.eval hx, ha.env.eval hy, hr, Result.andThen_ok]
  have hrep : SlRep rByte m' s' (hl ++ bs) := by
    refine ⟨by rw [k4, hs.len]; simp, k5, by show s'.len * 1 ≤ _; rw [k4, hs.len]; omega, hl ++ bs, byte_refl _, ?_⟩
    rcases k6 with ⟨f1, f2, f3⟩ | ⟨b, off, f1, f2⟩
    · left
      have f2 : hl ++ bs = [] := by
        have := congrArg List.length f2
        exact List.eq_nil_of_length_eq_zero (by simpa using this)
      exact ⟨f2, fun _ => f3⟩
    · right
      exact ⟨b, off, f1, by rw [encs_byte, List.map_append]; exact f2⟩
  simp only [Oper.wp, hex, Oper.upon, hd]
  have hp := ha.put hN s'.v
  rw [e1] at k2
  exact ⟨_, _, _, ⟨hp.size, hp.env, hp.defers, k2⟩, hK s' m' k1 hrep k3⟩

/-! errors -/
theorem equalIn_ifNil {t : TypeId} {ms : Array (String × TypeId)} {w : World} (dd : Nat) (u : TypeId) (v : Value) (hu : (underlying t).run P w = .ok (.interface ms) w) :
    (Op.equalIn (dd + 1) t (.iface u v) .nilIface).run P w = .ok false w := by
  simp only [Op.equalIn, Sem.run_bind, hu, Result.andThen_ok, Sem.run_pure]
theorem equalIn_nilNil {t : TypeId} {ms : Array (String × TypeId)} {w : World} (dd : Nat) (hu : (underlying t).run P w = .ok (.interface ms) w) :
    (Op.equalIn (dd + 1) t .nilIface .nilIface).run P w = .ok true w := by
  simp only [Op.equalIn, Sem.run_bind, hu, Result.andThen_ok, Sem.run_pure]
def isErr : Value → Bool
  | .iface _ _ => true
  | _ => false
/-- e != nil -/
theorem OT.errNe (T : Tab P) {t t' : TypeId} {x y : Operand} {v : Value} {d : Nat} (ho : o.op = .binOp .neq t x y t') (hd : o.dst = some d) (hN : Nat.blt d N = true)
    (hx : ev ρ x = some v) (hv : v = .nilIface ∨ ∃ u a, v = .iface u a) (hy : y = .const .nilIface) (ht : T.isIface t = true) (hK : K ((d, .bool (isErr v)) :: ρ) m L) : OT P N o ρ D m L Q K := by
  obtain ⟨ti, ms, h1, h2⟩ := isIface_get ht
  subst hy
  have hy : ev ρ (.const .nilIface) = some .nilIface := rfl
  refine OT.run hd hN (fun ac w ha => ⟨w, ?_, ha.st⟩) hK
  have hu := T.run_underlying w h1
  rw [h2] at hu
  have e1 : binOp .neq t v .nilIface = (do pure (.bool (!(← Op.equalIn (9999 + 1) t v .nilIface))) : Sem Value) := by
    rcases hv with rfl | ⟨u, a, rfl⟩ <;> rfl
  rcases hv with rfl | ⟨u, a, rfl⟩
  · have h := equalIn_nilNil (P := P) 9999 hu
    have e2 : (eqGuard .neq t x (.const .nilIface) .nilIface .nilIface).run P w = .ok () w := by simp [eqGuard]
    simp only [execOp, ho, ha.env.eval hx, ha.env.eval hy, Sem.run_bind, e2, Result.andThen_ok, e1, h, Sem.run_pure]; rfl
  · have h := equalIn_ifNil (P := P) 9999 u a hu
    have e2 : (eqGuard .neq t x (.const .nilIface) (.iface u a) .nilIface).run P w = .ok () w := by simp [eqGuard]
    simp only [execOp, ho, ha.env.eval hx, ha.env.eval hy, Sem.run_bind, e2, Result.andThen_ok, e1, h, Sem.run_pure]; rfl
theorem equalIn_ints {t u : TypeId} {k : IntKind} {info : TypeInfo} {ms : Array (String × TypeId)} {w : World} (dd : Nat) (a b : Int) (hu : (underlying t).run P w = .ok (.interface ms) w) (hi : P.info? u = some info) (hc : info.comparable = true) (hk : (underlying u).run P w = .ok (.int k) w) :
    (Op.equalIn (dd + 1 + 1) t (.iface u (.int k a)) (.iface u (.int k b))).run P w = .ok (a == b) w := by
  rw [Op.equalIn]
  simp only [Sem.run_bind, hu, Result.andThen_ok]
  simp [typeInfo, hi, hc, Op.equalIn, hk]
/-- two errors that are numbers compared -/
theorem OT.errEq (T : Tab P) {op : BinOp} {t t' u : TypeId} {k : IntKind} {info : TypeInfo} {x y : Operand} {a b : Int} {d : Nat} (hop : op = .eql ∨ op = .neq) (ho : o.op = .binOp op t x y t') (hd : o.dst = some d) (hN : Nat.blt d N = true)
    (hx : ev ρ x = some (.iface u (.int k a))) (hy : ev ρ y = some (.iface u (.int k b))) (ht : T.isIface t = true) (hi : P.info? u = some info) (hc : info.comparable = true) (hk : T.intK u = some k) (hK : K ((d, .bool (if op = .eql then decide (a = b) else !decide (a = b))) :: ρ) m L) : OT P N o ρ D m L Q K := by
  obtain ⟨ti, ms, h1, h2⟩ := isIface_get ht
  obtain ⟨ui, u1, u2⟩ := intK_get hk
  refine OT.run hd hN (fun ac w ha => ⟨w, ?_, ha.st⟩) hK
  have hu := T.run_underlying w h1
  rw [h2] at hu
  have hku := T.run_underlying w u1
  rw [u2] at hku
  have h := equalIn_ints (P := P) (k := k) 9998 a b hu hi hc hku
  rcases hop with rfl | rfl
  · have e1 : binOp .eql t (.iface u (.int k a)) (.iface u (.int k b)) = (do pure (.bool (← Op.equalIn (9998 + 1 + 1) t (.iface u (.int k a)) (.iface u (.int k b)))) : Sem Value) := rfl
    have e2 : (eqGuard .eql t x y (.iface u (.int k a)) (.iface u (.int k b))).run P w = .ok () w := by simp [eqGuard]
    simp only [execOp, ho, ha.env.eval hx, ha.env.eval hy, Sem.run_bind, e2, Result.andThen_ok, e1, h, Sem.run_pure, if_true, beq_dec]
  · have e1 : binOp .neq t (.iface u (.int k a)) (.iface u (.int k b)) = (do pure (.bool (!(← Op.equalIn (9998 + 1 + 1) t (.iface u (.int k a)) (.iface u (.int k b))))) : Sem Value) := rfl
    have e2 : (eqGuard .neq t x y (.iface u (.int k a)) (.iface u (.int k b))).run P w = .ok () w := by simp [eqGuard]
    simp only [execOp, ho, ha.env.eval hx, ha.env.eval hy, Sem.run_bind, e2, Result.andThen_ok, e1, h, Sem.run_pure, beq_dec]
    simp
theorem equalIn_ptrSame {t e : TypeId} {w : World} {ei : TI} (T : Tab P) (dd : Nat) (b : Nat) (hu : (underlying t).run P w = .ok (.pointer e) w) (he : T.get e = some ei) (hz : ei.size ≠ 0) :
    (Op.equalIn (dd + 1) t (.pointer (some ⟨b, 0, none⟩)) (.pointer (some ⟨b, 0, none⟩))).run P w = .ok true w := by
  have hs := T.run_sizeOf w he
  simp only [Op.equalIn, Sem.run_bind, hu, Result.andThen_ok, hs]
  simp [hz, sameAddr]
/-- p != p -/
theorem OT.ptrSame (T : Tab P) {t t' e : TypeId} {x y : Operand} {b d : Nat} (ho : o.op = .binOp .neq t x y t') (hd : o.dst = some d) (hN : Nat.blt d N = true)
    (hx : ev ρ x = some (.pointer (some ⟨b, 0, none⟩))) (hy : ev ρ y = some (.pointer (some ⟨b, 0, none⟩))) (ht : T.isPtr t e = true) (he : T.size1 e = true) (hK : K ((d, .bool false) :: ρ) m L) : OT P N o ρ D m L Q K := by
  obtain ⟨ti, h1, h2⟩ := isPtr_get ht
  obtain ⟨ei, e1, e2⟩ := size1_get he
  refine OT.run hd hN (fun ac w ha => ⟨w, ?_, ha.st⟩) hK
  have hu := T.run_underlying w h1
  rw [h2] at hu
  have g1 : binOp .neq t (.pointer (some ⟨b, 0, none⟩)) (.pointer (some ⟨b, 0, none⟩)) = (do pure (.bool (!(← Op.equalIn (9999 + 1) t (.pointer (some ⟨b, 0, none⟩)) (.pointer (some ⟨b, 0, none⟩))))) : Sem Value) := rfl
  have g2 : (eqGuard .neq t x y (.pointer (some ⟨b, 0, none⟩)) (.pointer (some ⟨b, 0, none⟩))).run P w = .ok () w := by simp [eqGuard]
  have h := equalIn_ptrSame (P := P) T 9999 b hu e1 e2
  simp only [execOp, ho, ha.env.eval hx, ha.env.eval hy, Sem.run_bind, g2, Result.andThen_ok, g1, h, Sem.run_pure]; rfl
end
end Go.Sep

/-
  A row of bytes made, filled from a string, made a string.
-/
set_option linter.unusedVariables false
set_option linter.unusedSimpArgs false
namespace Go.Sep
section
variable {P : Program} {N : Nat} {ρ : Env} {D : List Deferred} {m : Mem} {L : List Item} {Q : EPost} {full : List Oper} {o : Oper} {K : Env → Mem → List Item → Prop}
/-- make([]T, n), with the block's type -/
theorem OT.makeT (T : Tab P) {t : TypeId} {n d : Nat} {z : Value} {x y : Operand} {e : TypeId} {ei : TI} (ho : o.op = .makeSlice t x y) (hd : o.dst = some d) (hN : Nat.blt d N = true)
    (hx : ev ρ x = some (.int .i64 (n : Int))) (hy : ev ρ y = some (.int .i64 (n : Int))) (he : T.elem t = some (e, ei)) (hs : Nat.beq ei.size 1 = true) (hz : cellsF ei.zero = some [z]) (hfit : n * ei.bytes ≤ 281474976710656) (hb : Nat.blt 0 ei.bytes = true)
    (hK : ∀ b m', m ≤ m' → m'.t b = some (e, n) → m'.pin.heap.size ≤ b → K ((d, .slice (some ⟨b, 0, none⟩) n n) :: ρ) m' (.cells b 0 (List.replicate n z) :: L)) : OT P N o ρ D m L Q K := by
  intro a w ha
  obtain ⟨ti, h4, h5, h6⟩ := elem_get he
  have hu := T.run_underlying w h4
  rw [h5] at hu
  obtain ⟨info, q1, q2, q3, q4, q5⟩ := T.ok e ei h6
  have hs1 := Nat.eq_of_beq_eq_true hs
  have hbp : 0 < ei.bytes := by simpa [Nat.blt_eq] using hb
  have hn : n ≤ 281474976710656 := Nat.le_trans (Nat.le_mul_of_pos_right _ hbp) hfit
  have hzc := cellsF_eq hz
  obtain ⟨_, _, hu', _⟩ := T.ok t ti h4
  rw [h5] at hu'
  have hcast : ((info.bytes : Int) * (n : Int)) = ((n * ei.bytes : Nat) : Int) := by rw [q4, Nat.mul_comm]; simp
  have hmk := run_make (P := P) w t e info ei.zero hu' q1 q5 .i64 .i64 (n : Int) (n : Int) (by omega) (by omega) (by rw [hcast]; omega) (by omega)
  have hrow : madeCells (⟨[z]⟩ : Array Value) (n * 1) = ⟨List.replicate n z⟩ := by
    apply Array.ext'
    simp only [madeCells, Nat.mul_one, Array.toList_map, Array.toList_range]
    apply List.ext_getElem
    · simp
    · intro i h1 h2
      simp [Nat.mod_one]
  rw [Int.toNat_natCast, q3, hs1, hzc, hrow] at hmk
  have hr : (execOp a.eval o).run P w = .ok (.value (.slice (some ⟨w.heap.size, 0, none⟩) n n)) (w.alloc (.cells ⟨List.replicate n z⟩ e)) := by
    simp only [execOp, ho, ha.env.eval hx, ha.env.eval hy, Sem.run_bind, hmk, Result.andThen_ok, Sem.run_pure]
  simp only [Oper.wp, hr, Oper.upon, hd]
  have hp := ha.put hN (.slice (some ⟨w.heap.size, 0, none⟩) n n)
  have hst := ha.st.allocCells ⟨List.replicate n z⟩ e
  obtain ⟨f1, f2, f3⟩ := hst.typed (heap_alloc_at w (.cells ⟨List.replicate n z⟩ e))
  exact ⟨_, _, _, ⟨hp.size, hp.env, hp.defers, f3⟩, hK _ _ f1 (by simpa using f2) (by rw [f1.pin]; exact ha.st.size)⟩

/-- copy(b, s) of a string -/
theorem OT.copyS (T : Tab P) (i : Nat) {x y : Operand} {t t2 e : TypeId} {ei : TI} {b off k n c : Nat} {bs : List UInt8} {vs : List Value} {d : Nat} (ho : o.op = .call ⟨.builtin .copy, ⟨[x, y]⟩, ⟨[t, t2]⟩⟩) (hd : o.dst = some d) (hN : Nat.blt d N = true)
    (hx : ev ρ x = some (.slice (some ⟨b, off + k, none⟩) n c)) (hy : ev ρ y = some (strV bs)) (hle : bs.length ≤ n) (he : T.elem t = some (e, ei)) (hsz : Nat.beq ei.size 1 = true)
    (hi : L[i]? = some (.cells b off vs)) (hk : k + bs.length ≤ vs.length)
    (hK : K ((d, .int .i64 (bs.length : Int)) :: ρ) m (L.set i (.cells b off (putAt vs k (bs.map byteV))))) : OT P N o ρ D m L Q K := by
  obtain ⟨ti, h4, h5, h6⟩ := elem_get he
  have hs1 := Nat.eq_of_beq_eq_true hsz
  intro ac w ha
  have hu := T.run_underlying w h4
  rw [h5] at hu
  have hes := T.run_sizeOf w h6
  rw [hs1] at hes
  have hst := ha.st.at_ hi
  obtain ⟨w', hr, hst'⟩ := run_storeCells (P := P) (bs.map byteV) vs k 0 w hst (allOne_bytes bs) (by rw [List.length_map]; omega)
  have hx2 : (⟨⟨bs⟩⟩ : ByteArray).extract 0 bs.length = ⟨⟨bs⟩⟩ := by
    apply ByteArray.ext
    apply Array.ext'
    simp
  have hfirst' : (Builtin.firstCells 1 bs.length (strV bs)).run P w = .ok (⟨bs.map byteV⟩ : Array Value) w := by
    simp only [Builtin.firstCells, Sem.run_pure]
    rw [hx2]
    congr 1
    apply Array.ext'
    simp
  have he' : (execOp ac.eval o).run P w = .ok (.value (.int .i64 (bs.length : Int))) w' := by
    simp only [execOp, ho, resolve, invoke, builtin, Sem.run_bind, Sem.run_pure, Result.andThen_ok, List.map_toArray, List.map_cons, List.map_nil, ha.env.eval hx, ha.env.eval hy]
    have hlen : (Builtin.lenOf (strV bs)).run P w = .ok bs.length w := rfl
    have hmin : Nat.min bs.length n = bs.length := Nat.min_eq_left hle
    simp [Builtin.copy_, hu, hes, hlen, hfirst', hr, goInt, hmin]
  simp only [Oper.wp, he', Oper.upon, hd]
  have hp := ha.put hN (.int .i64 (bs.length : Int))
  exact ⟨_, _, _, ⟨hp.size, hp.env, hp.defers, hst'.back hi⟩, hK⟩


theorem tok_full (b n : Nat) : tok ⟨some ⟨b, 0, none⟩, n, n⟩ 1 = .room b n 0 := by simp [tok]
theorem TO.tokFull {l : List Oper} (b n : Nat) (h : TO P N ⟨full⟩ l ρ D m (tok ⟨some ⟨b, 0, none⟩, n, n⟩ 1 :: L) Q) : TO P N ⟨full⟩ l ρ D m L Q := by
  rw [tok_full] at h
  exact TO.room0 b n h
theorem putAt_all {vs cs : List Value} (h : vs.length = cs.length) : putAt vs 0 cs = cs := by
  rw [putAt_zero (by omega), List.drop_of_length_le (by omega), List.append_nil]
end
end Go.Sep

/-
  Bytes' bits; freezing within a region; rows of bytes.
-/
set_option linter.unusedVariables false
set_option linter.unusedSimpArgs false
namespace Go.Sep
section
variable {P : Program} {N : Nat} {ρ : Env} {D : List Deferred} {m : Mem} {L : List Item} {Q : EPost} {full : List Oper} {o : Oper} {K : Env → Mem → List Item → Prop}
theorem OT.freeze {b off : Nat} {vs : List Value} (h : ∀ m', m ≤ m' → At m' b off vs → OT P N o ρ D m' L Q K) : OT P N o ρ D m (.cells b off vs :: L) Q K := by
  intro a w ha
  obtain ⟨h1, h2, h3⟩ := ha.st.freeze
  exact h _ h1 h2 a w ⟨ha.size, ha.env, ha.defers, h3⟩
theorem u8_and15 (a : Nat) (ha : a < 256) : IntKind.wrap .u8 (((BitVec.ofInt 8 (a : Int)) &&& (BitVec.ofInt 8 15)).toNat : Int) = ((a % 16 : Nat) : Int) := by
  have := (by decide +kernel : ∀ n : Fin 256, IntKind.wrap .u8 (((BitVec.ofInt 8 (n.val : Int)) &&& (BitVec.ofInt 8 15)).toNat : Int) = ((n.val % 16 : Nat) : Int)) ⟨a, ha⟩
  exact this
/-- a & 15 of a byte -/
theorem OT.and15 {t t' : TypeId} {x y : Operand} {a : Nat} {d : Nat} (ho : o.op = .binOp .and t x y t') (hd : o.dst = some d) (hN : Nat.blt d N = true)
    (hx : ev ρ x = some (.int .u8 (a : Int))) (hy : ev ρ y = some (.int .u8 15)) (ha' : a < 256) (hK : K ((d, .int .u8 ((a % 16 : Nat) : Int)) :: ρ) m L) : OT P N o ρ D m L Q K := by
  refine OT.run hd hN (fun ac w ha => ⟨w, ?_, ha.st⟩) hK
  have hr := u8_and15 a ha'
  simp only [execOp, ho, ha.env.eval hx, ha.env.eval hy, Sem.run_bind, eqGuard, binOp, Op.intBits]
  simp [IntKind.bits] at hr ⊢
  exact hr
/-- s[k] of a string, k an integer of any kind -/
theorem OT.sidxK (T : Tab P) {t : TypeId} {x y : Operand} {s : Str} {i : Int} {kd : IntKind} {b : UInt8} {d : Nat} (k : Nat) (ho : o.op = .index t x y) (hd : o.dst = some d) (hN : Nat.blt d N = true)
    (ht : T.isStr t = true) (hx : ev ρ x = some (strV s)) (hy : ev ρ y = some (.int kd i)) (hi : i = (k : Int)) (hb : s[k]? = some b) (hK : K ((d, byteV b) :: ρ) m L) : OT P N o ρ D m L Q K := by
  obtain ⟨ti, h1, h2⟩ := isStr_get ht
  subst hi
  refine OT.run hd hN (fun a w ha => ⟨w, ?_, ha.st⟩) hK
  have hu := T.run_underlying w h1
  rw [h2] at hu
  have hg := getElem_data s k hb
  simp only [execOp, ho, ha.env.eval hx, ha.env.eval hy, Instr.index, asIntOf, Sem.run_bind, Sem.run_pure, Result.andThen_ok, hu, Int.toNat_natCast, Int.natCast_nonneg, if_true, hg]
theorem SlRep.bytes {b : Nat} {bs : List UInt8} {n : Nat} (hA : At m b 0 (bs.map byteV)) (hn : bs.length = n) (hfit : n ≤ 140737488355328) : SlRep rByte m ⟨some ⟨b, 0, none⟩, n, n⟩ bs := by
  subst hn
  exact ⟨rfl, Nat.le_refl _, by show bs.length * 1 ≤ _; omega, bs, byte_refl bs, .inr ⟨b, 0, rfl, by rw [encs_byte]; exact hA⟩⟩
theorem run_bytes_zero {P : Program} (w : World) (src e dst : TypeId) (hs : P.underlying src = some (.slice e)) (he : P.underlying e = some (.int .u8)) (p : Option Addr) (c : Nat) (hd : P.underlying dst = some .string) :
    (convert src dst (.slice p 0 c)).run P w = .ok (.string ByteArray.empty) w := by
  rw [run_convert_bytes_string w src dst e _ 0 c hs he hd]
  cases p <;> simp [Conv.bytesToString, loadCells]
  all_goals rfl
/-- string(b) of any row of bytes -/
theorem OT.bytesStrA (T : Tab P) {t u : TypeId} {x : Operand} {s : Sl} {bs : List UInt8} {d : Nat} {e : TypeId} {ei : TI} (ho : o.op = .convert t u x) (hd : o.dst = some d) (hN : Nat.blt d N = true) (hx : ev ρ x = some s.v) (he : T.elem t = some (e, ei)) (hb : ei.u = .int .u8) (hu : T.isStr u = true) (hs : SlRep rByte m s bs)
    (hK : K ((d, strV bs) :: ρ) m L) : OT P N o ρ D m L Q K := by
  by_cases hpos : 0 < bs.length
  · exact OT.bytesStr T ho hd hN hx he hb hu hs hpos hK
  · have h0 : bs = [] := List.eq_nil_of_length_eq_zero (by omega)
    subst h0
    obtain ⟨ti, h4, h5, h6⟩ := elem_get he
    obtain ⟨ui, u1, u2⟩ := isStr_get hu
    obtain ⟨_, _, hut, _⟩ := T.ok t ti h4
    rw [h5] at hut
    obtain ⟨_, _, huu, _⟩ := T.ok u ui u1
    rw [u2] at huu
    obtain ⟨_, _, hue, _⟩ := T.ok e ei h6
    rw [hb] at hue
    refine OT.run hd hN (fun ac w ha => ⟨w, ?_, ha.st⟩) hK
    obtain ⟨a, n, c⟩ := s
    have hlen : n = 0 := hs.len
    subst hlen
    have hr := run_bytes_zero (P := P) w t e u hut hue a c huu
    simp only [execOp, ho, ha.env.eval hx, Sl.v, Sem.run_bind, hr, Result.andThen_ok, Sem.run_pure]
    rfl
theorem TC.tokFull {c : Code} (b n : Nat) (h : TC P N c ρ D m (tok ⟨some ⟨b, 0, none⟩, n, n⟩ 1 :: L) Q) : TC P N c ρ D m L Q := by
  rw [tok_full] at h
  exact TC.room0 b n h
end
end Go.Sep

/-
  Within a region whose order is drawn: operations that only compute, taken first.
-/
set_option linter.unusedVariables false
set_option linter.unusedSimpArgs false
namespace Go.Sep
section
variable {P : Program} {N : Nat} {ρ : Env} {D : List Deferred} {m : Mem} {L Ls Lp : List Item} {Q : EPost} {ops : List Oper} {ts : List Nat} {fuel : Nat} {listed : List Bool}
/-- s[k] of a string, taken first -/
theorem DO.sidx (T : Tab P) (i : Nat) {t : TypeId} {x y : Operand} {o : Oper} {s : Str} {iv : Int} {kd : IntKind} {b : UInt8} {d : Nat} (k : Nat) (hc : Calm Q) (hns : Region.noSelect ⟨ops⟩ = true) (hok : orderOkP ops ts [i] listed = true)
    (hi : ops[i]? = some o) (hg : gv ops ρ o = some true) (ho : o.op = .index t x y) (hd : o.dst = some d) (hN : Nat.blt d N = true)
    (ht : T.isStr t = true) (hx : ev ρ x = some (strV s)) (hy : ev ρ y = some (.int kd iv)) (hik : iv = (k : Int)) (hb : s[k]? = some b)
    (h : DO P N ops ts fuel (listed.set i true) ((d, byteV b) :: ρ) D m Ls Lp Q) : DO P N ops ts (fuel + 1) listed ρ D m Ls Lp Q := by
  simp only [orderOkP, Bool.and_eq_true] at hok
  obtain ⟨o1, o2, o3, _⟩ := hok
  obtain ⟨ti, h1, h2⟩ := isStr_get ht
  subst hik
  refine DO.takeP i hc hi hd hN hg hns o1 o2 (by simpa using o3) (fun ac w hA => ?_) h
  have hu := T.run_underlying w h1
  rw [h2] at hu
  have hg := getElem_data s k hb
  simp only [execOp, ho, hA.eval hx, hA.eval hy, Instr.index, asIntOf, Sem.run_bind, Sem.run_pure, Result.andThen_ok, hu, Int.toNat_natCast, Int.natCast_nonneg, if_true, hg]
/-- an integer seen as1 another kind, taken first -/
theorem DO.conv (T : Tab P) (i : Nat) {s t : TypeId} {x : Operand} {o : Oper} {k ks kt : IntKind} {d : Nat} {a r : Int} (hc : Calm Q) (hns : Region.noSelect ⟨ops⟩ = true) (hok : orderOkP ops ts [i] listed = true)
    (hi : ops[i]? = some o) (hg : gv ops ρ o = some true) (ho : o.op = .convert s t x) (hd : o.dst = some d) (hN : Nat.blt d N = true)
    (hs : T.intK s = some ks) (ht : T.intK t = some kt) (hx : ev ρ x = some (.int k a)) (hr : kt.wrap a = r)
    (h : DO P N ops ts fuel (listed.set i true) ((d, .int kt r) :: ρ) D m Ls Lp Q) : DO P N ops ts (fuel + 1) listed ρ D m Ls Lp Q := by
  simp only [orderOkP, Bool.and_eq_true] at hok
  obtain ⟨o1, o2, o3, _⟩ := hok
  obtain ⟨si, s1, s2⟩ := intK_get hs
  obtain ⟨ti, t1, t2⟩ := intK_get ht
  refine DO.takeP i hc hi hd hN hg hns o1 o2 (by simpa using o3) (fun ac w hA => ?_) h
  have hus := T.run_underlying w s1
  have hut := T.run_underlying w t1
  rw [s2] at hus
  rw [t2] at hut
  simp only [execOp, ho, hA.eval hx, Go.convert, Sem.run_bind, hus, hut, Result.andThen_ok, Conv.intToInt, Sem.run_pure, hr]
end
section
variable {P : Program} {N : Nat} {ρ : Env} {D : List Deferred} {m : Mem} {L : List Item} {Q : EPost} {o : Oper} {K : Env → Mem → List Item → Prop}
/-- xs[k] of a slice, k an integer of any kind -/
theorem OT.indexK {H α : Type} (T : Tab P) (r : R H α) {s : Sl} {l : List α} (k : Nat) {kd : IntKind} {x y : Operand} {t : TypeId} {d : Nat} {a : α} (hs : SlRep r m s l)
    (ho : o.op = .indexAddr t x y) (hd : o.dst = some d) (hN : Nat.blt d N = true) (hx : ev ρ x = some s.v) {iv : Int} (hy : ev ρ y = some (.int kd iv)) (hik : iv = (k : Int)) (hsz : T.esize t = some r.size) (hk : l[k]? = some a)
    (hK : ∀ b i hd', r.rep m hd' a → At m b i (r.enc hd') → K ((d, .pointer (some ⟨b, i, none⟩)) :: ρ) m L) : OT P N o ρ D m L Q K := by
  subst hik
  obtain ⟨b, i, hd', h1, h2, h3⟩ := hs.elem hk
  have hlt : k < s.len := by rw [hs.len]; exact (List.getElem?_eq_some_iff.1 hk).1
  refine OT.run hd hN (fun ac w ha => ⟨w, ?_, ha.st⟩) (hK b (i + k * r.size) hd' h2 h3)
  have hx' := ha.env.eval hx
  simp only [Sl.v, h1] at hx'
  have := run_indexAddr (P := P) T (n := 0) (len := s.len) (cap := s.cap) (ad := ⟨b, i, none⟩) (k := kd) (w := w) hsz (Int.natCast_nonneg k) (by omega : (k : Int) < s.len)
  rw [addr_add, Int.toNat_natCast] at this
  simp only [execOp, ho, hx', ha.env.eval hy, Sem.run_bind, this, Result.andThen_ok, Sem.run_pure]
end
end Go.Sep

/-
  Rows that the call owns with their room, of elements of any size: append of one.
-/
set_option linter.unusedVariables false
set_option linter.unusedSimpArgs false
namespace Go.Sep
/-- an owned row: what it holds, and its room -/
structure ORow {H : Type} (s : Sl) (hs : List H) : Prop where
  len : s.len ≤ s.cap
  all : hs.length = s.cap
  adr : (s = ⟨none, 0, 0⟩) ∨ ∃ b, s.a = some ⟨b, 0, none⟩
theorem ORow.nil {H : Type} : ORow (H := H) ⟨none, 0, 0⟩ [] := ⟨Nat.le_refl _, rfl, .inl rfl⟩
theorem ORow.pos {H : Type} {s : Sl} {hs : List H} (h : ORow s hs) (hp : 0 < s.len) : ∃ b, s = ⟨some ⟨b, 0, none⟩, s.len, s.cap⟩ := by
  rcases h.adr with e | ⟨b, e⟩
  · rw [e] at hp; simp at hp
  · refine ⟨b, ?_⟩
    obtain ⟨a, n, c⟩ := s
    simp only at e
    rw [e]
theorem encs_rep {H α : Type} (r : R H α) (z : H) : ∀ n, encs r (List.replicate n z) = (List.replicate n (r.enc z)).flatten := by
  intro n
  induction n with
  | zero => rfl
  | succ n ih => rw [List.replicate_succ, encs_cons, ih, List.replicate_succ, List.flatten_cons]
theorem zeroCells_list (l : List Value) (hl : 0 < l.length) (n : Nat) : (Builtin.zeroCells ⟨l⟩ n).toList = (List.replicate n l).flatten := by
  simp only [Builtin.zeroCells, Array.toList_map, Array.toList_range]
  apply List.ext_getElem
  · simp [List.length_flatten]
  · intro i h1 h2
    simp only [List.length_map, List.length_range] at h1
    have hm : i % l.length < l.length := Nat.mod_lt _ hl
    have key : ∀ n i, i < n * l.length → ((List.replicate n l).flatten)[i]? = l[i % l.length]? := by
      intro n
      induction n with
      | zero => intro i h; simp at h
      | succ n ih =>
        intro i h
        rw [List.replicate_succ, List.flatten_cons]
        by_cases hi : i < l.length
        · rw [List.getElem?_append_left hi, Nat.mod_eq_of_lt hi]
        · rw [List.getElem?_append_right (by omega), ih _ (by rw [Nat.add_mul] at h; omega)]
          congr 1
          exact (Nat.mod_eq_sub_mod (by omega)).symm
    have := key n i (by simpa using h1)
    rw [List.getElem?_eq_getElem h2, List.getElem?_eq_getElem hm] at this
    simp only [List.getElem_map, List.getElem_range, Option.some.injEq] at this ⊢
    rw [this]
    simp [hm]
section
variable {P : Program} {N : Nat} {ρ : Env} {D : List Deferred} {m : Mem} {L : List Item} {Q : EPost} {full : List Oper} {o : Oper} {K : Env → Mem → List Item → Prop}
theorem run_pushR {H α : Type} (T : Tab P) (r : R H α) {t t2 e e2 ty : TypeId} {ei ei2 : TI} {w : World} {s s2 : Sl} {hs : List H} {x z : H} (he : T.elem t = some (e, ei)) (he2 : T.elem t2 = some (e2, ei2))
    (hw : St m w (mcell s (encs r hs) :: L)) (hM : ORow s hs) (hsz : ei.size = r.size) (hy : Src w s2 ei.size (r.enc x)) (hn : s2.len = 1) (hz : ei.zero.cells = ⟨r.enc z⟩) (hrp : 0 < r.size)
    (hb : 0 < ei.bytes) (hfit : (s.len + 1) * ei.bytes ≤ 140737488355328) :
    ∃ s' hs' w', (Builtin.append_ #[t, t2] ty #[s.v, s2.v]).run P w = .ok s'.v w' ∧ St m w' (mcell s' (encs r hs') :: L) ∧ ORow s' hs' ∧ s'.len = s.len + 1 ∧ hs'.take s'.len = hs.take s.len ++ [x] := by
  obtain ⟨ti, h4, h5, h6⟩ := elem_get he
  obtain ⟨ti2, k4, k5, k6⟩ := elem_get he2
  obtain ⟨_, _, hu, _⟩ := T.ok t ti h4
  rw [h5] at hu
  obtain ⟨_, _, hu2, _⟩ := T.ok t2 ti2 k4
  rw [k5] at hu2
  obtain ⟨info, q1, q2, q3, q4, q5⟩ := T.ok e ei h6
  have hnew := run_first (P := P) hy
  have hbound : s.len + 1 ≤ 140737488355328 := Nat.le_trans (Nat.le_mul_of_pos_right _ hb) hfit
  have hcap := hM.len
  have hall := hM.all
  have hsrc : Src w s ei.size (encs r (hs.take s.len)) := by
    refine ⟨by rw [hsz, encs_len, List.length_take]; congr 1; omega, ?_⟩
    rcases hM.adr with h | ⟨b, h⟩
    · left; rw [h]
    · right
      refine ⟨b, 0, h, fun j v hv => ?_⟩
      have hc := hw.cells (i := 0) (b := b) (off := 0) (vs := encs r hs) (by simp [mcell, h])
      refine hc j v ?_
      have e : encs r hs = encs r (hs.take s.len) ++ encs r (hs.drop s.len) := by rw [← encs_append, List.take_append_drop]
      rw [e, List.getElem?_append_left (List.getElem?_eq_some_iff.1 hv).1]
      exact hv
  by_cases hroom : s.len + s2.len ≤ s.cap
  · rcases hM.adr with hnil | ⟨b, ha⟩
    · subst hnil; simp only at hroom; omega
    · obtain ⟨a, n, c⟩ := s
      simp only at ha hroom hcap hbound hfit hall hsrc
      subst ha
      simp only [mcell] at hw
      have hnl : n < hs.length := by omega
      have hgx : hs[n]? = some hs[n] := List.getElem?_eq_getElem hnl
      have hlen2 : (n + 1) * r.size ≤ hs.length * r.size := Nat.mul_le_mul_right _ hnl
      obtain ⟨w', hr, hst'⟩ := run_storeCells (P := P) (r.enc x) (encs r hs) (n * r.size) 0 w hw (r.one x) (by rw [encs_len, r.enc_len]; rw [Nat.add_mul] at hlen2; omega)
      have hput : putAt (encs r hs) (n * r.size + 0) (r.enc x) = encs r (hs.set n x) := by
        refine putAt_encs r hgx (fun rest => ?_)
        have e := putAt_front (r.enc x) (r.enc hs[n] ++ rest) (by simp [r.enc_len]) []
        simp only [List.nil_append, List.length_nil] at e
        rw [e, List.drop_append, List.drop_of_length_le (by rw [r.enc_len, r.enc_len]; exact Nat.le_refl _), r.enc_len, r.enc_len, Nat.sub_self]
        simp
      rw [hput] at hst'
      refine ⟨⟨some ⟨b, 0, none⟩, n + s2.len, c⟩, hs.set n x, w', ?_, hst', ⟨hroom, by rw [List.length_set]; exact hall, .inr ⟨b, rfl⟩⟩, by rw [hn], ?_⟩
      · have hr' : (storeCells ((⟨b, 0, none⟩ : Addr).add (n * ei.size)) (r.enc x)).run P w = .ok () w' := by rw [hsz, addr_add]; exact hr
        simp only [Sl.v] at hnew
        simp [Builtin.append_, run_underlying hu, run_underlying hu2, sizeOf, typeInfo, q1, q3, Builtin.lenOf, hroom, hnew] at hnew ⊢
        simp [hnew, hr']
      · simp only [hn]
        rw [List.take_add_one, List.getElem?_set_self hnl, List.take_set_of_le (Nat.le_refl _)]
        rfl
  · have hlt : s.cap < s.len + s2.len := by omega
    have h48 : ¬ (Builtin.nextslicecap (s.len + s2.len) s.cap * ei.bytes > 281474976710656) := by
      have := growslice_fits hlt (by rw [hn]; exact hfit)
      omega
    have hold := run_first (P := P) (hsrc.drew)
    have hnew' := run_first (P := P) (hy.drew)
    obtain ⟨nc, hnc, hge⟩ : ∃ nc, nc = (Question.appendCap (s.len + s2.len) s.cap e).cut (w.tape w.drawn (.appendCap (s.len + s2.len) s.cap e)) ∧ s.len + s2.len ≤ nc := ⟨_, rfl, by simp [Question.cut]⟩
    have hst := (hw.sub (List.sublist_cons_self _ _)).drew.allocCells ((⟨encs r (hs.take s.len)⟩ : Array Value) ++ (⟨r.enc x⟩ : Array Value) ++ Builtin.zeroCells ei.zero.cells (nc - (s.len + s2.len))) e
    have hcs : ((⟨encs r (hs.take s.len)⟩ : Array Value) ++ (⟨r.enc x⟩ : Array Value) ++ Builtin.zeroCells ei.zero.cells (nc - (s.len + s2.len))).toList = encs r (hs.take s.len ++ x :: List.replicate (nc - (s.len + s2.len)) z) := by
      rw [Array.toList_append, Array.toList_append, hz, zeroCells_list _ (by rw [r.enc_len]; exact hrp), encs_append, encs_cons, encs_rep, List.append_assoc]
    rw [hcs] at hst
    refine ⟨⟨some ⟨w.heap.size, 0, none⟩, s.len + s2.len, nc⟩, hs.take s.len ++ x :: List.replicate (nc - (s.len + s2.len)) z, w.drew.alloc (.cells ((⟨encs r (hs.take s.len)⟩ : Array Value) ++ (⟨r.enc x⟩ : Array Value) ++ Builtin.zeroCells ei.zero.cells (nc - (s.len + s2.len))) e), ?_, hst, ⟨hge, ?_, .inr ⟨_, rfl⟩⟩, by rw [hn], ?_⟩
    · simp only [Sl.v] at hold hnew'
      have hb0 : ei.bytes ≠ 0 := by omega
      have hmax : ¬ (9223372036854775807 < (s.len : Int) + (s2.len : Int)) := by omega
      simp [Builtin.append_, run_underlying hu, run_underlying hu2, sizeOf, typeInfo, zeroValue, q1, q3, q4, q5, Builtin.lenOf, hroom, hold, hnew', h48, hmax, Question.forced, newRow, ← hnc, IntKind.max, IntKind.signed, IntKind.bits, hb0]
      congr 2
      apply Array.ext'
      simp
    · simp
      omega
    · simp only [hn]
      rw [List.take_append, List.take_take, Nat.min_eq_right (by omega), List.length_take, Nat.min_eq_left (by omega), Nat.add_sub_cancel_left]
      rfl

theorem OT.pushR {H α : Type} (T : Tab P) (r : R H α) {s : Sl} {hs : List H} {v z : H} {b : Nat} {x y : Operand} {t t2 : TypeId} {d : Nat} {e e2 : TypeId} {ei ei2 : TI} (hM : ORow s hs)
    (ho : o.op = .call ⟨.builtin .append, ⟨[x, y]⟩, ⟨[t, t2]⟩⟩) (hd : o.dst = some d) (hN : Nat.blt d N = true) (hx : ev ρ x = some s.v) (hy : ev ρ y = some (.slice (some ⟨b, 0, none⟩) 1 1))
    (he : T.elem t = some (e, ei)) (he2 : T.elem t2 = some (e2, ei2)) (hsz : Nat.beq ei.size r.size = true) (hz : cellsF ei.zero = some (r.enc z)) (hrp : Nat.blt 0 r.size = true) (hb : Nat.blt 0 ei.bytes = true)
    (hfit : (s.len + 1) * ei.bytes ≤ 140737488355328)
    (hK : ∀ s' hs', ORow s' hs' → s'.len = s.len + 1 → hs'.take (s.len + 1) = hs.take s.len ++ [v] → K ((d, s'.v) :: ρ) m (mcell s' (encs r hs') :: L)) : OT P N o ρ D m (.cells b 0 (r.enc v) :: mcell s (encs r hs) :: L) Q K := by
  intro ac w ha
  have hsz' := Nat.eq_of_beq_eq_true hsz
  have hcells := ha.st.cells (i := 0) rfl
  have hsub : St m w (mcell s (encs r hs) :: L) := ha.st.sub (List.sublist_cons_self _ _)
  have hsrc : Src w ⟨some ⟨b, 0, none⟩, 1, 1⟩ ei.size (r.enc v) := ⟨by rw [hsz', r.enc_len]; simp, .inr ⟨b, 0, rfl, hcells⟩⟩
  obtain ⟨s', hs', w', hr, g1, g2, g3, g4⟩ := run_pushR (P := P) (ty := o.type) (z := z) T r he he2 hsub hM hsz' hsrc rfl (by rw [cellsF_eq hz]) (by simpa [Nat.blt_eq] using hrp) (by simpa [Nat.blt_eq] using hb) hfit
  have he : (execOp ac.eval o).run P w = .ok (.value s'.v) w' := by
    simp only [execOp, ho, resolve, invoke, builtin, Sem.run_bind, Sem.run_pure, Result.andThen_ok, List.map_toArray, List.map_cons, List.map_nil, ha.env.eval hx, ha.env.eval hy]
    simp only [List.map_toArray, List.map_cons, List.map_nil, ha.env.eval hx, ha.env.eval hy, hr, Result.andThen_ok]
  simp only [Oper.wp, he, Oper.upon]
  rw [hd]
  have hp := ha.put hN s'.v
  refine ⟨_, _, _, ⟨hp.size, hp.env, hp.defers, g1⟩, hK s' hs' g2 g3 ?_⟩
  rw [← g4, g3]
end
end Go.Sep

/-
  Heaps in a row, plainly.
-/
set_option linter.unusedVariables false
set_option linter.unusedSimpArgs false
set_option linter.unusedSectionVars false
namespace Go.Sep
section
variable {α : Type} [Inhabited α]
/-- an element, or any -/
def gk (xs : List α) (k : Nat) : α := xs[k]?.getD default
/-- two elements change places -/
def sw (xs : List α) (i j : Nat) : List α := (xs.set i (gk xs j)).set j (gk xs i)
theorem sw_length (xs : List α) (i j : Nat) : (sw xs i j).length = xs.length := by simp [sw]
theorem gk_get {xs : List α} {k : Nat} (h : k < xs.length) : xs[k]? = some (gk xs k) := by
  unfold gk
  rw [List.getElem?_eq_getElem h]
  rfl
theorem gk_set {xs : List α} {i k : Nat} {x : α} (h : i < xs.length) : gk (xs.set i x) k = if i = k then x else gk xs k := by
  unfold gk
  rw [List.getElem?_set]
  split
  · simp [h]
  · rfl
theorem gk_sw {xs : List α} {i j k : Nat} (hi : i < xs.length) (hj : j < xs.length) : gk (sw xs i j) k = if k = j then gk xs i else if k = i then gk xs j else gk xs k := by
  unfold sw
  rw [gk_set (by simpa using hj), gk_set hi]
  by_cases h1 : j = k
  · simp [h1]
  · by_cases h2 : i = k
    · simp [h1, h2, Ne.symm h1]
    · simp [h1, h2, Ne.symm h1, Ne.symm h2]
theorem gk_take {xs : List α} {n k : Nat} (h : k < n) : gk (xs.take n) k = gk xs k := by
  unfold gk
  rw [List.getElem?_take, if_pos h]
theorem set_perm {xs : List α} {i : Nat} (hi : i < xs.length) (x : α) : (gk xs i :: xs.set i x).Perm (x :: xs) := by
  induction xs generalizing i with
  | nil => simp at hi
  | cons y ys ih =>
    cases i with
    | zero => simp only [gk, List.getElem?_cons_zero, Option.getD_some, List.set_cons_zero]; exact List.Perm.swap _ _ _
    | succ i =>
      simp only [List.set_cons_succ]
      have := ih (i := i) (by simpa using hi)
      have e : gk (y :: ys) (i + 1) = gk ys i := by simp [gk]
      rw [e]
      exact (List.Perm.swap _ _ _).trans ((this.cons y).trans (List.Perm.swap _ _ _))
theorem sw_perm {xs : List α} {i j : Nat} (hi : i < xs.length) (hj : j < xs.length) : (sw xs i j).Perm xs := by
  by_cases e : i = j
  · subst e
    unfold sw
    rw [List.set_set]
    have : xs.set i (gk xs i) = xs := by
      apply List.ext_getElem?
      intro k
      rw [List.getElem?_set]
      split
      · rename_i h; subst h; exact (gk_get hi).symm
      · rfl
    rw [this]
  · have h1 := set_perm hi (gk xs j)
    have hj2 : j < (xs.set i (gk xs j)).length := by simpa using hj
    have h2 := set_perm hj2 (gk xs i)
    have e2 : gk (xs.set i (gk xs j)) j = gk xs j := by rw [gk_set hi]; simp [e]
    rw [e2] at h2
    have h3 : (gk xs j :: sw xs i j).Perm (gk xs j :: xs) := h2.trans h1
    exact (List.perm_cons _).1 h3
theorem sw_take {xs : List α} {i j n : Nat} (hi : i < n) (hj : j < n) : (sw xs i j).take n = sw (xs.take n) i j := by
  unfold sw
  rw [List.take_set, List.take_set, gk_take hi, gk_take hj]
theorem sw_drop {xs : List α} {i j n : Nat} (hi : i < n) (hj : j < n) : (sw xs i j).drop n = xs.drop n := by
  unfold sw
  rw [List.drop_set_of_lt hj, List.drop_set_of_lt hi]
/-- the part ahead of n is the same row, otherwise ordered; the rest stays -/
structure Mix (n : Nat) (xs ys : List α) : Prop where
  len : ys.length = xs.length
  perm : (ys.take n).Perm (xs.take n)
  rest : ys.drop n = xs.drop n
theorem Mix.refl (n : Nat) (xs : List α) : Mix n xs xs := ⟨rfl, .refl _, rfl⟩
theorem Mix.trans {n : Nat} {xs ys zs : List α} (h : Mix n xs ys) (k : Mix n ys zs) : Mix n xs zs := ⟨k.len.trans h.len, k.perm.trans h.perm, k.rest.trans h.rest⟩
theorem Mix.sw {n i j : Nat} {xs : List α} (hi : i < n) (hj : j < n) (hn : n ≤ xs.length) : Mix n xs (sw xs i j) := by
  refine ⟨sw_length _ _ _, ?_, sw_drop hi hj⟩
  rw [sw_take hi hj]
  exact sw_perm (by simp; omega) (by simp; omega)
theorem Mix.rest_get {n k : Nat} {xs ys : List α} (h : Mix n xs ys) (hk : n ≤ k) : gk ys k = gk xs k := by
  have := congrArg (fun l => l[k - n]?) h.rest
  simp only [List.getElem?_drop] at this
  rw [show n + (k - n) = k by omega] at this
  unfold gk
  rw [this]

/-- an order -/
structure OrdK (lt : α → α → Bool) : Prop where
  asym : ∀ a b, lt a b = true → lt b a = false
  trans : ∀ a b c, lt b a = false → lt c b = false → lt c a = false
def par (k : Nat) : Nat := (k - 1) / 2
variable {lt : α → α → Bool}
/-- of the first n, those whose parent is lo or later are not less than it -/
def HF (lt : α → α → Bool) (xs : List α) (n lo : Nat) : Prop := ∀ k, 0 < k → k < n → lo ≤ par k → lt (gk xs k) (gk xs (par k)) = false
/-- but not the children of i -/
structure DI (lt : α → α → Bool) (xs : List α) (n lo i : Nat) : Prop where
  a : ∀ k, 0 < k → k < n → lo ≤ par k → par k ≠ i → lt (gk xs k) (gk xs (par k)) = false
  b : ∀ k, 0 < k → k < n → par k = i → 0 < i → lo ≤ par i → lt (gk xs k) (gk xs (par i)) = false
theorem HF.half {xs : List α} {n : Nat} : HF lt xs n (n / 2) := fun k h1 h2 h3 => by
  unfold par at h3
  omega
theorem DI.start {xs : List α} {n lo : Nat} (h : HF lt xs n (lo + 1)) : DI lt xs n lo lo :=
  ⟨fun k h1 h2 h3 h4 => h k h1 h2 (by omega), fun k h1 h2 h3 h4 h5 => by unfold par at h5; omega⟩
theorem DI.done0 {xs : List α} {n lo i : Nat} (h : DI lt xs n lo i) (hn : n ≤ 2 * i + 1) : HF lt xs n lo := fun k h1 h2 h3 => by
  refine h.a k h1 h2 h3 (fun e => ?_)
  unfold par at e
  omega
theorem DI.done {xs : List α} {n lo i j : Nat} (O : OrdK lt) (h : DI lt xs n lo i) (hj : ∀ k, 0 < k → k < n → par k = i → lt (gk xs k) (gk xs j) = false) (hl : lt (gk xs j) (gk xs i) = false) : HF lt xs n lo := fun k h1 h2 h3 => by
  by_cases e : par k = i
  · rw [e]
    exact O.trans _ _ _ hl (hj k h1 h2 e)
  · exact h.a k h1 h2 h3 e
theorem DI.step {xs : List α} {n lo i j : Nat} (O : OrdK lt) (h : DI lt xs n lo i) (hn : n ≤ xs.length) (hlo : lo ≤ i) (hjn : j < n) (hj0 : 0 < j) (hji : par j = i) (hj : ∀ k, 0 < k → k < n → par k = i → lt (gk xs k) (gk xs j) = false) (hl : lt (gk xs j) (gk xs i) = true) : DI lt (sw xs i j) n lo j := by
  have hij : i < j := by unfold par at hji; omega
  have hi' : i < xs.length := by omega
  have hj' : j < xs.length := by omega
  refine ⟨fun k h1 h2 h3 h4 => ?_, fun k h1 h2 h3 h4 h5 => ?_⟩
  · rw [gk_sw hi' hj', gk_sw hi' hj']
    rw [if_neg h4]
    by_cases e1 : k = j
    · rw [if_pos e1, e1, hji, if_pos rfl]
      exact O.asym _ _ hl
    · rw [if_neg e1]
      by_cases e2 : k = i
      · rw [if_pos e2]
        have e3 : par k ≠ i := by unfold par; omega
        rw [if_neg e3, e2]
        have := h.b j hj0 hjn hji (by omega) (by rw [← e2]; exact h3)
        exact this
      · rw [if_neg e2]
        by_cases e3 : par k = i
        · rw [if_pos e3]
          exact hj k h1 h2 e3
        · rw [if_neg e3]
          exact h.a k h1 h2 h3 e3
  · rw [hji, gk_sw hi' hj', gk_sw hi' hj', if_neg (show i ≠ j by omega), if_pos rfl]
    have e1 : k ≠ j := by unfold par at h3; omega
    have e2 : k ≠ i := by unfold par at h3; omega
    rw [if_neg e1, if_neg e2, ← h3]
    exact h.a k h1 h2 (by rw [h3]; omega) (by rw [h3]; omega)
/-- from the root -/
theorem DI.pop {xs : List α} {n : Nat} (h : HF lt xs (n + 1) 0) (hn : n + 1 ≤ xs.length) : DI lt (sw xs 0 n) n 0 0 := by
  refine ⟨fun k h1 h2 h3 h4 => ?_, fun k h1 h2 h3 h4 => by omega⟩
  have hk : par k < k := by unfold par; omega
  rw [gk_sw (by omega) (by omega), gk_sw (by omega) (by omega), if_neg (by omega), if_neg (by omega), if_neg (by omega), if_neg h4]
  exact h k h1 (by omega) h3
theorem HF.min {xs : List α} {n : Nat} (O : OrdK lt) (h : HF lt xs n 0) (hirr : ∀ a, lt a a = false) : ∀ k, k < n → lt (gk xs k) (gk xs 0) = false := by
  intro k
  induction k using Nat.strongRecOn with
  | ind k ih =>
    intro hk
    by_cases e : k = 0
    · rw [e]; exact hirr _
    · have h1 : par k < k := by unfold par; omega
      exact O.trans _ _ _ (ih (par k) h1 (by omega)) (h k (by omega) hk (Nat.zero_le _))
/-- in order, but for j and its parent -/
structure UI (lt : α → α → Bool) (xs : List α) (n j : Nat) : Prop where
  a : ∀ k, 0 < k → k < n → k ≠ j → lt (gk xs k) (gk xs (par k)) = false
  b : ∀ k, 0 < k → k < n → par k = j → 0 < j → lt (gk xs k) (gk xs (par j)) = false
theorem UI.start {xs : List α} {n : Nat} (h : HF lt xs n 0) : UI lt xs (n + 1) n :=
  ⟨fun k h1 h2 h3 => h k h1 (by omega) (Nat.zero_le _), fun k h1 h2 h3 => by unfold par at h3; omega⟩
theorem UI.done {xs : List α} {n j : Nat} (h : UI lt xs n j) (hj : j = 0 ∨ lt (gk xs j) (gk xs (par j)) = false) : HF lt xs n 0 := fun k h1 h2 h3 => by
  by_cases e : k = j
  · subst e
    rcases hj with e | e
    · omega
    · exact e
  · exact h.a k h1 h2 e
theorem UI.step {xs : List α} {n j : Nat} (O : OrdK lt) (h : UI lt xs n j) (hn : n ≤ xs.length) (hjn : j < n) (h0 : 0 < j) (hl : lt (gk xs j) (gk xs (par j)) = true) : UI lt (sw xs (par j) j) n (par j) := by
  have hp : par j < j := by unfold par; omega
  refine ⟨fun k h1 h2 h3 => ?_, fun k h1 h2 h3 h4 => ?_⟩
  · rw [gk_sw (by omega) (by omega), gk_sw (by omega) (by omega), if_neg h3]
    by_cases e1 : k = j
    · subst e1
      rw [if_pos rfl, if_neg (by omega), if_pos rfl]
      exact O.asym _ _ hl
    · rw [if_neg e1]
      by_cases e2 : par k = j
      · rw [if_pos e2]
        exact h.b k h1 h2 e2 h0
      · rw [if_neg e2]
        by_cases e3 : par k = par j
        · rw [if_pos e3]
          have := h.a k h1 h2 e1
          rw [e3] at this
          exact O.trans _ _ _ (O.asym _ _ hl) this
        · rw [if_neg e3]
          exact h.a k h1 h2 e1
  · have hpp : par (par j) < par j := by unfold par at h4 ⊢; omega
    rw [gk_sw (by omega) (by omega), gk_sw (by omega) (by omega), if_neg (show par (par j) ≠ j by omega), if_neg (show par (par j) ≠ par j by omega)]
    have hup := h.a (par j) h4 (by omega) (by omega)
    by_cases e1 : k = j
    · rw [if_pos e1]; exact hup
    · have hk : k ≠ par j := by
        intro e; rw [e] at h3; omega
      rw [if_neg e1, if_neg hk]
      have := h.a k h1 h2 e1
      rw [h3] at this
      exact O.trans _ _ _ hup this
end
end Go.Sep

/-
  Methods called through an interface; a value taken out of an interface.
-/
set_option linter.unusedVariables false
set_option linter.unusedSimpArgs false
namespace Go.Sep
section
variable {P : Program} {N : Nat} {ρ : Env} {D : List Deferred} {m : Mem} {L : List Item} {Q : EPost} {full : List Oper} {o : Oper} {K : Env → Mem → List Item → Prop}
theorem OT.invokeG {X : Operand} {args : List Operand} {ats : Array TypeId} {name : String} {t : TypeId} {v rv : Value} {f : FuncId} {vs all : List Value} {d : Nat} (ho : o.op = .call ⟨.invoke X name, ⟨args⟩, ats⟩)
    (hd : o.dst = some d) (hN : Nat.blt d N = true) (hX : ev ρ X = some (.iface t v)) (ha : evs ρ args = some vs) (hall : fl (rv :: vs) = some all) (hg : Goes P f)
    (hm : ∀ w, St m w L → (method (P.types.size + Made.depth) t v name).run P w = .ok (f, rv) w)
    (h : TCallX P f ⟨all⟩ m L (fun v m' L' => K ((d, v) :: ρ) m' L') (fun ch m' L' => Q (.panic ch) ρ D m' L')) : OT P N o ρ D m L Q K := by
  intro a w hok
  rw [fl_eq] at hall
  simp only [Option.some.injEq] at hall
  have he : (execOp a.eval o).run P w = .ok (.enter f ⟨all⟩) w := by
    have e1 := hok.env.evals ha
    have e2 := hok.env.eval hX
    simp only [execOp, ho, resolve, Sem.run_bind, Sem.run_pure, Result.andThen_ok, invoke]
    have e3 : (#[a.eval X] ++ Array.map a.eval ⟨args⟩)[0]? = some (.iface t v) := by simp [e2]
    have e4 : (#[a.eval X] ++ Array.map a.eval ⟨args⟩).extract 1 (#[a.eval X] ++ Array.map a.eval ⟨args⟩).size = ⟨vs⟩ := by
      apply Array.ext'
      simp [e1]
    simp only [e3, e4, callMethod, Sem.run_bind, run_program, Result.andThen_ok, hm w hok.st]
    rw [hg _ w]
    congr 2
    subst hall
    simp
  simp only [Oper.wp, he, Oper.upon]
  refine (h w hok.st).mono fun e w' hh => ?_
  cases e with
  | returned v =>
    obtain ⟨m', L', h1, h2⟩ := hh
    have hp := hok.put hN v
    rw [hd]
    exact ⟨_, _, _, ⟨hp.size, hp.env, hp.defers, h1⟩, h2⟩
  | panicked ch =>
    obtain ⟨m', L', h1, h2⟩ := hh
    exact ⟨ρ, D, m', L', ⟨hok.size, hok.env, hok.defers, h1⟩, h2⟩
  | outgrown => exact hh.elim
/-- a row of a method table: function, and whether it wants the pointer -/
def methRow (P : Program) (t : TypeId) (name : String) (f : FuncId) (p : Bool) : Bool :=
  match P.info? t with
  | some info => match info.methods.find? (·.name == name) with
    | some mm => mm.path.isEmpty && (match mm.func with
      | some (g, q) => Nat.beq g f && (q == p)
      | none => false)
    | none => false
  | none => false
theorem methRow_get {t : TypeId} {name : String} {f : FuncId} {p : Bool} (h : methRow P t name f p = true) : ∃ info mm, P.info? t = some info ∧ info.methods.find? (·.name == name) = some mm ∧ mm.path = #[] ∧ mm.func = some (f, p) := by
  unfold methRow at h
  split at h
  · rename_i info h1
    split at h
    · rename_i mm h2
      simp only [Bool.and_eq_true] at h
      obtain ⟨h3, h4⟩ := h
      split at h4
      · rename_i g q h5
        simp only [Bool.and_eq_true, beq_iff_eq] at h4
        refine ⟨info, mm, h1, h2, by simpa using h3, ?_⟩
        rw [h5, Nat.eq_of_beq_eq_true h4.1, h4.2]
      · cases h4
    · cases h
  · cases h
def Tab.ptrTo {P : Program} (T : Tab P) (t : TypeId) : Option TypeId :=
  match T.get t with
  | some ⟨.pointer e, _, _, _⟩ => some e
  | _ => none
theorem ptrTo_get {T : Tab P} {t e : TypeId} (h : T.ptrTo t = some e) : ∃ i, T.get t = some i ∧ i.u = .pointer e := by
  unfold Tab.ptrTo at h
  split at h
  · rename_i e' _ _ _ hg
    simp only [Option.some.injEq] at h
    subst h
    exact ⟨_, hg, rfl⟩
  · cases h
theorem run_methP (T : Tab P) {t e : TypeId} {name : String} {f : FuncId} {v : Value} (h : methRow P t name f true = true) (ht : T.ptrTo t = some e) (w : World) : (method (P.types.size + Made.depth) t v name).run P w = .ok (f, v) w := by
  obtain ⟨info, mm, h1, h2, h3, h4⟩ := methRow_get h
  obtain ⟨i, g1, g2⟩ := ptrTo_get ht
  have hu := T.run_underlying w g1
  rw [g2] at hu
  obtain ⟨n, hn⟩ : ∃ n, P.types.size + Made.depth = n + 1 := ⟨P.types.size + 99, rfl⟩
  rw [hn, method]
  simp only [typeInfo, Sem.run_bind, run_program, Result.andThen_ok, h1, Sem.run_pure, h2, h3, h4, follow, receiverAt, hu, Place.get]
theorem run_wrap (xt : TypeId) (a : Addr) (n : String) (w : World) : (Builtin.ssaWrapNilChk_ #[xt] xt #[.pointer (some a), strVal "", strVal n]).run P w = .ok (.pointer (some a)) w := rfl
theorem run_methV (T : Tab P) {t e : TypeId} {name : String} {f : FuncId} {ad : Addr} {rv : Value} {w : World} (h : methRow P t name f false = true) (ht : T.ptrTo t = some e) (hl : (loadVar e ad).run P w = .ok rv w) : (method (P.types.size + Made.depth) t (.pointer (some ad)) name).run P w = .ok (f, rv) w := by
  obtain ⟨info, mm, h1, h2, h3, h4⟩ := methRow_get h
  obtain ⟨i, g1, g2⟩ := ptrTo_get ht
  have hu := T.run_underlying w g1
  rw [g2] at hu
  obtain ⟨n, hn⟩ : ∃ n, P.types.size + Made.depth = n + 1 := ⟨P.types.size + 99, rfl⟩
  rw [hn, method]
  simp only [typeInfo, Sem.run_bind, run_program, Result.andThen_ok, h1, Sem.run_pure, h2, h3, h4, follow, receiverAt, hu, Place.get, run_wrap, asAddr, hl, Array.isEmpty_empty, if_true]
/-- a method with a pointer's receiver -/
theorem OT.invokeP (T : Tab P) {X : Operand} {args : List Operand} {ats : Array TypeId} {name : String} {t e : TypeId} {v : Value} {f : FuncId} {vs all : List Value} {d : Nat} (hr : methRow P t name f true = true) (ht : T.ptrTo t = some e) (ho : o.op = .call ⟨.invoke X name, ⟨args⟩, ats⟩)
    (hd : o.dst = some d) (hN : Nat.blt d N = true) (hX : ev ρ X = some (.iface t v)) (ha : evs ρ args = some vs) (hall : fl (v :: vs) = some all) (hg : Goes P f)
    (h : TCallX P f ⟨all⟩ m L (fun v m' L' => K ((d, v) :: ρ) m' L') (fun ch m' L' => Q (.panic ch) ρ D m' L')) : OT P N o ρ D m L Q K :=
  OT.invokeG ho hd hN hX ha hall hg (fun w _ => run_methP T hr ht w) h
/-- a method with a value's receiver, of a pointer at an owned variable -/
theorem OT.invokeV (T : Tab P) (i : Nat) {X : Operand} {args : List Operand} {ats : Array TypeId} {name : String} {t e : TypeId} {b : Nat} {rv : Value} {f : FuncId} {vs all cs : List Value} {d : Nat} (hr : methRow P t name f false = true) (ht : T.ptrTo t = some e) (ho : o.op = .call ⟨.invoke X name, ⟨args⟩, ats⟩)
    (hd : o.dst = some d) (hN : Nat.blt d N = true) (hX : ev ρ X = some (.iface t (.pointer (some ⟨b, 0, none⟩)))) (ha : evs ρ args = some vs) (hi : L[i]? = some (.cells b 0 cs)) (hl : T.load e cs 0 = some rv) (hall : fl (rv :: vs) = some all) (hg : Goes P f)
    (h : TCallX P f ⟨all⟩ m L (fun v m' L' => K ((d, v) :: ρ) m' L') (fun ch m' L' => Q (.panic ch) ρ D m' L')) : OT P N o ρ D m L Q K :=
  OT.invokeG ho hd hN hX ha hall hg (fun w hw => run_methV T hr ht (by
    have := run_loadVar (P := P) T (k := 0) (hw.cells hi) hl
    simpa using this)) h
/-- s[:n] of an owned slice, elements of any size -/
theorem OT.takeZ (T : Tab P) (hi : Nat) {x y : Operand} {t : TypeId} {d b n c sz : Nat} {iv : Int} (hik : iv = (hi : Int)) (hc : hi ≤ c)
    (ho : o.op = .slice t x none (some y) none) (hd : o.dst = some d) (hN : Nat.blt d N = true) (he : ev ρ x = some (.slice (some ⟨b, 0, none⟩) n c)) (hy : ev ρ y = some (.int .i64 iv)) (hsz : T.esize t = some sz)
    (hK : K ((d, .slice (some ⟨b, 0, none⟩) hi c) :: ρ) m L) : OT P N o ρ D m L Q K := by
  subst hik
  refine OT.cutP T (lov := none) (hiv := some (.int .i64 (hi : Int))) 0 hi ho hd hN he rfl (by simp [evO, fo_eq, hy]) hsz (.inl ⟨rfl, rfl⟩) (.inr rfl) (Nat.zero_le _) hc ?_
  simpa using hK
/-- x.(T), where x holds a T -/
theorem OT.assert (T : Tab P) {x : Operand} {xt t : TypeId} {v : Value} {d : Nat} (ho : o.op = .typeAssert x xt t false) (hd : o.dst = some d) (hN : Nat.blt d N = true) (hx : ev ρ x = some (.iface t v)) (ht : T.notIface t = true)
    (hK : K ((d, v) :: ρ) m L) : OT P N o ρ D m L Q K := by
  refine OT.run hd hN (fun ac w ha => ⟨w, ?_, ha.st⟩) hK
  unfold Tab.notIface at ht
  split at ht
  · cases ht
  · rename_i i hne hg
    have hu := T.run_underlying w hg
    simp only [execOp, ho, ha.env.eval hx, Instr.typeAssert, Sem.run_bind, hu, Result.andThen_ok]
    cases hi : i.u with
    | interface ms =>
      obtain ⟨u, a, b, c⟩ := i
      simp only at hi
      subst hi
      exact absurd rfl (hne ms a b c)
    | _ => simp
  · cases ht
end
section
variable {P : Program} {N : Nat} {ρ : Env} {D : List Deferred} {m : Mem} {Q : EPost} {ops : List Oper} {ts : List Nat} {fuel : Nat} {listed : List Bool} {Ls Lp : List Item}
/-- an element's part, of an owned row, in a region that draws -/
theorem DO.loadE {H α : Type} (T : Tab P) (i : Nat) (j : Nat) (r : R H α) {hs : List H} {k jj q : Nat} {h0 : H} {v : Value} {x : Operand} {t : TypeId} {o : Oper} {b d : Nat} (hk : hs[k]? = some h0) (hq : q = k * r.size + jj) (hv : ∀ rest, T.load t (r.enc h0 ++ rest) jj = some v) (hc : Calm Q) (hns : Region.noSelect ⟨ops⟩ = true) (hok : orderOk ops ts [i] listed = true)
    (hi : ops[i]? = some o) (hg : gv ops ρ o = some true) (ho : o.op = .load t x) (hd : o.dst = some d) (hN : Nat.blt d N = true)
    (hx : ev ρ x = some (.pointer (some ⟨b, q, none⟩))) (hj : Ls[j]? = some (.cells b 0 (encs r hs)))
    (h : DO P N ops ts fuel (listed.set i true) ((d, v) :: ρ) D m Ls Lp Q) : DO P N ops ts (fuel + 1) listed ρ D m Ls Lp Q := by
  subst hq
  exact DO.loadL (off := 0) (k := k * r.size + jj) T i j hc hns hok hi hg ho hd hN (by rw [Nat.zero_add]; exact hx) hj (load_encs T r hk hv) h
end
theorem encs_int (l : List Int) : encs rInt l = l.map (Value.int .i64) := by
  induction l with
  | nil => rfl
  | cons x xs ih => simpa [encs, rInt] using ih
theorem all2_int {m : Mem} : ∀ {hs : List Int} {l : List Int}, All2 (rInt.rep m) hs l → hs = l
  | [], [], _ => rfl
  | x :: xs, y :: ys, h => by rw [show x = y from h.1, all2_int h.2]
  | [], _ :: _, h => h.elim
  | _ :: _, [], h => h.elim
/-- a row of numbers that the call owns: its slice, its block -/
structure IRow (s : Sl) (b : Nat) (n : Nat) : Prop where
  len : s.len = n
  cap : s.len ≤ s.cap
  pos : 0 < n → ∃ c, s = ⟨some ⟨b, 0, none⟩, n, c⟩
  nil : n = 0 → s.a = none → s.cap = 0
theorem IRow.rep {m : Mem} {s : Sl} {b : Nat} {l : List Int} (h : IRow s b l.length) (hA : At m b 0 (l.map (Value.int .i64))) (hn : l.length ≤ 1000000) : SlRep rInt m s l := by
  refine ⟨h.len, h.cap, by rw [h.len]; simp only [rInt]; omega, l, ?_, ?_⟩
  · clear h hA hn
    induction l with
    | nil => trivial
    | cons x xs ih => exact ⟨rfl, ih⟩
  · by_cases e : l = []
    · exact .inl ⟨e, h.nil (by rw [e]; rfl)⟩
    · obtain ⟨c, hc⟩ := h.pos (List.length_pos_iff.2 e)
      exact .inr ⟨b, 0, by rw [hc], by rw [encs_int]; exact hA⟩
section
variable {P : Program} {N : Nat} {ρ : Env} {D : List Deferred} {m : Mem} {L : List Item} {Q : EPost} {full : List Oper} {o : Oper} {K : Env → Mem → List Item → Prop}
/-- append(s, none...), s empty -/
theorem run_append0 (T : Tab P) {t t2 e e2 ty : TypeId} {ei ei2 : TI} {w : World} {a0 : Option Addr} {s2 : Sl} (he : T.elem t = some (e, ei)) (he2 : T.elem t2 = some (e2, ei2)) (hn : s2.len = 0) :
    (Builtin.append_ #[t, t2] ty #[.slice a0 0 0, s2.v]).run P w = .ok (.slice a0 0 0) w := by
  obtain ⟨ti, h4, h5, h6⟩ := elem_get he
  obtain ⟨ti2, k4, k5, k6⟩ := elem_get he2
  obtain ⟨_, _, hu, _⟩ := T.ok t ti h4
  rw [h5] at hu
  obtain ⟨_, _, hu2, _⟩ := T.ok t2 ti2 k4
  rw [k5] at hu2
  obtain ⟨info, q1, q2, q3, q4, q5⟩ := T.ok e ei h6
  have hnew := run_first (P := P) (w := w) (s := s2) (size := ei.size) (news := []) ⟨by simp [hn], .inl hn⟩
  obtain ⟨a2, n2, c2⟩ := s2
  simp only at hn
  subst hn
  simp only [Sl.v] at hnew
  simp [Builtin.append_, run_underlying hu, run_underlying hu2, sizeOf, typeInfo, q1, q3, Builtin.lenOf, hnew, Sl.v]
  cases a0 <;> simp [storeCells]
/-- append(s, xs...) of numbers, s empty: the copy is one's own -/
theorem OT.cloneI (T : Tab P) {s2 : Sl} {l : List Int} {a0 : Option Addr} {x y : Operand} {t t2 : TypeId} {d : Nat} (hs2 : SlRep rInt m s2 l)
    (ho : o.op = .call ⟨.builtin .append, ⟨[x, y]⟩, ⟨[t, t2]⟩⟩) (hd : o.dst = some d) (hN : Nat.blt d N = true) (hx : ev ρ x = some (.slice a0 0 0)) (hy : ev ρ y = some s2.v) (hT : T.okElem t t2 rInt.size rInt.bytes = true)
    (hK : ∀ s b, IRow s b l.length → K ((d, s.v) :: ρ) m (.cells b 0 (l.map (Value.int .i64)) :: L)) : OT P N o ρ D m (.cells 0 0 [] :: L) Q K := by
  by_cases e : l = []
  · subst e
    obtain ⟨e, e2, ei, ei2, q1, q2, q3, q4, q5, q6⟩ := okElem_get hT
    refine OT.run hd hN (fun a w ha => ⟨w, ?_, ha.st⟩) (hK ⟨a0, 0, 0⟩ 0 ⟨rfl, Nat.le_refl _, fun h => by simp at h, fun _ _ => rfl⟩)
    have hr := run_append0 (P := P) (ty := o.type) (w := w) (a0 := a0) T q1 q2 (show s2.len = 0 by rw [hs2.len]; rfl)
    simp only [execOp, ho, resolve, invoke, builtin, Sem.run_bind, Sem.run_pure, Result.andThen_ok, List.map_toArray, List.map_cons, List.map_nil, ha.env.eval hx, ha.env.eval hy, hr]
  · have hp : 0 < s2.len := by rw [hs2.len]; exact List.length_pos_iff.2 e
    intro a w ha
    refine OT.cloneOwn T rInt hs2 hp ho hd hN hx hy hT (fun hs b c h1 h2 => ?_) a w ⟨ha.size, ha.env, ha.defers, ha.st.sub (List.sublist_cons_self _ _)⟩
    rw [all2_int h1, encs_int]
    exact hK ⟨some ⟨b, 0, none⟩, s2.len, c⟩ b ⟨hs2.len, h2, fun _ => ⟨c, by rw [← hs2.len]⟩, fun h => absurd (List.eq_nil_of_length_eq_zero h) e⟩
end
section
variable {P : Program} {N : Nat} {ρ : Env} {D : List Deferred} {m : Mem} {L : List Item} {Q : EPost} {full : List Oper}
theorem TO.cells0 {l : List Oper} (h : TO P N ⟨full⟩ l ρ D m (.cells 0 0 [] :: L) Q) : TO P N ⟨full⟩ l ρ D m L Q := fun a w ha => h a w ⟨ha.size, ha.env, ha.defers, ha.st.cells0 0 0⟩
theorem TC.freezeAt {c : Code} (i : Nat) {b off : Nat} {vs : List Value} (hi : L[i]? = some (.cells b off vs)) (h : ∀ m', m ≤ m' → At m' b off vs → TC P N c ρ D m' (L.eraseIdx i) Q) : TC P N c ρ D m L Q :=
  TC.perm (perm_at hi) (TC.freeze h)
theorem TO.freezeAt {l : List Oper} (i : Nat) {b off : Nat} {vs : List Value} (hi : L[i]? = some (.cells b off vs)) (h : ∀ m', m ≤ m' → At m' b off vs → TO P N ⟨full⟩ l ρ D m' (L.eraseIdx i) Q) : TO P N ⟨full⟩ l ρ D m L Q := by
  exact TO.perm (perm_at hi) (TO.freeze h)
end
end Go.Sep

/-
  Rows that are sorted in place, plainly: ranges swapped, rotated, merged, inserted.
-/
set_option linter.unusedVariables false
set_option linter.unusedSimpArgs false
set_option linter.unusedSectionVars false
namespace Go.Sep
/-- a strict order of all numbers -/
structure OrdT (lt : Int → Int → Bool) : Prop where
  irr : ∀ a, lt a a = false
  trans : ∀ a b c, lt a b = true → lt b c = true → lt a c = true
  tot : ∀ a b, lt a b = true ∨ a = b ∨ lt b a = true
theorem OrdT.asym {lt : Int → Int → Bool} (O : OrdT lt) {a b : Int} (h : lt a b = true) : lt b a = false := by
  cases e : lt b a with
  | false => rfl
  | true => have := O.trans _ _ _ h e; rw [O.irr] at this; cases this
/-- the part from a to b is changed, by what was there -/
structure Seg (a b : Nat) (xs ys : List Int) : Prop where
  len : ys.length = xs.length
  perm : ys.Perm xs
  out : ∀ i, i < a ∨ b ≤ i → gk ys i = gk xs i
  inn : ∀ i, a ≤ i → i < b → ∃ j, a ≤ j ∧ j < b ∧ gk ys i = gk xs j
theorem Seg.refl (a b : Nat) (xs : List Int) : Seg a b xs xs := ⟨rfl, .refl _, fun _ _ => rfl, fun i h1 h2 => ⟨i, h1, h2, rfl⟩⟩
theorem Seg.trans {a b : Nat} {xs ys zs : List Int} (h : Seg a b xs ys) (k : Seg a b ys zs) : Seg a b xs zs :=
  ⟨k.len.trans h.len, k.perm.trans h.perm, fun i hi => (k.out i hi).trans (h.out i hi), fun i h1 h2 => by
    obtain ⟨j, j1, j2, j3⟩ := k.inn i h1 h2
    obtain ⟨l, l1, l2, l3⟩ := h.inn j j1 j2
    exact ⟨l, l1, l2, j3.trans l3⟩⟩
theorem Seg.mono {a b c d : Nat} {xs ys : List Int} (h : Seg a b xs ys) (h1 : c ≤ a) (h2 : b ≤ d) : Seg c d xs ys :=
  ⟨h.len, h.perm, fun i hi => h.out i (by omega), fun i k1 k2 => by
    by_cases e : a ≤ i ∧ i < b
    · obtain ⟨j, j1, j2, j3⟩ := h.inn i e.1 e.2
      exact ⟨j, by omega, by omega, j3⟩
    · exact ⟨i, k1, k2, h.out i (by omega)⟩⟩
theorem Seg.sw {a b i j : Nat} {xs : List Int} (h1 : a ≤ i ∧ i < b) (h2 : a ≤ j ∧ j < b) (hb : b ≤ xs.length) : Seg a b xs (sw xs i j) :=
  ⟨sw_length _ _ _, sw_perm (by omega) (by omega), fun k hk => by rw [gk_sw (by omega) (by omega), if_neg (by omega), if_neg (by omega)], fun k k1 k2 => by
    rw [gk_sw (by omega) (by omega)]
    by_cases e : k = j
    · exact ⟨i, h1.1, h1.2, by rw [if_pos e]⟩
    · by_cases e2 : k = i
      · exact ⟨j, h2.1, h2.2, by rw [if_neg e, if_pos e2]⟩
      · exact ⟨k, k1, k2, by rw [if_neg e, if_neg e2]⟩⟩
/-- in order from a to b -/
def So (lt : Int → Int → Bool) (xs : List Int) (a b : Nat) : Prop := ∀ i j, a ≤ i → i < j → j < b → lt (gk xs i) (gk xs j) = true

/-! ranges changed with one another -/
def swF (xs : List Int) (a b k t : Nat) : Int := if a ≤ t ∧ t < a + k then gk xs (t + (b - a)) else if b ≤ t ∧ t < b + k then gk xs (t - (b - a)) else gk xs t
structure SwI (xs : List Int) (a b n k : Nat) (ys : List Int) : Prop where
  seg : Seg a (b + n) xs ys
  val : ∀ t, gk ys t = swF xs a b k t
theorem SwI.start (xs : List Int) (a b n : Nat) : SwI xs a b n 0 xs := ⟨Seg.refl _ _ _, fun t => by unfold swF; rw [if_neg (by omega), if_neg (by omega)]⟩
theorem SwI.step {xs ys : List Int} {a b n k : Nat} (h : SwI xs a b n k ys) (hk : k < n) (hab : a + n ≤ b) (hl : b + n ≤ xs.length) : SwI xs a b n (k + 1) (sw ys (a + k) (b + k)) := by
  have hyl := h.seg.len
  refine ⟨h.seg.trans (Seg.sw (by omega) (by omega) (by omega)), fun t => ?_⟩
  rw [gk_sw (by omega) (by omega), h.val, h.val, h.val]
  unfold swF
  by_cases e1 : t = b + k
  · rw [if_pos e1, if_neg (by omega), if_neg (by omega), if_neg (by omega), if_pos (by omega)]
    (try (congr 1; omega))
  · rw [if_neg e1]
    by_cases e2 : t = a + k
    · rw [if_pos e2, if_neg (by omega), if_neg (by omega), if_pos (by omega)]
      (try (congr 1; omega))
    · rw [if_neg e2]
      by_cases e3 : a ≤ t ∧ t < a + k
      · rw [if_pos e3, if_pos (by omega)]
      · rw [if_neg e3, if_neg (show ¬ (a ≤ t ∧ t < a + (k + 1)) by omega)]
        by_cases e4 : b ≤ t ∧ t < b + k
        · rw [if_pos e4, if_pos (by omega)]
        · rw [if_neg e4, if_neg (by omega)]

/-! two ranges that change places -/
def rotF (xs : List Int) (a m b t : Nat) : Int := if a ≤ t ∧ t < a + (b - m) then gk xs (t + (m - a)) else if a + (b - m) ≤ t ∧ t < b then gk xs (t - (b - m)) else gk xs t
structure RotI (xs : List Int) (a m b i j : Nat) (ys : List Int) : Prop where
  seg : Seg a b xs ys
  hi : 0 < i ∧ a + i ≤ m
  hj : 0 < j ∧ m + j ≤ b
  val : ∀ t, rotF ys (m - i) m (m + j) t = rotF xs a m b t
theorem RotI.start {xs : List Int} {a m b : Nat} (h1 : a < m) (h2 : m < b) : RotI xs a m b (m - a) (b - m) xs :=
  ⟨Seg.refl _ _ _, by omega, by omega, fun t => by rw [show m - (m - a) = a by omega, show m + (b - m) = b by omega]⟩
theorem RotI.left {xs ys zs : List Int} {a m b i j : Nat} (h : RotI xs a m b i j ys) (hij : j < i) (k : SwI ys (m - i) m j j zs) : RotI xs a m b (i - j) j zs := by
  have h1 := h.hi
  have h2 := h.hj
  refine ⟨h.seg.trans (k.seg.mono (by omega) (by omega)), by omega, h2, fun t => ?_⟩
  rw [← h.val t]
  unfold rotF
  simp only [k.val]
  unfold swF
  by_cases e1 : t < m - i
  · rw [if_neg (by omega), if_neg (by omega), if_neg (by omega), if_neg (by omega), if_neg (by omega), if_neg (by omega)]
  · by_cases e2 : t < m - i + j
    · rw [if_neg (by omega), if_neg (by omega), if_pos (by omega), if_pos (by omega)]
    · by_cases e3 : t < m - i + j + j
      · rw [if_pos (by omega), if_neg (by omega), if_pos (by omega), if_neg (by omega), if_pos (by omega)]
        (try (congr 1; omega))
      · by_cases e4 : t < m + j
        · rw [if_neg (by omega), if_pos (by omega), if_neg (by omega), if_neg (by omega), if_neg (by omega), if_pos (by omega)]
          (try (congr 1; omega))
        · rw [if_neg (by omega), if_neg (by omega), if_neg (by omega), if_neg (by omega), if_neg (by omega), if_neg (by omega)]
theorem RotI.right {xs ys zs : List Int} {a m b i j : Nat} (h : RotI xs a m b i j ys) (hij : i < j) (k : SwI ys (m - i) (m + j - i) i i zs) : RotI xs a m b i (j - i) zs := by
  have h1 := h.hi
  have h2 := h.hj
  refine ⟨h.seg.trans (k.seg.mono (by omega) (by omega)), h1, by omega, fun t => ?_⟩
  rw [← h.val t]
  unfold rotF
  simp only [k.val]
  unfold swF
  by_cases e1 : t < m - i
  · rw [if_neg (by omega), if_neg (by omega), if_neg (by omega), if_neg (by omega), if_neg (by omega), if_neg (by omega)]
  · by_cases e2 : t < m - i + (j - i)
    · rw [if_pos (by omega), if_pos (show m - i ≤ t ∧ t < m - i + (m + j - m) by omega)]
      by_cases e5 : m + j - i ≤ t + (m - (m - i))
      · omega
      · rw [if_neg (by omega), if_neg (by omega)]
    · by_cases e3 : t < m + j - i
      · rw [if_neg (by omega), if_pos (by omega), if_pos (by omega)]
        by_cases e6 : t < m - i + j
        · rw [if_pos (by omega)]
          (try (congr 1; omega))
        · omega
      · by_cases e4 : t < m + j
        · rw [if_neg (by omega), if_neg (by omega), if_neg (by omega), if_pos (by omega), if_neg (by omega), if_pos (by omega)]
          (try (congr 1; omega))
        · rw [if_neg (by omega), if_neg (by omega), if_neg (by omega), if_neg (by omega), if_neg (by omega), if_neg (by omega)]
theorem RotI.last {xs ys zs : List Int} {a m b i : Nat} (h : RotI xs a m b i i ys) (k : SwI ys (m - i) m i i zs) : Seg a b xs zs ∧ ∀ t, gk zs t = rotF xs a m b t := by
  have h1 := h.hi
  have h2 := h.hj
  refine ⟨h.seg.trans (k.seg.mono (by omega) (by omega)), fun t => ?_⟩
  rw [← h.val t, k.val]
  unfold rotF swF
  rw [show m + i - m = i by omega, show m - i + i = m by omega, show m - (m - i) = i by omega]
end Go.Sep

/-
  Rows that are sorted in place, plainly: two sorted parts made one (SymMerge), one element laid in its place, blocks.
-/
set_option linter.unusedVariables false
set_option linter.unusedSimpArgs false
namespace Go.Sep
section
variable {lt : Int → Int → Bool}
/-- what is left comes ahead of what is right by its number -/
def Ahead (xs : List Int) (a m b : Nat) : Prop := ∀ i j, a ≤ i → i < m → m ≤ j → j < b → gk xs i < gk xs j

theorem So.of {xs ys : List Int} {a b : Nat} (h : So lt xs a b) (e : ∀ i, a ≤ i → i < b → gk ys i = gk xs i) : So lt ys a b := fun i j h1 h2 h3 => by
  rw [e i h1 (by omega), e j (by omega) h3]
  exact h i j h1 h2 h3
theorem So.sub {xs : List Int} {a b c d : Nat} (h : So lt xs a b) (h1 : a ≤ c) (h2 : d ≤ b) : So lt xs c d := fun i j k1 k2 k3 => h i j (by omega) k2 (by omega)

/-! one element carried to the right: from a to its place -/
structure ShR (xs : List Int) (a k : Nat) (ys : List Int) : Prop where
  at_ : gk ys k = gk xs a
  lo : ∀ t, a ≤ t → t < k → gk ys t = gk xs (t + 1)
  out : ∀ t, t < a ∨ k < t → gk ys t = gk xs t
theorem ShR.step {xs ys : List Int} {a k : Nat} (h : ShR xs a k ys) (hak : a ≤ k) (hl : k + 1 < ys.length) : ShR xs a (k + 1) (sw ys k (k + 1)) := by
  refine ⟨?_, fun t h1 h2 => ?_, fun t ht => ?_⟩
  · rw [gk_sw (by omega) hl, if_pos rfl, h.at_]
  · rw [gk_sw (by omega) hl, if_neg (by omega)]
    by_cases e : t = k
    · rw [if_pos e, h.out (k + 1) (by omega), e]
    · rw [if_neg e]; exact h.lo t h1 (by omega)
  · rw [gk_sw (by omega) hl, if_neg (by omega), if_neg (by omega)]
    exact h.out t (by omega)
theorem ShR.sorted {xs ys : List Int} {a i b : Nat} (hai : a < i) (hib : i ≤ b) (h : ShR xs a (i - 1) ys) (O : OrdT lt) (hs : So lt xs (a + 1) b) (h1 : ∀ t, a < t → t < i → lt (gk xs t) (gk xs a) = true) (h2 : ∀ t, i ≤ t → t < b → lt (gk xs a) (gk xs t) = true) : So lt ys a b := by
  intro s t k1 k2 k3
  by_cases e1 : t < i - 1
  · rw [h.lo s k1 (by omega), h.lo t (by omega) e1]
    exact hs _ _ (by omega) (by omega) (by omega)
  · by_cases e2 : t = i - 1
    · rw [e2, h.at_, h.lo s k1 (by omega)]
      exact h1 _ (by omega) (by omega)
    · rw [h.out t (by omega)]
      by_cases e3 : s < i - 1
      · rw [h.lo s k1 e3]
        exact hs _ _ (by omega) (by omega) k3
      · by_cases e4 : s = i - 1
        · rw [e4, h.at_]
          exact h2 _ (by omega) k3
        · rw [h.out s (by omega)]
          exact hs _ _ (by omega) k2 k3
/-! and to the left: from m to its place -/
structure ShL (xs : List Int) (m k : Nat) (ys : List Int) : Prop where
  at_ : gk ys k = gk xs m
  hi : ∀ t, k < t → t ≤ m → gk ys t = gk xs (t - 1)
  out : ∀ t, t < k ∨ m < t → gk ys t = gk xs t
theorem ShL.step {xs ys : List Int} {m k : Nat} (h : ShL xs m k ys) (hk : 0 < k) (hkm : k ≤ m) (hl : k < ys.length) : ShL xs m (k - 1) (sw ys k (k - 1)) := by
  refine ⟨?_, fun t h1 h2 => ?_, fun t ht => ?_⟩
  · rw [gk_sw hl (by omega), if_pos rfl, h.at_]
  · rw [gk_sw hl (by omega), if_neg (by omega)]
    by_cases e : t = k
    · rw [if_pos e, h.out (k - 1) (by omega), e]
    · rw [if_neg e]; exact h.hi t (by omega) h2
  · rw [gk_sw hl (by omega), if_neg (by omega), if_neg (by omega)]
    exact h.out t (by omega)
theorem ShL.sorted {xs ys : List Int} {a i m : Nat} (him : a ≤ i ∧ i ≤ m) (h : ShL xs m i ys) (O : OrdT lt) (hs : So lt xs a m) (h1 : ∀ t, a ≤ t → t < i → lt (gk xs t) (gk xs m) = true) (h2 : ∀ t, i ≤ t → t < m → lt (gk xs m) (gk xs t) = true) : So lt ys a (m + 1) := by
  intro s t k1 k2 k3
  by_cases e1 : i < s
  · rw [h.hi s e1 (by omega), h.hi t (by omega) (by omega)]
    exact hs _ _ (by omega) (by omega) (by omega)
  · by_cases e2 : s = i
    · rw [e2, h.at_, h.hi t (by omega) (by omega)]
      exact h2 _ (by omega) (by omega)
    · rw [h.out s (by omega)]
      by_cases e3 : i < t
      · rw [h.hi t e3 (by omega)]
        exact hs _ _ k1 (by omega) (by omega)
      · by_cases e4 : t = i
        · rw [e4, h.at_]
          exact h1 _ k1 (by omega)
        · rw [h.out t (by omega)]
          exact hs _ _ k1 k2 (by omega)

/-! where to cut -/
structure CutI (lt : Int → Int → Bool) (xs : List Int) (p s0 r0 s r : Nat) : Prop where
  le : s0 ≤ s ∧ s ≤ r ∧ r ≤ r0
  lo : ∀ c, s0 ≤ c → c < s → lt (gk xs c) (gk xs (p - c)) = true
  hi : ∀ c, r ≤ c → c < r0 → lt (gk xs (p - c)) (gk xs c) = true
/-- what the two parts' ranges are -/
structure CutR (a m b s0 r0 : Nat) : Prop where
  am : a < m ∧ m < b
  c1 : (m ≤ (a + b) / 2 ∧ s0 = a ∧ r0 = m) ∨ ((a + b) / 2 < m ∧ s0 = (a + b) / 2 + m - b ∧ r0 = (a + b) / 2)
theorem CutR.rng {a m b s0 r0 : Nat} (h : CutR a m b s0 r0) : a ≤ s0 ∧ s0 ≤ r0 ∧ r0 ≤ m ∧ ∀ c, s0 ≤ c → c < r0 → m ≤ (a + b) / 2 + m - 1 - c ∧ (a + b) / 2 + m - 1 - c < b ∧ a ≤ c ∧ c < m := by
  have h1 := h.am
  rcases h.c1 with ⟨h2, h3, h4⟩ | ⟨h2, h3, h4⟩
  · refine ⟨by omega, by omega, by omega, fun c k1 k2 => by omega⟩
  · refine ⟨by omega, by omega, by omega, fun c k1 k2 => by omega⟩
theorem CutI.start {xs : List Int} {p s0 r0 : Nat} (h : s0 ≤ r0) : CutI lt xs p s0 r0 s0 r0 := ⟨by omega, fun c _ _ => by omega, fun c _ _ => by omega⟩
theorem CutI.low {xs : List Int} {a m b s0 r0 s r c : Nat} (O : OrdT lt) (R : CutR a m b s0 r0) (h : CutI lt xs ((a + b) / 2 + m - 1) s0 r0 s r) (hl : So lt xs a m) (hr : So lt xs m b) (hc : s ≤ c ∧ c < r) (hlt : lt (gk xs c) (gk xs ((a + b) / 2 + m - 1 - c)) = true) : CutI lt xs ((a + b) / 2 + m - 1) s0 r0 (c + 1) r := by
  have h1 := h.le
  obtain ⟨_, _, _, hR⟩ := R.rng
  refine ⟨by omega, fun d k1 k2 => ?_, h.hi⟩
  by_cases e : d = c
  · rw [e]; exact hlt
  · have q1 := hR c (by omega) (by omega)
    have q2 := hR d (by omega) (by omega)
    have h2 : lt (gk xs d) (gk xs c) = true := hl _ _ (by omega) (by omega) (by omega)
    have h3 : lt (gk xs ((a + b) / 2 + m - 1 - c)) (gk xs ((a + b) / 2 + m - 1 - d)) = true := hr _ _ (by omega) (by omega) (by omega)
    exact O.trans _ _ _ (O.trans _ _ _ h2 hlt) h3
theorem CutI.high {xs : List Int} {a m b s0 r0 s r c : Nat} (O : OrdT lt) (R : CutR a m b s0 r0) (h : CutI lt xs ((a + b) / 2 + m - 1) s0 r0 s r) (hl : So lt xs a m) (hr : So lt xs m b) (hc : s ≤ c ∧ c < r) (hlt : lt (gk xs ((a + b) / 2 + m - 1 - c)) (gk xs c) = true) : CutI lt xs ((a + b) / 2 + m - 1) s0 r0 s c := by
  have h1 := h.le
  obtain ⟨_, _, _, hR⟩ := R.rng
  refine ⟨by omega, h.lo, fun d k1 k2 => ?_⟩
  by_cases e : d = c
  · rw [e]; exact hlt
  · have q1 := hR c (by omega) (by omega)
    have q2 := hR d (by omega) (by omega)
    have h2 : lt (gk xs c) (gk xs d) = true := hl _ _ (by omega) (by omega) (by omega)
    have h3 : lt (gk xs ((a + b) / 2 + m - 1 - d)) (gk xs ((a + b) / 2 + m - 1 - c)) = true := hr _ _ (by omega) (by omega) (by omega)
    exact O.trans _ _ _ (O.trans _ _ _ h3 hlt) h2

/-- the cut was found, the middle parts have changed places -/
structure Cutd (lt : Int → Int → Bool) (a m b s : Nat) (xs ys : List Int) : Prop where
  seg : Seg a b xs ys
  s1 : So lt ys a s
  s2 : So lt ys s ((a + b) / 2)
  s3 : So lt ys ((a + b) / 2) ((a + b) / 2 + m - s)
  s4 : So lt ys ((a + b) / 2 + m - s) b
  x : ∀ i j, a ≤ i → i < (a + b) / 2 → (a + b) / 2 ≤ j → j < b → lt (gk ys i) (gk ys j) = true
  le : a ≤ s ∧ s ≤ (a + b) / 2 ∧ (a + b) / 2 ≤ (a + b) / 2 + m - s ∧ (a + b) / 2 + m - s ≤ b
  ah1 : Ahead ys a s ((a + b) / 2)
  ah2 : Ahead ys ((a + b) / 2) ((a + b) / 2 + m - s) b
theorem CutI.done {xs ys : List Int} {a m b s0 r0 s : Nat} (O : OrdT lt) (R : CutR a m b s0 r0) (h : CutI lt xs ((a + b) / 2 + m - 1) s0 r0 s s) (hl : So lt xs a m) (hr : So lt xs m b) (hA : Ahead xs a m b) (hseg : Seg a b xs ys) (hv : ∀ t, gk ys t = rotF xs s m ((a + b) / 2 + m - s) t) : Cutd lt a m b s xs ys := by
  have h0 := h.le
  obtain ⟨r1, r2, r3, hR⟩ := R.rng
  have hc := R.c1
  have ham := R.am
  generalize hmid : (a + b) / 2 = mid at *
  have hmd : 2 * mid ≤ a + b ∧ a + b ≤ 2 * mid + 1 := by omega
  have hsm : s ≤ mid := by omega
  have hse : mid + m - s ≤ b := by omega
  have hs2 : s ≤ m := by omega
  -- the four parts
  have v1 : ∀ t, t < s → gk ys t = gk xs t := fun t ht => by rw [hv]; unfold rotF; rw [if_neg (by omega), if_neg (by omega)]
  have v2 : ∀ t, s ≤ t → t < mid → gk ys t = gk xs (t + (m - s)) := fun t k1 k2 => by rw [hv]; unfold rotF; rw [if_pos (by omega)]
  have v3 : ∀ t, mid ≤ t → t < mid + m - s → gk ys t = gk xs (t - (mid - s)) := fun t k1 k2 => by
    rw [hv]; unfold rotF; rw [if_neg (by omega), if_pos (by omega)]
    congr 1; omega
  have v4 : ∀ t, mid + m - s ≤ t → gk ys t = gk xs t := fun t ht => by rw [hv]; unfold rotF; rw [if_neg (by omega), if_neg (by omega)]
  -- left-low against right-high, right-low against left-high
  have x1 : ∀ i j, a ≤ i → i < s → mid + m - s ≤ j → j < b → lt (gk xs i) (gk xs j) = true := fun i j k1 k2 k3 k4 => by
    by_cases e : s0 ≤ s - 1 ∧ 0 < s
    · have h1 := h.lo (s - 1) e.1 (by omega)
      have e1 : mid + m - 1 - (s - 1) = mid + m - s := by omega
      rw [e1] at h1
      have h2 : lt (gk xs i) (gk xs (mid + m - s)) = true := by
        by_cases e2 : i = s - 1
        · rw [e2]; exact h1
        · exact O.trans _ _ _ (hl i (s - 1) k1 (by omega) (by omega)) h1
      by_cases e3 : j = mid + m - s
      · rw [e3]; exact h2
      · exact O.trans _ _ _ h2 (hr _ _ (by omega) (by omega) k4)
    · exfalso; omega
  have x2 : ∀ i j, m ≤ i → i < mid + m - s → s ≤ j → j < m → lt (gk xs i) (gk xs j) = true := fun i j k1 k2 k3 k4 => by
    by_cases e : s < r0
    · have h1 := h.hi s (Nat.le_refl _) e
      have h2 : lt (gk xs i) (gk xs s) = true := by
        by_cases e2 : i = mid + m - 1 - s
        · rw [e2]; exact h1
        · exact O.trans _ _ _ (hr i (mid + m - 1 - s) k1 (by omega) (by omega)) h1
      by_cases e3 : j = s
      · rw [e3]; exact h2
      · exact O.trans _ _ _ h2 (hl _ _ (by omega) (by omega) k4)
    · exfalso; omega
  refine ⟨hseg, fun i j k1 k2 k3 => ?_, fun i j k1 k2 k3 => ?_, fun i j k1 k2 k3 => ?_, fun i j k1 k2 k3 => ?_, fun i j k1 k2 k3 k4 => ?_, by omega, fun i j k1 k2 k3 k4 => ?_, fun i j k1 k2 k3 k4 => ?_⟩
  all_goals (try simp only [hmid] at *)
  · rw [v1 i (by omega), v1 j k3]; exact hl _ _ k1 k2 (by omega)
  · rw [v2 i k1 (by omega), v2 j (by omega) k3]; exact hr _ _ (by omega) (by omega) (by omega)
  · rw [v3 i k1 (by omega), v3 j (by omega) k3]; exact hl _ _ (by omega) (by omega) (by omega)
  · rw [v4 i k1, v4 j (by omega)]; exact hr _ _ (by omega) k2 k3
  · by_cases e1 : i < s
    · rw [v1 i e1]
      by_cases e2 : j < mid + m - s
      · rw [v3 j k3 e2]; exact hl _ _ k1 (by omega) (by omega)
      · rw [v4 j (by omega)]; exact x1 _ _ k1 e1 (by omega) k4
    · rw [v2 i (by omega) k2]
      by_cases e2 : j < mid + m - s
      · rw [v3 j k3 e2]; exact x2 _ _ (by omega) (by omega) (by omega) (by omega)
      · rw [v4 j (by omega)]; exact hr _ _ (by omega) (by omega) k4
  · rw [v1 i k2, v2 j k3 k4]; exact hA _ _ k1 (by omega) (by omega) (by omega)
  · rw [v3 i k1 k2, v4 j k3]; exact hA _ _ (by omega) (by omega) (by omega) k4
/-- both halves sorted: the whole is -/
theorem Cutd.join {xs ys zs ws : List Int} {a m b s : Nat} (h : Cutd lt a m b s xs ys) (k1 : Seg a ((a + b) / 2) ys zs) (z1 : So lt zs a ((a + b) / 2)) (k2 : Seg ((a + b) / 2) b zs ws) (z2 : So lt ws ((a + b) / 2) b) (hab : a ≤ b) : Seg a b xs ws ∧ So lt ws a b := by
  have hm : a ≤ (a + b) / 2 ∧ (a + b) / 2 ≤ b := by omega
  have hx := h.x
  have hs := h.seg
  generalize (a + b) / 2 = mid at *
  refine ⟨(hs.trans (k1.mono (Nat.le_refl _) hm.2)).trans (k2.mono hm.1 (Nat.le_refl _)), fun i j q1 q2 q3 => ?_⟩
  by_cases e1 : j < mid
  · rw [k2.out i (by omega), k2.out j (by omega)]
    exact z1 i j q1 q2 e1
  · by_cases e2 : i < mid
    · rw [k2.out i (by omega)]
      obtain ⟨i2, a1, a2, a3⟩ := k1.inn i q1 e2
      obtain ⟨j2, b1, b2, b3⟩ := k2.inn j (by omega) q3
      rw [a3, b3, k1.out j2 (by omega)]
      exact hx _ _ a1 a2 b1 b2
    · exact z2 i j (by omega) q2 q3

/-! blocks -/
inductive Bs (lt : Int → Int → Bool) (xs : List Int) (s n : Nat) : Nat → Prop
  | done {lo : Nat} (h : n ≤ lo) : Bs lt xs s n lo
  | blk {lo : Nat} (h : lo < n) (so : So lt xs lo (min (lo + s) n)) (inn : ∀ i, lo ≤ i → i < min (lo + s) n → (lo : Int) ≤ gk xs i ∧ gk xs i < ((min (lo + s) n : Nat) : Int)) (rest : Bs lt xs s n (lo + s)) : Bs lt xs s n lo
theorem Bs.of {xs ys : List Int} {s n lo : Nat} (h : Bs lt xs s n lo) (e : ∀ i, lo ≤ i → gk ys i = gk xs i) : Bs lt ys s n lo := by
  induction h with
  | done h => exact .done h
  | blk h so inn rest ih =>
    refine .blk h (so.of fun i h1 _ => e i h1) (fun i h1 h2 => ?_) (ih fun i hi => e i (by omega))
    rw [e i h1]; exact inn i h1 h2
end
end Go.Sep

/-
  Rows that are sorted in place, plainly: insertion, blocks merged, the one sorted row.
-/
set_option linter.unusedVariables false
set_option linter.unusedSimpArgs false
namespace Go.Sep
section
variable {lt : Int → Int → Bool}
/-- by their numbers from a to b -/
def Inc (xs : List Int) (a b : Nat) : Prop := ∀ i j, a ≤ i → i < j → j < b → gk xs i < gk xs j
/-- the part from a to i is sorted, the rest waits -/
structure InsO (lt : Int → Int → Bool) (xs : List Int) (a i : Nat) (ys : List Int) : Prop where
  seg : Seg a i xs ys
  so : So lt ys a i
theorem InsO.start (xs : List Int) (a : Nat) : InsO lt xs a (a + 1) xs := ⟨Seg.refl _ _ _, fun i j h1 h2 h3 => by omega⟩
theorem InsO.ahead {xs ys : List Int} {a b i : Nat} (h : InsO lt xs a i ys) (hI : Inc xs a b) (hi : i < b) : ∀ t, a ≤ t → t < i → gk ys t < gk ys i := fun t h1 h2 => by
  obtain ⟨j, j1, j2, j3⟩ := h.seg.inn t h1 h2
  rw [j3, h.seg.out i (by omega)]
  exact hI j i j1 j2 hi
structure InsI (lt : Int → Int → Bool) (ys : List Int) (a i j : Nat) (zs : List Int) : Prop where
  le : a ≤ j ∧ j ≤ i
  seg : Seg a (i + 1) ys zs
  sh : ShL ys i j zs
  past : ∀ t, j ≤ t → t < i → lt (gk ys i) (gk ys t) = true
theorem InsI.start {ys : List Int} {a i : Nat} (h : a ≤ i) : InsI lt ys a i i ys := ⟨⟨h, Nat.le_refl _⟩, Seg.refl _ _ _, ⟨rfl, fun t h1 h2 => by omega, fun t _ => rfl⟩, fun t h1 h2 => by omega⟩
theorem InsI.step {ys zs : List Int} {a i j : Nat} (h : InsI lt ys a i j zs) (hj : a < j) (hl : i < ys.length) (hlt : lt (gk zs j) (gk zs (j - 1)) = true) : InsI lt ys a i (j - 1) (sw zs j (j - 1)) := by
  have h1 := h.le
  have hzl := h.seg.len
  refine ⟨by omega, h.seg.trans (Seg.sw (by omega) (by omega) (by omega)), h.sh.step (by omega) h1.2 (by omega), fun t k1 k2 => ?_⟩
  by_cases e : t = j - 1
  · rw [h.sh.at_, h.sh.out (j - 1) (by omega)] at hlt
    rw [e]; exact hlt
  · exact h.past t (by omega) k2
theorem InsI.ahead {xs ys zs : List Int} {a b i j : Nat} (h : InsI lt ys a i j zs) (h0 : InsO lt xs a i ys) (hI : Inc xs a b) (hi : i < b) (hj : (a : Int) < (j : Int)) : gk zs (j - 1) < gk zs j := by
  have h1 := h.le
  rw [h.sh.at_, h.sh.out (j - 1) (by omega)]
  exact h0.ahead hI hi (j - 1) (by omega) (by omega)
theorem InsI.done {xs ys zs : List Int} {a b i j : Nat} (O : OrdT lt) (h0 : InsO lt xs a i ys) (hI : Inc xs a b) (hi : i < b) (h : InsI lt ys a i j zs) (he : j = a ∨ lt (gk zs j) (gk zs (j - 1)) = false) : InsO lt xs a (i + 1) zs := by
  have h1 := h.le
  refine ⟨(h0.seg.mono (Nat.le_refl _) (by omega)).trans h.seg, ?_⟩
  refine h.sh.sorted h1 O h0.so (fun t k1 k2 => ?_) h.past
  rcases he with he | he
  · omega
  · rw [h.sh.at_, h.sh.out (j - 1) (by omega)] at he
    have hA := h0.ahead hI hi (j - 1) (by omega) (by omega)
    have hl : lt (gk ys (j - 1)) (gk ys i) = true := by
      rcases O.tot (gk ys (j - 1)) (gk ys i) with e | e | e
      · exact e
      · omega
      · rw [e] at he; cases he
    by_cases e : t = j - 1
    · rw [e]; exact hl
    · exact O.trans _ _ _ (h0.so t (j - 1) k1 (by omega) (by omega)) hl

/-- what stands ahead of a is done: the rest's blocks make the whole's -/
def Pre (lt : Int → Int → Bool) (s n : Nat) (xs : List Int) (a : Nat) : Prop := ∀ zs, (∀ i, i < a → gk zs i = gk xs i) → Bs lt zs s n a → Bs lt zs s n 0
theorem Pre.start (s n : Nat) (xs : List Int) : Pre lt s n xs 0 := fun _ _ h => h
theorem Pre.next {s n a b : Nat} {xs ys : List Int} (h : Pre lt s n xs a) (ha : a < n) (hb : b = min (a + s) n) (hs : Seg a b xs ys) (so : So lt ys a b) (inn : ∀ i, a ≤ i → i < b → (a : Int) ≤ gk xs i ∧ gk xs i < (b : Int)) : Pre lt s n ys (a + s) := fun zs e k => by
  subst hb
  refine h zs (fun i hi => ?_) (.blk ha (so.of fun i h1 h2 => e i (by omega)) (fun i h1 h2 => ?_) k)
  · rw [e i (by omega), hs.out i (by omega)]
  · rw [e i (by omega)]
    obtain ⟨j, j1, j2, j3⟩ := hs.inn i h1 h2
    rw [j3]; exact inn j j1 j2
theorem Pre.done {s n a : Nat} {xs : List Int} (h : Pre lt s n xs a) (ha : n ≤ a) : Bs lt xs s n 0 := h xs (fun _ _ => rfl) (.done ha)
theorem Bs.head {xs : List Int} {s n lo : Nat} (h : Bs lt xs s n lo) (hlo : lo < n) : So lt xs lo (min (lo + s) n) ∧ (∀ i, lo ≤ i → i < min (lo + s) n → (lo : Int) ≤ gk xs i ∧ gk xs i < ((min (lo + s) n : Nat) : Int)) ∧ Bs lt xs s n (lo + s) := by
  cases h with
  | done h => omega
  | blk h so inn rest => exact ⟨so, inn, rest⟩
/-- two blocks, to be merged -/
theorem Bs.two {xs : List Int} {s n a b : Nat} (h : Bs lt xs s n a) (hs : a + s < n) (hb : b = min (a + s + s) n) : So lt xs a (a + s) ∧ So lt xs (a + s) b ∧ Ahead xs a (a + s) b ∧ (∀ i, a ≤ i → i < b → (a : Int) ≤ gk xs i ∧ gk xs i < (b : Int)) ∧ Bs lt xs s n (a + s + s) := by
  subst hb
  obtain ⟨s1, i1, r1⟩ := h.head (by omega)
  obtain ⟨s2, i2, r2⟩ := r1.head (by omega)
  rw [Nat.min_eq_left (by omega)] at s1 i1
  refine ⟨s1, s2, fun i j k1 k2 k3 k4 => ?_, fun i k1 k2 => ?_, r2⟩
  · have := i1 i k1 k2
    have := i2 j k3 k4
    omega
  · by_cases e : i < a + s
    · have := i1 i k1 e; omega
    · have := i2 i (by omega) k2; omega
/-- one block that is left -/
theorem Bs.one {xs : List Int} {s n a : Nat} (h : Bs lt xs s n a) (hs : n ≤ a + s) : Bs lt xs (s + s) n a := by
  by_cases ha : a < n
  · obtain ⟨s1, i1, r1⟩ := h.head ha
    rw [show min (a + s) n = n by omega] at s1 i1
    have e : min (a + (s + s)) n = n := by omega
    exact .blk ha (by rw [e]; exact s1) (by rw [e]; exact i1) (.done (by omega))
  · exact .done (by omega)
theorem Bs.all {xs : List Int} {s n : Nat} (h : Bs lt xs s n 0) (hs : n ≤ s) : So lt xs 0 n := by
  by_cases hn : 0 < n
  · have := (h.head hn).1
    rw [show min (0 + s) n = n by omega] at this
    exact this
  · intro i j _ _ h3; omega
/-- a row in order is one -/
theorem So.pairwise {xs : List Int} (h : So lt xs 0 xs.length) : xs.Pairwise fun a b => lt a b = true := by
  rw [List.pairwise_iff_getElem]
  intro i j hi hj hij
  have := h i j (Nat.zero_le _) hij hj
  have e1 := gk_get hi
  have e2 := gk_get hj
  rw [List.getElem?_eq_getElem hi] at e1
  rw [List.getElem?_eq_getElem hj] at e2
  simp only [Option.some.injEq] at e1 e2
  rw [e1, e2]; exact this
theorem sorted_one (O : OrdT lt) : ∀ {xs ys : List Int}, xs.Pairwise (fun a b => lt a b = true) → ys.Pairwise (fun a b => lt a b = true) → xs.Perm ys → xs = ys
  | [], ys, _, _, p => (List.nil_perm.1 p).symm
  | x :: xs, [], _, _, p => absurd (List.perm_nil.1 p) (by simp)
  | x :: xs, y :: ys, h, k, p => by
    rw [List.pairwise_cons] at h k
    have e : x = y := by
      have m1 : x ∈ y :: ys := p.mem_iff.1 (List.mem_cons_self ..)
      have m2 : y ∈ x :: xs := p.mem_iff.2 (List.mem_cons_self ..)
      rcases List.mem_cons.1 m1 with e | m1
      · exact e
      · rcases List.mem_cons.1 m2 with e | m2
        · exact e.symm
        · have a1 := h.1 y m2
          have a2 := k.1 x m1
          rw [O.asym a1] at a2; cases a2
    subst e
    rw [sorted_one O h.2 k.2 ((List.perm_cons _).1 p)]
end
end Go.Sep

/-
  Sorting in place: the comparison, ranges swapped and rotated.
-/
set_option linter.unusedVariables false
set_option linter.unusedSimpArgs false
namespace Go.Sep
open Go.Proofs
attribute [local irreducible] TC TO OT TCallX TCall DO DOt thenQ blockQ retQ At
/-- a range -/
structure Rg where
  frm : Int
  to : Int
def rRg : R Rg Rg := ⟨2, 16, fun x => [.int .i64 x.frm, .int .i64 x.to], fun _ h a => h = a, fun _ => rfl, fun _ => rfl, fun _ h => h⟩
def rgD (l : List Rg) (i : Nat) : Rg := l[i]?.getD ⟨0, 0⟩
def fromOf (l : List Rg) (x : Int) : Int := (rgD l x.toNat).frm
/-- which begins first -/
def wlR (l : List Rg) (x y : Int) : Bool := decide (fromOf l x < fromOf l y)
def ltR (l : List Rg) (x y : Int) : Bool := decide (fromOf l x < fromOf l y) || (decide (fromOf l x = fromOf l y) && decide (x < y))
theorem ltR_ord (l : List Rg) : OrdT (ltR l) := by
  refine ⟨fun a => by simp [ltR], fun a b c h1 h2 => ?_, fun a b => ?_⟩
  · simp only [ltR, Bool.or_eq_true, Bool.and_eq_true, decide_eq_true_eq] at h1 h2 ⊢
    omega
  · simp only [ltR, Bool.or_eq_true, Bool.and_eq_true, decide_eq_true_eq]
    omega
theorem wlR_lt {l : List Rg} {x y : Int} (h : y < x) : wlR l x y = ltR l x y := by
  rw [Bool.eq_iff_iff]
  simp only [wlR, ltR, Bool.or_eq_true, Bool.and_eq_true, decide_eq_true_eq]
  omega
theorem gk_map {xs : List Int} {k : Nat} (h : k < xs.length) : (xs.map (Value.int .i64))[k]? = some (Value.int .i64 (gk xs k)) := by
  rw [List.getElem?_map, gk_get h]
  rfl
theorem nan_law (m : Mem) (L : List Item) (x : Int) : TCall Try.prog 29 ⟨[.int .i64 x]⟩ m L (Ret (.bool false) m L) := by
  unfold TCall
  refine TCallX.enter Try.func29 rfl 6 rfl ?_
  repeat (first|refine q1 ?_|refine q3 ?_|refine q4 tab rfl rfl ?_|refine q5 ?_|refine q6 ?_|refine q15 ?_)
  refine retQ_ret rfl (by repeat (exact List.Sublist.refl _)) ⟨rfl, rfl, ?_⟩
  simp
def cmpV (x y : Int) : Int := if x < y then -1 else if y < x then 1 else 0
theorem cmpV_neg (x y : Int) : cmpV x y < 0 ↔ x < y := by unfold cmpV; split <;> (try split) <;> omega
theorem compare_law (m : Mem) (L : List Item) (x y : Int) : TCall Try.prog 17 ⟨[.int .i64 x, .int .i64 y]⟩ m L (Ret (.int .i64 (cmpV x y)) m L) := by
  unfold TCall
  refine TCallX.enter Try.func17 rfl 20 rfl ?_
  repeat (first|refine q1 ?_|refine q3 ?_|refine q4 tab rfl rfl ?_|refine q5 ?_|refine q6 ?_)
  refine TO.step rfl (OT.call rfl rfl rfl rfl rfl rfl goes29 ((nan_law m L x).x ?_));
  rintro _ _ _ ⟨rfl, rfl, rfl⟩
  repeat (first|refine q1 ?_|refine q3 ?_|refine q4 tab rfl rfl ?_|refine q5 ?_|refine q6 ?_)
  refine TO.step rfl (OT.call rfl rfl rfl rfl rfl rfl goes29 ((nan_law m L y).x ?_));
  rintro _ _ _ ⟨rfl, rfl, rfl⟩
  repeat (first|refine q1 ?_|refine q3 ?_|refine q4 tab rfl rfl ?_|refine q5 ?_|refine q6 ?_|refine q13 ?_|refine q17 rfl ?_)
  refine TC.condP rfl (fun h1 => ?_) (fun h1 => ?_)
  · repeat (first|refine q1 ?_|refine q3 ?_|refine q4 tab rfl rfl ?_|refine q5 ?_|refine q6 ?_|refine q8 ?_|refine q15 ?_)
    refine retQ_ret rfl (by repeat (exact List.Sublist.refl _)) ⟨rfl, rfl, ?_⟩
    rw [cmpV, if_pos h1]
  · repeat (first|refine q1 ?_|refine q3 ?_|refine q4 tab rfl rfl ?_|refine q5 ?_|refine q6 ?_|refine q13 ?_)
    refine TC.condP rfl (fun h2 => ?_) (fun h2 => ?_)
    · repeat (first|refine q1 ?_|refine q3 ?_|refine q4 tab rfl rfl ?_|refine q5 ?_|refine q6 ?_|refine q8 ?_|refine q15 ?_)
      refine retQ_ret rfl (by repeat (exact List.Sublist.refl _)) ⟨rfl, rfl, ?_⟩
      rw [cmpV, if_neg h1, if_pos h2]
    · repeat (first|refine q1 ?_|refine q3 ?_|refine q4 tab rfl rfl ?_|refine q5 ?_|refine q6 ?_|refine q13 ?_|refine q15 ?_)
      refine retQ_ret rfl (by repeat (exact List.Sublist.refl _)) ⟨rfl, rfl, ?_⟩
      rw [cmpV, if_neg h1, if_neg h2]
def inL (N : Nat) (x : Int) : Prop := 0 ≤ x ∧ x < (N : Int)
/-- the comparison of two ranges' beginnings -/
theorem cmp_law (m : Mem) (L : List Item) (bd bl : Nat) (vs : List Value) (ss : Sl) (l : List Rg) (hss : SlRep rRg m ss l) (x y : Int) (hx : inL l.length x) (hy : inL l.length y) :
    TCall Try.prog 16 ⟨[.int .i64 x, .int .i64 y, .pointer (some ⟨bl, 0, none⟩)]⟩ m (.cells bd 0 vs :: .cells bl 0 [ss.v] :: L) (Ret (.int .i64 (cmpV (fromOf l x) (fromOf l y))) m (.cells bd 0 vs :: .cells bl 0 [ss.v] :: L)) := by
  have hxl : x.toNat < l.length := by have := hx.1; have := hx.2; omega
  have hyl : y.toNat < l.length := by have := hy.1; have := hy.2; omega
  have hxe : l[x.toNat]? = some (rgD l x.toNat) := by unfold rgD; rw [List.getElem?_eq_getElem hxl]; rfl
  have hye : l[y.toNat]? = some (rgD l y.toNat) := by unfold rgD; rw [List.getElem?_eq_getElem hyl]; rfl
  have hx0 := hx.1
  have hy0 := hy.1
  have hl := hss.len
  unfold TCall
  refine TCallX.enter Try.func16 rfl 17 rfl ?_
  repeat (first|refine q1 ?_|refine q3 ?_|refine q4 tab rfl rfl ?_|refine q5 ?_|refine q6 ?_)
  refine TC.draw [] mixed 12 rfl (.cells bd 0 vs :: .cells bl 0 [ss.v] :: L) [] (by rw [List.append_nil]) ?_
  (refine DO.loadL (k := 0) tab 0 1 (by repeat (first|exact Calm.ret|refine Calm.then ?_)) (by kernel_rfl) (by kernel_rfl) rfl rfl rfl rfl rfl rfl rfl rfl ?_)
  refine DO.pure tab (by repeat (first|exact Calm.ret|refine Calm.then ?_)) (by kernel_rfl) [1] (by kernel_rfl) rfl ?_
  refine DO.index tab rRg 2 x.toNat hss (by repeat (first|exact Calm.ret|refine Calm.then ?_)) (by kernel_rfl) (by kernel_rfl) rfl rfl rfl rfl rfl rfl rfl (by first | rfl | omega) rfl hxe ?_
  rintro b1 i1 h1 e1 hA1; obtain rfl := (show h1 = rgD l x.toNat from e1)
  refine DO.pure tab (by repeat (first|exact Calm.ret|refine Calm.then ?_)) (by kernel_rfl) [3] (by kernel_rfl) rfl ?_
  (refine DO.loadA tab 4 hA1 (by repeat (first|exact Calm.ret|refine Calm.then ?_)) (by kernel_rfl) (by kernel_rfl) rfl rfl rfl rfl rfl rfl rfl ?_)
  (refine DO.loadL (k := 0) tab 5 1 (by repeat (first|exact Calm.ret|refine Calm.then ?_)) (by kernel_rfl) (by kernel_rfl) rfl rfl rfl rfl rfl rfl rfl rfl ?_)
  refine DO.pure tab (by repeat (first|exact Calm.ret|refine Calm.then ?_)) (by kernel_rfl) [6] (by kernel_rfl) rfl ?_
  refine DO.index tab rRg 7 y.toNat hss (by repeat (first|exact Calm.ret|refine Calm.then ?_)) (by kernel_rfl) (by kernel_rfl) rfl rfl rfl rfl rfl rfl rfl (by first | rfl | omega) rfl hye ?_
  rintro b2 i2 h2 e2 hA2; obtain rfl := (show h2 = rgD l y.toNat from e2)
  refine DO.pure tab (by repeat (first|exact Calm.ret|refine Calm.then ?_)) (by kernel_rfl) [8] (by kernel_rfl) rfl ?_
  (refine DO.loadA tab 9 hA2 (by repeat (first|exact Calm.ret|refine Calm.then ?_)) (by kernel_rfl) (by kernel_rfl) rfl rfl rfl rfl rfl rfl rfl ?_)
  refine DO.run 10 rfl rfl (by kernel_rfl) rfl (OT.call rfl rfl rfl rfl rfl rfl goes17 ((compare_law _ _ (rgD l x.toNat).frm (rgD l y.toNat).frm).x ?_))
  rintro _ _ _ ⟨rfl, rfl, rfl⟩; refine ⟨Mem.le_refl _, _, List.Perm.refl _, ?_⟩
  refine DO.pure tab (by repeat (first|exact Calm.ret|refine Calm.then ?_)) (by kernel_rfl) [11] (by kernel_rfl) rfl ?_
  (refine DO.nil0 (by kernel_rfl) ?_)
  rotate_left 1
  repeat (first|refine q6 ?_|refine q15 ?_)
  refine retQ_ret rfl (by repeat (exact List.Sublist.refl _)) ⟨rfl, rfl, ?_⟩
  rfl
/-- a row of numbers that the call owns: at block bd -/
@[reducible] def rowI (bd : Nat) (xs : List Int) : Item := .cells bd 0 (xs.map (Value.int .i64))
theorem swaprange_law (m : Mem) (L : List Item) (bd c a b n : Nat) (xs : List Int) (fv : Value) (hab : a + n ≤ b) (hl : b + n ≤ xs.length) (hlim : xs.length ≤ 1000000) :
    TCall Try.prog 53 ⟨[.slice (some ⟨bd, 0, none⟩) xs.length c, .int .i64 (a : Int), .int .i64 (b : Int), .int .i64 (n : Int), fv]⟩ m (rowI bd xs :: L) (fun r m' L' => m = m' ∧ ∃ ys, SwI xs a b n n ys ∧ rowI bd ys :: L = L') := by
  unfold TCall
  refine TCallX.enter Try.func53 rfl 38 rfl ?_
  repeat (first|refine q1 ?_|refine q2 ?_|refine q3 ?_|refine q4 tab rfl rfl ?_|refine q5 ?_|refine q6 ?_)
  refine TC.loopK (ι := Nat × List Int) [0, 1, 2, 3] rfl (fun x => [(10, .int .i64 (x.1 : Int))]) (fun _ => m) (fun x => rowI bd x.2 :: L) (fun x => x.1 ≤ n ∧ SwI xs a b n x.1 x.2) (fun x => n - x.1) (0, xs) (by repeat (first|exact trivial|refine And.intro rfl ?_)) rfl (by repeat (exact List.Sublist.refl _)) ⟨Nat.zero_le _, SwI.start _ _ _ _⟩ ?_
  rintro ⟨k, ys⟩ ⟨hk, hI⟩
  simp only at hk hI ⊢
  have hyl := hI.seg.len
  repeat (first|refine q1 ?_|refine q3 ?_|refine q4 tab rfl rfl ?_|refine q5 ?_|refine q6 ?_)
  refine TC.condP rfl (fun hlt' => ?_) (fun hlt' => ?_)
  · have hlt : k < n := by omega
    repeat (first|refine q1 ?_|refine q2 ?_|refine q6 ?_|refine q13 ?_)
    refine TC.draw [21, 22, 23] mixed 24 rfl (rowI bd ys :: L) [] (by rw [List.append_nil]) ?_
    refine DO.pure tab (by repeat (first|exact Calm.ret|refine Calm.then ?_|refine Calm.block ?_)) (by kernel_rfl) [0, 1, 2] (by kernel_rfl) rfl ?_
    refine DO.arith 3 (r' := ((a + k : Nat) : Int)) (by repeat (first|exact Calm.ret|refine Calm.then ?_|refine Calm.block ?_)) (by kernel_rfl) (by kernel_rfl) rfl rfl rfl rfl rfl rfl rfl rfl (by first | rfl | omega | (simp only; omega)) (by omega) ?_
    refine DO.pure tab (by repeat (first|exact Calm.ret|refine Calm.then ?_|refine Calm.block ?_)) (by kernel_rfl) [4, 5, 6] (by kernel_rfl) rfl ?_
    refine DO.arith 7 (r' := ((b + k : Nat) : Int)) (by repeat (first|exact Calm.ret|refine Calm.then ?_|refine Calm.block ?_)) (by kernel_rfl) (by kernel_rfl) rfl rfl rfl rfl rfl rfl rfl rfl (by first | rfl | omega | (simp only; omega)) (by omega) ?_
    refine DO.pure tab (by repeat (first|exact Calm.ret|refine Calm.then ?_|refine Calm.block ?_)) (by kernel_rfl) [8, 9, 10] (by kernel_rfl) rfl ?_
    refine DO.arith 11 (r' := ((b + k : Nat) : Int)) (by repeat (first|exact Calm.ret|refine Calm.then ?_|refine Calm.block ?_)) (by kernel_rfl) (by kernel_rfl) rfl rfl rfl rfl rfl rfl rfl rfl (by first | rfl | omega | (simp only; omega)) (by omega) ?_
    refine DO.indexP (sz := 1) tab 12 (b + k) (by repeat (first|exact Calm.ret|refine Calm.then ?_|refine Calm.block ?_)) (by kernel_rfl) (by kernel_rfl) rfl rfl rfl rfl rfl rfl rfl rfl rfl (by omega) ?_
    refine DO.loadR tab 13 0 (gk_map (xs := ys) (k := b + k) (by omega)) (by repeat (first|exact Calm.ret|refine Calm.then ?_|refine Calm.block ?_)) (by kernel_rfl) (by kernel_rfl) rfl rfl rfl rfl rfl rfl rfl rfl ?_
    refine DO.pure tab (by repeat (first|exact Calm.ret|refine Calm.then ?_|refine Calm.block ?_)) (by kernel_rfl) [14, 15, 16] (by kernel_rfl) rfl ?_
    refine DO.arith 17 (r' := ((a + k : Nat) : Int)) (by repeat (first|exact Calm.ret|refine Calm.then ?_|refine Calm.block ?_)) (by kernel_rfl) (by kernel_rfl) rfl rfl rfl rfl rfl rfl rfl rfl (by first | rfl | omega | (simp only; omega)) (by omega) ?_
    refine DO.indexP (sz := 1) tab 18 (a + k) (by repeat (first|exact Calm.ret|refine Calm.then ?_|refine Calm.block ?_)) (by kernel_rfl) (by kernel_rfl) rfl rfl rfl rfl rfl rfl rfl rfl rfl (by omega) ?_
    refine DO.loadR tab 19 0 (gk_map (xs := ys) (k := a + k) (by omega)) (by repeat (first|exact Calm.ret|refine Calm.then ?_|refine Calm.block ?_)) (by kernel_rfl) (by kernel_rfl) rfl rfl rfl rfl rfl rfl rfl rfl ?_
    refine DO.indexP (sz := 1) tab 20 (a + k) (by repeat (first|exact Calm.ret|refine Calm.then ?_|refine Calm.block ?_)) (by kernel_rfl) (by kernel_rfl) rfl rfl rfl rfl rfl rfl rfl rfl rfl (by omega) ?_
    refine DO.tail ?_
    refine DOt.run 21 rfl rfl (by kernel_rfl) rfl ?_
    refine OT.storeM (k := a + k) tab 0 (Value.int .i64) (gk ys (b + k)) rfl rfl rfl rfl rfl rfl rfl (by omega) ?_
    refine DOt.run 22 rfl rfl (by kernel_rfl) rfl ?_
    refine OT.indexP (sz := 1) tab (b + k) rfl rfl rfl rfl rfl rfl rfl (by omega) ?_
    refine DOt.run 23 rfl rfl (by kernel_rfl) rfl ?_
    refine OT.storeM (k := b + k) tab 0 (Value.int .i64) (gk ys (a + k)) rfl rfl rfl rfl rfl rfl rfl (by simp; omega) ?_
    refine DOt.nil (by kernel_rfl) ?_
    rotate_left 1
    repeat (first|refine q3 ?_|refine q4 tab rfl rfl ?_|refine q6 ?_|refine q7 ?_)
    refine TO.step rfl (OT.arith (r' := ((k + 1 : Nat) : Int)) rfl rfl rfl rfl rfl rfl rfl (by omega) ?_)
    repeat (first|refine q4 tab rfl rfl ?_|refine q5 ?_|refine q6 ?_)
    exact ⟨(k + 1, sw ys (a + k) (b + k)), (by repeat (first|exact trivial|refine And.intro rfl ?_)), (by repeat (first|exact trivial|refine And.intro rfl ?_)), rfl, rfl, (by repeat (exact List.sublist_append_left _ _)), ⟨by simp only; omega, hI.step hlt hab hl⟩, by simp only; omega⟩
  · have hkn : k = n := by omega
    subst hkn
    repeat (first|refine q10 ?_|refine q11 ?_|refine q14 ?_)
    refine retQ_n rfl (L' := rowI bd ys :: L) (by repeat (exact List.Sublist.refl _)) ⟨rfl, ys, hI, rfl⟩
end Go.Sep

/-
  Methods of an embedded part, called through an interface.
-/
set_option linter.unusedVariables false
set_option linter.unusedSimpArgs false
namespace Go.Sep
section
variable {P : Program} {N : Nat} {ρ : Env} {D : List Deferred} {m : Mem} {L : List Item} {Q : EPost} {full : List Oper} {o : Oper} {K : Env → Mem → List Item → Prop}
def pathIs (p : Array FieldStep) (S : TypeId) : Bool :=
  match p with
  | ⟨[s]⟩ => Nat.beq s.struct S && (Nat.beq s.index 0 && s.deref)
  | _ => false
theorem pathIs_get {p : Array FieldStep} {S : TypeId} (h : pathIs p S = true) : p = #[⟨S, 0, true⟩] := by
  unfold pathIs at h
  split at h
  · rename_i s
    simp only [Bool.and_eq_true] at h
    obtain ⟨h1, h2, h3⟩ := h
    obtain ⟨a, b, c⟩ := s
    simp only at h1 h2 h3
    rw [Nat.eq_of_beq_eq_true h1, Nat.eq_of_beq_eq_true h2, h3]
  · cases h
/-- a row of a method table: of the pointer's first field -/
def methRowF (P : Program) (t : TypeId) (name : String) (f : FuncId) (S : TypeId) : Bool :=
  match P.info? t with
  | some info => match info.methods.find? (·.name == name) with
    | some mm => pathIs mm.path S && (match mm.func with
      | some (g, q) => Nat.beq g f && (q == false)
      | none => false)
    | none => false
  | none => false
theorem methRowF_get {t : TypeId} {name : String} {f : FuncId} {S : TypeId} (h : methRowF P t name f S = true) : ∃ info mm, P.info? t = some info ∧ info.methods.find? (·.name == name) = some mm ∧ mm.path = #[⟨S, 0, true⟩] ∧ mm.func = some (f, false) := by
  unfold methRowF at h
  split at h
  · rename_i info h1
    split at h
    · rename_i mm h2
      simp only [Bool.and_eq_true] at h
      obtain ⟨h3, h4⟩ := h
      split at h4
      · rename_i g q h5
        simp only [Bool.and_eq_true, beq_iff_eq] at h4
        refine ⟨info, mm, h1, h2, pathIs_get h3, ?_⟩
        rw [h5, Nat.eq_of_beq_eq_true h4.1, h4.2]
      · cases h4
    · cases h
  · cases h
/-- the type of the first field, which lies at the beginning; it is no pointer -/
def Tab.first {P : Program} (T : Tab P) (S : TypeId) : Option TypeId :=
  match T.get S with
  | some ⟨.struct ⟨fd :: _⟩, _, _, _⟩ => if Nat.beq fd.offset 0 then (match T.get fd.type with
    | some ⟨.slice _, sz, _, _⟩ => if Nat.beq sz 1 then some fd.type else none
    | _ => none) else none
  | _ => none
theorem first_get {T : Tab P} {S E : TypeId} (h : T.first S = some E) : ∃ i fd r, T.get S = some i ∧ i.u = .struct ⟨fd :: r⟩ ∧ fd.offset = 0 ∧ fd.type = E ∧ ∃ j e, T.get E = some j ∧ j.u = .slice e ∧ j.size = 1 := by
  unfold Tab.first at h
  split at h
  · rename_i fd r _ _ _ hg
    split at h
    · rename_i h0
      split at h
      · rename_i e sz _ _ hj
        split at h
        · rename_i hsz
          simp only [Option.some.injEq] at h
          exact ⟨_, fd, r, hg, rfl, Nat.eq_of_beq_eq_true h0, h, _, e, by rw [← h]; exact hj, rfl, Nat.eq_of_beq_eq_true hsz⟩
        · cases h
      · cases h
    · cases h
  · cases h
theorem run_methF (T : Tab P) {t S E : TypeId} {name : String} {f : FuncId} {b : Nat} {rv : Value} {w : World} (h : methRowF P t name f S = true) (ht : T.first S = some E) (hl : (loadVar E ⟨b, 0, none⟩).run P w = .ok rv w) : (method (P.types.size + Made.depth) t (.pointer (some ⟨b, 0, none⟩)) name).run P w = .ok (f, rv) w := by
  obtain ⟨info, mm, h1, h2, h3, h4⟩ := methRowF_get h
  obtain ⟨i, fd, r, g1, g2, g3, g4, j, e, g5, g6, g7⟩ := first_get ht
  have hu := T.run_underlying w g1
  rw [g2] at hu
  have hu2 := T.run_underlying w g5
  rw [g6] at hu2
  have hp : (fieldPlace ⟨b, 0, none⟩ fd).run P w = .ok ⟨b, 0, none⟩ w := by
    have hs := T.run_sizeOf w g5
    rw [← g4, g7] at hs
    simp [fieldPlace, g3, Addr.add, hs]
  obtain ⟨n, hn⟩ : ∃ n, P.types.size + Made.depth = n + 1 := ⟨P.types.size + 99, rfl⟩
  rw [hn, method]
  simp only [typeInfo, Sem.run_bind, run_program, Result.andThen_ok, h1, Sem.run_pure, h2, h3, h4, follow, receiverAt, hu, Place.get, asAddr, hp, g4, hu2, List.getElem?_toArray, List.getElem?_cons_zero, if_true]
  simp only [hl, Result.andThen_ok]
/-- a method of the first field -/
theorem OT.invokeF (T : Tab P) (i : Nat) {X : Operand} {args : List Operand} {ats : Array TypeId} {name : String} {t S E : TypeId} {b : Nat} {rv : Value} {f : FuncId} {vs all cs : List Value} {d : Nat} (hr : methRowF P t name f S = true) (ht : T.first S = some E) (ho : o.op = .call ⟨.invoke X name, ⟨args⟩, ats⟩)
    (hd : o.dst = some d) (hN : Nat.blt d N = true) (hX : ev ρ X = some (.iface t (.pointer (some ⟨b, 0, none⟩)))) (ha : evs ρ args = some vs) (hi : L[i]? = some (.cells b 0 cs)) (hl : T.load E cs 0 = some rv) (hall : fl (rv :: vs) = some all) (hg : Goes P f)
    (h : TCallX P f ⟨all⟩ m L (fun v m' L' => K ((d, v) :: ρ) m' L') (fun ch m' L' => Q (.panic ch) ρ D m' L')) : OT P N o ρ D m L Q K :=
  OT.invokeG ho hd hN hX ha hall hg (fun w hw => run_methF T hr ht (by
    have := run_loadVar (P := P) T (k := 0) (hw.cells hi) hl
    simpa using this)) h
end
section
variable {P : Program} {N : Nat} {ρ : Env} {D : List Deferred} {m : Mem} {Ls Lp : List Item} {Q : EPost} {ops : List Oper} {ts : List Nat} {fuel : Nat} {listed : List Bool}
/-- numbers of any size, taken first -/
theorem DO.arithK (i : Nat) {op : BinOp} {t t' : TypeId} {x y : Operand} {o : Oper} {k : IntKind} {d : Nat} {a b r r' : Int} (hc : Calm Q) (hns : Region.noSelect ⟨ops⟩ = true) (hok : orderOkP ops ts [i] listed = true)
    (hi : ops[i]? = some o) (hg : gv ops ρ o = some true) (ho : o.op = .binOp op t x y t') (hd : o.dst = some d) (hN : Nat.blt d N = true)
    (hx : ev ρ x = some (.int k a)) (hy : ev ρ y = some (.int k b)) (hr : Sep.arith op a b = some r) (he : k.wrap r = r')
    (h : DO P N ops ts fuel (listed.set i true) ((d, .int k r') :: ρ) D m Ls Lp Q) : DO P N ops ts (fuel + 1) listed ρ D m Ls Lp Q := by
  simp only [orderOkP, Bool.and_eq_true] at hok
  obtain ⟨o1, o2, o3, _⟩ := hok
  subst he
  refine DO.takeP i hc hi hd hN hg hns o1 o2 (by simpa using o3) (fun ac w hA => ?_) h
  cases op <;> simp only [Sep.arith, Option.some.injEq] at hr <;> first | (cases hr; done) | (subst hr; simp [execOp, ho, hA.eval hx, hA.eval hy, eqGuard, binOp, Op.intArith])
end
end Go.Sep

/-
  A heap of held slots: its methods.
-/
set_option linter.unusedVariables false
set_option linter.unusedSimpArgs false
namespace Go.Sep
open Go.Proofs
attribute [local irreducible] TC TO OT TCallX TCall DO DOt thenQ blockQ retQ At
/-- a slot that is held -/
structure Hd where
  to : Int
  slot : Int
instance : Inhabited Hd := ⟨⟨0, 0⟩⟩
@[reducible] def hdC (x : Hd) : List Value := [.int .i64 x.to, .int .i64 x.slot]
@[reducible] def hdV (x : Hd) : Value := .agg ⟨[.int .i64 x.to, .int .i64 x.slot]⟩
def rHd : R Hd Hd := ⟨2, 16, hdC, fun _ h a => h = a, fun _ => rfl, fun _ => rfl, fun _ h => h⟩
def ltH (a b : Hd) : Bool := decide (a.to < b.to)
theorem ltH_ord : OrdK ltH := by
  constructor
  · intro a b h
    simp only [ltH, decide_eq_true_eq, decide_eq_false_iff_not] at h ⊢
    omega
  · intro a b c h1 h2
    simp only [ltH, decide_eq_false_iff_not] at h1 h2 ⊢
    omega
theorem ltH_irr (a : Hd) : ltH a a = false := by simp [ltH]
theorem perm3 {α : Type} {x y z : α} {l : List α} : (z :: x :: y :: l).Perm ([x, y] ++ z :: l) := (List.Perm.swap _ _ _).trans ((List.Perm.swap _ _ _).cons _)
theorem qlenW_law (m : Mem) (L : List Item) (s : Sl) : TCall Try.prog 18 ⟨[s.v]⟩ m L (Ret (.int .i64 (s.len : Int)) m L) := by
  unfold TCall
  refine TCallX.enter Try.func18 rfl 5 rfl ?_
  repeat (first|refine q1 ?_|refine q3 ?_|refine q4 tab rfl rfl ?_|refine q5 ?_|refine q6 ?_|refine q15 ?_)
  refine retQ_ret rfl (by repeat (exact List.Sublist.refl _)) ⟨rfl, rfl, ?_⟩
  rfl
theorem lessW_law (m : Mem) (L : List Item) (bq b n c i j : Nat) (v0 : Value) (hs : List Hd) (hi : i < n) (hj : j < n) (hn : n ≤ hs.length) :
    TCall Try.prog 71 ⟨[.slice (some ⟨b, 0, none⟩) n c, .int .i64 (i : Int), .int .i64 (j : Int)]⟩ m (.cells bq 0 [v0] :: .cells b 0 (encs rHd hs) :: L) (Ret (.bool (ltH (gk hs i) (gk hs j))) m (.cells bq 0 [v0] :: .cells b 0 (encs rHd hs) :: L)) := by
  have hgi := gk_get (xs := hs) (k := i) (by omega)
  have hgj := gk_get (xs := hs) (k := j) (by omega)
  unfold TCall
  refine TCallX.enter Try.func71 rfl 18 rfl ?_
  repeat (first|refine q1 ?_|refine q3 ?_|refine q4 tab rfl rfl ?_|refine q5 ?_|refine q6 ?_)
  refine TC.draw [] mixed 12 rfl (.cells bq 0 [v0] :: .cells b 0 (encs rHd hs) :: L) [] (by rw [List.append_nil]) ?_
  refine DO.pure tab (by repeat (first|exact Calm.ret|refine Calm.then ?_)) (by kernel_rfl) [0, 1] (by kernel_rfl) rfl ?_
  refine DO.indexP (sz := 2) tab 2 i (by repeat (first|exact Calm.ret|refine Calm.then ?_)) (by kernel_rfl) (by kernel_rfl) rfl rfl rfl rfl rfl rfl rfl rfl rfl hi ?_
  refine DO.pure tab (by repeat (first|exact Calm.ret|refine Calm.then ?_)) (by kernel_rfl) [3] (by kernel_rfl) rfl ?_
  refine DO.loadE (jj := 0) tab 4 1 rHd hgi (by simp only [rHd]; omega) (fun _ => rfl) (by repeat (first|exact Calm.ret|refine Calm.then ?_)) (by kernel_rfl) (by kernel_rfl) rfl rfl rfl rfl rfl rfl rfl ?_
  refine DO.pure tab (by repeat (first|exact Calm.ret|refine Calm.then ?_)) (by kernel_rfl) [5, 6] (by kernel_rfl) rfl ?_
  refine DO.indexP (sz := 2) tab 7 j (by repeat (first|exact Calm.ret|refine Calm.then ?_)) (by kernel_rfl) (by kernel_rfl) rfl rfl rfl rfl rfl rfl rfl rfl rfl hj ?_
  refine DO.pure tab (by repeat (first|exact Calm.ret|refine Calm.then ?_)) (by kernel_rfl) [8] (by kernel_rfl) rfl ?_
  refine DO.loadE (jj := 0) tab 9 1 rHd hgj (by simp only [rHd]; omega) (fun _ => rfl) (by repeat (first|exact Calm.ret|refine Calm.then ?_)) (by kernel_rfl) (by kernel_rfl) rfl rfl rfl rfl rfl rfl rfl ?_
  refine DO.pure tab (by repeat (first|exact Calm.ret|refine Calm.then ?_)) (by kernel_rfl) [10, 11] (by kernel_rfl) rfl ?_
  (refine DO.nil0 (by kernel_rfl) ?_)
  rotate_left 1
  repeat (first|refine q6 ?_|refine q15 ?_)
  refine retQ_ret rfl (by repeat (exact List.Sublist.refl _)) ⟨rfl, rfl, ?_⟩
  rfl
theorem swapW_law (m : Mem) (L : List Item) (bq b n c i j : Nat) (v0 : Value) (hs : List Hd) (hi : i < n) (hj : j < n) (hn : n ≤ hs.length) :
    TCall Try.prog 72 ⟨[.slice (some ⟨b, 0, none⟩) n c, .int .i64 (i : Int), .int .i64 (j : Int)]⟩ m (.cells bq 0 [v0] :: .cells b 0 (encs rHd hs) :: L) (fun _ m' L' => m = m' ∧ .cells bq 0 [v0] :: .cells b 0 (encs rHd (sw hs i j)) :: L = L') := by
  have hgi := gk_get (xs := hs) (k := i) (by omega)
  have hgj := gk_get (xs := hs) (k := j) (by omega)
  unfold TCall
  refine TCallX.enter Try.func72 rfl 20 rfl ?_
  skip
  refine TC.draw [13, 14, 15] mixed 16 rfl (.cells bq 0 [v0] :: .cells b 0 (encs rHd hs) :: L) [] (by rw [List.append_nil]) ?_
  refine DO.pure tab (by repeat (exact Calm.ret)) (by kernel_rfl) [0, 1, 2, 3, 4, 5] (by kernel_rfl) rfl ?_
  refine DO.indexP (sz := 2) tab 6 j (by repeat (exact Calm.ret)) (by kernel_rfl) (by kernel_rfl) rfl rfl rfl rfl rfl rfl rfl rfl rfl hj ?_
  refine DO.loadE (jj := 0) tab 7 1 rHd hgj (by simp only [rHd]; omega) (fun _ => rfl) (by repeat (exact Calm.ret)) (by kernel_rfl) (by kernel_rfl) rfl rfl rfl rfl rfl rfl rfl ?_
  refine DO.pure tab (by repeat (exact Calm.ret)) (by kernel_rfl) [8, 9] (by kernel_rfl) rfl ?_
  refine DO.indexP (sz := 2) tab 10 i (by repeat (exact Calm.ret)) (by kernel_rfl) (by kernel_rfl) rfl rfl rfl rfl rfl rfl rfl rfl rfl hi ?_
  refine DO.loadE (jj := 0) tab 11 1 rHd hgi (by simp only [rHd]; omega) (fun _ => rfl) (by repeat (exact Calm.ret)) (by kernel_rfl) (by kernel_rfl) rfl rfl rfl rfl rfl rfl rfl ?_
  refine DO.indexP (sz := 2) tab 12 i (by repeat (exact Calm.ret)) (by kernel_rfl) (by kernel_rfl) rfl rfl rfl rfl rfl rfl rfl rfl rfl hi ?_
  refine DO.tail ?_
  refine DOt.run 13 rfl rfl (by kernel_rfl) rfl ?_
  refine OT.storeE (h2 := gk hs j) tab 1 rHd hgi (j := 0) (by simp only [rHd]; omega) (fun _ => rfl) (Nat.le_refl _) rfl rfl rfl rfl rfl rfl rfl ?_
  refine DOt.run 14 rfl rfl (by kernel_rfl) rfl ?_
  refine OT.indexP (sz := 2) tab j rfl rfl rfl rfl rfl rfl rfl hj ?_
  refine DOt.run 15 rfl rfl (by kernel_rfl) rfl ?_
  refine OT.storeE (h2 := gk hs i) (h := gk (hs.set i (gk hs j)) j) tab 1 rHd (k := j) (gk_get (by simp; omega)) (j := 0) (by simp only [rHd]; omega) (fun _ => rfl) (Nat.le_refl _) rfl rfl rfl rfl rfl rfl rfl ?_
  refine DOt.nil (by kernel_rfl) ?_
  rotate_left 1
  refine retQ_n rfl (by repeat (exact List.sublist_append_left _ _)) ⟨rfl, rfl⟩
theorem qElemW : ∃ (ei : TI), tab.elem 45 = some (51, ei) ∧ Nat.beq ei.size rHd.size = true ∧ cellsF ei.zero = some (rHd.enc ⟨0, 0⟩) ∧ Nat.blt 0 ei.bytes = true ∧ ei.bytes = 16 := ⟨_, rfl, rfl, rfl, rfl, rfl⟩
theorem qpopW_law (m : Mem) (L : List Item) (bq b n c : Nat) (hs : List Hd) (hn : n < hs.length) (hnc : n < c) (hnb : n < 140737488355328) :
    TCall Try.prog 77 ⟨[.pointer (some ⟨bq, 0, none⟩)]⟩ m (.cells bq 0 [.slice (some ⟨b, 0, none⟩) (n + 1) c] :: .cells b 0 (encs rHd hs) :: L) (fun r m' L' => m = m' ∧ r = .iface 51 (hdV (gk hs n)) ∧ .cells bq 0 [.slice (some ⟨b, 0, none⟩) n c] :: .cells b 0 (encs rHd hs) :: L = L') := by
  have hgn := gk_get (xs := hs) (k := n) (by omega)
  unfold TCall
  refine TCallX.enter Try.func77 rfl 27 rfl ?_
  repeat (first|refine q1 ?_|refine q3 ?_|refine q4 tab rfl rfl ?_|refine q5 ?_|refine q6 ?_)
  refine TC.draw [11] mixed 12 rfl [.cells bq 0 [.slice (some ⟨b, 0, none⟩) (n + 1) c], .cells b 0 (encs rHd hs)] L (by first | exact List.Perm.refl _ | (rw [List.append_nil]; exact List.Perm.refl _)) ?_
  refine DO.pure tab (by repeat (first|exact Calm.ret|refine Calm.then ?_)) (by kernel_rfl) [0, 1] (by kernel_rfl) rfl ?_
  (refine DO.loadL (k := 0) tab 2 0 (by repeat (first|exact Calm.ret|refine Calm.then ?_)) (by kernel_rfl) (by kernel_rfl) rfl rfl rfl rfl rfl rfl rfl rfl ?_)
  refine DO.pure tab (by repeat (first|exact Calm.ret|refine Calm.then ?_)) (by kernel_rfl) [3, 4] (by kernel_rfl) rfl ?_
  (refine DO.loadL (k := 0) tab 5 0 (by repeat (first|exact Calm.ret|refine Calm.then ?_)) (by kernel_rfl) (by kernel_rfl) rfl rfl rfl rfl rfl rfl rfl rfl ?_)
  refine DO.pure tab (by repeat (first|exact Calm.ret|refine Calm.then ?_)) (by kernel_rfl) [6] (by kernel_rfl) rfl ?_
  refine DO.arith 7 (r' := (n : Int)) (by repeat (first|exact Calm.ret|refine Calm.then ?_)) (by kernel_rfl) (by kernel_rfl) rfl rfl rfl rfl rfl rfl rfl rfl (by first | rfl | omega | (simp only; omega)) (by omega) ?_
  refine DO.indexP (sz := 2) tab 8 n (by repeat (first|exact Calm.ret|refine Calm.then ?_)) (by kernel_rfl) (by kernel_rfl) rfl rfl rfl rfl rfl rfl rfl rfl rfl (by omega) ?_
  refine DO.loadE (jj := 0) tab 9 1 rHd hgn (by simp only [rHd]; omega) (fun _ => rfl) (by repeat (first|exact Calm.ret|refine Calm.then ?_)) (by kernel_rfl) (by kernel_rfl) rfl rfl rfl rfl rfl rfl rfl ?_
  refine DO.run 10 rfl rfl (by kernel_rfl) rfl ?_
  refine OT.alloc tab rfl rfl rfl rfl (fun bx => ?_); refine ⟨Mem.le_refl _, .cells bx 0 [.int .i64 0, .int .i64 0] :: L, perm3, ?_⟩
  refine DO.tail ?_
  refine DOt.run 11 rfl rfl (by kernel_rfl) rfl ?_
  refine OT.storeL0 tab 2 rfl rfl rfl rfl rfl rfl rfl rfl ?_
  refine DOt.nil (by kernel_rfl) ?_
  rotate_left 1
  repeat (first|refine q1 ?_|refine q6 ?_)
  refine TC.perm (L' := .cells bx 0 (hdC (gk hs n)) :: .cells bq 0 [.slice (some ⟨b, 0, none⟩) (n + 1) c] :: .cells b 0 (encs rHd hs) :: L) (List.Perm.symm perm3) ?_
  refine TC.draw [11] mixed 12 rfl (.cells bx 0 (hdC (gk hs n)) :: .cells bq 0 [.slice (some ⟨b, 0, none⟩) (n + 1) c] :: .cells b 0 (encs rHd hs) :: L) [] (by rw [List.append_nil]) ?_
  refine DO.pure tab (by repeat (first|exact Calm.ret|refine Calm.then ?_)) (by kernel_rfl) [0, 1, 2] (by kernel_rfl) rfl ?_
  (refine DO.loadL (k := 0) tab 3 1 (by repeat (first|exact Calm.ret|refine Calm.then ?_)) (by kernel_rfl) (by kernel_rfl) rfl rfl rfl rfl rfl rfl rfl rfl ?_)
  refine DO.pure tab (by repeat (first|exact Calm.ret|refine Calm.then ?_)) (by kernel_rfl) [4, 5] (by kernel_rfl) rfl ?_
  (refine DO.loadL (k := 0) tab 6 1 (by repeat (first|exact Calm.ret|refine Calm.then ?_)) (by kernel_rfl) (by kernel_rfl) rfl rfl rfl rfl rfl rfl rfl rfl ?_)
  refine DO.pure tab (by repeat (first|exact Calm.ret|refine Calm.then ?_)) (by kernel_rfl) [7] (by kernel_rfl) rfl ?_
  refine DO.arith 8 (r' := (n : Int)) (by repeat (first|exact Calm.ret|refine Calm.then ?_)) (by kernel_rfl) (by kernel_rfl) rfl rfl rfl rfl rfl rfl rfl rfl (by first | rfl | omega | (simp only; omega)) (by omega) ?_
  refine DO.run 9 rfl rfl (by kernel_rfl) rfl ?_
  refine OT.takeZ tab n rfl (by omega) rfl rfl rfl rfl rfl rfl ?_; refine ⟨Mem.le_refl _, _, List.Perm.refl _, ?_⟩
  refine DO.pure tab (by repeat (first|exact Calm.ret|refine Calm.then ?_)) (by kernel_rfl) [10] (by kernel_rfl) rfl ?_
  refine DO.tail ?_
  refine DOt.run 11 rfl rfl (by kernel_rfl) rfl ?_
  refine OT.storeL0 tab 1 rfl rfl rfl rfl rfl rfl rfl rfl ?_
  refine DOt.nil (by kernel_rfl) ?_
  rotate_left 1
  repeat (first|refine q1 ?_|refine q3 ?_|refine q6 ?_)
  (refine qs rfl (qz tab 0 rfl rfl rfl rfl rfl rfl ?_))
  skip
  refine TO.step rfl (OT.mkIface tab rfl rfl rfl rfl rfl ?_)
  repeat (first|refine q4 tab rfl rfl ?_|refine q5 ?_|refine q6 ?_|refine q15 ?_)
  refine retQ_ret rfl (L' := .cells bq 0 [.slice (some ⟨b, 0, none⟩) n c] :: .cells b 0 (encs rHd hs) :: L) (by repeat (first|exact List.sublist_append_left _ _|refine List.Sublist.cons _ ?_)) ⟨rfl, rfl, rfl⟩
theorem qpushW_law (m : Mem) (L : List Item) (bq : Nat) (s : Sl) (hs : List Hd) (x : Hd) (hM : ORow s hs) (hfit : (s.len + 1) * 24 ≤ 140737488355328) :
    TCall Try.prog 78 ⟨[.pointer (some ⟨bq, 0, none⟩), .iface 51 (hdV x)]⟩ m (.cells bq 0 [s.v] :: mcell s (encs rHd hs) :: L) (fun r m' L' => m = m' ∧ ∃ s' hs', ORow s' hs' ∧ s'.len = s.len + 1 ∧ hs'.take (s.len + 1) = hs.take s.len ++ [x] ∧ .cells bq 0 [s'.v] :: mcell s' (encs rHd hs') :: L = L') := by
  unfold TCall
  refine TCallX.enter Try.func78 rfl 13 rfl ?_
  skip
  refine TC.draw [9] mixed 10 rfl [.cells bq 0 [s.v]] (mcell s (encs rHd hs) :: L) (by first | exact List.Perm.refl _ | (rw [List.append_nil]; exact List.Perm.refl _)) ?_
  refine DO.pure tab (by repeat (exact Calm.ret)) (by kernel_rfl) [0, 1, 2] (by kernel_rfl) rfl ?_
  (refine DO.loadL (k := 0) tab 3 0 (by repeat (exact Calm.ret)) (by kernel_rfl) (by kernel_rfl) rfl rfl rfl rfl rfl rfl rfl rfl ?_)
  refine DO.pure tab (by repeat (exact Calm.ret)) (by kernel_rfl) [4] (by kernel_rfl) rfl ?_
  refine DO.run 5 rfl rfl (by kernel_rfl) rfl ?_
  refine OT.assert tab rfl rfl rfl rfl rfl ?_; refine ⟨Mem.le_refl _, _, List.Perm.refl _, ?_⟩
  refine DO.run 6 rfl rfl (by kernel_rfl) rfl ?_
  refine OT.lit tab rfl rfl rfl rfl (fun bl => ?_); refine ⟨Mem.le_refl _, .cells bl 0 (rHd.enc x) :: mcell s (encs rHd hs) :: L, List.Perm.swap _ _ _, ?_⟩
  refine DO.run 7 rfl rfl (by kernel_rfl) rfl ?_
  refine OT.perm (List.Perm.trans (List.Perm.swap _ _ _) (List.Perm.cons _ (List.Perm.swap _ _ _))) ?_; obtain ⟨ei, e1, e2, e3, e4⟩ := qElemW; refine OT.pushR tab rHd (z := ⟨0, 0⟩) hM rfl rfl rfl rfl rfl e1 e1 e2 e3 (by decide) e4.1 (by rw [e4.2]; omega) (fun s2 hs2 h1 h2 h3 => ?_); refine ⟨Mem.le_refl _, mcell s2 (encs rHd hs2) :: L, List.Perm.swap _ _ _, ?_⟩
  refine DO.pure tab (by repeat (exact Calm.ret)) (by kernel_rfl) [8] (by kernel_rfl) rfl ?_
  refine DO.tail ?_
  refine DOt.run 9 rfl rfl (by kernel_rfl) rfl ?_
  refine OT.storeL0 tab 0 rfl rfl rfl rfl rfl rfl rfl rfl ?_
  refine DOt.nil (by kernel_rfl) ?_
  rotate_left 1
  exact retQ_n rfl (L' := .cells bq 0 [s2.v] :: mcell s2 (encs rHd hs2) :: L) (by repeat (exact List.Sublist.refl _)) ⟨rfl, s2, hs2, h1, h2, h3, rfl⟩
end Go.Sep

/-
  Heaps: up and down.
-/
set_option linter.unusedVariables false
set_option linter.unusedSimpArgs false
namespace Go.Sep
open Go.Proofs
attribute [local irreducible] TC TO OT TCallX TCall DO DOt thenQ blockQ retQ At
theorem par_div (j : Nat) (h : j < 140737488355328) : IntKind.i64.wrap (((j : Int) - 1).tdiv 2) = ((par j : Nat) : Int) := by
  cases j with
  | zero => rfl
  | succ k =>
    rw [show (((k + 1 : Nat) : Int) - 1) = (k : Int) by omega]
    have e : (k : Int).tdiv 2 = ((par (k + 1) : Nat) : Int) := by
      unfold par
      rw [show k + 1 - 1 = k by omega]
      rfl
    rw [e]
    exact wrap64_in (by omega) (by unfold par; omega)
theorem upW_law (m : Mem) (L : List Item) (bq b n c j : Nat) (hs : List Hd) (hj : j < n) (hn : n ≤ hs.length) (hnb : n < 140737488355328) (hu : UI ltH hs n j) :
    TCall Try.prog 30 ⟨[.iface 55 (.pointer (some ⟨bq, 0, none⟩)), .int .i64 (j : Int)]⟩ m (.cells bq 0 [.slice (some ⟨b, 0, none⟩) n c] :: .cells b 0 (encs rHd hs) :: L) (fun r m' L' => m = m' ∧ ∃ hs', Mix n hs hs' ∧ HF ltH hs' n 0 ∧ .cells bq 0 [.slice (some ⟨b, 0, none⟩) n c] :: .cells b 0 (encs rHd hs') :: L = L') := by
  unfold TCall
  refine TCallX.enter Try.func30 rfl 23 rfl ?_
  repeat (refine q2 ?_)
  refine TC.loopK (ι := Nat × List Hd) [0] rfl (fun x => [(1, .int .i64 (x.1 : Int))]) (fun _ => m) (fun x => .cells bq 0 [.slice (some ⟨b, 0, none⟩) n c] :: .cells b 0 (encs rHd x.2) :: L) (fun x => x.1 < n ∧ Mix n hs x.2 ∧ UI ltH x.2 n x.1) (fun x => x.1) (j, hs) (by repeat (first|exact trivial|refine And.intro rfl ?_)) rfl (by repeat (exact List.Sublist.refl _)) ⟨hj, Mix.refl _ _, hu⟩ ?_
  rintro ⟨j, xs⟩ ⟨hj, hmix, hui⟩
  simp only at hj hmix hui
  have hxl : n ≤ xs.length := by rw [hmix.len]; exact hn
  have hp : par j < n := by unfold par; omega
  repeat (first|refine q1 ?_|refine q2 ?_|refine q3 ?_|refine q4 tab rfl rfl ?_)
  refine TO.step rfl (OT.arith (r' := (j : Int) - 1) rfl rfl rfl rfl rfl rfl rfl (by omega) ?_)
  refine TO.step rfl (OT.quoK rfl rfl rfl rfl rfl (by decide) (r := ((par j : Nat) : Int)) (par_div j (by omega)) ?_)
  repeat (first|refine q1 ?_|refine q3 ?_|refine q4 tab rfl rfl ?_|refine q5 ?_|refine q6 ?_)
  (refine TO.splitP rfl rfl (fun hg => ?_) (fun hg => ?_))
  · repeat (first|refine q4 tab rfl rfl ?_|refine q5 ?_|refine q6 ?_|refine q10 ?_|refine q11 ?_|refine q12 rfl ?_|refine q14 ?_|refine q16 rfl ?_)
    refine retQ_n rfl (L' := .cells bq 0 [.slice (some ⟨b, 0, none⟩) n c] :: .cells b 0 (encs rHd xs) :: L) (by repeat (exact List.Sublist.refl _)) ⟨rfl, xs, hmix, hui.done (.inl (by unfold par at hg; omega)), rfl⟩
  · have hj0 : 0 < j := by unfold par at hg; omega
    repeat (refine q4 tab rfl rfl ?_)
    refine TO.step rfl (OT.invokeV tab 0 (by kernel_rfl) rfl rfl rfl rfl rfl rfl rfl rfl rfl goes71 ((lessW_law m L bq b n c j (par j) _ xs hj hp hxl).x ?_))
    rintro _ _ _ ⟨rfl, rfl, rfl⟩
    cases hl : ltH (gk xs j) (gk xs (par j)) with
    | false =>
      repeat (first|refine q4 tab rfl rfl ?_|refine q5 ?_|refine q6 ?_|refine q10 ?_|refine q11 ?_|refine q12 rfl ?_|refine q14 ?_|refine q16 rfl ?_)
      refine retQ_n rfl (L' := .cells bq 0 [.slice (some ⟨b, 0, none⟩) n c] :: .cells b 0 (encs rHd xs) :: L) (by repeat (exact List.Sublist.refl _)) ⟨rfl, xs, hmix, hui.done (.inr hl), rfl⟩
    | true =>
      repeat (first|refine q1 ?_|refine q3 ?_|refine q4 tab rfl rfl ?_|refine q5 ?_|refine q6 ?_|refine q13 ?_|refine q17 rfl ?_)
      refine TO.step rfl (OT.invokeV tab 0 (by kernel_rfl) rfl rfl rfl rfl rfl rfl rfl rfl rfl goes72 ((swapW_law m L bq b n c (par j) j _ xs hp hj hxl).x ?_))
      rintro _ _ _ ⟨rfl, rfl⟩
      repeat (first|refine q3 ?_|refine q4 tab rfl rfl ?_|refine q5 ?_|refine q6 ?_|refine q7 ?_)
      exact ⟨(par j, sw xs (par j) j), (by repeat (first|exact trivial|refine And.intro rfl ?_)), (by repeat (first|exact trivial|refine And.intro rfl ?_)), rfl, rfl, (by repeat (exact List.Sublist.refl _)), ⟨hp, hmix.trans (Mix.sw hp hj hxl), hui.step ltH_ord hxl hj hj0 hl⟩, by simp only; unfold par; omega⟩
end Go.Sep

/-
  Heaps: down, laid out, one put in, one taken out.
-/
set_option linter.unusedVariables false
set_option linter.unusedSimpArgs false
namespace Go.Sep
open Go.Proofs
attribute [local irreducible] TC TO OT TCallX TCall DO DOt thenQ blockQ retQ At
set_option maxHeartbeats 1000000 in
theorem downW_law (m : Mem) (L : List Item) (bq b n len c i0 : Nat) (hs : List Hd) (hi0 : i0 ≤ n) (hnl : n ≤ len) (hn : len ≤ hs.length) (hnb : n < 70368744177664) (hd : DI ltH hs n i0 i0) :
    TCall Try.prog 31 ⟨[.iface 55 (.pointer (some ⟨bq, 0, none⟩)), .int .i64 (i0 : Int), .int .i64 (n : Int)]⟩ m (.cells bq 0 [.slice (some ⟨b, 0, none⟩) len c] :: .cells b 0 (encs rHd hs) :: L) (fun r m' L' => m = m' ∧ ∃ hs', Mix n hs hs' ∧ HF ltH hs' n i0 ∧ .cells bq 0 [.slice (some ⟨b, 0, none⟩) len c] :: .cells b 0 (encs rHd hs') :: L = L') := by
  unfold TCall
  refine TCallX.enter Try.func31 rfl 48 rfl ?_
  repeat (first|refine q1 ?_|refine q2 ?_|refine q3 ?_|refine q4 tab rfl rfl ?_|refine q5 ?_|refine q6 ?_)
  refine TC.loopK (ι := Nat × List Hd) [0, 1, 2] rfl (fun x => [(7, .int .i64 (x.1 : Int))]) (fun _ => m) (fun x => .cells bq 0 [.slice (some ⟨b, 0, none⟩) len c] :: .cells b 0 (encs rHd x.2) :: L) (fun x => x.1 ≤ n ∧ Mix n hs x.2 ∧ DI ltH x.2 n i0 x.1 ∧ i0 ≤ x.1) (fun x => n - x.1) (i0, hs) (by repeat (first|exact trivial|refine And.intro rfl ?_)) rfl (by repeat (exact List.Sublist.refl _)) ⟨hi0, Mix.refl _ _, hd, Nat.le_refl _⟩ ?_
  rintro ⟨i, xs⟩ ⟨hi, hmix, hd, hlo⟩
  simp only at hi hmix hd hlo
  have hxl : len ≤ xs.length := by rw [hmix.len]; exact hn
  repeat (first|refine q1 ?_|refine q2 ?_|refine q3 ?_|refine q4 tab rfl rfl ?_)
  refine TO.step rfl (OT.arith (r' := ((2 * i : Nat) : Int)) rfl rfl rfl rfl rfl rfl (by omega) (by omega) ?_)
  refine TO.step rfl (OT.arith (r' := (((2*i) + 1 : Nat) : Int)) rfl rfl rfl rfl rfl rfl rfl (by omega) ?_)
  repeat (first|refine q1 ?_|refine q3 ?_|refine q4 tab rfl rfl ?_|refine q5 ?_|refine q6 ?_)
  (refine TO.splitP rfl rfl (fun hg => ?_) (fun hg => ?_))
  · repeat (first|refine q1 ?_|refine q3 ?_|refine q4 tab rfl rfl ?_|refine q5 ?_|refine q6 ?_|refine q10 ?_|refine q11 ?_|refine q12 rfl ?_|refine q14 ?_|refine q15 ?_|refine q16 rfl ?_)
    refine retQ_ret rfl (L' := .cells bq 0 [.slice (some ⟨b, 0, none⟩) len c] :: .cells b 0 (encs rHd xs) :: L) (by repeat (exact List.Sublist.refl _)) ⟨rfl, xs, hmix, hd.done0 (by omega), rfl⟩
  · have hneg : decide (((2 * i + 1 : Nat) : Int) < 0) = false := decide_eq_false (by omega)
    repeat (first|refine q1 ?_|refine q3 ?_|refine q4 tab rfl rfl ?_|refine q5 ?_|refine q6 ?_|refine q13 ?_|refine q17 rfl ?_)
    simp only [hneg]
    skip
    refine TO.step rfl (OT.arith (r' := (((2*i+1) + 1 : Nat) : Int)) rfl rfl rfl rfl rfl rfl rfl (by omega) ?_)
    repeat (first|refine q1 ?_|refine q3 ?_|refine q4 tab rfl rfl ?_|refine q5 ?_|refine q6 ?_)
    (refine TO.splitP rfl rfl (fun hg2 => ?_) (fun hg2 => ?_))
    · repeat (refine q4 tab rfl rfl ?_)
      refine TO.step rfl (OT.invokeV tab 0 (by kernel_rfl) rfl rfl rfl rfl rfl rfl rfl rfl rfl goes71 ((lessW_law m L bq b len c (2 * i + 1 + 1) (2 * i + 1) _ xs (by omega) (by omega) hxl).x ?_))
      rintro _ _ _ ⟨rfl, rfl, rfl⟩
      cases hl2 : ltH (gk xs (2 * i + 1 + 1)) (gk xs (2 * i + 1)) with
      | true =>
        repeat (first|refine q1 ?_|refine q3 ?_|refine q4 tab rfl rfl ?_|refine q5 ?_|refine q6 ?_|refine q16 rfl ?_)
        have hsm : ∀ k, 0 < k → k < n → par k = i → ltH (gk xs k) (gk xs (2 * i + 1 + 1)) = false := fun k h1 h2 h3 => by
          have : k = 2 * i + 1 ∨ k = 2 * i + 1 + 1 := by unfold par at h3; omega
          rcases this with rfl | rfl
          · exact ltH_ord.asym _ _ hl2
          · exact ltH_irr _
        have hJn : (2 * i + 1 + 1) < n := by omega
        have hJp : par (2 * i + 1 + 1) = i := by unfold par; omega
        have hin : i < n := by omega
        refine TO.step rfl (OT.invokeV tab 0 (by kernel_rfl) rfl rfl rfl rfl rfl rfl rfl rfl rfl goes71 ((lessW_law m L bq b len c (2 * i + 1 + 1) i _ xs (by omega) (by omega) hxl).x ?_))
        rintro _ _ _ ⟨rfl, rfl, rfl⟩
        cases hl : ltH (gk xs (2 * i + 1 + 1)) (gk xs i) with
        | false =>
          repeat (first|refine q1 ?_|refine q3 ?_|refine q4 tab rfl rfl ?_|refine q5 ?_|refine q6 ?_|refine q10 ?_|refine q11 ?_|refine q12 rfl ?_|refine q14 ?_|refine q15 ?_|refine q16 rfl ?_)
          refine retQ_ret rfl (L' := .cells bq 0 [.slice (some ⟨b, 0, none⟩) len c] :: .cells b 0 (encs rHd xs) :: L) (by repeat (exact List.Sublist.refl _)) ⟨rfl, xs, hmix, hd.done ltH_ord hsm hl, rfl⟩
        | true =>
          repeat (first|refine q1 ?_|refine q3 ?_|refine q4 tab rfl rfl ?_|refine q5 ?_|refine q6 ?_|refine q13 ?_|refine q17 rfl ?_)
          refine TO.step rfl (OT.invokeV tab 0 (by kernel_rfl) rfl rfl rfl rfl rfl rfl rfl rfl rfl goes72 ((swapW_law m L bq b len c i (2 * i + 1 + 1) _ xs (by omega) (by omega) hxl).x ?_))
          rintro _ _ _ ⟨rfl, rfl⟩
          repeat (first|refine q3 ?_|refine q4 tab rfl rfl ?_|refine q5 ?_|refine q6 ?_|refine q7 ?_)
          exact ⟨((2 * i + 1 + 1), sw xs i (2 * i + 1 + 1)), (by repeat (first|exact trivial|refine And.intro rfl ?_)), (by repeat (first|exact trivial|refine And.intro rfl ?_)), rfl, rfl, (by repeat (exact List.Sublist.refl _)), ⟨by simp only; omega, hmix.trans (Mix.sw hin hJn (by omega)), hd.step ltH_ord (by omega) (by omega) hJn (by omega) hJp hsm hl, by simp only; omega⟩, by simp only; omega⟩
      | false =>
        repeat (first|refine q1 ?_|refine q3 ?_|refine q4 tab rfl rfl ?_|refine q5 ?_|refine q6 ?_|refine q13 ?_|refine q17 rfl ?_)
        have hsm : ∀ k, 0 < k → k < n → par k = i → ltH (gk xs k) (gk xs (2 * i + 1)) = false := fun k h1 h2 h3 => by
          have : k = 2 * i + 1 ∨ k = 2 * i + 1 + 1 := by unfold par at h3; omega
          rcases this with rfl | rfl
          · exact ltH_irr _
          · exact hl2
        have hJn : (2 * i + 1) < n := by omega
        have hJp : par (2 * i + 1) = i := by unfold par; omega
        have hin : i < n := by omega
        refine TO.step rfl (OT.invokeV tab 0 (by kernel_rfl) rfl rfl rfl rfl rfl rfl rfl rfl rfl goes71 ((lessW_law m L bq b len c (2 * i + 1) i _ xs (by omega) (by omega) hxl).x ?_))
        rintro _ _ _ ⟨rfl, rfl, rfl⟩
        cases hl : ltH (gk xs (2 * i + 1)) (gk xs i) with
        | false =>
          repeat (first|refine q1 ?_|refine q3 ?_|refine q4 tab rfl rfl ?_|refine q5 ?_|refine q6 ?_|refine q10 ?_|refine q11 ?_|refine q12 rfl ?_|refine q14 ?_|refine q15 ?_|refine q16 rfl ?_)
          refine retQ_ret rfl (L' := .cells bq 0 [.slice (some ⟨b, 0, none⟩) len c] :: .cells b 0 (encs rHd xs) :: L) (by repeat (exact List.Sublist.refl _)) ⟨rfl, xs, hmix, hd.done ltH_ord hsm hl, rfl⟩
        | true =>
          repeat (first|refine q1 ?_|refine q3 ?_|refine q4 tab rfl rfl ?_|refine q5 ?_|refine q6 ?_|refine q13 ?_|refine q17 rfl ?_)
          refine TO.step rfl (OT.invokeV tab 0 (by kernel_rfl) rfl rfl rfl rfl rfl rfl rfl rfl rfl goes72 ((swapW_law m L bq b len c i (2 * i + 1) _ xs (by omega) (by omega) hxl).x ?_))
          rintro _ _ _ ⟨rfl, rfl⟩
          repeat (first|refine q3 ?_|refine q4 tab rfl rfl ?_|refine q5 ?_|refine q6 ?_|refine q7 ?_)
          exact ⟨((2 * i + 1), sw xs i (2 * i + 1)), (by repeat (first|exact trivial|refine And.intro rfl ?_)), (by repeat (first|exact trivial|refine And.intro rfl ?_)), rfl, rfl, (by repeat (exact List.Sublist.refl _)), ⟨by simp only; omega, hmix.trans (Mix.sw hin hJn (by omega)), hd.step ltH_ord (by omega) (by omega) hJn (by omega) hJp hsm hl, by simp only; omega⟩, by simp only; omega⟩
    · repeat (first|refine q1 ?_|refine q3 ?_|refine q4 tab rfl rfl ?_|refine q5 ?_|refine q6 ?_|refine q13 ?_|refine q17 rfl ?_)
      have hsm : ∀ k, 0 < k → k < n → par k = i → ltH (gk xs k) (gk xs (2 * i + 1)) = false := fun k h1 h2 h3 => by
        have : k = 2 * i + 1 := by unfold par at h3; omega
        rcases this with rfl
        exact ltH_irr _
      have hJn : (2 * i + 1) < n := by omega
      have hJp : par (2 * i + 1) = i := by unfold par; omega
      have hin : i < n := by omega
      refine TO.step rfl (OT.invokeV tab 0 (by kernel_rfl) rfl rfl rfl rfl rfl rfl rfl rfl rfl goes71 ((lessW_law m L bq b len c (2 * i + 1) i _ xs (by omega) (by omega) hxl).x ?_))
      rintro _ _ _ ⟨rfl, rfl, rfl⟩
      cases hl : ltH (gk xs (2 * i + 1)) (gk xs i) with
      | false =>
        repeat (first|refine q1 ?_|refine q3 ?_|refine q4 tab rfl rfl ?_|refine q5 ?_|refine q6 ?_|refine q10 ?_|refine q11 ?_|refine q12 rfl ?_|refine q14 ?_|refine q15 ?_|refine q16 rfl ?_)
        refine retQ_ret rfl (L' := .cells bq 0 [.slice (some ⟨b, 0, none⟩) len c] :: .cells b 0 (encs rHd xs) :: L) (by repeat (exact List.Sublist.refl _)) ⟨rfl, xs, hmix, hd.done ltH_ord hsm hl, rfl⟩
      | true =>
        repeat (first|refine q1 ?_|refine q3 ?_|refine q4 tab rfl rfl ?_|refine q5 ?_|refine q6 ?_|refine q13 ?_|refine q17 rfl ?_)
        refine TO.step rfl (OT.invokeV tab 0 (by kernel_rfl) rfl rfl rfl rfl rfl rfl rfl rfl rfl goes72 ((swapW_law m L bq b len c i (2 * i + 1) _ xs (by omega) (by omega) hxl).x ?_))
        rintro _ _ _ ⟨rfl, rfl⟩
        repeat (first|refine q3 ?_|refine q4 tab rfl rfl ?_|refine q5 ?_|refine q6 ?_|refine q7 ?_)
        exact ⟨((2 * i + 1), sw xs i (2 * i + 1)), (by repeat (first|exact trivial|refine And.intro rfl ?_)), (by repeat (first|exact trivial|refine And.intro rfl ?_)), rfl, rfl, (by repeat (exact List.Sublist.refl _)), ⟨by simp only; omega, hmix.trans (Mix.sw hin hJn (by omega)), hd.step ltH_ord (by omega) (by omega) hJn (by omega) hJp hsm hl, by simp only; omega⟩, by simp only; omega⟩
end Go.Sep

/-
  Heaps: Init, Pop, Push.
-/
set_option linter.unusedVariables false
set_option linter.unusedSimpArgs false
namespace Go.Sep
open Go.Proofs
attribute [local irreducible] TC TO OT TCallX TCall DO DOt thenQ blockQ retQ At
theorem HF.congr {α : Type} [Inhabited α] {lt : α → α → Bool} {xs ys : List α} {n lo : Nat} (h : HF lt xs n lo) (e : ∀ k, k < n → gk ys k = gk xs k) : HF lt ys n lo := fun k h1 h2 h3 => by
  rw [e k h2, e (par k) (by unfold par; omega)]
  exact h k h1 h2 h3
theorem ORow.mix {α : Type} {s : Sl} {xs ys : List α} {n : Nat} (h : ORow s xs) (k : Mix n xs ys) : ORow s ys := ⟨h.len, k.len.trans h.all, h.adr⟩
theorem take_succ_gk {α : Type} [Inhabited α] {xs : List α} {n : Nat} (h : n < xs.length) : xs.take (n + 1) = xs.take n ++ [gk xs n] := by
  rw [List.take_add_one, gk_get h]
  rfl
theorem hpopW_law (m : Mem) (L : List Item) (bq b n c : Nat) (hs : List Hd) (hn : n < hs.length) (hnc : n < c) (hnb : n < 70368744177664) (hh : HF ltH hs (n + 1) 0) :
    TCall Try.prog 20 ⟨[.iface 55 (.pointer (some ⟨bq, 0, none⟩))]⟩ m (.cells bq 0 [.slice (some ⟨b, 0, none⟩) (n + 1) c] :: .cells b 0 (encs rHd hs) :: L) (fun r m' L' => m = m' ∧ r = .iface 51 (hdV (gk hs 0)) ∧ ∃ hs', hs'.length = hs.length ∧ (hs'.take n ++ [gk hs 0]).Perm (hs.take (n + 1)) ∧ HF ltH hs' n 0 ∧ .cells bq 0 [.slice (some ⟨b, 0, none⟩) n c] :: .cells b 0 (encs rHd hs') :: L = L') := by
  unfold TCall
  refine TCallX.enter Try.func20 rfl 15 rfl ?_
  repeat (first|refine q1 ?_|refine q3 ?_|refine q4 tab rfl rfl ?_|refine q5 ?_|refine q6 ?_)
  refine TO.step rfl (OT.invokeV tab 0 (by kernel_rfl) rfl rfl rfl rfl rfl rfl rfl rfl rfl goes18 ((qlenW_law m _ ⟨some ⟨b, 0, none⟩, n + 1, c⟩).x ?_))
  rintro _ _ _ ⟨rfl, rfl, rfl⟩
  refine TO.step rfl (OT.arith (r' := (n : Int)) rfl rfl rfl rfl rfl rfl (by simp only; omega) (by omega) ?_)
  repeat (first|refine q1 ?_|refine q3 ?_|refine q4 tab rfl rfl ?_|refine q5 ?_|refine q6 ?_)
  refine TO.step rfl (OT.invokeV tab 0 (by kernel_rfl) rfl rfl rfl rfl rfl rfl rfl rfl rfl goes72 ((swapW_law m L bq b (n + 1) c 0 n _ hs (by omega) (by omega) (by omega)).x ?_))
  rintro _ _ _ ⟨rfl, rfl⟩
  repeat (first|refine q1 ?_|refine q3 ?_|refine q4 tab rfl rfl ?_|refine q5 ?_|refine q6 ?_)
  refine TO.step rfl (OT.call rfl rfl rfl rfl rfl rfl goes31 ((downW_law m L bq b n (n + 1) c 0 (sw hs 0 n) (by omega) (by omega) (by rw [sw_length]; omega) hnb (DI.pop hh (by omega))).x ?_)); rintro _ _ _ ⟨rfl, ys, hy1, hy2, rfl⟩
  have hyl : ys.length = hs.length := by rw [hy1.len, sw_length]
  have hyn : gk ys n = gk hs 0 := by
    rw [hy1.rest_get (Nat.le_refl _), gk_sw (by omega) (by omega), if_pos rfl]
  repeat (first|refine q1 ?_|refine q3 ?_|refine q4 tab rfl rfl ?_|refine q5 ?_|refine q6 ?_)
  refine TO.step rfl (OT.invokeP tab (by kernel_rfl) rfl rfl rfl rfl rfl rfl rfl goes77 ((qpopW_law m L bq b n c ys (by omega) hnc (by omega)).x ?_))
  rintro _ _ _ ⟨rfl, rfl, rfl⟩
  rw [hyn]
  repeat (first|refine q4 tab rfl rfl ?_|refine q5 ?_|refine q6 ?_|refine q15 ?_)
  refine retQ_ret rfl (L' := .cells bq 0 [.slice (some ⟨b, 0, none⟩) n c] :: .cells b 0 (encs rHd ys) :: L) (by repeat (exact List.Sublist.refl _)) ⟨rfl, rfl, ys, hyl, ?_, hy2, rfl⟩
  have h1 : ((sw hs 0 n).take (n + 1)).Perm (hs.take (n + 1)) := by
    rw [sw_take (by omega) (by omega)]
    exact sw_perm (by simp; omega) (by simp; omega)
  refine List.Perm.trans ?_ h1
  rw [take_succ_gk (xs := sw hs 0 n) (by rw [sw_length]; exact hn)]
  have h2 : gk (sw hs 0 n) n = gk hs 0 := by rw [gk_sw (by omega) (by omega), if_pos rfl]
  rw [h2]
  exact hy1.perm.append_right _
theorem hpushW_law (m : Mem) (L : List Item) (bq : Nat) (s : Sl) (hs : List Hd) (x : Hd) (hM : ORow s hs) (hfit : (s.len + 1) * 24 ≤ 140737488355328) (hh : HF ltH hs s.len 0) :
    TCall Try.prog 19 ⟨[.iface 55 (.pointer (some ⟨bq, 0, none⟩)), .iface 51 (hdV x)]⟩ m (.cells bq 0 [s.v] :: mcell s (encs rHd hs) :: L) (fun r m' L' => m = m' ∧ ∃ s' hs', ORow s' hs' ∧ s'.len = s.len + 1 ∧ (hs'.take (s.len + 1)).Perm (hs.take s.len ++ [x]) ∧ HF ltH hs' (s.len + 1) 0 ∧ .cells bq 0 [s'.v] :: mcell s' (encs rHd hs') :: L = L') := by
  unfold TCall
  refine TCallX.enter Try.func19 rfl 12 rfl ?_
  repeat (first|refine q1 ?_|refine q3 ?_|refine q4 tab rfl rfl ?_)
  refine TO.step rfl (OT.invokeP tab (by kernel_rfl) rfl rfl rfl rfl rfl rfl rfl goes78 ((qpushW_law m L bq s hs x hM hfit).x ?_))
  rintro _ _ _ ⟨rfl, s2, hs2, h1, h2, h3, rfl⟩
  have hall := h1.all
  have hlen := h1.len
  obtain ⟨b, hb⟩ := h1.pos (by omega)
  repeat (first|refine q3 ?_|refine q4 tab rfl rfl ?_|refine q5 ?_|refine q6 ?_)
  refine TO.step rfl (OT.invokeV tab 0 (by kernel_rfl) rfl rfl rfl rfl rfl rfl rfl rfl rfl goes18 ((qlenW_law m _ s2).x ?_))
  rintro _ _ _ ⟨rfl, rfl, rfl⟩
  refine TO.step rfl (OT.arith (r' := (s.len : Int)) rfl rfl rfl rfl rfl rfl (by omega) (by omega) ?_)
  have hf : HF ltH hs2 s.len 0 := hh.congr fun k hk => by
    have e1 := gk_take (xs := hs2) (n := s.len + 1) (k := k) (by omega)
    have e2 := gk_take (xs := hs) (n := s.len) (k := k) hk
    rw [← e1, ← e2, h3]
    unfold gk
    rw [List.getElem?_append_left (by
      have := hM.len
      have := hM.all
      simp; omega)]
  rw [hb, h2]
  refine TO.step rfl (OT.call rfl rfl rfl rfl rfl rfl goes30 ((upW_law m L bq b (s.len + 1) s2.cap s.len hs2 (by omega) (by omega) (by omega) (UI.start hf)).x ?_)); rintro _ _ _ ⟨rfl, ys, hy1, hy2, rfl⟩
  repeat (refine q5 ?_)
  refine retQ_n rfl (L' := .cells bq 0 [.slice (some ⟨b, 0, none⟩) (s.len + 1) s2.cap] :: .cells b 0 (encs rHd ys) :: L) (by repeat (exact List.Sublist.refl _)) ⟨rfl, ⟨some ⟨b, 0, none⟩, s.len + 1, s2.cap⟩, ys, ⟨by simp only; omega, by simp only; rw [hy1.len]; exact hall, .inr ⟨b, rfl⟩⟩, rfl, ?_, hy2, rfl⟩
  rw [← h3]
  exact hy1.perm
end Go.Sep

/-
  A heap of free slots: its methods.
-/
set_option linter.unusedVariables false
set_option linter.unusedSimpArgs false
namespace Go.Sep
open Go.Proofs
attribute [local irreducible] TC TO OT TCallX TCall DO DOt thenQ blockQ retQ At
def ltN (a b : Int) : Bool := decide (a < b)
theorem ltN_ord : OrdK ltN := by
  constructor
  · intro a b h
    simp only [ltN, decide_eq_true_eq, decide_eq_false_iff_not] at h ⊢
    omega
  · intro a b c h1 h2
    simp only [ltN, decide_eq_false_iff_not] at h1 h2 ⊢
    omega
theorem ltN_irr (a : Int) : ltN a a = false := by simp [ltN]
theorem qlenI_law (m : Mem) (L : List Item) (s : Sl) : TCall Try.prog 21 ⟨[s.v]⟩ m L (Ret (.int .i64 (s.len : Int)) m L) := by
  unfold TCall
  refine TCallX.enter Try.func21 rfl 5 rfl ?_
  repeat (first|refine q1 ?_|refine q3 ?_|refine q4 tab rfl rfl ?_|refine q5 ?_|refine q6 ?_|refine q15 ?_)
  refine retQ_ret rfl (by repeat (exact List.Sublist.refl _)) ⟨rfl, rfl, ?_⟩
  rfl
theorem lessI_law (m : Mem) (L : List Item) (bq b n c i j : Nat) (v0 : Value) (hs : List Int) (hi : i < n) (hj : j < n) (hn : n ≤ hs.length) :
    TCall Try.prog 73 ⟨[.slice (some ⟨b, 0, none⟩) n c, .int .i64 (i : Int), .int .i64 (j : Int)]⟩ m (.cells bq 0 [v0] :: .cells b 0 (encs rInt hs) :: L) (Ret (.bool (ltN (gk hs i) (gk hs j))) m (.cells bq 0 [v0] :: .cells b 0 (encs rInt hs) :: L)) := by
  have hgi := gk_get (xs := hs) (k := i) (by omega)
  have hgj := gk_get (xs := hs) (k := j) (by omega)
  unfold TCall
  refine TCallX.enter Try.func73 rfl 16 rfl ?_
  repeat (first|refine q1 ?_|refine q3 ?_|refine q4 tab rfl rfl ?_|refine q5 ?_|refine q6 ?_)
  refine TC.draw [] mixed 10 rfl (.cells bq 0 [v0] :: .cells b 0 (encs rInt hs) :: L) [] (by rw [List.append_nil]) ?_
  refine DO.pure tab (by repeat (first|exact Calm.ret|refine Calm.then ?_)) (by kernel_rfl) [0, 1] (by kernel_rfl) rfl ?_
  refine DO.indexP (sz := 1) tab 2 i (by repeat (first|exact Calm.ret|refine Calm.then ?_)) (by kernel_rfl) (by kernel_rfl) rfl rfl rfl rfl rfl rfl rfl rfl rfl hi ?_
  refine DO.loadE (jj := 0) tab 3 1 rInt hgi (by simp only [rInt]; omega) (fun _ => rfl) (by repeat (first|exact Calm.ret|refine Calm.then ?_)) (by kernel_rfl) (by kernel_rfl) rfl rfl rfl rfl rfl rfl rfl ?_
  refine DO.pure tab (by repeat (first|exact Calm.ret|refine Calm.then ?_)) (by kernel_rfl) [4, 5] (by kernel_rfl) rfl ?_
  refine DO.indexP (sz := 1) tab 6 j (by repeat (first|exact Calm.ret|refine Calm.then ?_)) (by kernel_rfl) (by kernel_rfl) rfl rfl rfl rfl rfl rfl rfl rfl rfl hj ?_
  refine DO.loadE (jj := 0) tab 7 1 rInt hgj (by simp only [rInt]; omega) (fun _ => rfl) (by repeat (first|exact Calm.ret|refine Calm.then ?_)) (by kernel_rfl) (by kernel_rfl) rfl rfl rfl rfl rfl rfl rfl ?_
  refine DO.pure tab (by repeat (first|exact Calm.ret|refine Calm.then ?_)) (by kernel_rfl) [8, 9] (by kernel_rfl) rfl ?_
  (refine DO.nil0 (by kernel_rfl) ?_)
  rotate_left 1
  repeat (first|refine q6 ?_|refine q15 ?_)
  refine retQ_ret rfl (by repeat (exact List.Sublist.refl _)) ⟨rfl, rfl, ?_⟩
  rfl
theorem swapI_law (m : Mem) (L : List Item) (bq b n c i j : Nat) (v0 : Value) (hs : List Int) (hi : i < n) (hj : j < n) (hn : n ≤ hs.length) :
    TCall Try.prog 74 ⟨[.slice (some ⟨b, 0, none⟩) n c, .int .i64 (i : Int), .int .i64 (j : Int)]⟩ m (.cells bq 0 [v0] :: .cells b 0 (encs rInt hs) :: L) (fun _ m' L' => m = m' ∧ .cells bq 0 [v0] :: .cells b 0 (encs rInt (sw hs i j)) :: L = L') := by
  have hgi := gk_get (xs := hs) (k := i) (by omega)
  have hgj := gk_get (xs := hs) (k := j) (by omega)
  unfold TCall
  refine TCallX.enter Try.func74 rfl 20 rfl ?_
  skip
  refine TC.draw [13, 14, 15] mixed 16 rfl (.cells bq 0 [v0] :: .cells b 0 (encs rInt hs) :: L) [] (by rw [List.append_nil]) ?_
  refine DO.pure tab (by repeat (exact Calm.ret)) (by kernel_rfl) [0, 1, 2, 3, 4, 5] (by kernel_rfl) rfl ?_
  refine DO.indexP (sz := 1) tab 6 j (by repeat (exact Calm.ret)) (by kernel_rfl) (by kernel_rfl) rfl rfl rfl rfl rfl rfl rfl rfl rfl hj ?_
  refine DO.loadE (jj := 0) tab 7 1 rInt hgj (by simp only [rInt]; omega) (fun _ => rfl) (by repeat (exact Calm.ret)) (by kernel_rfl) (by kernel_rfl) rfl rfl rfl rfl rfl rfl rfl ?_
  refine DO.pure tab (by repeat (exact Calm.ret)) (by kernel_rfl) [8, 9] (by kernel_rfl) rfl ?_
  refine DO.indexP (sz := 1) tab 10 i (by repeat (exact Calm.ret)) (by kernel_rfl) (by kernel_rfl) rfl rfl rfl rfl rfl rfl rfl rfl rfl hi ?_
  refine DO.loadE (jj := 0) tab 11 1 rInt hgi (by simp only [rInt]; omega) (fun _ => rfl) (by repeat (exact Calm.ret)) (by kernel_rfl) (by kernel_rfl) rfl rfl rfl rfl rfl rfl rfl ?_
  refine DO.indexP (sz := 1) tab 12 i (by repeat (exact Calm.ret)) (by kernel_rfl) (by kernel_rfl) rfl rfl rfl rfl rfl rfl rfl rfl rfl hi ?_
  refine DO.tail ?_
  refine DOt.run 13 rfl rfl (by kernel_rfl) rfl ?_
  refine OT.storeE (h2 := gk hs j) tab 1 rInt hgi (j := 0) (by simp only [rInt]; omega) (fun _ => rfl) (Nat.le_refl _) rfl rfl rfl rfl rfl rfl rfl ?_
  refine DOt.run 14 rfl rfl (by kernel_rfl) rfl ?_
  refine OT.indexP (sz := 1) tab j rfl rfl rfl rfl rfl rfl rfl hj ?_
  refine DOt.run 15 rfl rfl (by kernel_rfl) rfl ?_
  refine OT.storeE (h2 := gk hs i) (h := gk (hs.set i (gk hs j)) j) tab 1 rInt (k := j) (gk_get (by simp; omega)) (j := 0) (by simp only [rInt]; omega) (fun _ => rfl) (Nat.le_refl _) rfl rfl rfl rfl rfl rfl rfl ?_
  refine DOt.nil (by kernel_rfl) ?_
  rotate_left 1
  refine retQ_n rfl (by repeat (exact List.sublist_append_left _ _)) ⟨rfl, rfl⟩
theorem qElemI : ∃ (ei : TI), tab.elem 46 = some (3, ei) ∧ Nat.beq ei.size rInt.size = true ∧ cellsF ei.zero = some (rInt.enc 0) ∧ Nat.blt 0 ei.bytes = true ∧ ei.bytes = 8 := ⟨_, rfl, rfl, rfl, rfl, rfl⟩
theorem qpopI_law (m : Mem) (L : List Item) (bq b n c : Nat) (hs : List Int) (hn : n < hs.length) (hnc : n < c) (hnb : n < 140737488355328) :
    TCall Try.prog 75 ⟨[.pointer (some ⟨bq, 0, none⟩)]⟩ m (.cells bq 0 [.slice (some ⟨b, 0, none⟩) (n + 1) c] :: .cells b 0 (encs rInt hs) :: L) (fun r m' L' => m = m' ∧ r = .iface 3 (.int .i64 (gk hs n)) ∧ .cells bq 0 [.slice (some ⟨b, 0, none⟩) n c] :: .cells b 0 (encs rInt hs) :: L = L') := by
  have hgn := gk_get (xs := hs) (k := n) (by omega)
  unfold TCall
  refine TCallX.enter Try.func75 rfl 32 rfl ?_
  repeat (first|refine q1 ?_|refine q3 ?_|refine q4 tab rfl rfl ?_|refine q5 ?_|refine q6 ?_)
  refine TC.draw [] mixed 13 rfl (.cells bq 0 [.slice (some ⟨b, 0, none⟩) (n + 1) c] :: .cells b 0 (encs rInt hs) :: L) [] (by rw [List.append_nil]) ?_
  refine DO.pure tab (by repeat (first|exact Calm.ret|refine Calm.then ?_)) (by kernel_rfl) [0, 1, 2] (by kernel_rfl) rfl ?_
  (refine DO.loadL tab 3 0 (by repeat (first|exact Calm.ret|refine Calm.then ?_)) (by kernel_rfl) (by kernel_rfl) rfl rfl rfl rfl rfl rfl rfl rfl ?_)
  refine DO.pure tab (by repeat (first|exact Calm.ret|refine Calm.then ?_)) (by kernel_rfl) [4, 5, 6] (by kernel_rfl) rfl ?_
  (refine DO.loadL tab 7 0 (by repeat (first|exact Calm.ret|refine Calm.then ?_)) (by kernel_rfl) (by kernel_rfl) rfl rfl rfl rfl rfl rfl rfl rfl ?_)
  refine DO.pure tab (by repeat (first|exact Calm.ret|refine Calm.then ?_)) (by kernel_rfl) [8] (by kernel_rfl) rfl ?_
  refine DO.arith 9 (r' := (n : Int)) (by repeat (first|exact Calm.ret|refine Calm.then ?_)) (by kernel_rfl) (by kernel_rfl) rfl rfl rfl rfl rfl rfl rfl rfl (by first | rfl | omega | (simp only; omega)) (by omega) ?_
  refine DO.indexP (sz := 1) tab 10 n (by repeat (first|exact Calm.ret|refine Calm.then ?_)) (by kernel_rfl) (by kernel_rfl) rfl rfl rfl rfl rfl rfl rfl rfl rfl (by omega) ?_
  refine DO.loadE (jj := 0) tab 11 1 rInt hgn (by simp only [rInt]; omega) (fun _ => rfl) (by repeat (first|exact Calm.ret|refine Calm.then ?_)) (by kernel_rfl) (by kernel_rfl) rfl rfl rfl rfl rfl rfl rfl ?_
  refine DO.pure tab (by repeat (first|exact Calm.ret|refine Calm.then ?_)) (by kernel_rfl) [12] (by kernel_rfl) rfl ?_
  (refine DO.nil0 (by kernel_rfl) ?_)
  rotate_left 1
  repeat (first|refine q1 ?_|refine q6 ?_)
  refine TC.draw [14] mixed 15 rfl (.cells bq 0 [.slice (some ⟨b, 0, none⟩) (n + 1) c] :: .cells b 0 (encs rInt hs) :: L) [] (by rw [List.append_nil]) ?_
  refine DO.pure tab (by repeat (first|exact Calm.ret|refine Calm.then ?_)) (by kernel_rfl) [0, 1, 2, 3] (by kernel_rfl) rfl ?_
  (refine DO.loadL tab 4 0 (by repeat (first|exact Calm.ret|refine Calm.then ?_)) (by kernel_rfl) (by kernel_rfl) rfl rfl rfl rfl rfl rfl rfl rfl ?_)
  refine DO.pure tab (by repeat (first|exact Calm.ret|refine Calm.then ?_)) (by kernel_rfl) [5, 6, 7] (by kernel_rfl) rfl ?_
  (refine DO.loadL tab 8 0 (by repeat (first|exact Calm.ret|refine Calm.then ?_)) (by kernel_rfl) (by kernel_rfl) rfl rfl rfl rfl rfl rfl rfl rfl ?_)
  refine DO.pure tab (by repeat (first|exact Calm.ret|refine Calm.then ?_)) (by kernel_rfl) [9] (by kernel_rfl) rfl ?_
  refine DO.arith 10 (r' := (n : Int)) (by repeat (first|exact Calm.ret|refine Calm.then ?_)) (by kernel_rfl) (by kernel_rfl) rfl rfl rfl rfl rfl rfl rfl rfl (by first | rfl | omega | (simp only; omega)) (by omega) ?_
  refine DO.run 11 rfl rfl (by kernel_rfl) rfl ?_
  refine OT.takeZ tab n rfl (by omega) rfl rfl rfl rfl rfl rfl ?_; refine ⟨Mem.le_refl _, _, List.Perm.refl _, ?_⟩
  refine DO.pure tab (by repeat (first|exact Calm.ret|refine Calm.then ?_)) (by kernel_rfl) [12, 13] (by kernel_rfl) rfl ?_
  refine DO.tail ?_
  refine DOt.run 14 rfl rfl (by kernel_rfl) rfl ?_
  refine OT.storeL0 tab 0 rfl rfl rfl rfl rfl rfl rfl rfl ?_
  refine DOt.nil (by kernel_rfl) ?_
  rotate_left 1
  repeat (first|refine q1 ?_|refine q3 ?_|refine q4 tab rfl rfl ?_|refine q6 ?_)
  refine TO.step rfl (OT.mkIface tab rfl rfl rfl rfl rfl ?_)
  repeat (first|refine q4 tab rfl rfl ?_|refine q5 ?_|refine q6 ?_|refine q15 ?_)
  refine retQ_ret rfl (L' := .cells bq 0 [.slice (some ⟨b, 0, none⟩) n c] :: .cells b 0 (encs rInt hs) :: L) (by repeat (exact List.sublist_append_left _ _)) ⟨rfl, rfl, rfl⟩
theorem qpushI_law (m : Mem) (L : List Item) (bq : Nat) (s : Sl) (hs : List Int) (x : Int) (hM : ORow s hs) (hfit : (s.len + 1) * 24 ≤ 140737488355328) :
    TCall Try.prog 76 ⟨[.pointer (some ⟨bq, 0, none⟩), .iface 3 (.int .i64 x)]⟩ m (.cells bq 0 [s.v] :: mcell s (encs rInt hs) :: L) (fun r m' L' => m = m' ∧ ∃ s' hs', ORow s' hs' ∧ s'.len = s.len + 1 ∧ hs'.take (s.len + 1) = hs.take s.len ++ [x] ∧ .cells bq 0 [s'.v] :: mcell s' (encs rInt hs') :: L = L') := by
  unfold TCall
  refine TCallX.enter Try.func76 rfl 15 rfl ?_
  skip
  refine TC.draw [11] mixed 12 rfl [.cells bq 0 [s.v]] (mcell s (encs rInt hs) :: L) (by first | exact List.Perm.refl _ | (rw [List.append_nil]; exact List.Perm.refl _)) ?_
  refine DO.pure tab (by repeat (exact Calm.ret)) (by kernel_rfl) [0, 1, 2, 3] (by kernel_rfl) rfl ?_
  (refine DO.loadL tab 4 0 (by repeat (exact Calm.ret)) (by kernel_rfl) (by kernel_rfl) rfl rfl rfl rfl rfl rfl rfl rfl ?_)
  refine DO.pure tab (by repeat (exact Calm.ret)) (by kernel_rfl) [5] (by kernel_rfl) rfl ?_
  refine DO.run 6 rfl rfl (by kernel_rfl) rfl ?_
  refine OT.assert tab rfl rfl rfl rfl rfl ?_; refine ⟨Mem.le_refl _, _, List.Perm.refl _, ?_⟩
  refine DO.run 7 rfl rfl (by kernel_rfl) rfl ?_
  refine OT.lit tab rfl rfl rfl rfl (fun bl => ?_); refine ⟨Mem.le_refl _, .cells bl 0 (rInt.enc x) :: mcell s (encs rInt hs) :: L, List.Perm.swap _ _ _, ?_⟩
  refine DO.run 8 rfl rfl (by kernel_rfl) rfl ?_
  refine OT.perm (List.Perm.trans (List.Perm.swap _ _ _) (List.Perm.cons _ (List.Perm.swap _ _ _))) ?_; obtain ⟨ei, e1, e2, e3, e4⟩ := qElemI; refine OT.pushR tab rInt (z := 0) hM rfl rfl rfl rfl rfl e1 e1 e2 e3 (by decide) e4.1 (by rw [e4.2]; omega) (fun s2 hs2 h1 h2 h3 => ?_); refine ⟨Mem.le_refl _, mcell s2 (encs rInt hs2) :: L, List.Perm.swap _ _ _, ?_⟩
  refine DO.pure tab (by repeat (exact Calm.ret)) (by kernel_rfl) [9, 10] (by kernel_rfl) rfl ?_
  refine DO.tail ?_
  refine DOt.run 11 rfl rfl (by kernel_rfl) rfl ?_
  refine OT.storeL0 tab 0 rfl rfl rfl rfl rfl rfl rfl rfl ?_
  refine DOt.nil (by kernel_rfl) ?_
  rotate_left 1
  exact retQ_n rfl (L' := .cells bq 0 [s2.v] :: mcell s2 (encs rInt hs2) :: L) (by repeat (exact List.Sublist.refl _)) ⟨rfl, s2, hs2, h1, h2, h3, rfl⟩
end Go.Sep
