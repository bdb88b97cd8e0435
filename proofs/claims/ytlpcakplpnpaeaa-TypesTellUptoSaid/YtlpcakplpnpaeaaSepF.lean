/-
  Slices that the call itself makes: append (what is appended stays known for ever; the room behind it is owned), make, literals.
-/
import Derived.Test.YtlpcakplpnpaeaaSepE
set_option linter.unusedVariables false
set_option linter.unusedSimpArgs false
namespace Go.Sep

/-- the room behind a growing slice -/
def tok (s : Sl) (size : Nat) : Item :=
  match s.a with
  | none => .room 0 0 0
  | some a => .room a.block (a.off + s.len * size) ((s.cap - s.len) * size)

/-- may it grow? -/
def Own (s : Sl) : Prop := s = ⟨none, 0, 0⟩ ∨ ∃ b o, s.a = some ⟨b, o, none⟩

/-- the cells behind a slice value -/
def Src (w : World) (s : Sl) (size : Nat) (news : List Value) : Prop :=
  news.length = s.len * size ∧ (s.len = 0 ∨ ∃ b o, s.a = some ⟨b, o, none⟩ ∧ Cells w b o news)

theorem Src.drew {w : World} {s : Sl} {size : Nat} {news : List Value} (h : Src w s size news) : Src w.drew s size news := h

theorem run_first {P : Program} {w : World} {s : Sl} {size : Nat} {news : List Value} (h : Src w s size news) : (Builtin.firstCells size s.len s.v).run P w = .ok ⟨news⟩ w := by
  obtain ⟨h1, h2⟩ := h
  obtain ⟨a, n, c⟩ := s
  simp only at h1 h2
  cases a with
  | none =>
    rcases h2 with h2 | ⟨b, o, h3, _⟩
    · subst h2
      have : news = [] := List.eq_nil_of_length_eq_zero (by omega)
      subst this
      rfl
    · cases h3
  | some a =>
    simp only [Sl.v, Builtin.firstCells]
    rw [← h1]
    refine run_loadCells_list w a news fun j v hv => ?_
    rcases h2 with h2 | ⟨b, o, h3, h4⟩
    · subst h2
      have : news = [] := List.eq_nil_of_length_eq_zero (by omega)
      subst this
      simp at hv
    · cases h3
      rw [addr_add]
      exact h4 j v hv

theorem At.append {m : Mem} {b o : Nat} {xs ys : List Value} (h : At m b o xs) (h2 : At m b (o + xs.length) ys) : At m b o (xs ++ ys) := by
  intro j v hv
  rcases Nat.lt_or_ge j xs.length with hj | hj
  · rw [List.getElem?_append_left hj] at hv; exact h j v hv
  · rw [List.getElem?_append_right hj] at hv
    have := h2 _ v hv
    rwa [show o + xs.length + (j - xs.length) = o + j by omega] at this
theorem At.nil (m : Mem) (b o : Nat) : At m b o [] := fun j v hv => by simp at hv

theorem SlRep.src {H α : Type} {r : R H α} {m : Mem} {w : World} {L : List Item} {s : Sl} {l : List α} (h : SlRep r m s l) (hw : St m w L) :
    ∃ hs, All2 (r.rep m) hs l ∧ Src w s r.size (encs r hs) ∧ (s.a = none → s.len = 0 ∧ s.cap = 0) ∧ (∀ b o, s.a = some ⟨b, o, none⟩ → At m b o (encs r hs)) := by
  obtain ⟨hs, h1, h2⟩ := h.cells
  refine ⟨hs, h1, ⟨by rw [encs_len, h1.length, h.len], ?_⟩, ?_, ?_⟩
  · rcases h2 with ⟨h2, _⟩ | ⟨b, o, h3, h4⟩
    · left; rw [h.len, h2]; rfl
    · exact .inr ⟨b, o, h3, hw.at_cells h4⟩
  · intro ha
    rcases h2 with ⟨h2, h5⟩ | ⟨b, o, h3, h4⟩
    · exact ⟨by rw [h.len, h2]; rfl, h5 ha⟩
    · rw [ha] at h3; cases h3
  · intro b o ha
    rcases h2 with ⟨h2, h5⟩ | ⟨b', o', h3, h4⟩
    · subst h2
      have : hs = [] := List.eq_nil_of_length_eq_zero (by rw [h1.length]; rfl)
      subst this
      exact At.nil _ _ _
    · rw [ha] at h3
      cases h3
      exact h4

theorem putAt_front : ∀ (cs vs : List Value), cs.length ≤ vs.length → ∀ (pre : List Value), putAt (pre ++ vs) pre.length cs = pre ++ cs ++ vs.drop cs.length
  | [], vs, _, pre => by simp [putAt]
  | c :: cs, [], h, pre => by simp at h
  | c :: cs, v :: vs, h, pre => by
    simp only [putAt]
    have e : (pre ++ v :: vs).set pre.length c = (pre ++ [c]) ++ vs := by simp
    rw [e]
    have := putAt_front cs vs (by simpa using h) (pre ++ [c])
    simp only [List.length_append, List.length_cons, List.length_nil, Nat.zero_add] at this
    rw [this]
    simp

theorem set_same {L : List Item} {i : Nat} {x : Item} (h : L[i]? = some x) : L.set i x = L := by
  obtain ⟨hi, he⟩ := List.getElem?_eq_some_iff.1 h
  subst he
  exact List.set_getElem_self hi

theorem putAt_zero {cs vs : List Value} (h : cs.length ≤ vs.length) : putAt vs 0 cs = cs ++ vs.drop cs.length := by
  have := putAt_front cs vs h []
  simpa using this

section
variable {P : Program} {N : Nat} {ρ : Env} {D : List Deferred} {m : Mem} {L : List Item} {Q : EPost} {full : List Oper} {o : Oper} {K : Env → Mem → List Item → Prop}

theorem nozeros {T : Tab P} {t2 e2 : TypeId} {ei2 : TI} (h : T.elem t2 = some (e2, ei2)) (w : World) {α : Type} (f : Bool → Sem α) :
    ((do let u ← underlying t2; f (u matches .int _)) : Sem α).run P w = (f false).run P w := by
  obtain ⟨ti, h4, h5, h6⟩ := elem_get h
  have hu := T.run_underlying w h4
  rw [h5] at hu
  simp only [Sem.run_bind, hu, Result.andThen_ok]

/-- what append does -/
theorem run_append (T : Tab P) {t t2 e e2 ty : TypeId} {ei ei2 : TI} {w : World} {s s2 : Sl} {xs news : List Value} {i : Nat} (he : T.elem t = some (e, ei)) (he2 : T.elem t2 = some (e2, ei2))
    (hw : St m w L) (hi : L[i]? = some (tok s ei.size)) (ho : Own s) (hx : Src w s ei.size xs) (hy : Src w s2 ei.size news) (hn : s2.a = none → s2.len = 0) (h1 : allOne news = true) (hzs : ei.zero.cells.size = ei.size) (hcap : s.len ≤ s.cap)
    (hb : 0 < ei.bytes) (hfit : (s.len + s2.len) * ei.bytes ≤ 140737488355328) (hAt : ∀ b o, s.a = some ⟨b, o, none⟩ → At m b o xs) :
    ∃ s' m' w', (Builtin.append_ #[t, t2] ty #[s.v, s2.v]).run P w = .ok s'.v w' ∧ m ≤ m' ∧ St m' w' (L.set i (tok s' ei.size)) ∧ Own s' ∧ s'.len = s.len + s2.len ∧ s'.len ≤ s'.cap ∧
      ((s'.a = none ∧ xs ++ news = [] ∧ s'.cap = 0) ∨ ∃ b o, s'.a = some ⟨b, o, none⟩ ∧ At m' b o (xs ++ news)) := by
  obtain ⟨ti, h4, h5, h6⟩ := elem_get he
  obtain ⟨ti2, k4, k5, k6⟩ := elem_get he2
  obtain ⟨_, _, hu, _⟩ := T.ok t ti h4
  rw [h5] at hu
  obtain ⟨_, _, hu2, _⟩ := T.ok t2 ti2 k4
  rw [k5] at hu2
  obtain ⟨info, q1, q2, q3, q4, q5⟩ := T.ok e ei h6
  have hnew := run_first (P := P) hy
  have hbound : s.len + s2.len ≤ 140737488355328 := Nat.le_trans (Nat.le_mul_of_pos_right _ hb) hfit
  by_cases hroom : s.len + s2.len ≤ s.cap
  · -- there is room
    rcases ho with hnil | ⟨b, o, ha⟩
    · subst hnil
      simp only at hroom
      have hz : s2.len = 0 := by omega
      have hxs : xs = [] := List.eq_nil_of_length_eq_zero (by have := hx.1; simpa using this)
      have hns : news = [] := List.eq_nil_of_length_eq_zero (by have := hy.1; rw [hz] at this; simpa using this)
      subst hxs; subst hns
      refine ⟨⟨none, 0, 0⟩, m, w, ?_, m.le_refl, by rw [set_same hi]; exact hw, .inl rfl, by simp [hz], by simp, .inl ⟨rfl, rfl, rfl⟩⟩
      have hnew' : (Builtin.firstCells ei.size 0 s2.v).run P w = .ok (⟨[]⟩ : Array Value) w := by rw [← hz]; exact hnew
      simp only [Sl.v] at hnew'
      simp [Builtin.append_, run_underlying hu, run_underlying hu2, sizeOf, typeInfo, q1, q3, Builtin.lenOf, hz, hnew']
    · obtain ⟨a, n, c⟩ := s
      simp only at ha hroom hcap hbound hfit hx hAt
      subst ha
      have hst := (hw.at_ hi)
      simp only [tok] at hst
      obtain ⟨vs, hvl, hst⟩ := hst.ofRoom
      have hnl : news.length ≤ vs.length := by
        rw [hvl, hy.1]; exact Nat.mul_le_mul_right _ (by omega)
      obtain ⟨w', hr, hst'⟩ := run_storeCells (P := P) news vs 0 0 w hst h1 (by omega)
      rw [putAt_zero hnl] at hst'
      have hst2 := hst'.split
      obtain ⟨g1, g2, g3⟩ := hst2.freeze
      have g4 := g3.toRoom
      refine ⟨⟨some ⟨b, o, none⟩, n + s2.len, c⟩, m.addCells b (o + n * ei.size) news, w', ?_, g1, ?_, .inr ⟨b, o, rfl⟩, rfl, hroom, .inr ⟨b, o, rfl, ?_⟩⟩
      · have hr' : (storeCells ((⟨b, o, none⟩ : Addr).add (n * ei.size)) news).run P w = .ok () w' := by rw [addr_add]; exact hr
        simp only [Sl.v] at hnew
        simp [Builtin.append_, run_underlying hu, run_underlying hu2, sizeOf, typeInfo, q1, q3, Builtin.lenOf, hroom, hnew, hr']
      · have e1 : Item.room b (o + n * ei.size + news.length) (List.drop news.length vs).length = tok ⟨some ⟨b, o, none⟩, n + s2.len, c⟩ ei.size := by
          simp only [tok, List.length_drop, hvl, hy.1]
          congr 1
          · rw [Nat.add_mul]; omega
          · rw [← Nat.sub_mul]; congr 1; omega
        rw [← e1]
        exact St.back hi g4
      · refine ((hAt b o rfl).mono g1).append ?_
        rw [hx.1]
        exact g2
  · -- it grows
    have hlt : s.cap < s.len + s2.len := by omega
    have h48 : ¬ (Builtin.nextslicecap (s.len + s2.len) s.cap * ei.bytes > 281474976710656) := by
      have := growslice_fits hlt hfit
      omega
    have hold := run_first (P := P) (hx.drew)
    have hnew' := run_first (P := P) (hy.drew)
    obtain ⟨nc, hnc, hge⟩ : ∃ nc, nc = (Question.appendCap (s.len + s2.len) s.cap e).cut (w.tape w.drawn (.appendCap (s.len + s2.len) s.cap e)) ∧ s.len + s2.len ≤ nc := ⟨_, rfl, by simp [Question.cut]⟩
    have hst := hw.drew.allocCells ((⟨xs⟩ : Array Value) ++ (⟨news⟩ : Array Value) ++ Builtin.zeroCells ei.zero.cells (nc - (s.len + s2.len))) e
    have hl1 : ((⟨xs⟩ : Array Value) ++ (⟨news⟩ : Array Value) ++ Builtin.zeroCells ei.zero.cells (nc - (s.len + s2.len))).toList = (xs ++ news) ++ (Builtin.zeroCells ei.zero.cells (nc - (s.len + s2.len))).toList := by simp
    rw [hl1] at hst
    obtain ⟨g1, g2, g3⟩ := hst.split.freeze
    have g4 := g3.toRoom
    have hxl : (xs ++ news).length = (s.len + s2.len) * ei.size := by rw [List.length_append, hx.1, hy.1, Nat.add_mul]
    refine ⟨⟨some ⟨w.heap.size, 0, none⟩, s.len + s2.len, nc⟩, _, w.drew.alloc (.cells ((⟨xs⟩ : Array Value) ++ (⟨news⟩ : Array Value) ++ Builtin.zeroCells ei.zero.cells (nc - (s.len + s2.len))) e), ?_, g1, ?_, .inr ⟨_, _, rfl⟩, rfl, hge, .inr ⟨_, _, rfl, g2⟩⟩
    · simp only [Sl.v] at hold hnew'
      have hb0 : ei.bytes ≠ 0 := by omega
      have hmax : ¬ (9223372036854775807 < (s.len : Int) + (s2.len : Int)) := by omega
      simp [Builtin.append_, run_underlying hu, run_underlying hu2, sizeOf, typeInfo, zeroValue, q1, q3, q4, q5, Builtin.lenOf, hroom, hold, hnew', h48, hmax, Question.forced, newRow, ← hnc, IntKind.max, IntKind.signed, IntKind.bits, hb0]
      congr 2
      apply Array.ext'
      simp
    · have e1 : Item.room w.heap.size (0 + (xs ++ news).length) (Builtin.zeroCells ei.zero.cells (nc - (s.len + s2.len))).toList.length = tok ⟨some ⟨w.heap.size, 0, none⟩, s.len + s2.len, nc⟩ ei.size := by
        simp only [tok, hxl, Array.length_toList, size_zeroCells, hzs]
      rw [← e1]
      have hsub : (Item.room w.heap.size (0 + (xs ++ news).length) (Builtin.zeroCells ei.zero.cells (nc - (s.len + s2.len))).toList.length :: L.eraseIdx i).Sublist (Item.room w.heap.size (0 + (xs ++ news).length) (Builtin.zeroCells ei.zero.cells (nc - (s.len + s2.len))).toList.length :: L) :=
        List.Sublist.cons_cons _ (List.eraseIdx_sublist L i)
      exact St.back hi (g4.sub hsub)

def Tab.okElem {P : Program} (T : Tab P) (t t2 : TypeId) (size bytes : Nat) : Bool :=
  match T.elem t, T.elem t2 with
  | some (_, ei), some (_, _) => Nat.beq ei.size size && (Nat.beq ei.bytes bytes && (Nat.blt 0 bytes && match cellsF ei.zero with
    | some l => Nat.beq l.length size
    | none => false))
  | _, _ => false

theorem okElem_get {T : Tab P} {t t2 : TypeId} {size bytes : Nat} (h : T.okElem t t2 size bytes = true) :
    ∃ e e2 ei ei2, T.elem t = some (e, ei) ∧ T.elem t2 = some (e2, ei2) ∧ ei.size = size ∧ ei.bytes = bytes ∧ 0 < bytes ∧ ei.zero.cells.size = ei.size := by
  unfold Tab.okElem at h
  split at h
  · rename_i e ei e2 ei2 h1 h2
    simp only [Bool.and_eq_true] at h
    obtain ⟨a1, a2, a3, a4⟩ := h
    split at a4
    · rename_i l hl
      have := cellsF_eq hl
      refine ⟨e, e2, ei, ei2, h1, h2, Nat.eq_of_beq_eq_true a1, Nat.eq_of_beq_eq_true a2, by simpa [Nat.blt_eq] using a3, ?_⟩
      rw [this, Nat.eq_of_beq_eq_true a1]
      simpa using Nat.eq_of_beq_eq_true a4
    · cases a4
  · cases h

/-- append(xs, ys...): xs may grow (its room is item i), ys is read -/
theorem OT.append {H α : Type} (T : Tab P) (r : R H α) (i : Nat) {s s2 : Sl} {l l2 : List α} {x y : Operand} {t t2 : TypeId} {d : Nat} (hs : SlRep r m s l) (hown : Own s) (hs2 : SlRep r m s2 l2)
    (ho : o.op = .call ⟨.builtin .append, ⟨[x, y]⟩, ⟨[t, t2]⟩⟩) (hd : o.dst = some d) (hN : Nat.blt d N = true) (hx : ev ρ x = some s.v) (hy : ev ρ y = some s2.v) (hT : T.okElem t t2 r.size r.bytes = true)
    (hi : L[i]? = some (tok s r.size)) (hfit : (l.length + l2.length) * r.bytes ≤ 140737488355328)
    (hK : ∀ s' m', m ≤ m' → SlRep r m' s' (l ++ l2) → Own s' → K ((d, s'.v) :: ρ) m' (L.set i (tok s' r.size))) : OT P N o ρ D m L Q K := by
  obtain ⟨e, e2, ei, ei2, q1, q2, q3, q4, q5, q6⟩ := okElem_get hT
  intro a w ha
  obtain ⟨hl, h1, h2, h3, h4⟩ := hs.src ha.st
  obtain ⟨hl2, k1, k2, k3, k4⟩ := hs2.src ha.st
  have hb : 0 < ei.bytes := by omega
  obtain ⟨s', m', w', hr, g1, g2, g3, g4, g5, g6⟩ := run_append (P := P) (ty := o.type) T q1 q2 ha.st (by rw [q3]; exact hi) hown (by rw [q3]; exact h2) (by rw [q3]; exact k2) (fun hz => (k3 hz).1) (encs_one r hl2) q6 hs.cap hb
    (by rw [hs.len, hs2.len, q4]; exact hfit) h4
  have he : (execOp a.eval o).run P w = .ok (.value s'.v) w' := by
    simp only [execOp, ho, resolve, invoke, builtin, Sem.run_bind, Sem.run_pure, Result.andThen_ok, List.map_toArray, List.map_cons, List.map_nil, ha.env.eval hx, ha.env.eval hy]
    simp only [List.map_toArray, List.map_cons, List.map_nil, ha.env.eval hx, ha.env.eval hy, hr, Result.andThen_ok]
  have hrep : SlRep r m' s' (l ++ l2) := by
    refine ⟨by rw [g4, hs.len, hs2.len]; simp, g5, by rw [g4, hs.len, hs2.len]; exact hfit, hl ++ hl2, (h1.mono fun _ _ => r.mono g1).append (k1.mono fun _ _ => r.mono g1), ?_⟩
    rcases g6 with ⟨e1, e2, e3⟩ | ⟨b, off, e1, e2⟩
    · left
      have hz : s'.len = 0 := by
        rcases g3 with e | ⟨b, off, e⟩
        · rw [e]
        · rw [e1] at e; cases e
      refine ⟨List.eq_nil_of_length_eq_zero ?_, fun _ => e3⟩
      have j1 := hs.len
      have j2 := hs2.len
      rw [List.length_append]; omega
    · right
      exact ⟨b, off, e1, by rw [encs_append]; exact e2⟩
  simp only [Oper.wp, he, Oper.upon]
  rw [hd]
  have hp := ha.put hN s'.v
  rw [q3] at g2
  exact ⟨_, _, _, ⟨hp.size, hp.env, hp.defers, g2⟩, hK s' m' g1 hrep g3⟩
end
end Go.Sep
