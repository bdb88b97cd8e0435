/-
  More rules: make, literals, cutting slices, freezing, stores at an index, maps.
-/
import Derived.Test.YtlpcakplpnpaeaaSepG
set_option linter.unusedVariables false
set_option linter.unusedSimpArgs false
namespace Go.Sep

section
variable {P : Program} {N : Nat} {ρ : Env} {D : List Deferred} {m : Mem} {L : List Item} {Q : EPost} {full : List Oper} {o : Oper} {K : Env → Mem → List Item → Prop}

/-! freezing the item in front -/
theorem TO.freeze {l : List Oper} {b off : Nat} {vs : List Value} (h : ∀ m', m ≤ m' → At m' b off vs → TO P N ⟨full⟩ l ρ D m' L Q) : TO P N ⟨full⟩ l ρ D m (.cells b off vs :: L) Q := by
  intro a w ha
  obtain ⟨h1, h2, h3⟩ := ha.st.freeze
  exact h _ h1 h2 a w ⟨ha.size, ha.env, ha.defers, h3⟩
theorem TC.freeze {c : Code} {b off : Nat} {vs : List Value} (h : ∀ m', m ≤ m' → At m' b off vs → TC P N c ρ D m' L Q) : TC P N c ρ D m (.cells b off vs :: L) Q := by
  intro a w ha
  obtain ⟨h1, h2, h3⟩ := ha.st.freeze
  exact h _ h1 h2 a w ⟨ha.size, ha.env, ha.defers, h3⟩

/-! slices' literals -/
def zeroRow (zs : List Value) (n : Nat) : List Value := (List.range n).map fun i => zs[i % zs.length]?.getD undef

def fillS (ρ : Env) (size : Nat) : List Value → List (Nat × Operand) → Option (List Value)
  | cs, [] => fl cs
  | cs, (i, x) :: r => match ev ρ x with
    | some v => match cellsF v with
      | some vs => bif Nat.beq vs.length size && Nat.ble (i * size + vs.length) cs.length then (match fl (putAt cs (i * size) vs) with
          | some cs' => fillS ρ size cs' r
          | none => none) else none
      | none => none
    | none => none

def Tab.lit {P : Program} (T : Tab P) (ρ : Env) (t : TypeId) (n : Nat) (ps : List (Nat × Operand)) : Option (List Value) :=
  match T.elem t with
  | some (_, ei) => match cellsF ei.zero with
    | some zs => bif Nat.ble (n * ei.size) 16777216 && Nat.beq zs.length ei.size then fillS ρ ei.size (zeroRow zs (n * ei.size)) ps else none
    | none => none
  | none => none

theorem run_fillS {a : Act} {ρ : Env} (hA : Agree a ρ) (size : Nat) :
    ∀ (ps : List (Nat × Operand)) (cs l : List Value), fillS ρ size cs ps = some l → Instr.fill (fun i => some (i * size, size)) ⟨cs⟩ (ps.map fun p => (p.1, a.eval p.2)) = some ⟨l⟩
  | [], cs, l, h => by
    simp only [fillS, fl_eq, Option.some.injEq] at h; subst h; rfl
  | (i, x) :: r, cs, l, h => by
    unfold fillS at h
    split at h
    · rename_i v hv
      split at h
      · rename_i vs hvs
        cases hb : (Nat.beq vs.length size && Nat.ble (i * size + vs.length) cs.length) with
        | false => simp [hb] at h
        | true =>
          simp only [hb, cond_true, fl_eq] at h
          simp only [Bool.and_eq_true] at hb
          have h1 := Nat.eq_of_beq_eq_true hb.1
          have h2 := Nat.le_of_ble_eq_true hb.2
          have ih := run_fillS hA size r _ l h
          have hc := cellsF_eq hvs
          simp only [List.map_cons, Instr.fill, hA.eval hv, hc]
          have hn : ¬ ((⟨vs⟩ : Array Value).size ≠ size ∨ i * size + (⟨vs⟩ : Array Value).size > (⟨cs⟩ : Array Value).size) := by
            simp; omega
          have e := foldl_putAt vs cs (i * size) 0
          simp only [Nat.add_zero] at e
          have hz : (⟨vs⟩ : Array Value).zipIdx = ⟨vs.zipIdx⟩ := by apply Array.ext'; simp
          have e2 : Array.foldl (fun (a : Array Value) (p : Value × Nat) => a.setIfInBounds (i * size + p.2) p.1) (⟨cs⟩ : Array Value) (⟨vs⟩ : Array Value).zipIdx = ⟨putAt cs (i * size) vs⟩ := by
            rw [← Array.foldl_toList, hz]; exact e
          rw [if_neg (by simpa using hn)]
          exact (congrArg (fun z => Instr.fill (fun i => some (i * size, size)) z (r.map fun p => (p.1, a.eval p.2))) e2).trans ih
      · cases h
    · cases h

theorem OT.lit (T : Tab P) {t : TypeId} {n d : Nat} {ps : List (Nat × Operand)} {cs : List Value} (ho : o.op = .buildSlice t n ⟨ps⟩) (hd : o.dst = some d) (hN : Nat.blt d N = true)
    (hv : T.lit ρ t n ps = some cs) (hK : ∀ b, K ((d, .slice (some ⟨b, 0, none⟩) n n) :: ρ) m (.cells b 0 cs :: L)) : OT P N o ρ D m L Q K := by
  intro a w ha
  unfold Tab.lit at hv
  split at hv
  · rename_i e ei he
    split at hv
    · rename_i zs hz
      cases hb : (Nat.ble (n * ei.size) 16777216 && Nat.beq zs.length ei.size) with
      | false => simp [hb] at hv
      | true =>
        simp only [hb, cond_true] at hv
        simp only [Bool.and_eq_true] at hb
        have hle := Nat.le_of_ble_eq_true hb.1
        have hzl := Nat.eq_of_beq_eq_true hb.2
        obtain ⟨ti, h4, h5, h6⟩ := elem_get he
        have hu := T.run_underlying w h4
        rw [h5] at hu
        have hs := T.run_sizeOf w h6
        have hzr := T.run_zero w h6
        have hzc := cellsF_eq hz
        have hfill := run_fillS ha.env ei.size ps _ _ hv
        have hrow : ((Array.range (n * ei.size)).map fun i => (if n * ei.size = 0 then (#[] : Array Value) else ⟨zs⟩)[i % (if n * ei.size = 0 then (#[] : Array Value) else ⟨zs⟩).size]!) = ⟨zeroRow zs (n * ei.size)⟩ := by
          by_cases h0 : n * ei.size = 0
          · rw [h0]; apply Array.ext'; simp [zeroRow]
          · apply Array.ext'
            simp only [h0, if_false, Array.toList_map, Array.toList_range, zeroRow]
            apply List.map_congr_left
            intro i hi
            have : 0 < zs.length := by
              rw [hzl]; rcases Nat.eq_zero_or_pos ei.size with h | h
              · rw [h] at h0; simp at h0
              · exact h
            have hlt := Nat.mod_lt i this
            simp [hlt]
        have hr : (execOp a.eval o).run P w = .ok (.value (.slice (some ⟨w.heap.size, 0, none⟩) n n)) (w.alloc (.cells ⟨cs⟩ e)) := by
          have e3 : ((⟨ps⟩ : Array (Nat × Operand)).map fun (p : Nat × Operand) => (p.1, a.eval p.2)).toList = ps.map fun p => (p.1, a.eval p.2) := by simp
          have hlim : ¬ (n * ei.size > 2 ^ 24) := by omega
          simp only [execOp, ho, Instr.buildSlice, Sem.run_bind, hu, hs, Result.andThen_ok, if_neg hlim]
          by_cases h0 : n * ei.size = 0
          · simp only [h0, if_true, Sem.run_bind, Sem.run_pure, Result.andThen_ok] at hrow hfill ⊢
            rw [hrow, e3, hfill]
            simp only [newRow, Sem.run_bind, run_newObj, Result.andThen_ok, Sem.run_pure, World.alloc_eq]
          · simp only [h0, if_false, Sem.run_bind, hzr, Result.andThen_ok, Sem.run_pure, hzc] at hrow ⊢
            rw [hrow, e3, hfill]
            simp only [newRow, Sem.run_bind, run_newObj, Result.andThen_ok, Sem.run_pure, World.alloc_eq]
        simp only [Oper.wp, hr, Oper.upon, hd]
        have hp := ha.put hN (.slice (some ⟨w.heap.size, 0, none⟩) n n)
        exact ⟨_, _, _, ⟨hp.size, hp.env, hp.defers, ha.st.allocCells ⟨cs⟩ e⟩, hK _⟩
    · cases hv
  · cases hv

/-- one element, in a slice of its own -/
theorem SlRep.one {H α : Type} {r : R H α} {b : Nat} {h : H} {a : α} (hA : At m b 0 (r.enc h)) (hr : r.rep m h a) (hb : r.bytes ≤ 140737488355328) : SlRep r m ⟨some ⟨b, 0, none⟩, 1, 1⟩ [a] :=
  ⟨rfl, Nat.le_refl _, by simpa using hb, [h], ⟨hr, trivial⟩, .inr ⟨b, 0, rfl, by simpa [encs] using hA⟩⟩

/-- append(xs, x): the one element lies in the item in front (a literal), the room of xs is item i of the others -/
theorem OT.append1 {H α : Type} (T : Tab P) (r : R H α) (i : Nat) {s : Sl} {l : List α} {hd' : H} {a : α} {b : Nat} {x y : Operand} {t t2 : TypeId} {d : Nat} (hs : SlRep r m s l) (hown : Own s) (hr : r.rep m hd' a)
    (ho : o.op = .call ⟨.builtin .append, ⟨[x, y]⟩, ⟨[t, t2]⟩⟩) (hd : o.dst = some d) (hN : Nat.blt d N = true) (hx : ev ρ x = some s.v) (hy : ev ρ y = some (.slice (some ⟨b, 0, none⟩) 1 1)) (hT : T.okElem t t2 r.size r.bytes = true)
    (hi : L[i]? = some (tok s r.size)) (hfit : (l.length + 1) * r.bytes ≤ 140737488355328)
    (hK : ∀ s' m', m ≤ m' → SlRep r m' s' (l ++ [a]) → Own s' → K ((d, s'.v) :: ρ) m' (L.set i (tok s' r.size))) : OT P N o ρ D m (.cells b 0 (r.enc hd') :: L) Q K := by
  obtain ⟨e, e2, ei, ei2, q1, q2, q3, q4, q5, q6⟩ := okElem_get hT
  intro ac w ha
  obtain ⟨hl, h1, h2, h3, h4⟩ := hs.src ha.st
  have hb : 0 < ei.bytes := by omega
  have hcells := ha.st.cells (i := 0) rfl
  have hsub : St m w L := ha.st.sub (List.sublist_cons_self _ _)
  have hsrc : Src w ⟨some ⟨b, 0, none⟩, 1, 1⟩ r.size (r.enc hd') := ⟨by rw [r.enc_len]; simp, .inr ⟨b, 0, rfl, hcells⟩⟩
  obtain ⟨s', m', w', hr', g1, g2, g3, g4, g5, g6⟩ := run_append (P := P) (ty := o.type) T q1 q2 hsub (by rw [q3]; exact hi) hown (by rw [q3]; exact h2) (by rw [q3]; exact hsrc) (fun hz => by cases hz) (r.one hd') q6 hs.cap hb
    (by rw [hs.len, q4]; exact hfit) h4
  have he : (execOp ac.eval o).run P w = .ok (.value s'.v) w' := by
    simp only [execOp, ho, resolve, invoke, builtin, Sem.run_bind, Sem.run_pure, Result.andThen_ok, List.map_toArray, List.map_cons, List.map_nil, ha.env.eval hx, ha.env.eval hy]
    simp only [List.map_toArray, List.map_cons, List.map_nil, ha.env.eval hx, ha.env.eval hy, hr', Result.andThen_ok]
  have hrep : SlRep r m' s' (l ++ [a]) := by
    have hlen : s'.len = l.length + 1 := by rw [g4, hs.len]
    refine ⟨by rw [hlen]; simp, g5, by rw [hlen]; exact hfit, hl ++ [hd'], (h1.mono fun _ _ => r.mono g1).append ⟨r.mono g1 hr, trivial⟩, ?_⟩
    rcases g6 with ⟨e1, e2, e3⟩ | ⟨b', off, e1, e2⟩
    · have hz : s'.len = 0 := by
        rcases g3 with e | ⟨b', off, e⟩
        · rw [e]
        · rw [e1] at e; cases e
      omega
    · right
      exact ⟨b', off, e1, by rw [encs_append]; simpa [encs] using e2⟩
  simp only [Oper.wp, he, Oper.upon]
  rw [hd]
  have hp := ha.put hN s'.v
  rw [q3] at g2
  exact ⟨_, _, _, ⟨hp.size, hp.env, hp.defers, g2⟩, hK s' m' g1 hrep g3⟩

/-! make -/
theorem OT.make (T : Tab P) {t : TypeId} {n d : Nat} {z : Value} {x y : Operand} {e : TypeId} {ei : TI} (ho : o.op = .makeSlice t x y) (hd : o.dst = some d) (hN : Nat.blt d N = true)
    (hx : ev ρ x = some (.int .i64 (n : Int))) (hy : ev ρ y = some (.int .i64 (n : Int))) (he : T.elem t = some (e, ei)) (hs : Nat.beq ei.size 1 = true) (hz : cellsF ei.zero = some [z]) (hfit : n * ei.bytes ≤ 281474976710656) (hb : Nat.blt 0 ei.bytes = true)
    (hK : ∀ b, K ((d, .slice (some ⟨b, 0, none⟩) n n) :: ρ) m (.cells b 0 (List.replicate n z) :: L)) : OT P N o ρ D m L Q K := by
  intro a w ha
  obtain ⟨ti, h4, h5, h6⟩ := elem_get he
  have hu := T.run_underlying w h4
  rw [h5] at hu
  obtain ⟨info, q1, q2, q3, q4, q5⟩ := T.ok e ei h6
  have hs1 := Nat.eq_of_beq_eq_true hs
  have hbp : 0 < ei.bytes := by simpa [Nat.blt_eq] using hb
  have hn : n ≤ 281474976710656 := Nat.le_trans (Nat.le_mul_of_pos_right _ hbp) hfit
  have hzc := cellsF_eq hz
  obtain ⟨_, _, hu', _⟩ := T.ok t ti h4
  rw [h5] at hu'
  have hcast : ((info.bytes : Int) * (n : Int)) = ((n * ei.bytes : Nat) : Int) := by rw [q4, Nat.mul_comm]; simp
  have hmk := run_make (P := P) w t e info ei.zero hu' q1 q5 .i64 .i64 (n : Int) (n : Int) (by omega) (by omega) (by rw [hcast]; omega) (by omega)
  have hrow : madeCells (⟨[z]⟩ : Array Value) (n * 1) = ⟨List.replicate n z⟩ := by
    apply Array.ext'
    simp only [madeCells, Nat.mul_one, Array.toList_map, Array.toList_range]
    apply List.ext_getElem
    · simp
    · intro i h1 h2
      simp [Nat.mod_one]
  rw [Int.toNat_natCast, q3, hs1, hzc, hrow] at hmk
  have hr : (execOp a.eval o).run P w = .ok (.value (.slice (some ⟨w.heap.size, 0, none⟩) n n)) (w.alloc (.cells ⟨List.replicate n z⟩ e)) := by
    simp only [execOp, ho, ha.env.eval hx, ha.env.eval hy, Sem.run_bind, hmk, Result.andThen_ok, Sem.run_pure]
  simp only [Oper.wp, hr, Oper.upon, hd]
  have hp := ha.put hN (.slice (some ⟨w.heap.size, 0, none⟩) n n)
  exact ⟨_, _, _, ⟨hp.size, hp.env, hp.defers, ha.st.allocCells ⟨List.replicate n z⟩ e⟩, hK _⟩

/-! cutting -/
theorem run_sliceAt (T : Tab P) {t : TypeId} {sz : Nat} {s : Sl} {lo hi : Nat} {lov hiv : Option Value} {w : World} (he : T.esize t = some sz)
    (h1 : (lov = none ∧ lo = 0) ∨ lov = some (.int .i64 (lo : Int))) (h2 : (hiv = none ∧ hi = s.len) ∨ hiv = some (.int .i64 (hi : Int))) (hle : lo ≤ hi) (hcap : hi ≤ s.cap) :
    (Instr.sliceAt t s.v lov hiv none).run P w = .ok (.slice (if s.cap = lo then s.a else s.a.map (·.add (lo * sz))) (hi - lo) (s.cap - lo)) w := by
  obtain ⟨e, ei, g2, g3⟩ := esize_get he
  obtain ⟨ti, h4, h5, h6⟩ := elem_get g2
  have hu := T.run_underlying w h4
  rw [h5] at hu
  have hs := T.run_sizeOf w h6
  rw [g3] at hs
  have hb : (Instr.sliceBounds true s.len s.cap lov hiv none).run P w = .ok (lo, hi, s.cap) w := by
    have q1 : ∀ y code, lo ≤ y → (Instr.sliceBound (.int .i64 (lo : Int)) y code).run P w = .ok lo w := fun y code hy => by
      have : (0 : Int) ≤ (lo : Int) ∧ (lo : Int) ≤ (y : Int) := ⟨by omega, by omega⟩
      simp [Instr.sliceBound, asIntOf, this]
    have q2 : ∀ y code, hi ≤ y → (Instr.sliceBound (.int .i64 (hi : Int)) y code).run P w = .ok hi w := fun y code hy => by
      have : (0 : Int) ≤ (hi : Int) ∧ (hi : Int) ≤ (y : Int) := ⟨by omega, by omega⟩
      simp [Instr.sliceBound, asIntOf, this]
    rcases h1 with ⟨rfl, rfl⟩ | rfl <;> rcases h2 with ⟨rfl, rfl⟩ | rfl
    · simp [Instr.sliceBounds]
    · simp [Instr.sliceBounds, q2 _ _ hcap]
    · simp [Instr.sliceBounds, q1 _ _ hle]
    · simp [Instr.sliceBounds, q2 _ _ hcap, q1 _ _ hle]
  simp only [Instr.sliceAt, Sem.run_bind, hu, Result.andThen_ok, Instr.slice, hb, hs, Sem.run_pure]

def evO (ρ : Env) : Option Operand → Option (Option Value)
  | none => some none
  | some x => match fo (ev ρ x) with
    | some v => some (some v)
    | none => none

theorem Agree.evalO {a : Act} {ρ : Env} (h : Agree a ρ) {x : Option Operand} {v : Option Value} (hx : evO ρ x = some v) : x.map a.eval = v := by
  cases x with
  | none => simp only [evO, Option.some.injEq] at hx; subst hx; rfl
  | some x =>
    simp only [evO, fo_eq] at hx
    split at hx
    · rename_i u hu
      simp only [Option.some.injEq] at hx; subst hx
      simp [h.eval hu]
    · cases hx

theorem SlRep.cut {H α : Type} {r : R H α} {s : Sl} {l : List α} (h : SlRep r m s l) {lo hi : Nat} (hle : lo ≤ hi) (hhi : hi ≤ l.length) :
    SlRep r m ⟨if s.cap = lo then s.a else s.a.map (·.add (lo * r.size)), hi - lo, s.cap - lo⟩ ((l.take hi).drop lo) := by
  obtain ⟨hs, h1, h2⟩ := h.cells
  have hlen := h.len
  have hcap := h.cap
  have hfit := h.fit
  refine ⟨by simp; omega, by simp only; omega, ?_, (hs.take hi).drop lo, (h1.take hi).drop lo, ?_⟩
  · exact Nat.le_trans (Nat.mul_le_mul_right _ (by simp only; omega)) hfit
  · by_cases hc : s.cap = lo
    · left
      refine ⟨List.eq_nil_of_length_eq_zero (by simp; omega), fun _ => by simp only; omega⟩
    · rcases h2 with ⟨h2, h3⟩ | ⟨b, off, h3, h4⟩
      · left
        subst h2
        simp only [List.length_nil] at hhi
        refine ⟨by simp, fun ha => ?_⟩
        simp only [if_neg hc, Option.map_eq_none_iff] at ha
        have := h3 ha
        simp only; omega
      · right
        refine ⟨b, off + lo * r.size, by simp only [if_neg hc, h3, Option.map_some, addr_add], fun j v hv => ?_⟩
        rw [Nat.add_assoc]
        refine h4 _ _ ?_
        have e1 : hs = (hs.take hi).take lo ++ ((hs.take hi).drop lo ++ hs.drop hi) := by rw [← List.append_assoc, List.take_append_drop, List.take_append_drop]
        rw [e1, encs_append, encs_append]
        have hl1 : (encs r ((hs.take hi).take lo)).length = lo * r.size := by
          rw [encs_len, List.length_take, List.length_take, h1.length]
          congr 1; omega
        rw [List.getElem?_append_right (by omega), hl1, show lo * r.size + j - lo * r.size = j by omega]
        rw [List.getElem?_append_left (List.getElem?_eq_some_iff.1 hv).1]
        exact hv

/-- xs[lo:hi] of a slice that is read -/
theorem OT.cut {H α : Type} (T : Tab P) (r : R H α) {s : Sl} {l : List α} (lo hi : Nat) {x : Operand} {lx hx : Option Operand} {lov hiv : Option Value} {t : TypeId} {d : Nat} (hs : SlRep r m s l)
    (ho : o.op = .slice t x lx hx none) (hd : o.dst = some d) (hN : Nat.blt d N = true) (he : ev ρ x = some s.v) (h1 : evO ρ lx = some lov) (h2 : evO ρ hx = some hiv) (hsz : T.esize t = some r.size)
    (g1 : (lov = none ∧ lo = 0) ∨ lov = some (.int .i64 (lo : Int))) (g2 : (hiv = none ∧ hi = s.len) ∨ hiv = some (.int .i64 (hi : Int))) (hle : lo ≤ hi) (hhi : hi ≤ l.length)
    (hK : ∀ s' : Sl, SlRep r m s' ((l.take hi).drop lo) → K ((d, s'.v) :: ρ) m L) : OT P N o ρ D m L Q K := by
  refine OT.run hd hN (fun a w ha => ⟨w, ?_, ha.st⟩) (hK _ (hs.cut hle hhi))
  have hcap := hs.cap
  have hlen := hs.len
  have hr := run_sliceAt (P := P) T (w := w) hsz g1 g2 hle (by omega)
  simp only [execOp, ho, ha.env.eval he, ha.env.evalO h1, ha.env.evalO h2, Option.map_none, Sem.run_bind, hr, Result.andThen_ok, Sem.run_pure]

/-- xs[lo:hi] of a slice whose address is known; lo below the capacity -/
theorem OT.cutP (T : Tab P) (lo hi : Nat) {x : Operand} {lx hx : Option Operand} {lov hiv : Option Value} {t : TypeId} {d b i n c sz : Nat}
    (ho : o.op = .slice t x lx hx none) (hd : o.dst = some d) (hN : Nat.blt d N = true) (he : ev ρ x = some (.slice (some ⟨b, i, none⟩) n c)) (h1 : evO ρ lx = some lov) (h2 : evO ρ hx = some hiv) (hsz : T.esize t = some sz)
    (g1 : (lov = none ∧ lo = 0) ∨ lov = some (.int .i64 (lo : Int))) (g2 : (hiv = none ∧ hi = n) ∨ hiv = some (.int .i64 (hi : Int))) (hle : lo ≤ hi) (hhi : hi ≤ c)
    (hK : K ((d, .slice (some ⟨b, if c = lo then i else i + lo * sz, none⟩) (hi - lo) (c - lo)) :: ρ) m L) : OT P N o ρ D m L Q K := by
  refine OT.run hd hN (fun a w ha => ⟨w, ?_, ha.st⟩) hK
  have hr := run_sliceAt (P := P) T (s := ⟨some ⟨b, i, none⟩, n, c⟩) (w := w) hsz g1 g2 hle hhi
  simp only [Sl.v] at hr
  simp only [execOp, ho, ha.env.eval he, ha.env.evalO h1, ha.env.evalO h2, Option.map_none, Sem.run_bind, hr, Result.andThen_ok, Sem.run_pure]
  congr 2
  split <;> simp [addr_add]
end
end Go.Sep
