/-
  Rules: stepping through a region; loads, stores, new blocks, calls, arithmetic.
-/
import Derived.Test.YtlpcakplpnpaeaaSepC
set_option linter.unusedVariables false
set_option linter.unusedSimpArgs false
namespace Go.Sep

/-- is the operation wanted? (none: its guard is not known) -/
def gv (full : List Oper) (ρ : Env) (o : Oper) : Option Bool :=
  match o.guard with
  | none => some true
  | some (j, want) => match full[j]? with
    | some oj => match oj.dst with
      | some d => match look ρ d with
        | some (.bool true) => some want
        | some (.bool false) => some (!want)
        | some (.tuple _) => some false
        | _ => none
      | none => none
    | none => none

def gslot (full : List Oper) (o : Oper) : Option Nat :=
  match o.guard with
  | none => none
  | some (j, _) => match full[j]? with
    | some oj => oj.dst
    | none => none

theorem gv_wanted {full : List Oper} {ρ : Env} {o : Oper} {b : Bool} (h : gv full ρ o = some b) {a : Act} (hA : Agree a ρ) : Region.wanted o (yielded ⟨full⟩ a.tmps) = b := by
  unfold gv at h
  unfold Region.wanted
  split at h
  · rename_i hg; rw [hg]; simpa using h
  · rename_i j want hg
    rw [hg]
    simp only
    split at h
    · rename_i oj hj
      split at h
      · rename_i d hd
        have hy : ∀ c, look ρ d = some (.bool c) → yielded ⟨full⟩ a.tmps j = some c := fun c hc => by
          have := hA d _ hc
          simp [yielded, hj, hd, this]
        split at h
        · rename_i hl; rw [hy _ hl]; simp only [Option.some.injEq] at h; subst h; cases want <;> rfl
        · rename_i hl; rw [hy _ hl]; simp only [Option.some.injEq] at h; subst h; cases want <;> rfl
        · rename_i vs hl
          have := hA d _ hl
          have hn : yielded ⟨full⟩ a.tmps j = none := by simp [yielded, hj, hd, this]
          rw [hn]; simp only [Option.some.injEq] at h; subst h; rfl
        · cases h
      · cases h
    · cases h

inductive PR where
  | go (ρ : Env) (l : List Oper)

def gok (B : Nat) (o : Oper) : Bool :=
  match o.guard with
  | none => true
  | some (j, _) => Nat.blt j B

def runPure {P : Program} (T : Tab P) (N : Nat) (full : List Oper) (B : Nat) : List Oper → Env → PR
  | [], ρ => .go ρ []
  | o :: r, ρ => bif gok B o then (match gv full ρ o with
    | some true => match o.dst with
      | some d => bif Nat.blt d N then (match evalOp T ρ o.op with
          | some v => runPure T N full B r ((d, v) :: ρ)
          | none => .go ρ (o :: r)) else .go ρ (o :: r)
      | none => .go ρ (o :: r)
    | some false => match o.dst with
      | some d => bif Nat.blt d N then runPure T N full B r ((d, undef) :: ρ) else .go ρ (o :: r)
      | none => runPure T N full B r ρ
    | none => .go ρ (o :: r)) else .go ρ (o :: r)

section
variable {P : Program} {N : Nat} {ρ : Env} {D : List Deferred} {m : Mem} {L : List Item} {Q : EPost} {full : List Oper}

theorem Ok.put {a : Act} {w : World} (h : Ok N ρ D m L a w) {d : Nat} (hd : Nat.blt d N = true) (v : Value) : Ok N ((d, v) :: ρ) D m L (a.put (some d) v) w := by
  have h1 : d < N := by simpa [Nat.blt_eq] using hd
  exact ⟨by simpa using h.size, h.env.put (Nat.lt_of_lt_of_le h1 h.size) v, by simpa using h.defers, h.st⟩

theorem TO.nil {ops : Array Oper} (h : Q .normal ρ D m L) : TO P N ops [] ρ D m L Q := fun _ _ ha => ⟨ρ, D, m, L, ha, h⟩

theorem wpList_yes {ops : Array Oper} {R : Exit → Act → World → Prop} {o : Oper} {rest : List Oper} {a : Act} {w : World} (hw : Region.wanted o (yielded ops a.tmps) = true)
    (h : o.wp P a w (wpList P ops R rest) R) : wpList P ops R (o :: rest) a w := by
  unfold wpList; rw [if_pos hw]; exact .inl h
theorem wpList_no {ops : Array Oper} {R : Exit → Act → World → Prop} {o : Oper} {rest : List Oper} {a : Act} {w : World} (hw : Region.wanted o (yielded ops a.tmps) = false)
    (h : wpList P ops R rest (a.put o.dst undef) w) : wpList P ops R (o :: rest) a w := by
  unfold wpList; rw [if_neg (by simp [hw])]; exact h

theorem TO.pure (T : Tab P) (B : Nat) : ∀ (l : List Oper) (ρ : Env) {ρ' : Env} {l' : List Oper}, runPure T N full B l ρ = .go ρ' l' → TO P N ⟨full⟩ l' ρ' D m L Q → TO P N ⟨full⟩ l ρ D m L Q
  | [], ρ, ρ', l', h, k => by
    simp only [runPure, PR.go.injEq] at h
    obtain ⟨rfl, rfl⟩ := h; exact k
  | o :: r, ρ, ρ', l', h, k => by
    unfold runPure at h
    cases hgk : gok B o with
    | false => simp only [hgk, cond_false, PR.go.injEq] at h; obtain ⟨rfl, rfl⟩ := h; exact k
    | true =>
    simp only [hgk, cond_true] at h
    split at h
    · rename_i hg
      split at h
      · rename_i d hd
        cases hb : Nat.blt d N with
        | false => simp only [hb, cond_false, PR.go.injEq] at h; obtain ⟨rfl, rfl⟩ := h; exact k
        | true =>
          simp only [hb, cond_true] at h
          split at h
          · rename_i v hv
            have ih := TO.pure T B r _ h k
            intro a w ha
            refine wpList_yes (gv_wanted hg ha.env) ?_
            simp only [Oper.wp, evalOp_run T ha.env hv w, Oper.upon, hd]
            exact ih _ _ (ha.put hb v)
          · simp only [PR.go.injEq] at h; obtain ⟨rfl, rfl⟩ := h; exact k
      · simp only [PR.go.injEq] at h; obtain ⟨rfl, rfl⟩ := h; exact k
    · rename_i hg
      split at h
      · rename_i d hd
        cases hb : Nat.blt d N with
        | false => simp only [hb, cond_false, PR.go.injEq] at h; obtain ⟨rfl, rfl⟩ := h; exact k
        | true =>
          simp only [hb, cond_true] at h
          have ih := TO.pure T B r _ h k
          intro a w ha
          refine wpList_no (gv_wanted hg ha.env) ?_
          rw [hd]
          exact ih _ _ (ha.put hb undef)
      · rename_i hd
        have ih := TO.pure T B r _ h k
        intro a w ha
        refine wpList_no (gv_wanted hg ha.env) ?_
        rw [hd]
        exact ih _ _ ha
    · simp only [PR.go.injEq] at h; obtain ⟨rfl, rfl⟩ := h; exact k

theorem TO.pureP (T : Tab P) {l : List Oper} {ρ : Env} {ρ' : Env} {l' : List Oper} (h : runPure T N full (full.length - l.length) l ρ = .go ρ' l') (hp : Nat.blt l'.length l.length = true)
    (k : TO P N ⟨full⟩ l' ρ' D m L Q) : TO P N ⟨full⟩ l ρ D m L Q := TO.pure T _ l ρ h k

theorem TO.step {o : Oper} {rest : List Oper} (hg : gv full ρ o = some true) (h : OT P N o ρ D m L Q (fun ρ' m' L' => TO P N ⟨full⟩ rest ρ' D m' L' Q)) : TO P N ⟨full⟩ (o :: rest) ρ D m L Q :=
  fun a w ha => wpList_yes (gv_wanted hg ha.env) (Oper.wp_mono (fun a' w' hl => by
    obtain ⟨ρ', m', L', h1, h2⟩ := hl
    exact h2 _ _ h1) (h a w ha))

theorem Ok.setKnown {a : Act} {w : World} (h : Ok N ρ D m L a w) {d : Nat} {v : Value} (hl : look ρ d = some v) : Ok N ((d, v) :: ρ) D m L a w := by
  refine ⟨h.size, fun i u hu => ?_, h.defers, h.st⟩
  simp only [look] at hu
  cases hb : Nat.beq d i with
  | true =>
    have : d = i := Nat.eq_of_beq_eq_true hb
    subst this
    simp only [hb, cond_true] at hu
    exact h.env d u (hl.trans hu)
  | false => simp only [hb, cond_false] at hu; exact h.env i u hu

/-- the cases of a guard that is not known -/
theorem TO.split {o : Oper} {rest : List Oper} {d : Nat} {b : Bool} (hg : gslot full o = some d) (hl : look ρ d = some (.bool b))
    (h1 : b = true → TO P N ⟨full⟩ (o :: rest) ((d, .bool true) :: ρ) D m L Q) (h2 : b = false → TO P N ⟨full⟩ (o :: rest) ((d, .bool false) :: ρ) D m L Q) : TO P N ⟨full⟩ (o :: rest) ρ D m L Q := by
  intro a w ha
  cases b with
  | true => exact h1 rfl a w (ha.setKnown hl)
  | false => exact h2 rfl a w (ha.setKnown hl)

theorem TO.splitP {o : Oper} {rest : List Oper} {d : Nat} {p : Prop} [Decidable p] (hg : gslot full o = some d) (hl : look ρ d = some (.bool (decide p)))
    (h1 : p → TO P N ⟨full⟩ (o :: rest) ((d, .bool true) :: ρ) D m L Q) (h2 : ¬ p → TO P N ⟨full⟩ (o :: rest) ((d, .bool false) :: ρ) D m L Q) : TO P N ⟨full⟩ (o :: rest) ρ D m L Q :=
  TO.split hg hl (fun h => h1 (of_decide_eq_true h)) (fun h => h2 (of_decide_eq_false h))
theorem TO.splitN {o : Oper} {rest : List Oper} {d : Nat} {p : Prop} [Decidable p] (hg : gslot full o = some d) (hl : look ρ d = some (.bool (!decide p)))
    (h1 : ¬ p → TO P N ⟨full⟩ (o :: rest) ((d, .bool true) :: ρ) D m L Q) (h2 : p → TO P N ⟨full⟩ (o :: rest) ((d, .bool false) :: ρ) D m L Q) : TO P N ⟨full⟩ (o :: rest) ρ D m L Q :=
  TO.split hg hl (fun h => h1 (by simpa using h)) (fun h => h2 (by simpa using h))

theorem TO.keep (ks : List Nat) {l : List Oper} {ρ' : Env} (hk : pickEnv ρ ks = some ρ') (h : TO P N ⟨full⟩ l ρ' D m L Q) : TO P N ⟨full⟩ l ρ D m L Q :=
  fun a w ha => h a w (ha.sub (pickEnv_sub hk))
theorem TO.drop {l : List Oper} {L' : List Item} (hs : L'.Sublist L) (h : TO P N ⟨full⟩ l ρ D m L' Q) : TO P N ⟨full⟩ l ρ D m L Q := fun a w ha => h a w (ha.sublist hs)
theorem TO.perm {l : List Oper} {L' : List Item} (hs : L.Perm L') (h : TO P N ⟨full⟩ l ρ D m L' Q) : TO P N ⟨full⟩ l ρ D m L Q := fun a w ha => h a w (ha.perm hs)

/-- a slot's value, said otherwise -/
theorem TO.conv {l : List Oper} {d : Nat} {v v' : Value} (h : TO P N ⟨full⟩ l ((d, v') :: ρ) D m L Q) (he : v = v') : TO P N ⟨full⟩ l ((d, v) :: ρ) D m L Q := by subst he; exact h

/-! ### one operation -/
variable {o : Oper} {K : Env → Mem → List Item → Prop}

theorem OT.run {d : Nat} {v : Value} {m' : Mem} {L' : List Item} (hd : o.dst = some d) (hN : Nat.blt d N = true)
    (h : ∀ a w, Ok N ρ D m L a w → ∃ w', (execOp a.eval o).run P w = .ok (.value v) w' ∧ St m' w' L') (hK : K ((d, v) :: ρ) m' L') : OT P N o ρ D m L Q K := by
  intro a w ha
  obtain ⟨w', hr, hs⟩ := h a w ha
  simp only [Oper.wp, hr, Oper.upon]
  refine ⟨_, _, _, ?_, hK⟩
  rw [hd]
  have := ha.put hN v
  exact ⟨this.size, this.env, this.defers, hs⟩

theorem OT.run0 {m' : Mem} {L' : List Item} (hd : o.dst = none)
    (h : ∀ a w, Ok N ρ D m L a w → ∃ w', (execOp a.eval o).run P w = .ok .skip w' ∧ St m' w' L') (hK : K ρ m' L') : OT P N o ρ D m L Q K := by
  intro a w ha
  obtain ⟨w', hr, hs⟩ := h a w ha
  simp only [Oper.wp, hr, Oper.upon]
  refine ⟨_, _, _, ?_, hK⟩
  rw [hd]
  exact ⟨ha.size, ha.env, ha.defers, hs⟩

/-! loads -/
def takeF : Nat → List Value → Option (List Value)
  | 0, _ => some []
  | n + 1, x :: xs => match fo (some x), takeF n xs with
    | some y, some ys => some (y :: ys)
    | _, _ => none
  | _ + 1, [] => none

theorem takeF_eq : ∀ {n : Nat} {l r : List Value}, takeF n l = some r → r = l.take n ∧ r.length = n
  | 0, l, r, h => by simp only [takeF, Option.some.injEq] at h; subst h; simp
  | n + 1, [], r, h => by simp [takeF] at h
  | n + 1, x :: xs, r, h => by
    simp only [takeF, fo_eq] at h
    split at h
    · rename_i y ys h1 h2
      simp only [Option.some.injEq] at h h1
      subst h1; subst h
      obtain ⟨h3, h4⟩ := takeF_eq h2
      simp [h3]
      subst h3
      simpa using h4
    · cases h

def Tab.load {P : Program} (T : Tab P) (t : TypeId) (cs : List Value) (k : Nat) : Option Value :=
  match T.isAgg t with
  | some (true, n) => match takeF n (cs.drop k) with
    | some l => some (.agg ⟨l⟩)
    | none => none
  | some (false, _) => fo cs[k]?
  | none => none

def Cells (w : World) (b off : Nat) (cs : List Value) : Prop := ∀ j v, cs[j]? = some v → w.cell? ⟨b, off + j, none⟩ = some v

theorem addr_add (b o k : Nat) : (⟨b, o, none⟩ : Addr).add k = ⟨b, o + k, none⟩ := by unfold Addr.add; split <;> simp_all

theorem isAgg_get {T : Tab P} {t : TypeId} {g : Bool} {n : Nat} (h : T.isAgg t = some (g, n)) : ∃ i, T.get t = some i ∧ TypeDesc.isAgg i.u = g ∧ i.size = n := by
  unfold Tab.isAgg at h
  split at h
  · rename_i i hi
    simp only [Option.some.injEq, Prod.mk.injEq] at h
    exact ⟨i, hi, h.1, h.2⟩
  · cases h

theorem run_loadVar (T : Tab P) {w : World} {b off k : Nat} {cs : List Value} {t : TypeId} {v : Value} (hc : Cells w b off cs) (h : T.load t cs k = some v) :
    (loadVar t ⟨b, off + k, none⟩).run P w = .ok v w := by
  unfold Tab.load at h
  split at h
  · rename_i n hi
    obtain ⟨i, hg, h1, h2⟩ := isAgg_get hi
    split at h
    · rename_i l hl
      simp only [Option.some.injEq] at h; subst h
      obtain ⟨h3, h4⟩ := takeF_eq hl
      have hr := run_loadCells_list (P := P) w ⟨b, off + k, none⟩ l (fun j v hv => by
        rw [addr_add, Nat.add_assoc]
        refine hc _ _ ?_
        rw [h3, List.getElem?_take] at hv
        split at hv
        · rwa [List.getElem?_drop] at hv
        · cases hv)
      rw [h4] at hr
      simp only [loadVar, Sem.run_bind, T.run_isAgg w hg, T.run_sizeOf w hg, Result.andThen_ok, h1, if_true, h2, hr, Sem.run_pure]
    · cases h
  · rename_i n hi
    obtain ⟨i, hg, h1, h2⟩ := isAgg_get hi
    rw [fo_eq] at h
    have := hc k v h
    simp only [loadVar, Sem.run_bind, T.run_isAgg w hg, Result.andThen_ok, h1, Bool.false_eq_true, if_false]
    simp [this]
  · cases h

theorem St.cells {w : World} {i b off : Nat} {vs : List Value} (h : St m w L) (hi : L[i]? = some (.cells b off vs)) : Cells w b off vs := fun j v hv =>
  (h.items _ (List.mem_of_getElem? hi) j v hv).1
theorem St.at_cells {w : World} {b off : Nat} {vs : List Value} (h : St m w L) (hi : At m b off vs) : Cells w b off vs := fun j v hv => h.c _ _ _ (hi j v hv)

theorem OT.loadC (T : Tab P) {x : Operand} {t : TypeId} {b off k d : Nat} {cs : List Value} {v : Value} (ho : o.op = .load t x) (hd : o.dst = some d) (hN : Nat.blt d N = true)
    (hx : ev ρ x = some (.pointer (some ⟨b, off + k, none⟩))) (hc : ∀ w, St m w L → Cells w b off cs) (hv : T.load t cs k = some v) (hK : K ((d, v) :: ρ) m L) : OT P N o ρ D m L Q K :=
  OT.run hd hN (fun a w ha => ⟨w, by
    have := run_loadVar T (hc w ha.st) hv
    simp only [execOp, ho, ha.env.eval hx, Sem.run_bind, Instr.loadAt, Instr.sureAddr, Sem.run_pure, Result.andThen_ok, this], ha.st⟩) hK

/-- a load of an owned variable (place i of the items), from its cell k on -/
theorem OT.loadL (T : Tab P) (i : Nat) {x : Operand} {t : TypeId} {b off k d : Nat} {cs : List Value} {v : Value} (ho : o.op = .load t x) (hd : o.dst = some d) (hN : Nat.blt d N = true)
    (hx : ev ρ x = some (.pointer (some ⟨b, off + k, none⟩))) (hi : L[i]? = some (.cells b off cs)) (hv : T.load t cs k = some v) (hK : K ((d, v) :: ρ) m L) : OT P N o ρ D m L Q K :=
  OT.loadC T ho hd hN hx (fun _ h => h.cells hi) hv hK
theorem OT.loadL0 (T : Tab P) (i : Nat) {x : Operand} {t : TypeId} {b off d : Nat} {cs : List Value} {v : Value} (ho : o.op = .load t x) (hd : o.dst = some d) (hN : Nat.blt d N = true)
    (hx : ev ρ x = some (.pointer (some ⟨b, off, none⟩))) (hi : L[i]? = some (.cells b off cs)) (hv : T.load t cs 0 = some v) (hK : K ((d, v) :: ρ) m L) : OT P N o ρ D m L Q K :=
  OT.loadC (k := 0) T ho hd hN hx (fun _ h => h.cells hi) hv hK
/-- a load of what is known for ever -/
theorem OT.loadA (T : Tab P) {x : Operand} {t : TypeId} {b off k d : Nat} {cs : List Value} {v : Value} (hi : At m b off cs) (ho : o.op = .load t x) (hd : o.dst = some d) (hN : Nat.blt d N = true)
    (hx : ev ρ x = some (.pointer (some ⟨b, off + k, none⟩))) (hv : T.load t cs k = some v) (hK : K ((d, v) :: ρ) m L) : OT P N o ρ D m L Q K :=
  OT.loadC T ho hd hN hx (fun _ h => h.at_cells hi) hv hK
theorem OT.loadA0 (T : Tab P) {x : Operand} {t : TypeId} {b off d : Nat} {cs : List Value} {v : Value} (hi : At m b off cs) (ho : o.op = .load t x) (hd : o.dst = some d) (hN : Nat.blt d N = true)
    (hx : ev ρ x = some (.pointer (some ⟨b, off, none⟩))) (hv : T.load t cs 0 = some v) (hK : K ((d, v) :: ρ) m L) : OT P N o ρ D m L Q K :=
  OT.loadC (k := 0) T ho hd hN hx (fun _ h => h.at_cells hi) hv hK

/-! new blocks -/
theorem OT.box {x : Operand} {t : TypeId} {d : Nat} {v : Value} {cs : List Value} (ho : o.op = .box t x) (hd : o.dst = some d) (hN : Nat.blt d N = true)
    (hx : ev ρ x = some v) (hv : cellsF v = some cs) (hK : ∀ b, K ((d, .pointer (some ⟨b, 0, none⟩)) :: ρ) m (.cells b 0 cs :: L)) : OT P N o ρ D m L Q K := by
  intro a w ha
  have hr : (execOp a.eval o).run P w = .ok (.value (.pointer (some ⟨w.heap.size, 0, none⟩))) (w.alloc (.cells ⟨cs⟩ t)) := by
    simp only [execOp, ho, ha.env.eval hx, Instr.box, newVar, newRow, cellsF_eq hv, Sem.run_bind, Sem.run_pure, run_newObj, Result.andThen_ok, World.alloc_eq]
  simp only [Oper.wp, hr, Oper.upon, hd]
  have hp := ha.put hN (.pointer (some ⟨w.heap.size, 0, none⟩))
  exact ⟨_, _, _, ⟨hp.size, hp.env, hp.defers, ha.st.allocCells ⟨cs⟩ t⟩, hK _⟩

def Tab.zeroCells {P : Program} (T : Tab P) (t : TypeId) : Option (List Value) :=
  match T.get t with
  | some i => cellsF i.zero
  | none => none

theorem OT.alloc (T : Tab P) {t : TypeId} {d : Nat} {cs : List Value} (ho : o.op = .alloc t) (hd : o.dst = some d) (hN : Nat.blt d N = true)
    (hv : T.zeroCells t = some cs) (hK : ∀ b, K ((d, .pointer (some ⟨b, 0, none⟩)) :: ρ) m (.cells b 0 cs :: L)) : OT P N o ρ D m L Q K := by
  intro a w ha
  unfold Tab.zeroCells at hv
  split at hv
  · rename_i i hi
    have hr : (execOp a.eval o).run P w = .ok (.value (.pointer (some ⟨w.heap.size, 0, none⟩))) (w.alloc (.cells ⟨cs⟩ t)) := by
      simp only [execOp, ho, Instr.alloc, newVar, newRow, cellsF_eq hv, Sem.run_bind, Sem.run_pure, run_newObj, Result.andThen_ok, World.alloc_eq, T.run_zero w hi]
    simp only [Oper.wp, hr, Oper.upon, hd]
    have hp := ha.put hN (.pointer (some ⟨w.heap.size, 0, none⟩))
    exact ⟨_, _, _, ⟨hp.size, hp.env, hp.defers, ha.st.allocCells ⟨cs⟩ t⟩, hK _⟩
  · cases hv

/-! stores -/
def allOne : List Value → Bool
  | [] => true
  | v :: vs => v.oneCell' && allOne vs

theorem run_storeCells {b off : Nat} : ∀ (cs : List Value) (vs : List Value) (k i : Nat) (w : World), St m w (.cells b off vs :: L) → allOne cs = true → k + cs.length + i ≤ vs.length →
    ∃ w', (storeCells ⟨b, off + k, none⟩ cs i).run P w = .ok () w' ∧ St m w' (.cells b off (putAt vs (k + i) cs) :: L)
  | [], vs, k, i, w, h, _, _ => ⟨w, rfl, h⟩
  | c :: cs, vs, k, i, w, h, h1, h2 => by
    simp only [allOne, Bool.and_eq_true] at h1
    simp only [List.length_cons] at h2
    have hx := h.items _ (List.mem_cons_self ..)
    have hlt : k + i < vs.length := by omega
    obtain ⟨hc, hf⟩ := hx (k + i) vs[k + i] (by simp [hlt])
    have hs := h.set hlt c
    obtain ⟨w', hr, hst⟩ := run_storeCells cs (vs.set (k + i) c) k (i + 1) _ hs h1.2 (by simp; omega)
    refine ⟨w', ?_, by rw [show k + (i + 1) = k + i + 1 by omega] at hst; exact hst⟩
    simp only [storeCells, Sem.run_bind, addr_add, Nat.add_assoc, run_store P w _ c .plain h1.1, hc, hf, Bool.false_eq_true, if_false, Result.andThen_ok]
    rw [← Nat.add_assoc] at *
    exact hr

theorem run_storeVar (T : Tab P) {i : TI} {t : TypeId} {b off k : Nat} {vs cs : List Value} {v : Value} {w : World} (h : St m w (.cells b off vs :: L)) (hg : T.get t = some i) (hv : v.cells = ⟨cs⟩)
    (hsz : cs.length = i.size) (h1 : allOne cs = true) (hk : k + cs.length ≤ vs.length) :
    ∃ w', (storeVar t ⟨b, off + k, none⟩ v).run P w = .ok () w' ∧ St m w' (.cells b off (putAt vs k cs) :: L) := by
  obtain ⟨w', hr, hs⟩ := run_storeCells (P := P) cs vs k 0 w h h1 (by omega)
  refine ⟨w', ?_, hs⟩
  simp only [storeVar, Sem.run_bind, T.run_sizeOf w hg, Result.andThen_ok, hv]
  have : ¬ (⟨cs⟩ : Array Value).size ≠ i.size := by simpa using hsz
  rw [if_neg this]
  simpa using hr

def Tab.sizeOk {P : Program} (T : Tab P) (t : TypeId) (cs : List Value) : Bool :=
  match T.get t with
  | some i => Nat.beq cs.length i.size && allOne cs
  | none => false

def storeF (vs : List Value) (k : Nat) (cs : List Value) : Option (List Value) :=
  bif Nat.ble (k + cs.length) vs.length then fl (putAt vs k cs) else none

theorem OT.storeG (T : Tab P) (i : Nat) {x y : Operand} {t : TypeId} {b off k : Nat} {vs cs : List Value} {v : Value} (ho : o.op = .store t x y) (hd : o.dst = none)
    (hx : ev ρ x = some (.pointer (some ⟨b, off + k, none⟩))) (hy : ev ρ y = some v) (hv : cellsF v = some cs) (hs : T.sizeOk t cs = true) (hi : L[i]? = some (.cells b off vs)) (hk : k + cs.length ≤ vs.length)
    (hK : K ρ m (L.set i (.cells b off (putAt vs k cs)))) : OT P N o ρ D m L Q K := by
  refine OT.run0 hd (fun a w ha => ?_) hK
  unfold Tab.sizeOk at hs
  split at hs
  · rename_i ti hg
    simp only [Bool.and_eq_true] at hs
    obtain ⟨w', hr, hst⟩ := run_storeVar T (k := k) (ha.st.at_ hi) hg (cellsF_eq hv) (Nat.eq_of_beq_eq_true hs.1) hs.2 hk
    refine ⟨w', ?_, hst.back hi⟩
    simp only [execOp, ho, ha.env.eval hx, ha.env.eval hy, Instr.storeAt, Instr.sureAddr, Sem.run_bind, Sem.run_pure, Result.andThen_ok, hr]
  · cases hs

/-- a store into an owned variable whose cells are written out -/
theorem OT.storeL (T : Tab P) (i : Nat) {x y : Operand} {t : TypeId} {b off k : Nat} {vs cs vs' : List Value} {v : Value} (ho : o.op = .store t x y) (hd : o.dst = none)
    (hx : ev ρ x = some (.pointer (some ⟨b, off + k, none⟩))) (hy : ev ρ y = some v) (hv : cellsF v = some cs) (hs : T.sizeOk t cs = true) (hi : L[i]? = some (.cells b off vs)) (hk : storeF vs k cs = some vs')
    (hK : K ρ m (L.set i (.cells b off vs'))) : OT P N o ρ D m L Q K := by
  unfold storeF at hk
  cases hb : Nat.ble (k + cs.length) vs.length with
  | false => simp [hb] at hk
  | true =>
    simp only [hb, cond_true, fl_eq, Option.some.injEq] at hk
    subst hk
    exact OT.storeG T i ho hd hx hy hv hs hi (Nat.le_of_ble_eq_true hb) hK
theorem OT.storeL0 (T : Tab P) (i : Nat) {x y : Operand} {t : TypeId} {b off : Nat} {vs cs vs' : List Value} {v : Value} (ho : o.op = .store t x y) (hd : o.dst = none)
    (hx : ev ρ x = some (.pointer (some ⟨b, off, none⟩))) (hy : ev ρ y = some v) (hv : cellsF v = some cs) (hs : T.sizeOk t cs = true) (hi : L[i]? = some (.cells b off vs)) (hk : storeF vs 0 cs = some vs')
    (hK : K ρ m (L.set i (.cells b off vs'))) : OT P N o ρ D m L Q K :=
  OT.storeL (k := 0) T i ho hd hx hy hv hs hi hk hK

/-! arithmetic -/
def arith (op : BinOp) (a b : Int) : Option Int :=
  match op with
  | .add => some (a + b)
  | .sub => some (a - b)
  | .mul => some (a * b)
  | _ => none

theorem wrap64_in {n : Int} (h1 : -9223372036854775808 ≤ n) (h2 : n ≤ 9223372036854775807) : IntKind.i64.wrap n = n := IntWalk.i64_in n ⟨h1, h2⟩

theorem OT.arith {op : BinOp} {t t' : TypeId} {x y : Operand} {d : Nat} {a b r r' : Int} (ho : o.op = .binOp op t x y t') (hd : o.dst = some d) (hN : Nat.blt d N = true)
    (hx : ev ρ x = some (.int .i64 a)) (hy : ev ρ y = some (.int .i64 b)) (hr : Sep.arith op a b = some r) (he : r = r') (h1 : -9223372036854775808 ≤ r' ∧ r' ≤ 9223372036854775807)
    (hK : K ((d, .int .i64 r') :: ρ) m L) : OT P N o ρ D m L Q K := by
  subst he
  refine OT.run hd hN (fun ac w ha => ⟨w, ?_, ha.st⟩) hK
  have hw := wrap64_in h1.1 h1.2
  cases op <;> simp only [Sep.arith, Option.some.injEq] at hr <;> first | (cases hr; done) | (subst hr; simp [execOp, ho, ha.env.eval hx, ha.env.eval hy, eqGuard, binOp, Op.intArith, hw])

/-! calls -/
def Goes (P : Program) (f : FuncId) : Prop := ∀ args w, (callFunc f args).run P w = .ok (.enter f args) w

theorem Goes.mk' {f : FuncId} {fn : Func} (hf : P.funcs[f]? = some fn) (hn : (fn.name == "runtime.NumGoroutine") = false) (hb : fn.body.isNone = false) : Goes P f := by
  intro args w
  simp only [callFunc, Sem.run_bind, run_program, Result.andThen_ok, hf, hn, hb, Bool.false_eq_true, if_false, Sem.run_pure]

theorem OT.call {F : Operand} {args : List Operand} {ats : Array TypeId} {f : FuncId} {first cap vs all : List Value} {d : Nat} (ho : o.op = .call ⟨.value F, ⟨args⟩, ats⟩) (hd : o.dst = some d) (hN : Nat.blt d N = true)
    (hF : ev ρ F = some (.func (.func f) ⟨first⟩ ⟨cap⟩)) (ha : evs ρ args = some vs) (hall : fl (first ++ (vs ++ cap)) = some all) (hg : Goes P f)
    (h : TCallX P f ⟨all⟩ m L (fun v m' L' => K ((d, v) :: ρ) m' L') (fun ch m' L' => Q (.panic ch) ρ D m' L')) : OT P N o ρ D m L Q K := by
  intro a w hok
  rw [fl_eq] at hall
  simp only [Option.some.injEq] at hall
  have he : (execOp a.eval o).run P w = .ok (.enter f ⟨all⟩) w := by
    have e1 := hok.env.evals ha
    simp only [execOp, ho, resolve, hok.env.eval hF, Deferred.ofValue, Sem.run_bind, Sem.run_pure, Result.andThen_ok, invoke]
    rw [hg _ w]
    congr 2
    subst hall
    simp [e1]
  simp only [Oper.wp, he, Oper.upon]
  refine (h w hok.st).mono fun e w' hh => ?_
  cases e with
  | returned v =>
    obtain ⟨m', L', h1, h2⟩ := hh
    have hp := hok.put hN v
    rw [hd]
    exact ⟨_, _, _, ⟨hp.size, hp.env, hp.defers, h1⟩, h2⟩
  | panicked ch =>
    obtain ⟨m', L', h1, h2⟩ := hh
    exact ⟨ρ, D, m', L', ⟨hok.size, hok.env, hok.defers, h1⟩, h2⟩
  | outgrown => exact hh.elim

end
end Go.Sep
