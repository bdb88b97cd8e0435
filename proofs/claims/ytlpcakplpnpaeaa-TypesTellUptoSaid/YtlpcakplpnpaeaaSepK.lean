/-
  Slices that the call owns with all their room: stacks and queues of one-cell elements.
-/
import Derived.Test.YtlpcakplpnpaeaaSepJ
set_option linter.unusedVariables false
set_option linter.unusedSimpArgs false
namespace Go.Sep

/-- the cells of an owned slice, its room too -/
def mcell (s : Sl) (vs : List Value) : Item := match s.a with
  | none => .cells 0 0 vs
  | some a => .cells a.block a.off vs

structure MS (s : Sl) (vs : List Value) : Prop where
  len : s.len ≤ s.cap
  all : vs.length = s.cap
  adr : (s = ⟨none, 0, 0⟩) ∨ ∃ b o, s.a = some ⟨b, o, none⟩

theorem MS.nil : MS ⟨none, 0, 0⟩ [] := ⟨Nat.le_refl _, rfl, .inl rfl⟩
theorem MS.at_ (b o n c : Nat) (vs : List Value) (h : n ≤ c) (hv : vs.length = c) : MS ⟨some ⟨b, o, none⟩, n, c⟩ vs := ⟨h, hv, .inr ⟨b, o, rfl⟩⟩

section
variable {P : Program} {N : Nat} {ρ : Env} {D : List Deferred} {m : Mem} {L : List Item} {Q : EPost} {full : List Oper} {o : Oper} {K : Env → Mem → List Item → Prop}

/-- append of one, in an owned slice -/
theorem run_push (T : Tab P) {t t2 e e2 ty : TypeId} {ei ei2 : TI} {w : World} {s s2 : Sl} {vs news : List Value} (he : T.elem t = some (e, ei)) (he2 : T.elem t2 = some (e2, ei2))
    (hw : St m w (mcell s vs :: L)) (hM : MS s vs) (hsz : ei.size = 1) (hy : Src w s2 ei.size news) (hn : 0 < s2.len) (h1 : allOne news = true) (hzs : ei.zero.cells.size = ei.size)
    (hb : 0 < ei.bytes) (hfit : (s.len + s2.len) * ei.bytes ≤ 140737488355328) :
    ∃ s' vs' w', (Builtin.append_ #[t, t2] ty #[s.v, s2.v]).run P w = .ok s'.v w' ∧ St m w' (mcell s' vs' :: L) ∧ MS s' vs' ∧ s'.len = s.len + s2.len ∧ vs'.take s'.len = vs.take s.len ++ news := by
  obtain ⟨ti, h4, h5, h6⟩ := elem_get he
  obtain ⟨ti2, k4, k5, k6⟩ := elem_get he2
  obtain ⟨_, _, hu, _⟩ := T.ok t ti h4
  rw [h5] at hu
  obtain ⟨_, _, hu2, _⟩ := T.ok t2 ti2 k4
  rw [k5] at hu2
  obtain ⟨info, q1, q2, q3, q4, q5⟩ := T.ok e ei h6
  have hnew := run_first (P := P) hy
  have hbound : s.len + s2.len ≤ 140737488355328 := Nat.le_trans (Nat.le_mul_of_pos_right _ hb) hfit
  have hnl : news.length = s2.len := by rw [hy.1, hsz, Nat.mul_one]
  have hcap := hM.len
  have hall := hM.all
  have hsrc : Src w s ei.size (vs.take s.len) := by
    refine ⟨by rw [hsz, List.length_take]; omega, ?_⟩
    rcases hM.adr with h | ⟨b, o, h⟩
    · left; rw [h]
    · right
      refine ⟨b, o, h, fun j v hv => ?_⟩
      have hc := hw.cells (i := 0) (b := b) (off := o) (vs := vs) (by simp [mcell, h])
      refine hc j v ?_
      rw [List.getElem?_take] at hv
      split at hv
      · exact hv
      · cases hv
  by_cases hroom : s.len + s2.len ≤ s.cap
  · rcases hM.adr with hnil | ⟨b, o, ha⟩
    · subst hnil; simp only at hroom; omega
    · obtain ⟨a, n, c⟩ := s
      simp only at ha hroom hcap hbound hfit hall hsrc
      subst ha
      simp only [mcell] at hw
      obtain ⟨w', hr, hst'⟩ := run_storeCells (P := P) news vs n 0 w hw h1 (by omega)
      refine ⟨⟨some ⟨b, o, none⟩, n + s2.len, c⟩, putAt vs n news, w', ?_, hst', ⟨hroom, by rw [putAt_length]; exact hall, .inr ⟨b, o, rfl⟩⟩, rfl, ?_⟩
      · have hr' : (storeCells ((⟨b, o, none⟩ : Addr).add n) news).run P w = .ok () w' := by rw [addr_add]; exact hr
        simp only [Sl.v] at hnew
        simp [Builtin.append_, run_underlying hu, run_underlying hu2, sizeOf, typeInfo, q1, q3, Builtin.lenOf, hroom, hnew, hr', hsz] at hnew ⊢
        simp [hnew, hr']
      · have e := putAt_front news (vs.drop n) (by simp; omega) (vs.take n)
        rw [List.take_append_drop, show (vs.take n).length = n by simp; omega] at e
        simp only [e]
        rw [List.take_append_of_le_length (by simp; omega), List.take_of_length_le (by simp; omega)]
  · have hlt : s.cap < s.len + s2.len := by omega
    have h48 : ¬ (Builtin.nextslicecap (s.len + s2.len) s.cap * ei.bytes > 281474976710656) := by
      have := growslice_fits hlt hfit
      omega
    have hold := run_first (P := P) (hsrc.drew)
    have hnew' := run_first (P := P) (hy.drew)
    obtain ⟨nc, hnc, hge⟩ : ∃ nc, nc = (Question.appendCap (s.len + s2.len) s.cap e).cut (w.tape w.drawn (.appendCap (s.len + s2.len) s.cap e)) ∧ s.len + s2.len ≤ nc := ⟨_, rfl, by simp [Question.cut]⟩
    have hst := (hw.sub (List.sublist_cons_self _ _)).drew.allocCells ((⟨vs.take s.len⟩ : Array Value) ++ (⟨news⟩ : Array Value) ++ Builtin.zeroCells ei.zero.cells (nc - (s.len + s2.len))) e
    refine ⟨⟨some ⟨w.heap.size, 0, none⟩, s.len + s2.len, nc⟩, _, w.drew.alloc (.cells ((⟨vs.take s.len⟩ : Array Value) ++ (⟨news⟩ : Array Value) ++ Builtin.zeroCells ei.zero.cells (nc - (s.len + s2.len))) e), ?_, hst, ⟨hge, ?_, .inr ⟨_, _, rfl⟩⟩, rfl, ?_⟩
    · simp only [Sl.v] at hold hnew'
      have hb0 : ei.bytes ≠ 0 := by omega
      have hmax : ¬ (9223372036854775807 < (s.len : Int) + (s2.len : Int)) := by omega
      simp [Builtin.append_, run_underlying hu, run_underlying hu2, sizeOf, typeInfo, zeroValue, q1, q3, q4, q5, Builtin.lenOf, hroom, hold, hnew', h48, hmax, Question.forced, newRow, ← hnc, IntKind.max, IntKind.signed, IntKind.bits, hb0]
      congr 2
      apply Array.ext'
      simp
    · have := size_zeroCells ei.zero.cells (nc - (s.len + s2.len))
      rw [hzs, hsz, Nat.mul_one] at this
      simp [this]
      omega
    · simp only [Array.toList_append]
      rw [List.append_assoc, ← List.append_assoc, List.take_append_of_le_length (by simp; omega), List.take_of_length_le (by simp; omega)]

theorem OT.push (T : Tab P) {s : Sl} {vs : List Value} {v : Value} {b : Nat} {x y : Operand} {t t2 : TypeId} {d bytes : Nat} (hM : MS s vs)
    (ho : o.op = .call ⟨.builtin .append, ⟨[x, y]⟩, ⟨[t, t2]⟩⟩) (hd : o.dst = some d) (hN : Nat.blt d N = true) (hx : ev ρ x = some s.v) (hy : ev ρ y = some (.slice (some ⟨b, 0, none⟩) 1 1)) (hT : T.okElem t t2 1 bytes = true) (h1 : allOne [v] = true)
    (hfit : (s.len + 1) * bytes ≤ 140737488355328)
    (hK : ∀ s' vs', MS s' vs' → s'.len = s.len + 1 → vs'.take (s.len + 1) = vs.take s.len ++ [v] → K ((d, s'.v) :: ρ) m (mcell s' vs' :: L)) : OT P N o ρ D m (.cells b 0 [v] :: mcell s vs :: L) Q K := by
  obtain ⟨e, e2, ei, ei2, q1, q2, q3, q4, q5, q6⟩ := okElem_get hT
  intro ac w ha
  have hb : 0 < ei.bytes := by omega
  have hcells := ha.st.cells (i := 0) rfl
  have hsub : St m w (mcell s vs :: L) := ha.st.sub (List.sublist_cons_self _ _)
  have hsrc : Src w ⟨some ⟨b, 0, none⟩, 1, 1⟩ ei.size [v] := ⟨by rw [q3]; rfl, .inr ⟨b, 0, rfl, hcells⟩⟩
  obtain ⟨s', vs', w', hr, g1, g2, g3, g4⟩ := run_push (P := P) (ty := o.type) T q1 q2 hsub hM q3 hsrc (by simp) h1 q6 hb (by rw [q4]; exact hfit)
  have he : (execOp ac.eval o).run P w = .ok (.value s'.v) w' := by
    simp only [execOp, ho, resolve, invoke, builtin, Sem.run_bind, Sem.run_pure, Result.andThen_ok, List.map_toArray, List.map_cons, List.map_nil, ha.env.eval hx, ha.env.eval hy]
    simp only [List.map_toArray, List.map_cons, List.map_nil, ha.env.eval hx, ha.env.eval hy, hr, Result.andThen_ok]
  simp only [Oper.wp, he, Oper.upon]
  rw [hd]
  have hp := ha.put hN s'.v
  refine ⟨_, _, _, ⟨hp.size, hp.env, hp.defers, g1⟩, hK s' vs' g2 g3 ?_⟩
  rw [← g4, g3]

/-- s[:n] of an owned slice -/
theorem OT.takeM (T : Tab P) (hi : Nat) {x y : Operand} {t : TypeId} {d b i n c : Nat} {iv : Int} (hik : iv = (hi : Int)) (hc : hi ≤ c)
    (ho : o.op = .slice t x none (some y) none) (hd : o.dst = some d) (hN : Nat.blt d N = true) (he : ev ρ x = some (.slice (some ⟨b, i, none⟩) n c)) (hy : ev ρ y = some (.int .i64 iv)) (hsz : T.esize t = some 1)
    (hK : K ((d, .slice (some ⟨b, i, none⟩) hi c) :: ρ) m L) : OT P N o ρ D m L Q K := by
  subst hik
  refine OT.cutP T (lov := none) (hiv := some (.int .i64 (hi : Int))) 0 hi ho hd hN he rfl (by simp [evO, fo_eq, hy]) hsz (.inl ⟨rfl, rfl⟩) (.inr rfl) (Nat.zero_le _) hc ?_
  simpa using hK

theorem OT.loadR (T : Tab P) (i : Nat) {cs : List Value} {v : Value} {x : Operand} {t : TypeId} {b off k d n : Nat} (hv : cs[k]? = some v) (ho : o.op = .load t x) (hd : o.dst = some d) (hN : Nat.blt d N = true)
    (hx : ev ρ x = some (.pointer (some ⟨b, off + k * 1, none⟩))) (hi : L[i]? = some (.cells b off cs)) (ha : T.isAgg t = some (false, n)) (hK : K ((d, v) :: ρ) m L) : OT P N o ρ D m L Q K :=
  OT.loadL (k := k * 1) T i ho hd hN hx hi (load_one ha (by rw [Nat.mul_one]; exact hv)) hK
end

section
variable {P : Program} {N : Nat} {ρ : Env} {D : List Deferred} {m : Mem} {Q : EPost} {ops : List Oper} {ts : List Nat} {fuel : Nat} {listed : List Bool} {Ls Lp : List Item}
theorem DO.loadR (T : Tab P) (i : Nat) (j : Nat) {cs : List Value} {v : Value} {x : Operand} {t : TypeId} {o : Oper} {b off k d n : Nat} (hv : cs[k]? = some v) (hc : Calm Q) (hns : Region.noSelect ⟨ops⟩ = true) (hok : orderOk ops ts [i] listed = true)
    (hi : ops[i]? = some o) (hg : gv ops ρ o = some true) (ho : o.op = .load t x) (hd : o.dst = some d) (hN : Nat.blt d N = true)
    (hx : ev ρ x = some (.pointer (some ⟨b, off + k * 1, none⟩))) (hj : Ls[j]? = some (.cells b off cs)) (ha : T.isAgg t = some (false, n))
    (h : DO P N ops ts fuel (listed.set i true) ((d, v) :: ρ) D m Ls Lp Q) : DO P N ops ts (fuel + 1) listed ρ D m Ls Lp Q :=
  DO.loadL (k := k * 1) T i j hc hns hok hi hg ho hd hN hx hj (load_one ha (by rw [Nat.mul_one]; exact hv)) h
theorem DO.takeM (T : Tab P) (i : Nat) (n2 : Nat) {x y : Operand} {t : TypeId} {o : Oper} {d b off n c : Nat} {iv : Int} (hik : iv = (n2 : Int)) (hcc : n2 ≤ c) (hc : Calm Q) (hns : Region.noSelect ⟨ops⟩ = true) (hok : orderOkP ops ts [i] listed = true)
    (hi : ops[i]? = some o) (hg : gv ops ρ o = some true) (ho : o.op = .slice t x none (some y) none) (hd : o.dst = some d) (hN : Nat.blt d N = true)
    (he : ev ρ x = some (.slice (some ⟨b, off, none⟩) n c)) (hy : ev ρ y = some (.int .i64 iv)) (hsz : T.esize t = some 1)
    (h : DO P N ops ts fuel (listed.set i true) ((d, .slice (some ⟨b, off, none⟩) n2 c) :: ρ) D m Ls Lp Q) : DO P N ops ts (fuel + 1) listed ρ D m Ls Lp Q := by
  simp only [orderOkP, Bool.and_eq_true] at hok
  obtain ⟨o1, o2, o3, _⟩ := hok
  subst hik
  refine DO.takeP i hc hi hd hN hg hns o1 o2 (by simpa using o3) (fun ac w hA => ?_) h
  have hr := run_sliceAt (P := P) T (s := ⟨some ⟨b, off, none⟩, n, c⟩) (w := w) (lo := 0) (hi := n2) (lov := none) (hiv := some (.int .i64 (n2 : Int))) hsz (.inl ⟨rfl, rfl⟩) (.inr rfl) (Nat.zero_le _) hcc
  simp only [Sl.v] at hr
  simp only [execOp, ho, hA.eval he, Option.map_none, Option.map_some, hA.eval hy, Sem.run_bind, hr, Result.andThen_ok, Sem.run_pure]
  simp [addr_add]
end

/-- an owned slice and what it holds -/
structure MQ {α : Type} (f : α → Value) (s : Sl) (vs : List Value) (xs : List α) : Prop where
  ms : MS s vs
  eq : vs.take s.len = xs.map f

theorem MQ.nil {α : Type} (f : α → Value) : MQ f ⟨none, 0, 0⟩ [] [] := ⟨MS.nil, rfl⟩
theorem MQ.len {α : Type} {f : α → Value} {s : Sl} {vs : List Value} {xs : List α} (h : MQ f s vs xs) : s.len = xs.length := by
  have := congrArg List.length h.eq
  have h1 := h.ms.len
  have h2 := h.ms.all
  simp at this
  omega
theorem MQ.push {α : Type} {f : α → Value} {s s' : Sl} {vs vs' : List Value} {xs : List α} (h : MQ f s vs xs) (x : α) (hM : MS s' vs') (hl : s'.len = s.len + 1) (ht : vs'.take (s.len + 1) = vs.take s.len ++ [f x]) : MQ f s' vs' (xs ++ [x]) :=
  ⟨hM, by rw [hl, ht, h.eq, List.map_append]; rfl⟩
/-- what holds something has a place -/
theorem MQ.ne {α : Type} {f : α → Value} {s : Sl} {vs : List Value} {xs : List α} (h : MQ f s vs xs) (hp : 0 < xs.length) : ∃ b o c, s = ⟨.some ⟨b, o, Option.none⟩, xs.length, c⟩ ∧ xs.length ≤ c ∧ vs.length = c := by
  have hl := h.len
  rcases h.ms.adr with e | ⟨b, o, e⟩
  · rw [e] at hl; simp at hl; omega
  · refine ⟨b, o, s.cap, ?_, by rw [← hl]; exact h.ms.len, h.ms.all⟩
    obtain ⟨a, n, c⟩ := s
    simp only at e hl
    rw [e, hl]
theorem MQ.get {α : Type} {f : α → Value} {s : Sl} {vs : List Value} {xs : List α} (h : MQ f s vs xs) {k : Nat} {x : α} (hx : xs[k]? = some x) : vs[k]? = .some (f x) := by
  have h1 : (vs.take s.len)[k]? = some (f x) := by rw [h.eq]; exact map_get f hx
  rw [List.getElem?_take] at h1
  split at h1
  · exact h1
  · cases h1
theorem MQ.pop {α : Type} {f : α → Value} {b o c : Nat} {vs : List Value} {xs : List α} {n : Nat} (h : MQ f ⟨.some ⟨b, o, Option.none⟩, n, c⟩ vs xs) {k : Nat} (hk : k ≤ n) : MQ f ⟨.some ⟨b, o, Option.none⟩, k, c⟩ vs (xs.take k) := by
  have h1 := h.ms.len
  simp only at h1
  refine ⟨⟨by simp only; omega, h.ms.all, .inr ⟨b, o, rfl⟩⟩, ?_⟩
  have := h.eq
  simp only at this ⊢
  rw [List.map_take, ← this, List.take_take]
  congr 1; omega
end Go.Sep
