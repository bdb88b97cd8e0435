/-
  Rules for what sorted insertion needs: conversions and shifts of small numbers, cap, copy within a slice, append of zeros, the stand-in for overlaps.
-/
import Derived.Test.YtlpcakplpnpaeaaSepN
import Derived.Laws.Externs
set_option linter.unusedVariables false
set_option linter.unusedSimpArgs false
namespace Go.Sep

section
variable {P : Program} {N : Nat} {ρ : Env} {D : List Deferred} {m : Mem} {L : List Item} {Q : EPost} {full : List Oper} {o : Oper} {K : Env → Mem → List Item → Prop}

def Tab.intK {P : Program} (T : Tab P) (t : TypeId) : Option IntKind :=
  match T.get t with
  | some ⟨.int k, _, _, _⟩ => some k
  | _ => none

theorem intK_get {T : Tab P} {t : TypeId} {k : IntKind} (h : T.intK t = some k) : ∃ i, T.get t = some i ∧ i.u = .int k := by
  unfold Tab.intK at h
  split at h
  · rename_i k' _ _ _ hg
    simp only [Option.some.injEq] at h
    subst h
    exact ⟨_, hg, rfl⟩
  · cases h

/-- an integer seen as another kind of integer -/
theorem OT.conv (T : Tab P) {s t : TypeId} {x : Operand} {k ks kt : IntKind} {d : Nat} {a r : Int} (ho : o.op = .convert s t x) (hd : o.dst = some d) (hN : Nat.blt d N = true)
    (hs : T.intK s = some ks) (ht : T.intK t = some kt) (hx : ev ρ x = some (.int k a)) (hr : kt.wrap a = r) (hK : K ((d, .int kt r) :: ρ) m L) : OT P N o ρ D m L Q K := by
  obtain ⟨si, s1, s2⟩ := intK_get hs
  obtain ⟨ti, t1, t2⟩ := intK_get ht
  refine OT.run hd hN (fun ac w ha => ⟨w, ?_, ha.st⟩) hK
  have hus := T.run_underlying w s1
  have hut := T.run_underlying w t1
  rw [s2] at hus
  rw [t2] at hut
  simp only [execOp, ho, ha.env.eval hx, Go.convert, Sem.run_bind, hus, hut, Result.andThen_ok, Conv.intToInt, Sem.run_pure, hr]

/-- half of a number -/
theorem OT.half {t t' : TypeId} {x y : Operand} {k ky : IntKind} {d : Nat} {a r : Int} (ho : o.op = .binOp .shr t x y t') (hd : o.dst = some d) (hN : Nat.blt d N = true)
    (hx : ev ρ x = some (.int k a)) (hy : ev ρ y = some (.int ky 1)) (hb : 1 ≤ k.bits) (hr : a.fdiv 2 = r) (hK : K ((d, .int k r) :: ρ) m L) : OT P N o ρ D m L Q K := by
  refine OT.run hd hN (fun ac w ha => ⟨w, ?_, ha.st⟩) hK
  have hmin : min 1 k.bits = 1 := by omega
  simp only [execOp, ho, ha.env.eval hx, ha.env.eval hy, Sem.run_bind, eqGuard, binOp, Op.shift]
  simp [hmin, hr]

theorem OT.cap (T : Tab P) {x : Operand} {t e : TypeId} {ei : TI} {s : Sl} {d : Nat} (ho : o.op = .call ⟨.builtin .cap, ⟨[x]⟩, ⟨[t]⟩⟩) (hd : o.dst = some d) (hN : Nat.blt d N = true)
    (hx : ev ρ x = some s.v) (he : T.elem t = some (e, ei)) (hK : K ((d, .int .i64 (s.cap : Int)) :: ρ) m L) : OT P N o ρ D m L Q K := by
  obtain ⟨ti, h4, h5, h6⟩ := elem_get he
  refine OT.run hd hN (fun ac w ha => ⟨w, ?_, ha.st⟩) hK
  have hu := T.run_underlying w h4
  rw [h5] at hu
  simp only [execOp, ho, resolve, invoke, builtin, Sem.run_bind, Sem.run_pure, Result.andThen_ok, List.map_toArray, List.map_cons, List.map_nil, ha.env.eval hx, Builtin.cap_, hu]
  simp [Builtin.cap_, hu, goInt]

/-- s[lo:hi] of any slice -/
theorem OT.cutS (T : Tab P) (lo hi : Nat) {s : Sl} {x : Operand} {lx hx : Option Operand} {lov hiv : Option Value} {t : TypeId} {d sz : Nat}
    (ho : o.op = .slice t x lx hx none) (hd : o.dst = some d) (hN : Nat.blt d N = true) (he : ev ρ x = some s.v) (h1 : evO ρ lx = some lov) (h2 : evO ρ hx = some hiv) (hsz : T.esize t = some sz)
    (g1 : (lov = none ∧ lo = 0) ∨ lov = some (.int .i64 (lo : Int))) (g2 : (hiv = none ∧ hi = s.len) ∨ hiv = some (.int .i64 (hi : Int))) (hle : lo ≤ hi) (hhi : hi ≤ s.cap)
    (hK : K ((d, .slice (if s.cap = lo then s.a else s.a.map (·.add (lo * sz))) (hi - lo) (s.cap - lo)) :: ρ) m L) : OT P N o ρ D m L Q K := by
  refine OT.run hd hN (fun ac w ha => ⟨w, ?_, ha.st⟩) hK
  have hr := run_sliceAt (P := P) (w := w) T hsz g1 g2 hle hhi
  simp only [execOp, ho, ha.env.eval he, ha.env.evalO h1, ha.env.evalO h2, Option.map_none, Sem.run_bind, hr, Result.andThen_ok, Sem.run_pure]

/-- s[lo:hi] of a slice whose address is known; lo below the capacity -/
theorem OT.cutQ (T : Tab P) (lo hi : Nat) {x : Operand} {lx hx : Option Operand} {lov hiv : Option Value} {t : TypeId} {d b off n c : Nat}
    (ho : o.op = .slice t x lx hx none) (hd : o.dst = some d) (hN : Nat.blt d N = true) (he : ev ρ x = some (.slice (some ⟨b, off, none⟩) n c)) (h1 : evO ρ lx = some lov) (h2 : evO ρ hx = some hiv) (hsz : T.esize t = some 1)
    (g1 : (lov = none ∧ lo = 0) ∨ lov = some (.int .i64 (lo : Int))) (g2 : (hiv = none ∧ hi = n) ∨ hiv = some (.int .i64 (hi : Int))) (hle : lo ≤ hi) (hhi : hi ≤ c) (hlc : lo < c)
    (hK : K ((d, .slice (some ⟨b, off + lo, none⟩) (hi - lo) (c - lo)) :: ρ) m L) : OT P N o ρ D m L Q K := by
  refine OT.cutP T lo hi ho hd hN he h1 h2 hsz g1 g2 hle hhi ?_
  rw [if_neg (by omega), Nat.mul_one]
  exact hK

/-- copy: the source's cells are 'news', the target lies in owned cells -/
theorem OT.copy (T : Tab P) (i : Nat) {x y : Operand} {t t2 e : TypeId} {ei : TI} {b off k n c : Nat} {s2 : Sl} {vs news : List Value} {d : Nat} (ho : o.op = .call ⟨.builtin .copy, ⟨[x, y]⟩, ⟨[t, t2]⟩⟩) (hd : o.dst = some d) (hN : Nat.blt d N = true)
    (hx : ev ρ x = some (.slice (some ⟨b, off + k, none⟩) n c)) (hy : ev ρ y = some s2.v) (he : T.elem t = some (e, ei)) (hsz : Nat.beq ei.size 1 = true)
    (hsrc : ∀ w, St m w L → Src w ⟨s2.a, min s2.len n, s2.cap⟩ 1 news) (h1 : allOne news = true) (hi : L[i]? = some (.cells b off vs)) (hk : k + news.length ≤ vs.length)
    (hK : K ((d, .int .i64 ((min s2.len n : Nat) : Int)) :: ρ) m (L.set i (.cells b off (putAt vs k news)))) : OT P N o ρ D m L Q K := by
  obtain ⟨ti, h4, h5, h6⟩ := elem_get he
  have hs1 := Nat.eq_of_beq_eq_true hsz
  intro ac w ha
  have hu := T.run_underlying w h4
  rw [h5] at hu
  have hes := T.run_sizeOf w h6
  rw [hs1] at hes
  have hst := ha.st.at_ hi
  obtain ⟨w', hr, hst'⟩ := run_storeCells (P := P) news vs k 0 w hst h1 (by omega)
  have hfirst := run_first (P := P) (hsrc w ha.st)
  have hfirst' : (Builtin.firstCells 1 (min s2.len n) s2.v).run P w = .ok ⟨news⟩ w := by
    obtain ⟨a2, n2, c2⟩ := s2
    cases a2 <;> exact hfirst
  have he' : (execOp ac.eval o).run P w = .ok (.value (.int .i64 ((min s2.len n : Nat) : Int))) w' := by
    simp only [execOp, ho, resolve, invoke, builtin, Sem.run_bind, Sem.run_pure, Result.andThen_ok, List.map_toArray, List.map_cons, List.map_nil, ha.env.eval hx, ha.env.eval hy]
    have hlen : (Builtin.lenOf s2.v).run P w = .ok s2.len w := rfl
    have hmin : Nat.min s2.len n = min s2.len n := rfl
    simp [Builtin.copy_, hu, hes, hlen, hfirst', hr, goInt, hmin]
  simp only [Oper.wp, he', Oper.upon, hd]
  have hp := ha.put hN (.int .i64 ((min s2.len n : Nat) : Int))
  exact ⟨_, _, _, ⟨hp.size, hp.env, hp.defers, hst'.back hi⟩, hK⟩

/-- append(s, make([]T, z)...) where there is no room -/
theorem OT.growZ (T : Tab P) {s : Sl} {vs : List Value} {x y : Operand} {t t2 e : TypeId} {ei : TI} {kz : IntKind} {z : Nat} {iv : Int} {zv : Value} {d : Nat} (hM : s.len ≤ vs.length) (hadr : s.len = 0 ∨ ∃ b o, s.a = some ⟨b, o, none⟩) (hz0 : 0 < z) (hiv : iv = (z : Int))
    (ho : o.op = .call ⟨.builtin .append, ⟨[x, y]⟩, ⟨[t, t2]⟩⟩) (hd : o.dst = some d) (hN : Nat.blt d N = true) (hx : ev ρ x = some s.v) (hy : ev ρ y = some (.int .i64 iv)) (he : T.elem t = some (e, ei)) (ht2 : T.intK t2 = some kz)
    (hsz : Nat.beq ei.size 1 = true) (hb : Nat.blt 0 ei.bytes = true) (hz : cellsF ei.zero = some [zv]) (hfit : (s.len + z) * ei.bytes ≤ 140737488355328) (hroom : s.cap < s.len + z)
    (hK : ∀ b vs', s.len + z ≤ vs'.length → vs'.take (s.len + z) = vs.take s.len ++ List.replicate z zv → K ((d, .slice (some ⟨b, 0, none⟩) (s.len + z) vs'.length) :: ρ) m (.cells b 0 vs' :: mcell s vs :: L)) : OT P N o ρ D m (mcell s vs :: L) Q K := by
  obtain ⟨ti, h4, h5, h6⟩ := elem_get he
  obtain ⟨si, s1, s2⟩ := intK_get ht2
  obtain ⟨_, _, hu, _⟩ := T.ok t ti h4
  rw [h5] at hu
  obtain ⟨_, _, hu2, _⟩ := T.ok t2 si s1
  rw [s2] at hu2
  obtain ⟨info, q1, q2, q3, q4, q5⟩ := T.ok e ei h6
  have hs1 := Nat.eq_of_beq_eq_true hsz
  have hbp : 0 < ei.bytes := by simpa [Nat.blt_eq] using hb
  have hbound : s.len + z ≤ 140737488355328 := Nat.le_trans (Nat.le_mul_of_pos_right _ hbp) hfit
  have hzc := cellsF_eq hz
  intro ac w ha
  have hsrc : Src w s 1 (vs.take s.len) := by
    refine ⟨by rw [List.length_take]; omega, ?_⟩
    rcases hadr with h | ⟨b, o, h⟩
    · exact .inl h
    · right
      refine ⟨b, o, h, fun j v hv => ?_⟩
      have hc := ha.st.cells (i := 0) (b := b) (off := o) (vs := vs) (by simp [mcell, h])
      refine hc j v ?_
      rw [List.getElem?_take] at hv
      split at hv
      · exact hv
      · cases hv
  have hold := run_first (P := P) (hsrc.drew)
  have hnr : ¬ (s.len + z ≤ s.cap) := by omega
  have h48 : ¬ (Builtin.nextslicecap (s.len + z) s.cap * ei.bytes > 281474976710656) := by
    have := growslice_fits hroom hfit
    omega
  obtain ⟨nc, hnc, hge⟩ : ∃ nc, nc = (Question.appendCap (s.len + z) s.cap e).cut (w.tape w.drawn (.appendCap (s.len + z) s.cap e)) ∧ s.len + z ≤ nc := ⟨_, rfl, by simp [Question.cut]⟩
  have hzcell : ∀ k, Builtin.zeroCells ei.zero.cells k = ⟨List.replicate k zv⟩ := by
    intro k
    rw [hzc]
    apply Array.ext'
    simp only [Builtin.zeroCells, Array.toList_map, Array.toList_range]
    apply List.ext_getElem
    · simp
    · intro i h1 h2
      simp [Nat.mod_one]
  have hst := ha.st.drew.allocCells ((⟨vs.take s.len⟩ : Array Value) ++ (⟨List.replicate z zv⟩ : Array Value) ++ (⟨List.replicate (nc - (s.len + z)) zv⟩ : Array Value)) e
  have hlen : (vs.take s.len ++ List.replicate z zv ++ List.replicate (nc - (s.len + z)) zv).length = nc := by simp; omega
  have hw : iv = ((z : Nat) : Int) := hiv
  have hzb : ¬ ((z : Int) * (ei.bytes : Int) > 281474976710656) := by
    have : z * ei.bytes ≤ 140737488355328 := Nat.le_trans (Nat.mul_le_mul_right _ (by omega)) hfit
    have h2 : ((z : Int) * (ei.bytes : Int)) = ((z * ei.bytes : Nat) : Int) := by simp
    rw [h2]; omega
  have hwrap : IntKind.i64.wrap (z : Int) = (z : Int) := wrap64_in (by omega) (by omega)
  have hb0 : ei.bytes ≠ 0 := by omega
  have hmax : ¬ (9223372036854775807 < (s.len : Int) + (z : Int)) := by omega
  have hneg : ¬ ((z : Int) < 0) := by omega
  have hzn : ¬ (z = 0) := by omega
  have hr : (Builtin.append_ #[t, t2] o.type #[s.v, .int .i64 iv]).run P w = .ok (.slice (some ⟨w.heap.size, 0, none⟩) (s.len + z) nc) (w.drew.alloc (.cells ((⟨vs.take s.len⟩ : Array Value) ++ (⟨List.replicate z zv⟩ : Array Value) ++ (⟨List.replicate (nc - (s.len + z)) zv⟩ : Array Value)) e)) := by
    subst hw
    simp only [Sl.v] at hold
    simp [Builtin.append_, run_underlying hu, run_underlying hu2, sizeOf, typeInfo, zeroValue, q1, q3, q4, q5, hs1, asInt, asIntOf, hwrap, hneg, hzb, hnr, h48, hmax, hold, hzn, hzcell, Question.forced, newRow, ← hnc, IntKind.max, IntKind.signed, IntKind.bits, hb0]
  have he' : (execOp ac.eval o).run P w = .ok (.value (.slice (some ⟨w.heap.size, 0, none⟩) (s.len + z) nc)) (w.drew.alloc (.cells ((⟨vs.take s.len⟩ : Array Value) ++ (⟨List.replicate z zv⟩ : Array Value) ++ (⟨List.replicate (nc - (s.len + z)) zv⟩ : Array Value)) e)) := by
    simp only [execOp, ho, resolve, invoke, builtin, Sem.run_bind, Sem.run_pure, Result.andThen_ok, List.map_toArray, List.map_cons, List.map_nil, ha.env.eval hx, ha.env.eval hy, hr]
  simp only [Oper.wp, he', Oper.upon, hd]
  have hp := ha.put hN (.slice (some ⟨w.heap.size, 0, none⟩) (s.len + z) nc)
  have hk := hK w.heap.size (vs.take s.len ++ List.replicate z zv ++ List.replicate (nc - (s.len + z)) zv) (by rw [hlen]; exact hge) (by
    rw [List.append_assoc, ← List.append_assoc, List.take_append_of_le_length (by simp; omega), List.take_of_length_le (by simp; omega)])
  rw [hlen] at hk
  have hst' : St m (w.drew.alloc (.cells ((⟨vs.take s.len⟩ : Array Value) ++ (⟨List.replicate z zv⟩ : Array Value) ++ (⟨List.replicate (nc - (s.len + z)) zv⟩ : Array Value)) e)) (.cells w.heap.size 0 (vs.take s.len ++ List.replicate z zv ++ List.replicate (nc - (s.len + z)) zv) :: mcell s vs :: L) := by simpa using hst
  exact ⟨_, _, _, ⟨hp.size, hp.env, hp.defers, hst'⟩, hk⟩

section
variable {ops : List Oper} {ts : List Nat} {fuel : Nat} {listed : List Bool} {Ls Lp : List Item}
/-- s[lo:hi], taken first -/
theorem DO.cutP (T : Tab P) (i : Nat) (lo hi : Nat) {x : Operand} {lx hx : Option Operand} {lov hiv : Option Value} {t : TypeId} {o : Oper} {d b off n c : Nat} (hc : Calm Q) (hns : Region.noSelect ⟨ops⟩ = true) (hok : orderOkP ops ts [i] listed = true)
    (hi' : ops[i]? = some o) (hg : gv ops ρ o = some true) (ho : o.op = .slice t x lx hx none) (hd : o.dst = some d) (hN : Nat.blt d N = true)
    (he : ev ρ x = some (.slice (some ⟨b, off, none⟩) n c)) (h1 : evO ρ lx = some lov) (h2 : evO ρ hx = some hiv) (hsz : T.esize t = some 1)
    (g1 : (lov = none ∧ lo = 0) ∨ lov = some (.int .i64 (lo : Int))) (g2 : (hiv = none ∧ hi = n) ∨ hiv = some (.int .i64 (hi : Int))) (hle : lo ≤ hi) (hhi : hi ≤ c) (hlc : lo < c)
    (h : DO P N ops ts fuel (listed.set i true) ((d, .slice (some ⟨b, off + lo, none⟩) (hi - lo) (c - lo)) :: ρ) D m Ls Lp Q) : DO P N ops ts (fuel + 1) listed ρ D m Ls Lp Q := by
  simp only [orderOkP, Bool.and_eq_true] at hok
  obtain ⟨o1, o2, o3, _⟩ := hok
  refine DO.takeP i hc hi' hd hN hg hns o1 o2 (by simpa using o3) (fun ac w hA => ?_) h
  have hr := run_sliceAt (P := P) (w := w) T (s := ⟨some ⟨b, off, none⟩, n, c⟩) hsz g1 g2 hle hhi
  simp only [Sl.v] at hr
  simp only [execOp, ho, hA.eval he, hA.evalO h1, hA.evalO h2, Option.map_none, Sem.run_bind, hr, Result.andThen_ok, Sem.run_pure]
  rw [if_neg (by omega)]
  simp [addr_add]
end

/-- a call of an entry of the model -/
theorem OT.callX {F : Operand} {args : List Operand} {ats : Array TypeId} {f : FuncId} {fn : Func} {E : Array Value → Sem Value} {vs : List Value} {v : Value} {d : Nat} (ho : o.op = .call ⟨.value F, ⟨args⟩, ats⟩) (hd : o.dst = some d) (hN : Nat.blt d N = true)
    (hF : ev ρ F = some (.func (.func f) ⟨[]⟩ ⟨[]⟩)) (ha : evs ρ args = some vs) (hf : P.funcs[f]? = some fn) (hname : (fn.name == "runtime.NumGoroutine") = false) (hb : fn.body.isNone = true) (hn : Extern.findNext fn = none) (hE : Extern.find fn = some E)
    (hr : ∀ w, St m w L → (E ⟨vs⟩).run P w = .ok v w) (hK : K ((d, v) :: ρ) m L) : OT P N o ρ D m L Q K := by
  refine OT.run hd hN (fun ac w hac => ⟨w, ?_, hac.st⟩) hK
  have hargs := hac.env.evals ha
  have hcall := run_callFunc_extern hf hname hb hn hE ⟨vs⟩ w
  rw [hr w hac.st] at hcall
  simp only [execOp, ho, resolve, hac.env.eval hF, Deferred.ofValue, Sem.run_bind, Sem.run_pure, Result.andThen_ok, invoke]
  rw [show (#[] ++ Array.map ac.eval ⟨args⟩ ++ #[] : Array Value) = ⟨vs⟩ by simp [hargs]]
  exact hcall
end
end Go.Sep
