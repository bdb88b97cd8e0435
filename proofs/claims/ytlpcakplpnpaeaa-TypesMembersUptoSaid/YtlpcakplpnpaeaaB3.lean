/-
  Rules for what sorted insertion needs: conversions and shifts of small numbers, cap, copy within a slice, append of zeros, the stand-in for overlaps.
-/
import Derived.Laws.Externs
import Derived.Test.YtlpcakplpnpaeaaB2
set_option linter.unusedVariables false
set_option linter.unusedSimpArgs false
namespace Go.Sep

section
variable {P : Program} {N : Nat} {ρ : Env} {D : List Deferred} {m : Mem} {L : List Item} {Q : EPost} {full : List Oper} {o : Oper} {K : Env → Mem → List Item → Prop}

def Tab.intK {P : Program} (T : Tab P) (t : TypeId) : Option IntKind :=
  match T.get t with
  | some ⟨.int k, _, _, _⟩ => some k
  | _ => none

theorem intK_get {T : Tab P} {t : TypeId} {k : IntKind} (h : T.intK t = some k) : ∃ i, T.get t = some i ∧ i.u = .int k := by
  unfold Tab.intK at h
  split at h
  · rename_i k' _ _ _ hg
    simp only [Option.some.injEq] at h
    subst h
    exact ⟨_, hg, rfl⟩
  · cases h

/-- an integer seen as1 another kind of integer -/
theorem OT.conv (T : Tab P) {s t : TypeId} {x : Operand} {k ks kt : IntKind} {d : Nat} {a r : Int} (ho : o.op = .convert s t x) (hd : o.dst = some d) (hN : Nat.blt d N = true)
    (hs : T.intK s = some ks) (ht : T.intK t = some kt) (hx : ev ρ x = some (.int k a)) (hr : kt.wrap a = r) (hK : K ((d, .int kt r) :: ρ) m L) : OT P N o ρ D m L Q K := by
  obtain ⟨si, s1, s2⟩ := intK_get hs
  obtain ⟨ti, t1, t2⟩ := intK_get ht
  refine OT.run hd hN (fun ac w ha => ⟨w, ?_, ha.st⟩) hK
  have hus := T.run_underlying w s1
  have hut := T.run_underlying w t1
  rw [s2] at hus
  rw [t2] at hut
  simp only [execOp, ho, ha.env.eval hx, Go.convert, Sem.run_bind, hus, hut, Result.andThen_ok, Conv.intToInt, Sem.run_pure, hr]

/-- half of a number -/
theorem OT.half {t t' : TypeId} {x y : Operand} {k ky : IntKind} {d : Nat} {a r : Int} (ho : o.op = .binOp .shr t x y t') (hd : o.dst = some d) (hN : Nat.blt d N = true)
    (hx : ev ρ x = some (.int k a)) (hy : ev ρ y = some (.int ky 1)) (hb : 1 ≤ k.bits) (hr : a.fdiv 2 = r) (hK : K ((d, .int k r) :: ρ) m L) : OT P N o ρ D m L Q K := by
  refine OT.run hd hN (fun ac w ha => ⟨w, ?_, ha.st⟩) hK
  have hmin : min 1 k.bits = 1 := by omega
  simp only [execOp, ho, ha.env.eval hx, ha.env.eval hy, Sem.run_bind, eqGuard, binOp, Op.shift]
  simp [hmin, hr]

theorem OT.cap (T : Tab P) {x : Operand} {t e : TypeId} {ei : TI} {s : Sl} {d : Nat} (ho : o.op = .call ⟨.builtin .cap, ⟨[x]⟩, ⟨[t]⟩⟩) (hd : o.dst = some d) (hN : Nat.blt d N = true)
    (hx : ev ρ x = some s.v) (he : T.elem t = some (e, ei)) (hK : K ((d, .int .i64 (s.cap : Int)) :: ρ) m L) : OT P N o ρ D m L Q K := by
  obtain ⟨ti, h4, h5, h6⟩ := elem_get he
  refine OT.run hd hN (fun ac w ha => ⟨w, ?_, ha.st⟩) hK
  have hu := T.run_underlying w h4
  rw [h5] at hu
  simp only [execOp, ho, resolve, invoke, builtin, Sem.run_bind, Sem.run_pure, Result.andThen_ok, List.map_toArray, List.map_cons, List.map_nil, ha.env.eval hx, Builtin.cap_, hu]
  simp [Builtin.cap_, hu, goInt]

/-- s[lo:hi] of any slice -/
theorem OT.cutS (T : Tab P) (lo hi : Nat) {s : Sl} {x : Operand} {lx hx : Option Operand} {lov hiv : Option Value} {t : TypeId} {d sz : Nat}
    (ho : o.op = .slice t x lx hx none) (hd : o.dst = some d) (hN : Nat.blt d N = true) (he : ev ρ x = some s.v) (h1 : evO ρ lx = some lov) (h2 : evO ρ hx = some hiv) (hsz : T.esize t = some sz)
    (g1 : (lov = none ∧ lo = 0) ∨ lov = some (.int .i64 (lo : Int))) (g2 : (hiv = none ∧ hi = s.len) ∨ hiv = some (.int .i64 (hi : Int))) (hle : lo ≤ hi) (hhi : hi ≤ s.cap)
    (hK : K ((d, .slice (if s.cap = lo then s.a else s.a.map (·.add (lo * sz))) (hi - lo) (s.cap - lo)) :: ρ) m L) : OT P N o ρ D m L Q K := by
  refine OT.run hd hN (fun ac w ha => ⟨w, ?_, ha.st⟩) hK
  have hr := run_sliceAt (P := P) (w := w) T hsz g1 g2 hle hhi
  simp only [execOp, ho, ha.env.eval he, ha.env.evalO h1, ha.env.evalO h2, Option.map_none, Sem.run_bind, hr, Result.andThen_ok, Sem.run_pure]

/-- s[lo:hi] of a slice whose address is known; lo below the capacity -/
theorem OT.cutQ (T : Tab P) (lo hi : Nat) {x : Operand} {lx hx : Option Operand} {lov hiv : Option Value} {t : TypeId} {d b off n c : Nat}
    (ho : o.op = .slice t x lx hx none) (hd : o.dst = some d) (hN : Nat.blt d N = true) (he : ev ρ x = some (.slice (some ⟨b, off, none⟩) n c)) (h1 : evO ρ lx = some lov) (h2 : evO ρ hx = some hiv) (hsz : T.esize t = some 1)
    (g1 : (lov = none ∧ lo = 0) ∨ lov = some (.int .i64 (lo : Int))) (g2 : (hiv = none ∧ hi = n) ∨ hiv = some (.int .i64 (hi : Int))) (hle : lo ≤ hi) (hhi : hi ≤ c) (hlc : lo < c)
    (hK : K ((d, .slice (some ⟨b, off + lo, none⟩) (hi - lo) (c - lo)) :: ρ) m L) : OT P N o ρ D m L Q K := by
  refine OT.cutP T lo hi ho hd hN he h1 h2 hsz g1 g2 hle hhi ?_
  rw [if_neg (by omega), Nat.mul_one]
  exact hK

/-- copy: the source's cells are 'news', the target lies in owned cells -/
theorem OT.copy (T : Tab P) (i : Nat) {x y : Operand} {t t2 e : TypeId} {ei : TI} {b off k n c : Nat} {s2 : Sl} {vs news : List Value} {d : Nat} (ho : o.op = .call ⟨.builtin .copy, ⟨[x, y]⟩, ⟨[t, t2]⟩⟩) (hd : o.dst = some d) (hN : Nat.blt d N = true)
    (hx : ev ρ x = some (.slice (some ⟨b, off + k, none⟩) n c)) (hy : ev ρ y = some s2.v) (he : T.elem t = some (e, ei)) (hsz : Nat.beq ei.size 1 = true)
    (hsrc : ∀ w, St m w L → Src w ⟨s2.a, min s2.len n, s2.cap⟩ 1 news) (h1 : allOne news = true) (hi : L[i]? = some (.cells b off vs)) (hk : k + news.length ≤ vs.length)
    (hK : K ((d, .int .i64 ((min s2.len n : Nat) : Int)) :: ρ) m (L.set i (.cells b off (putAt vs k news)))) : OT P N o ρ D m L Q K := by
  obtain ⟨ti, h4, h5, h6⟩ := elem_get he
  have hs1 := Nat.eq_of_beq_eq_true hsz
  intro ac w ha
  have hu := T.run_underlying w h4
  rw [h5] at hu
  have hes := T.run_sizeOf w h6
  rw [hs1] at hes
  have hst := ha.st.at_ hi
  obtain ⟨w', hr, hst'⟩ := run_storeCells (P := P) news vs k 0 w hst h1 (by omega)
  have hfirst := run_first (P := P) (hsrc w ha.st)
  have hfirst' : (Builtin.firstCells 1 (min s2.len n) s2.v).run P w = .ok ⟨news⟩ w := by
    obtain ⟨a2, n2, c2⟩ := s2
    cases a2 <;> exact hfirst
  have he' : (execOp ac.eval o).run P w = .ok (.value (.int .i64 ((min s2.len n : Nat) : Int))) w' := by
    simp only [execOp, ho, resolve, invoke, builtin, Sem.run_bind, Sem.run_pure, Result.andThen_ok, List.map_toArray, List.map_cons, List.map_nil, ha.env.eval hx, ha.env.eval hy]
    have hlen : (Builtin.lenOf s2.v).run P w = .ok s2.len w := rfl
    have hmin : Nat.min s2.len n = min s2.len n := rfl
    simp [Builtin.copy_, hu, hes, hlen, hfirst', hr, goInt, hmin]
  simp only [Oper.wp, he', Oper.upon, hd]
  have hp := ha.put hN (.int .i64 ((min s2.len n : Nat) : Int))
  exact ⟨_, _, _, ⟨hp.size, hp.env, hp.defers, hst'.back hi⟩, hK⟩

/-- append(s, make([]T, z)...) where there is no room -/
theorem OT.growZ (T : Tab P) {s : Sl} {vs : List Value} {x y : Operand} {t t2 e : TypeId} {ei : TI} {kz : IntKind} {z : Nat} {iv : Int} {zv : Value} {d : Nat} (hM : s.len ≤ vs.length) (hadr : s.len = 0 ∨ ∃ b o, s.a = some ⟨b, o, none⟩) (hz0 : 0 < z) (hiv : iv = (z : Int))
    (ho : o.op = .call ⟨.builtin .append, ⟨[x, y]⟩, ⟨[t, t2]⟩⟩) (hd : o.dst = some d) (hN : Nat.blt d N = true) (hx : ev ρ x = some s.v) (hy : ev ρ y = some (.int .i64 iv)) (he : T.elem t = some (e, ei)) (ht2 : T.intK t2 = some kz)
    (hsz : Nat.beq ei.size 1 = true) (hb : Nat.blt 0 ei.bytes = true) (hz : cellsF ei.zero = some [zv]) (hfit : (s.len + z) * ei.bytes ≤ 140737488355328) (hroom : s.cap < s.len + z)
    (hK : ∀ b vs', s.len + z ≤ vs'.length → vs'.take (s.len + z) = vs.take s.len ++ List.replicate z zv → K ((d, .slice (some ⟨b, 0, none⟩) (s.len + z) vs'.length) :: ρ) m (.cells b 0 vs' :: mcell s vs :: L)) : OT P N o ρ D m (mcell s vs :: L) Q K := by
  obtain ⟨ti, h4, h5, h6⟩ := elem_get he
  obtain ⟨si, s1, s2⟩ := intK_get ht2
  obtain ⟨_, _, hu, _⟩ := T.ok t ti h4
  rw [h5] at hu
  obtain ⟨_, _, hu2, _⟩ := T.ok t2 si s1
  rw [s2] at hu2
  obtain ⟨info, q1, q2, q3, q4, q5⟩ := T.ok e ei h6
  have hs1 := Nat.eq_of_beq_eq_true hsz
  have hbp : 0 < ei.bytes := by simpa [Nat.blt_eq] using hb
  have hbound : s.len + z ≤ 140737488355328 := Nat.le_trans (Nat.le_mul_of_pos_right _ hbp) hfit
  have hzc := cellsF_eq hz
  intro ac w ha
  have hsrc : Src w s 1 (vs.take s.len) := by
    refine ⟨by rw [List.length_take]; omega, ?_⟩
    rcases hadr with h | ⟨b, o, h⟩
    · exact .inl h
    · right
      refine ⟨b, o, h, fun j v hv => ?_⟩
      have hc := ha.st.cells (i := 0) (b := b) (off := o) (vs := vs) (by simp [mcell, h])
      refine hc j v ?_
      rw [List.getElem?_take] at hv
      split at hv
      · exact hv
      · cases hv
  have hold := run_first (P := P) (hsrc.drew)
  have hnr : ¬ (s.len + z ≤ s.cap) := by omega
  have h48 : ¬ (Builtin.nextslicecap (s.len + z) s.cap * ei.bytes > 281474976710656) := by
    have := growslice_fits hroom hfit
    omega
  obtain ⟨nc, hnc, hge⟩ : ∃ nc, nc = (Question.appendCap (s.len + z) s.cap e).cut (w.tape w.drawn (.appendCap (s.len + z) s.cap e)) ∧ s.len + z ≤ nc := ⟨_, rfl, by simp [Question.cut]⟩
  have hzcell : ∀ k, Builtin.zeroCells ei.zero.cells k = ⟨List.replicate k zv⟩ := by
    intro k
    rw [hzc]
    apply Array.ext'
    simp only [Builtin.zeroCells, Array.toList_map, Array.toList_range]
    apply List.ext_getElem
    · simp
    · intro i h1 h2
      simp [Nat.mod_one]
  have hst := ha.st.drew.allocCells ((⟨vs.take s.len⟩ : Array Value) ++ (⟨List.replicate z zv⟩ : Array Value) ++ (⟨List.replicate (nc - (s.len + z)) zv⟩ : Array Value)) e
  have hlen : (vs.take s.len ++ List.replicate z zv ++ List.replicate (nc - (s.len + z)) zv).length = nc := by simp; omega
  have hw : iv = ((z : Nat) : Int) := hiv
  have hzb : ¬ ((z : Int) * (ei.bytes : Int) > 281474976710656) := by
    have : z * ei.bytes ≤ 140737488355328 := Nat.le_trans (Nat.mul_le_mul_right _ (by omega)) hfit
    have h2 : ((z : Int) * (ei.bytes : Int)) = ((z * ei.bytes : Nat) : Int) := by simp
    rw [h2]; omega
  have hwrap : IntKind.i64.wrap (z : Int) = (z : Int) := wrap64_in (by omega) (by omega)
  have hb0 : ei.bytes ≠ 0 := by omega
  have hmax : ¬ (9223372036854775807 < (s.len : Int) + (z : Int)) := by omega
  have hneg : ¬ ((z : Int) < 0) := by omega
  have hzn : ¬ (z = 0) := by omega
  have hr : (Builtin.append_ #[t, t2] o.type #[s.v, .int .i64 iv]).run P w = .ok (.slice (some ⟨w.heap.size, 0, none⟩) (s.len + z) nc) (w.drew.alloc (.cells ((⟨vs.take s.len⟩ : Array Value) ++ (⟨List.replicate z zv⟩ : Array Value) ++ (⟨List.replicate (nc - (s.len + z)) zv⟩ : Array Value)) e)) := by
    subst hw
    simp only [Sl.v] at hold
    simp [Builtin.append_, run_underlying hu, run_underlying hu2, sizeOf, typeInfo, zeroValue, q1, q3, q4, q5, hs1, asInt, asIntOf, hwrap, hneg, hzb, hnr, h48, hmax, hold, hzn, hzcell, Question.forced, newRow, ← hnc, IntKind.max, IntKind.signed, IntKind.bits, hb0]
  have he' : (execOp ac.eval o).run P w = .ok (.value (.slice (some ⟨w.heap.size, 0, none⟩) (s.len + z) nc)) (w.drew.alloc (.cells ((⟨vs.take s.len⟩ : Array Value) ++ (⟨List.replicate z zv⟩ : Array Value) ++ (⟨List.replicate (nc - (s.len + z)) zv⟩ : Array Value)) e)) := by
    simp only [execOp, ho, resolve, invoke, builtin, Sem.run_bind, Sem.run_pure, Result.andThen_ok, List.map_toArray, List.map_cons, List.map_nil, ha.env.eval hx, ha.env.eval hy, hr]
  simp only [Oper.wp, he', Oper.upon, hd]
  have hp := ha.put hN (.slice (some ⟨w.heap.size, 0, none⟩) (s.len + z) nc)
  have hk := hK w.heap.size (vs.take s.len ++ List.replicate z zv ++ List.replicate (nc - (s.len + z)) zv) (by rw [hlen]; exact hge) (by
    rw [List.append_assoc, ← List.append_assoc, List.take_append_of_le_length (by simp; omega), List.take_of_length_le (by simp; omega)])
  rw [hlen] at hk
  have hst' : St m (w.drew.alloc (.cells ((⟨vs.take s.len⟩ : Array Value) ++ (⟨List.replicate z zv⟩ : Array Value) ++ (⟨List.replicate (nc - (s.len + z)) zv⟩ : Array Value)) e)) (.cells w.heap.size 0 (vs.take s.len ++ List.replicate z zv ++ List.replicate (nc - (s.len + z)) zv) :: mcell s vs :: L) := by simpa using hst
  exact ⟨_, _, _, ⟨hp.size, hp.env, hp.defers, hst'⟩, hk⟩

section
variable {ops : List Oper} {ts : List Nat} {fuel : Nat} {listed : List Bool} {Ls Lp : List Item}
/-- s[lo:hi], taken first -/
theorem DO.cutP (T : Tab P) (i : Nat) (lo hi : Nat) {x : Operand} {lx hx : Option Operand} {lov hiv : Option Value} {t : TypeId} {o : Oper} {d b off n c : Nat} (hc : Calm Q) (hns : Region.noSelect ⟨ops⟩ = true) (hok : orderOkP ops ts [i] listed = true)
    (hi' : ops[i]? = some o) (hg : gv ops ρ o = some true) (ho : o.op = .slice t x lx hx none) (hd : o.dst = some d) (hN : Nat.blt d N = true)
    (he : ev ρ x = some (.slice (some ⟨b, off, none⟩) n c)) (h1 : evO ρ lx = some lov) (h2 : evO ρ hx = some hiv) (hsz : T.esize t = some 1)
    (g1 : (lov = none ∧ lo = 0) ∨ lov = some (.int .i64 (lo : Int))) (g2 : (hiv = none ∧ hi = n) ∨ hiv = some (.int .i64 (hi : Int))) (hle : lo ≤ hi) (hhi : hi ≤ c) (hlc : lo < c)
    (h : DO P N ops ts fuel (listed.set i true) ((d, .slice (some ⟨b, off + lo, none⟩) (hi - lo) (c - lo)) :: ρ) D m Ls Lp Q) : DO P N ops ts (fuel + 1) listed ρ D m Ls Lp Q := by
  simp only [orderOkP, Bool.and_eq_true] at hok
  obtain ⟨o1, o2, o3, _⟩ := hok
  refine DO.takeP i hc hi' hd hN hg hns o1 o2 (by simpa using o3) (fun ac w hA => ?_) h
  have hr := run_sliceAt (P := P) (w := w) T (s := ⟨some ⟨b, off, none⟩, n, c⟩) hsz g1 g2 hle hhi
  simp only [Sl.v] at hr
  simp only [execOp, ho, hA.eval he, hA.evalO h1, hA.evalO h2, Option.map_none, Sem.run_bind, hr, Result.andThen_ok, Sem.run_pure]
  rw [if_neg (by omega)]
  simp [addr_add]
end

/-- a call of an entry of the model -/
theorem OT.callX {F : Operand} {args : List Operand} {ats : Array TypeId} {f : FuncId} {fn : Func} {E : Array Value → Sem Value} {vs : List Value} {v : Value} {d : Nat} (ho : o.op = .call ⟨.value F, ⟨args⟩, ats⟩) (hd : o.dst = some d) (hN : Nat.blt d N = true)
    (hF : ev ρ F = some (.func (.func f) ⟨[]⟩ ⟨[]⟩)) (ha : evs ρ args = some vs) (hf : P.funcs[f]? = some fn) (hname : (fn.name == "runtime.NumGoroutine") = false) (hb : fn.body.isNone = true) (hn : Extern.findNext fn = none) (hE : Extern.find fn = some E)
    (hr : ∀ w, St m w L → (E ⟨vs⟩).run P w = .ok v w) (hK : K ((d, v) :: ρ) m L) : OT P N o ρ D m L Q K := by
  refine OT.run hd hN (fun ac w hac => ⟨w, ?_, hac.st⟩) hK
  have hargs := hac.env.evals ha
  have hcall := run_callFunc_extern hf hname hb hn hE ⟨vs⟩ w
  rw [hr w hac.st] at hcall
  simp only [execOp, ho, resolve, hac.env.eval hF, Deferred.ofValue, Sem.run_bind, Sem.run_pure, Result.andThen_ok, invoke]
  rw [show (#[] ++ Array.map ac.eval ⟨args⟩ ++ #[] : Array Value) = ⟨vs⟩ by simp [hargs]]
  exact hcall
end
end Go.Sep

/-
  Slices of maps; a queue whose first element goes.
-/
set_option linter.unusedVariables false
set_option linter.unusedSimpArgs false
namespace Go.Sep

/-- a map variable: nil, or a map with its keys (the values have no size) -/
abbrev MapH := Option (Nat × Ents Int × Nat)
def mv : MapH → Value
  | none => .map none
  | some (b, _, _) => .map (some b)
def mitem : MapH → Item
  | none => .room 0 0 0
  | some (b, es, c) => .obj b (mapO kInt es c)
def mkeys : MapH → List Int
  | none => []
  | some (_, es, _) => es.map (·.1)
def mtoks (ws : List MapH) : List Item := ws.map mitem

theorem mtoks_out {ws : List MapH} {k : Nat} {x : MapH} (L : List Item) (h : ws[k]? = some x) : (mtoks ws ++ L).Perm (mitem x :: (mtoks (ws.eraseIdx k) ++ L)) := by
  have h1 : (mtoks ws)[k]? = some (mitem x) := map_get _ h
  have h2 := perm_at h1
  have e : (mtoks ws).eraseIdx k = mtoks (ws.eraseIdx k) := eraseIdx_map' _ _ _
  rw [e] at h2
  exact h2.append_right L
theorem mtoks_in {ws : List MapH} {k : Nat} {x : MapH} (L : List Item) (h : k < ws.length) : (mitem x :: (mtoks (ws.eraseIdx k) ++ L)).Perm (mtoks (ws.set k x) ++ L) := by
  have h2 := perm_back (L := mtoks ws) (i := k) (by simpa [mtoks] using h) (mitem x)
  have e : (mtoks ws).eraseIdx k = mtoks (ws.eraseIdx k) := eraseIdx_map' _ _ _
  have e2 : (mtoks ws).set k (mitem x) = mtoks (ws.set k x) := by simp [mtoks, List.map_set]
  rw [e, e2] at h2
  exact h2.append_right L
theorem mtoks_same {ws : List MapH} {k : Nat} {x : MapH} (L : List Item) (h : ws[k]? = some x) : (mitem x :: (mtoks (ws.eraseIdx k) ++ L)).Perm (mtoks ws ++ L) := (mtoks_out L h).symm

theorem St.mtoks0 {m : Mem} {w : World} {L : List Item} (h : St m w L) (n : Nat) : St m w (mtoks (List.replicate n none) ++ L) := by
  induction n with
  | zero => exact h
  | succ n ih => exact ih.room0 0 0

theorem mhas_keys {es : Ents Int} {x : Int} : mhas es x = decide (x ∈ es.map (·.1)) := by
  induction es with
  | nil => rfl
  | cons e es ih =>
    simp only [mhas, List.any_cons, List.map_cons, List.mem_cons] at ih ⊢
    rw [ih]
    by_cases h : e.1 = x
    · simp [h]
    · simp [h, Ne.symm h]
theorem mset_keys {es : Ents Int} {x : Int} (v : Value) (c : Nat) (h : x ∉ es.map (·.1)) : (mset es x v c).map (·.1) = es.map (·.1) ++ [x] := by
  unfold mset
  have : mhas es x = false := by rw [mhas_keys]; simpa using h
  simp [this]
theorem mdel_keys : ∀ {es : Ents Int} {x : Int}, (es.map (·.1)).Nodup → (mdel es x).map (·.1) = (es.map (·.1)).filter fun y => decide (y ≠ x)
  | [], x, _ => rfl
  | e :: es, x, h => by
    simp only [List.map_cons, List.nodup_cons] at h
    unfold mdel
    by_cases hx : e.1 = x
    · subst hx
      simp only [List.findIdx_cons, decide_true, cond_true, List.eraseIdx_cons_zero, List.map_cons, List.filter_cons, ne_eq, not_true_eq_false, decide_false, Bool.false_eq_true, if_false]
      rw [List.filter_eq_self.2]
      intro y hy
      simp only [ne_eq, decide_eq_true_eq]
      exact fun e => h.1 (e ▸ hy)
    · have ih := mdel_keys (x := x) h.2
      unfold mdel at ih
      simp only [List.findIdx_cons, hx, decide_false, cond_false, List.eraseIdx_cons_succ, List.map_cons, List.filter_cons, ne_eq, not_false_eq_true, decide_true, if_true]
      rw [ih]

section
variable {P : Program} {N : Nat} {ρ : Env} {D : List Deferred} {m : Mem} {L : List Item} {Q : EPost} {full : List Oper} {o : Oper} {K : Env → Mem → List Item → Prop}
theorem TC.mtoks0 {c : Code} (n : Nat) (h : TC P N c ρ D m (mtoks (List.replicate n none) ++ L) Q) : TC P N c ρ D m L Q := fun a w ha => h a w ⟨ha.size, ha.env, ha.defers, ha.st.mtoks0 n⟩
theorem TO.mtoks0 {l : List Oper} (n : Nat) (h : TO P N ⟨full⟩ l ρ D m (mtoks (List.replicate n none) ++ L) Q) : TO P N ⟨full⟩ l ρ D m L Q := fun a w ha => h a w ⟨ha.size, ha.env, ha.defers, ha.st.mtoks0 n⟩

theorem equalIn_nilMap {t a b : TypeId} {w : World} (dd : Nat) (hu : (underlying t).run P w = .ok (.map a b) w) (h : MapH) :
    (Op.equalIn (dd + 1) t (mv h) (.map none)).run P w = .ok (decide (h = none)) w := by
  rcases h with _ | ⟨b, es, c⟩
  · simp only [mv, Op.equalIn, Sem.run_bind, hu, Result.andThen_ok, Sem.run_pure]; rfl
  · simp only [mv, Op.equalIn, Sem.run_bind, hu, Result.andThen_ok, Sem.run_pure]; rfl

/-- m == nil -/
theorem OT.nilMap (T : Tab P) {t t' kt vt : TypeId} {x y : Operand} {d : Nat} (h : MapH) (ho : o.op = .binOp .eql t x y t') (hd : o.dst = some d) (hN : Nat.blt d N = true)
    (hx : ev ρ x = some (mv h)) (hy : ev ρ y = some (.map none)) (ht : T.mapT kInt t = some (kt, vt)) (hK : K ((d, .bool (decide (h = none))) :: ρ) m L) : OT P N o ρ D m L Q K := by
  obtain ⟨ti, ki, h1, h2, h3, h4⟩ := mapT_get ht
  refine OT.run hd hN (fun a w ha => ⟨w, ?_, ha.st⟩) hK
  have hu := T.run_underlying w h1
  rw [h2] at hu
  have heq := equalIn_nilMap (P := P) 9999 hu h
  have e1 : binOp .eql t (mv h) (.map none) = (do pure (.bool (← Op.equalIn (9999 + 1) t (mv h) (.map none))) : Sem Value) := by
    rcases h with _ | ⟨b, es, c⟩ <;> rfl
  have e2 : (eqGuard .eql t x y (mv h) (.map none)).run P w = .ok () w := by
    rcases h with _ | ⟨b, es, c⟩ <;> simp [eqGuard, mv]
  simp only [execOp, ho, ha.env.eval hx, ha.env.eval hy, Sem.run_bind, e1, e2, Result.andThen_ok, heq, Sem.run_pure]

/-- len of a map that may be nil -/
theorem OT.lenMap (T : Tab P) (i : Nat) {t kt vt : TypeId} {mp : Operand} {d : Nat} (h : MapH) (ho : o.op = .call ⟨.builtin .len, ⟨[mp]⟩, ⟨[t]⟩⟩) (hd : o.dst = some d) (hN : Nat.blt d N = true)
    (hm : ev ρ mp = some (mv h)) (ht : T.mapT kInt t = some (kt, vt)) (hi : L[i]? = some (mitem h))
    (hK : K ((d, .int .i64 ((mkeys h).length : Int)) :: ρ) m L) : OT P N o ρ D m L Q K := by
  rcases h with _ | ⟨b, es, c⟩
  · obtain ⟨ti, ki, h1, h2, h3, h4⟩ := mapT_get ht
    refine OT.run hd hN (fun a w ha => ⟨w, ?_, ha.st⟩) hK
    have hu := T.run_underlying w h1
    rw [h2] at hu
    have hm' : ev ρ mp = some (.map none) := hm
    simp only [execOp, ho, resolve, Sem.run_bind, Sem.run_pure, Result.andThen_ok, invoke, builtin, List.map_toArray, List.map_cons, List.map_nil, ha.env.eval hm', Builtin.len_]
    simp [hu, ha.env.eval hm', goInt, mkeys]
  · refine OT.mapLen T kInt i ho hd hN hm ht hi ?_
    simpa [mkeys] using hK

theorem OT.runN {v : Value} {m' : Mem} {L' : List Item} (hd : o.dst = none)
    (h : ∀ a w, Ok N ρ D m L a w → ∃ w', (execOp a.eval o).run P w = .ok (.value v) w' ∧ St m' w' L') (hK : K ρ m' L') : OT P N o ρ D m L Q K := by
  intro a w ha
  obtain ⟨w', hr, hst⟩ := h a w ha
  simp only [Oper.wp, hr, Oper.upon, hd]
  exact ⟨_, _, _, ⟨ha.size, ha.env, ha.defers, hst⟩, hK⟩

theorem OT.mapDel0 {κ : Type} [DecidableEq κ] (T : Tab P) (k : KeyK κ) (i : Nat) {t t2 kt vt : TypeId} {mp ky : Operand} {b c : Nat} {es : Ents κ} (x : κ) (ho : o.op = .call ⟨.builtin .delete, ⟨[mp, ky]⟩, ⟨[t, t2]⟩⟩) (hd : o.dst = none)
    (hm : ev ρ mp = some (.map (some b))) (hk : ev ρ ky = some (k.v x)) (ht : T.mapT k t = some (kt, vt)) (hi : L[i]? = some (.obj b (mapO k es c)))
    (hK : K ρ m (L.set i (.obj b (mapO k (mdel es x) c)))) : OT P N o ρ D m L Q K := by
  obtain ⟨ti, ki, h1, h2, h3, h4⟩ := mapT_get ht
  refine OT.runN (v := .tuple #[]) hd (fun a w ha => ?_) hK
  have hu := T.run_underlying w h1
  rw [h2] at hu
  have huk := T.run_underlying w h3
  have hst := ha.st.at_ hi
  have hobj : w.heap[b]? = some (mapO k es c) := (hst.items _ (List.mem_cons_self ..)).1
  have hset := hst.setObj (mapO k (mdel es x) c) rfl
  refine ⟨_, ?_, hset.back hi⟩
  have hck := fun e => k.check P w e kt ki.u x h4 huk
  have hfk := run_findKey (P := P) k h4 huk x es
  have hdel : (Builtin.delete_ #[t, t2] o.type #[.map (some b), k.v x]).run P w = .ok (.tuple #[]) { w with heap := w.heap.setIfInBounds b (mapO k (mdel es x) c) } := by
    simp only [Builtin.delete_]
    simp only [List.getElem?_toArray, List.getElem?_cons_zero, List.getElem?_cons_succ, Sem.run_bind, hu, Result.andThen_ok, run_getObj hobj rfl, mapO, hck, hfk]
    by_cases hh : mhas es x = true
    · have he : (⟨es.map (entE k)⟩ : Array MapEntry).eraseIdxIfInBounds (es.findIdx fun e => decide (e.1 = x)) = ⟨(mdel es x).map (entE k)⟩ := by
        have hx : ∃ e ∈ es, decide (e.1 = x) = true := by simpa [mhas, List.any_eq_true] using hh
        have hlt : (es.findIdx fun e => decide (e.1 = x)) < es.length := List.findIdx_lt_length_of_exists hx
        apply Array.ext'
        simp [Array.eraseIdxIfInBounds, hlt, mdel, map_eraseIdx]
      simp only [hh, if_true, he, Sem.run_bind]
      rw [run_setObj _ hobj rfl]
      simp [mapO]
    · have hf : mhas es x = false := by simpa using hh
      have he : mdel es x = es := by
        have hn : es.findIdx (fun e => decide (e.1 = x)) = es.length := List.findIdx_eq_length.2 fun e he => by
          rw [mhas, List.any_eq_false] at hf
          simpa using hf e he
        rw [mdel, hn]
        exact List.eraseIdx_of_length_le (Nat.le_refl _)
      simp only [hf, Bool.false_eq_true, if_false, he, Sem.run_bind]
      rw [run_setObj _ hobj rfl]
      simp [mapO]
  simp only [execOp, ho, resolve, Sem.run_bind, Sem.run_pure, Result.andThen_ok, invoke, builtin, List.map_toArray, List.map_cons, List.map_nil, ha.env.eval hm, ha.env.eval hk, hdel]

/-- the first element of an owned slice goes -/
theorem OT.behead {α : Type} (T : Tab P) {f : α → Value} {s : Sl} {vs : List Value} {x0 : α} {xs : List α} {x : Operand} {lx : Option Operand} {t : TypeId} {d : Nat} (hq : MQ f s vs (x0 :: xs))
    (ho : o.op = .slice t x lx none none) (hd : o.dst = some d) (hN : Nat.blt d N = true) (he : ev ρ x = some s.v) (h1 : evO ρ lx = some (some (.int .i64 1))) (hsz : T.esize t = some 1)
    (hK : ∀ s' vs', MQ f s' vs' xs → K ((d, s'.v) :: ρ) m (mcell s' vs' :: L)) : OT P N o ρ D m (mcell s vs :: L) Q K := by
  have hl := hq.len
  simp only [List.length_cons] at hl
  obtain ⟨b, off, c, hs, hc1, hc2⟩ := hq.ne (by simp)
  subst hs
  simp only [List.length_cons] at hc1 hc2 hl ⊢
  have hq2 := hq.eq
  simp only [List.length_cons, List.map_cons] at hq2
  rcases vs with _ | ⟨v0, vs⟩
  · simp at hc2; omega
  simp only [List.length_cons] at hc2
  simp only [List.take_succ_cons, List.cons.injEq] at hq2
  have hcut : ∀ w : World, (Instr.sliceAt t (.slice (some ⟨b, off, none⟩) (xs.length + 1) c) (some (.int .i64 1)) none none).run P w = .ok (.slice (if c = 1 then some ⟨b, off, none⟩ else some ⟨b, off + 1, none⟩) xs.length (c - 1)) w := fun w => by
    have hr := run_sliceAt (P := P) (w := w) T (s := ⟨some ⟨b, off, none⟩, xs.length + 1, c⟩) (lov := some (.int .i64 1)) (hiv := none) (lo := 1) (hi := xs.length + 1) hsz (.inr rfl) (.inl ⟨rfl, rfl⟩) (by omega) (by simp only; omega)
    simp only [Sl.v, Option.map_some, addr_add, Nat.one_mul, Nat.add_sub_cancel] at hr
    exact hr
  intro ac w ha
  have hsp : St m w (.cells b (off + 1) vs :: L) := (St.split (vs := [v0]) (us := vs) ha.st).sub (List.sublist_cons_self _ _)
  have hrun : (execOp ac.eval o).run P w = .ok (.value (.slice (if c = 1 then some ⟨b, off, none⟩ else some ⟨b, off + 1, none⟩) xs.length (c - 1))) w := by
    have he' : ev ρ x = some (.slice (some ⟨b, off, none⟩) (xs.length + 1) c) := he
    simp only [execOp, ho, ha.env.eval he', ha.env.evalO h1, Option.map_none, Sem.run_bind, hcut, Result.andThen_ok, Sem.run_pure]
  simp only [Oper.wp, hrun, Oper.upon, hd]
  have hp := ha.put hN (.slice (if c = 1 then some ⟨b, off, none⟩ else some ⟨b, off + 1, none⟩) xs.length (c - 1))
  by_cases h1c : c = 1
  · have hx0 : xs = [] := List.eq_nil_of_length_eq_zero (by omega)
    have hv0 : vs = [] := List.eq_nil_of_length_eq_zero (by omega)
    subst hx0; subst hv0; subst h1c
    refine ⟨_, _, _, ⟨hp.size, hp.env, hp.defers, ?_⟩, hK ⟨some ⟨b, off, none⟩, 0, 0⟩ [] ⟨MS.at_ _ _ _ _ _ (Nat.le_refl _) rfl, rfl⟩⟩
    exact (hsp.sub (List.sublist_cons_self _ _)).cells0 b off
  · rw [if_neg h1c] at hp ⊢
    refine ⟨_, _, _, ⟨hp.size, hp.env, hp.defers, ?_⟩, hK ⟨some ⟨b, off + 1, none⟩, xs.length, c - 1⟩ vs ⟨MS.at_ _ _ _ _ _ (by omega) (by omega), hq2.2⟩⟩
    exact hsp
end
end Go.Sep

/-
  Bytes of strings, sums of strings, functions compared with nil.
-/
set_option linter.unusedVariables false
set_option linter.unusedSimpArgs false
namespace Go.Sep
theorem Item.Free.weaken {m m' : Mem} (h : m ≤ m') {x : Item} (hf : x.Free m') : x.Free m where
  pin := by rw [← h.pin]; exact hf.pin
  c := fun j hj => by
    have h1 := hf.c j hj
    cases hc : m.c x.blk (x.off + j) with
    | none => rfl
    | some v => rw [h.c _ _ _ hc] at h1; cases h1
  o := fun b o hx => by
    have h1 := hf.o b o hx
    cases hc : m.o b with
    | none => rfl
    | some v => rw [h.o _ _ hc] at h1; cases h1

theorem St.weaken {m m' : Mem} {w : World} {L : List Item} (h : St m' w L) (hm : m ≤ m') : St m w L where
  os := by rw [h.os, hm.pin]
  tape := by rw [h.tape, hm.pin]
  output := by rw [h.output, hm.pin]
  size := by rw [← hm.pin]; exact h.size
  pin := by rw [← hm.pin]; exact h.pin
  c := fun b i v hv => h.c b i v (hm.c b i v hv)
  o := fun b x hx => h.o b x (hm.o b x hx)
  items := h.items
  free := fun x hx => (h.free x hx).weaken hm
  disj := h.disj

/-- what was learned on the way is let go -/
theorem TCall.forget {P : Program} {f : FuncId} {args : Array Value} {m : Mem} {L : List Item} {v : Value} (h : TCall P f args m L (Made m L fun r _ => r = v)) : TCall P f args m L (Ret v m L) :=
  fun w hs => (h w hs).mono fun e w' he => by
    cases e with
    | returned v => obtain ⟨m', L', h1, h2, rfl, rfl⟩ := he; exact ⟨m, L, h1.weaken h2, rfl, rfl, rfl⟩
    | panicked ch => obtain ⟨_, _, _, hf⟩ := he; exact hf.elim
    | outgrown => exact he

section
variable {P : Program} {N : Nat} {ρ : Env} {D : List Deferred} {m : Mem} {L : List Item} {Q : EPost} {o : Oper} {K : Env → Mem → List Item → Prop}

@[reducible] def byteV (b : UInt8) : Value := .int .u8 (b.toNat : Int)

def Tab.isStr {P : Program} (T : Tab P) (t : TypeId) : Bool :=
  match T.get t with
  | some ⟨.string, _, _, _⟩ => true
  | _ => false

theorem isStr_get {T : Tab P} {t : TypeId} (h : T.isStr t = true) : ∃ i, T.get t = some i ∧ i.u = .string := by
  unfold Tab.isStr at h
  split at h
  · exact ⟨_, by assumption, rfl⟩
  · cases h

theorem getElem_data (s : Str) (k : Nat) {b : UInt8} (h : s[k]? = some b) : (⟨⟨s⟩⟩ : ByteArray)[k]? = some b := by
  obtain ⟨hk, he⟩ := List.getElem?_eq_some_iff.1 h
  have hs : k < (⟨⟨s⟩⟩ : ByteArray).size := hk
  rw [getElem?_pos _ k hs]
  exact congrArg some he

/-- s[k] of a string -/
theorem OT.sidx (T : Tab P) {t : TypeId} {x y : Operand} {s : Str} {i : Int} {b : UInt8} {d : Nat} (k : Nat) (ho : o.op = .index t x y) (hd : o.dst = some d) (hN : Nat.blt d N = true)
    (ht : T.isStr t = true) (hx : ev ρ x = some (strV s)) (hy : ev ρ y = some (.int .i64 i)) (hi : i = (k : Int)) (hb : s[k]? = some b) (hK : K ((d, byteV b) :: ρ) m L) : OT P N o ρ D m L Q K := by
  obtain ⟨ti, h1, h2⟩ := isStr_get ht
  subst hi
  refine OT.run hd hN (fun a w ha => ⟨w, ?_, ha.st⟩) hK
  have hu := T.run_underlying w h1
  rw [h2] at hu
  have hg := getElem_data s k hb
  simp only [execOp, ho, ha.env.eval hx, ha.env.eval hy, Instr.index, asIntOf, Sem.run_bind, Sem.run_pure, Result.andThen_ok, hu, Int.toNat_natCast, Int.natCast_nonneg, if_true, hg]

theorem u8_or (a b : Nat) (ha : a < 256) (hb : b < 256) : IntKind.wrap .u8 (((BitVec.ofInt 8 (a : Int)) ||| (BitVec.ofInt 8 (b : Int))).toNat : Int) = ((a ||| b : Nat) : Int) := by
  have h1 : ((BitVec.ofInt 8 (a : Int)) ||| (BitVec.ofInt 8 (b : Int))).toNat = a ||| b := by
    rw [BitVec.toNat_or]
    simp only [BitVec.ofInt_natCast, BitVec.toNat_ofNat]
    rw [Nat.mod_eq_of_lt (by omega), Nat.mod_eq_of_lt (by omega)]
  rw [h1]
  have h2 : a ||| b < 256 := Nat.or_lt_two_pow (n := 8) ha hb
  simp [IntKind.wrap, IntKind.signed, IntKind.bits]
  omega

/-- a | b of bytes -/
theorem OT.orU8 {t t' : TypeId} {x y : Operand} {a b : Nat} {d : Nat} (ho : o.op = .binOp .or t x y t') (hd : o.dst = some d) (hN : Nat.blt d N = true)
    (hx : ev ρ x = some (.int .u8 (a : Int))) (hy : ev ρ y = some (.int .u8 (b : Int))) (ha' : a < 256) (hb' : b < 256) (hK : K ((d, .int .u8 ((a ||| b : Nat) : Int)) :: ρ) m L) : OT P N o ρ D m L Q K := by
  refine OT.run hd hN (fun ac w ha => ⟨w, ?_, ha.st⟩) hK
  have hr := u8_or a b ha' hb'
  simp only [execOp, ho, ha.env.eval hx, ha.env.eval hy, Sem.run_bind, eqGuard, binOp, Op.intBits]
  simp [IntKind.bits] at hr ⊢
  exact hr

/-- s + t of strings -/
theorem OT.concat {t t' : TypeId} {x y : Operand} {s u : Str} {d : Nat} (ho : o.op = .binOp .add t x y t') (hd : o.dst = some d) (hN : Nat.blt d N = true)
    (hx : ev ρ x = some (strV s)) (hy : ev ρ y = some (strV u)) (hl : s.length + u.length ≤ 9223372036854775807) (hK : K ((d, strV (s ++ u)) :: ρ) m L) : OT P N o ρ D m L Q K := by
  refine OT.run hd hN (fun ac w ha => ⟨w, ?_, ha.st⟩) hK
  have h1 : ¬ (((⟨⟨s⟩⟩ : ByteArray).size + (⟨⟨u⟩⟩ : ByteArray).size : Nat) : Int) > IntKind.i64.max := by
    show ¬ ((s.length + u.length : Nat) : Int) > IntKind.i64.max
    have : IntKind.i64.max = 9223372036854775807 := by decide
    rw [this]; omega
  have h2 : (⟨⟨s⟩⟩ : ByteArray) ++ (⟨⟨u⟩⟩ : ByteArray) = ⟨⟨s ++ u⟩⟩ := by
    apply ByteArray.ext
    simp
  simp only [execOp, ho, ha.env.eval hx, ha.env.eval hy, Sem.run_bind, eqGuard, binOp, Op.stringOp]
  rw [if_neg h1, h2]
  simp

def Tab.isFunc {P : Program} (T : Tab P) (t : TypeId) : Bool :=
  match T.get t with
  | some ⟨.func _ _ _, _, _, _⟩ => true
  | _ => false
theorem isFunc_get {T : Tab P} {t : TypeId} (h : T.isFunc t = true) : ∃ i a b c, T.get t = some i ∧ i.u = .func a b c := by
  unfold Tab.isFunc at h
  split at h
  · exact ⟨_, _, _, _, by assumption, rfl⟩
  · cases h

theorem equalIn_nilFn {t : TypeId} {w : World} {a b c} (dd : Nat) (hu : (underlying t).run P w = .ok (.func a b c) w) :
    (Op.equalIn (dd + 1) t .nilFunc .nilFunc).run P w = .ok true w := by
  simp only [Op.equalIn, Sem.run_bind, hu, Result.andThen_ok, Sem.run_pure]
theorem OT.nilFn (T : Tab P) {t t' : TypeId} {x y : Operand} {d : Nat} (ho : o.op = .binOp .eql t x y t') (hd : o.dst = some d) (hN : Nat.blt d N = true)
    (hx : ev ρ x = some .nilFunc) (hy : ev ρ y = some .nilFunc) (ht : T.isFunc t = true) (hK : K ((d, .bool true) :: ρ) m L) : OT P N o ρ D m L Q K := by
  obtain ⟨ti, a, b, c, h1, h2⟩ := isFunc_get ht
  refine OT.run hd hN (fun ac w ha => ⟨w, ?_, ha.st⟩) hK
  have hu := T.run_underlying w h1
  rw [h2] at hu
  have e1 : binOp .eql t .nilFunc .nilFunc = (do pure (.bool (← Op.equalIn (9999 + 1) t .nilFunc .nilFunc)) : Sem Value) := rfl
  have e2 : (eqGuard .eql t x y .nilFunc .nilFunc).run P w = .ok () w := by simp [eqGuard]
  have h := equalIn_nilFn (P := P) 9999 hu
  simp only [execOp, ho, ha.env.eval hx, ha.env.eval hy, Sem.run_bind, e2, Result.andThen_ok, e1, h, Sem.run_pure]


/-- a result that lies in a cell -/
theorem retQ_ret_c1 (T : Tab P) (i : Nat) {fn : Func} {R : Value → Mem → List Item → Prop} {X : List PanicEntry → Mem → List Item → Prop} {t : Nat} {ty : TypeId} {b : Nat} {cs : List Value} {v : Value} {L' : List Item}
    (hres : fn.results = ⟨[.cell t ty]⟩) (ht : look ρ t = some (.pointer (some ⟨b, 0, none⟩))) (hi : L[i]? = some (.cells b 0 cs)) (hv : T.load ty cs 0 = some v) (hs : L'.Sublist L)
    (h : R v m L') : retQ P fn R X .ret ρ [] m L := by
  refine ⟨rfl, _, L', fun a w hA hst => ?_, hs, h⟩
  have h1 := run_loadVar (P := P) T (k := 0) (hst.cells hi) hv
  have h2 := hA t _ ht
  unfold results
  rw [hres, Array.mapM_eq_mapM_toList]
  simp [Sem.run_bind, Sem.run_map, h2, asAddr, h1]
end

/-! short names of the rules that are tried in turn -/
abbrev q1 := @TC.seq
abbrev q2 := @TC.block
abbrev q3 := @TC.region
abbrev q4 := @TO.pureP
abbrev q5 := @TO.nil
abbrev q6 := @thenQ_n
abbrev q7 := @blockQ_n
abbrev q8 := @thenQ_r
abbrev q9 := @blockQ_r
abbrev q10 := @thenQ_x
abbrev q11 := @blockQ_hit
abbrev q12 := @blockQ_miss
abbrev q13 := @TC.skip
abbrev q14 := @TC.exit
abbrev q15 := @TC.ret
abbrev q16 := @TC.cond_t
abbrev q17 := @TC.cond_f
abbrev qs := @TO.step
abbrev ql := @OT.loadL
abbrev qz := @OT.loadL0
end Go.Sep

/-
  Trees of nodes (a number, a name, a number, kids): how they lie in memory.
-/
set_option linter.unusedVariables false
set_option linter.unusedSimpArgs false
namespace Go.Sep

inductive Tree where
  | mk (kind : Int) (name : Str) (num : Int) (kids : List Tree)
def Tree.kind : Tree → Int | .mk k _ _ _ => k
def Tree.name : Tree → Str | .mk _ n _ _ => n
def Tree.num : Tree → Int | .mk _ _ u _ => u
def Tree.kids : Tree → List Tree | .mk _ _ _ ks => ks

theorem Tree.ind {P : Tree → Prop} (h : ∀ t, (∀ k ∈ t.kids, P k) → P t) (t : Tree) : P t :=
  Tree.rec (motive_1 := P) (motive_2 := fun l => ∀ k ∈ l, P k) (fun kind name num kids ih => h (.mk kind name num kids) ih) (fun k hk => by cases hk)
    (fun a l ha hl k hk => by
      rcases List.mem_cons.1 hk with rfl | hk
      · exact ha
      · exact hl k hk) t

structure HTree where
  kind : Int
  name : Str
  num : Int
  kids : Sl

@[reducible] def treeC (h : HTree) : List Value := [.int .i64 h.kind, strV h.name, .int .i64 h.num, h.kids.v]
@[reducible] def treeV (h : HTree) : Value := .agg ⟨[.int .i64 h.kind, strV h.name, .int .i64 h.num, h.kids.v]⟩

def RT : Type := { rep : Mem → HTree → Tree → Prop // ∀ m m' h a, m ≤ m' → rep m h a → rep m' h a }
def mkR (x : RT) : R HTree Tree where
  size := 4
  bytes := 56
  enc := treeC
  rep := x.1
  enc_len _ := rfl
  one _ := rfl
  mono hm h := x.2 _ _ _ _ hm h
def rtN : Nat → RT
  | 0 => ⟨fun _ _ _ => False, fun _ _ _ _ _ h => h⟩
  | n + 1 => ⟨fun m h a => h.kind = a.kind ∧ h.name = a.name ∧ h.num = a.num ∧ SlRep (mkR (rtN n)) m h.kids a.kids, fun _ _ _ _ hm h => ⟨h.1, h.2.1, h.2.2.1, h.2.2.2.mono hm⟩⟩
def rTree : R HTree Tree := mkR ⟨fun m h a => ∃ n, (rtN n).1 m h a, fun _ _ h a hm ⟨n, hn⟩ => ⟨n, (rtN n).2 _ _ _ _ hm hn⟩⟩

theorem SlRep.imp {x y : RT} {m : Mem} (hxy : ∀ h a, x.1 m h a → y.1 m h a) {s : Sl} {l : List Tree} (h : SlRep (mkR x) m s l) : SlRep (mkR y) m s l := by
  obtain ⟨hs, h1, h2⟩ := h.cells
  exact ⟨h.len, h.cap, h.fit, hs, All2.mono hxy h1, h2⟩
theorem rtN_up (m : Mem) : ∀ (n : Nat) (h : HTree) (a : Tree), (rtN n).1 m h a → (rtN (n + 1)).1 m h a
  | 0, _, _, h => h.elim
  | n + 1, _, _, h => ⟨h.1, h.2.1, h.2.2.1, SlRep.imp (rtN_up m n) h.2.2.2⟩
theorem rtN_le (m : Mem) {n k : Nat} (hk : n ≤ k) (h : HTree) (a : Tree) (hr : (rtN n).1 m h a) : (rtN k).1 m h a := by
  induction hk with
  | refl => exact hr
  | step _ ih => exact rtN_up m _ h a ih

theorem all2_common {m : Mem} : ∀ (hs : List HTree) (l : List Tree), All2 (rTree.rep m) hs l → ∃ n, All2 ((rtN n).1 m) hs l
  | [], [], _ => ⟨0, trivial⟩
  | h :: hs, a :: l, hh => by
    obtain ⟨n1, h1⟩ := hh.1
    obtain ⟨n2, h2⟩ := all2_common hs l hh.2
    exact ⟨max n1 n2, rtN_le m (Nat.le_max_left _ _) h a h1, All2.mono (fun h a => rtN_le m (Nat.le_max_right _ _) h a) h2⟩
  | [], _ :: _, hh => hh.elim
  | _ :: _, [], hh => hh.elim

structure TreeRep (m : Mem) (h : HTree) (a : Tree) : Prop where
  kind : h.kind = a.kind
  name : h.name = a.name
  num : h.num = a.num
  kids : SlRep rTree m h.kids a.kids

theorem rTree_iff {m : Mem} {h : HTree} {a : Tree} : rTree.rep m h a ↔ TreeRep m h a := by
  constructor
  · rintro ⟨n, hn⟩
    cases n with
    | zero => exact hn.elim
    | succ n => exact ⟨hn.1, hn.2.1, hn.2.2.1, SlRep.imp (x := rtN n) (y := ⟨fun m h a => ∃ n, (rtN n).1 m h a, fun _ _ h a hm ⟨n, hn⟩ => ⟨n, (rtN n).2 _ _ _ _ hm hn⟩⟩) (fun h a hh => ⟨n, hh⟩) hn.2.2.2⟩
  · rintro ⟨h1, h2, h3, h4⟩
    obtain ⟨hs, k1, k2⟩ := h4.cells
    obtain ⟨n, hn⟩ := all2_common hs _ k1
    exact ⟨n + 1, h1, h2, h3, h4.len, h4.cap, h4.fit, hs, hn, k2⟩
theorem TreeRep.mono {m m' : Mem} {h : HTree} {a : Tree} (hr : TreeRep m h a) (hm : m ≤ m') : TreeRep m' h a := ⟨hr.kind, hr.name, hr.num, hr.kids.mono hm⟩
end Go.Sep

/-
  Names: the walks of the scanner's small functions, the program's and the reference's.
-/
set_option linter.unusedVariables false
set_option linter.unusedSimpArgs false
namespace Go.Sep
open Go.Proofs
attribute [local irreducible] TC TO OT TCallX TCall DO DOt thenQ blockQ retQ At

def ltr (b : UInt8) : Bool := decide (97 ≤ b.toNat ∧ b.toNat ≤ 122) || decide (65 ≤ b.toNat ∧ b.toNat ≤ 90) || decide (b.toNat = 95)
def dgt (b : UInt8) : Bool := decide (48 ≤ b.toNat ∧ b.toNat ≤ 57)
def lod (b : UInt8) : Bool := ltr b || dgt b

theorem low_all : ∀ n : Fin 256, (97 ≤ n.val ||| 32 ∧ n.val ||| 32 ≤ 122) ↔ ((97 ≤ n.val ∧ n.val ≤ 122) ∨ (65 ≤ n.val ∧ n.val ≤ 90)) := by decide +kernel
theorem low (b : UInt8) : (97 ≤ b.toNat ||| 32 ∧ b.toNat ||| 32 ≤ 122) ↔ ((97 ≤ b.toNat ∧ b.toNat ≤ 122) ∨ (65 ≤ b.toNat ∧ b.toNat ≤ 90)) := low_all ⟨b.toNat, b.toNat_lt⟩

section
variable (m : Mem) (L : List Item) (b : UInt8)
set_option maxHeartbeats 400000 in
theorem letter_law : TCall Try.prog 82 ⟨[byteV b]⟩ m L (Ret (.bool (ltr b)) m L) := by
  unfold TCall
  refine TCallX.enter Try.func82 rfl 15 rfl ?_
  have hb : b.toNat < 256 := b.toNat_lt
  have hlow := low b
  repeat (first|refine q1 ?_|refine q3 ?_|refine q4 tab rfl rfl ?_|refine q5 ?_|refine q6 ?_)
  refine TO.step rfl (OT.orU8 (b := 32) rfl rfl rfl rfl rfl hb (by decide) ?_)
  repeat (refine q4 tab rfl rfl ?_)
  (refine TO.splitP rfl rfl (fun h1 => ?_) (fun h1 => ?_))
  · repeat (refine q4 tab rfl rfl ?_)
    refine TO.step rfl (OT.orU8 (b := 32) rfl rfl rfl rfl rfl hb (by decide) ?_)
    repeat (refine q4 tab rfl rfl ?_)
    (refine TO.splitP rfl rfl (fun h2 => ?_) (fun h2 => ?_))
    · repeat (first|refine q4 tab rfl rfl ?_|refine q5 ?_|refine q6 ?_|refine q15 ?_)
      refine retQ_ret rfl (by repeat (exact List.Sublist.refl _)) ⟨rfl, rfl, ?_⟩
      refine congrArg Value.bool ?_
      have : ltr b = true := by
        have := hlow.1 ⟨by omega, by omega⟩
        unfold ltr
        rcases this with h | h <;> simp [h]
      simp [this, h2]
    · repeat (first|refine q4 tab rfl rfl ?_|refine q5 ?_|refine q6 ?_|refine q15 ?_)
      refine retQ_ret rfl (by repeat (exact List.Sublist.refl _)) ⟨rfl, rfl, ?_⟩
      refine congrArg Value.bool ?_
      have h3 : ¬ (97 ≤ b.toNat ∧ b.toNat ≤ 122) := fun h => by have := hlow.2 (.inl h); omega
      have h4 : ¬ (65 ≤ b.toNat ∧ b.toNat ≤ 90) := fun h => by have := hlow.2 (.inr h); omega
      unfold ltr
      rw [decide_eq_false h3, decide_eq_false h4]
      simp only [Bool.false_or]
      congr 1
      apply propext
      omega
  · repeat (first|refine q4 tab rfl rfl ?_|refine q5 ?_|refine q6 ?_|refine q15 ?_)
    refine retQ_ret rfl (by repeat (exact List.Sublist.refl _)) ⟨rfl, rfl, ?_⟩
    refine congrArg Value.bool ?_
    have h3 : ¬ (97 ≤ b.toNat ∧ b.toNat ≤ 122) := fun h => by have := hlow.2 (.inl h); omega
    have h4 : ¬ (65 ≤ b.toNat ∧ b.toNat ≤ 90) := fun h => by have := hlow.2 (.inr h); omega
    unfold ltr
    rw [decide_eq_false h3, decide_eq_false h4]
    simp only [Bool.false_or]
    congr 1
    apply propext
    omega

set_option maxHeartbeats 400000 in
theorem digit_law : TCall Try.prog 85 ⟨[byteV b]⟩ m L (Ret (.bool (dgt b)) m L) := by
  unfold TCall
  refine TCallX.enter Try.func85 rfl 9 rfl ?_
  repeat (first|refine q1 ?_|refine q3 ?_|refine q4 tab rfl rfl ?_|refine q5 ?_|refine q6 ?_)
  (refine TO.splitP rfl rfl (fun h1 => ?_) (fun h1 => ?_))
  · repeat (first|refine q4 tab rfl rfl ?_|refine q5 ?_|refine q6 ?_|refine q15 ?_)
    refine retQ_ret rfl (by repeat (exact List.Sublist.refl _)) ⟨rfl, rfl, ?_⟩
    refine congrArg Value.bool ?_
    unfold dgt
    congr 1
    apply propext
    omega
  · repeat (first|refine q4 tab rfl rfl ?_|refine q5 ?_|refine q6 ?_|refine q15 ?_)
    refine retQ_ret rfl (by repeat (exact List.Sublist.refl _)) ⟨rfl, rfl, ?_⟩
    refine congrArg Value.bool ?_
    unfold dgt
    symm
    apply decide_eq_false
    omega

set_option maxHeartbeats 400000 in
theorem digit_ref : TCall Try.prog 89 ⟨[byteV b]⟩ m L (Ret (.bool (dgt b)) m L) := by
  unfold TCall
  refine TCallX.enter Try.func89 rfl 9 rfl ?_
  repeat (first|refine q1 ?_|refine q3 ?_|refine q4 tab rfl rfl ?_|refine q5 ?_|refine q6 ?_)
  (refine TO.splitP rfl rfl (fun h1 => ?_) (fun h1 => ?_))
  · repeat (first|refine q4 tab rfl rfl ?_|refine q5 ?_|refine q6 ?_|refine q15 ?_)
    refine retQ_ret rfl (by repeat (exact List.Sublist.refl _)) ⟨rfl, rfl, ?_⟩
    refine congrArg Value.bool ?_
    unfold dgt
    congr 1
    apply propext
    omega
  · repeat (first|refine q4 tab rfl rfl ?_|refine q5 ?_|refine q6 ?_|refine q15 ?_)
    refine retQ_ret rfl (by repeat (exact List.Sublist.refl _)) ⟨rfl, rfl, ?_⟩
    refine congrArg Value.bool ?_
    unfold dgt
    symm
    apply decide_eq_false
    omega

set_option maxHeartbeats 800000 in
theorem letter_ref : TCall Try.prog 91 ⟨[byteV b]⟩ m L (Ret (.bool (ltr b)) m L) := by
  unfold TCall
  refine TCallX.enter Try.func91 rfl 21 rfl ?_
  repeat' (first|(first|refine q1 ?_|refine q3 ?_|refine q4 tab rfl rfl ?_|refine q5 ?_|refine q6 ?_|refine q15 ?_)|(refine TO.splitP rfl rfl (fun hb => ?_) (fun hb => ?_)))
  all_goals
    refine retQ_ret rfl (by repeat (exact List.Sublist.refl _)) ⟨rfl, rfl, ?_⟩
    refine congrArg Value.bool ?_
    unfold ltr
    (rw [Bool.eq_iff_iff]; simp only [Bool.or_eq_true, Bool.and_eq_true, decide_eq_true_eq, Bool.not_eq_true', decide_eq_false_iff_not, true_iff, iff_true, Bool.false_eq_true, false_iff, iff_false]; omega)

theorem low_any (a : List Value) : True := trivial
end

/-- a class of bytes -/
def IsClass (m : Mem) (L : List Item) (fn : FuncId) (cap : List Value) (p : UInt8 → Bool) : Prop := Goes Try.prog fn ∧ ∀ b : UInt8, TCall Try.prog fn ⟨byteV b :: cap⟩ m L (Ret (.bool (p b)) m L)

set_option maxHeartbeats 400000 in
theorem either_cl (m : Mem) (L : List Item) (b : UInt8) (b1 b2 : Nat) (h1 : At m b1 0 [.func (.func 82) ⟨[]⟩ ⟨[]⟩]) (h2 : At m b2 0 [.func (.func 85) ⟨[]⟩ ⟨[]⟩]) :
    TCall Try.prog 112 ⟨[byteV b, .pointer (some ⟨b1, 0, none⟩), .pointer (some ⟨b2, 0, none⟩)]⟩ m L (Ret (.bool (lod b)) m L) := by
  unfold TCall
  refine TCallX.enter Try.func112 rfl 13 rfl ?_
  repeat (first|refine q1 ?_|refine q3 ?_|refine q4 tab rfl rfl ?_|refine q5 ?_|refine q6 ?_)
  (refine TO.step rfl (OT.loadA0 tab h1 rfl rfl rfl rfl rfl ?_))
  repeat (refine q4 tab rfl rfl ?_)
  refine TO.step rfl (OT.call rfl rfl rfl rfl rfl rfl goes82 ((letter_law m L b).x ?_));
  rintro _ _ _ ⟨rfl, rfl, rfl⟩
  repeat (refine q4 tab rfl rfl ?_)
  (refine TO.split rfl rfl (fun h3 => ?_) (fun h3 => ?_))
  · repeat (first|refine q4 tab rfl rfl ?_|refine q5 ?_|refine q6 ?_|refine q15 ?_)
    refine retQ_ret rfl (by repeat (exact List.Sublist.refl _)) ⟨rfl, rfl, ?_⟩
    unfold lod
    rw [h3]; rfl
  · skip
    (refine TO.step rfl (OT.loadA0 tab h2 rfl rfl rfl rfl rfl ?_))
    repeat (refine q4 tab rfl rfl ?_)
    refine TO.step rfl (OT.call rfl rfl rfl rfl rfl rfl goes85 ((digit_law m L b).x ?_));
    rintro _ _ _ ⟨rfl, rfl, rfl⟩
    repeat (first|refine q4 tab rfl rfl ?_|refine q5 ?_|refine q6 ?_|refine q15 ?_)
    refine retQ_ret rfl (by repeat (exact List.Sublist.refl _)) ⟨rfl, rfl, ?_⟩
    unfold lod
    rw [h3]; rfl

set_option maxHeartbeats 400000 in
theorem either_law (m : Mem) (L : List Item) : TCall Try.prog 84 ⟨[.func (.func 82) ⟨[]⟩ ⟨[]⟩, .func (.func 85) ⟨[]⟩ ⟨[]⟩]⟩ m L
    (Made m L fun r m' => ∃ b1 b2, r = .func (.func 112) ⟨[]⟩ ⟨[.pointer (some ⟨b1, 0, none⟩), .pointer (some ⟨b2, 0, none⟩)]⟩ ∧ At m' b1 0 [.func (.func 82) ⟨[]⟩ ⟨[]⟩] ∧ At m' b2 0 [.func (.func 85) ⟨[]⟩ ⟨[]⟩]) := by
  unfold TCall
  refine TCallX.enter Try.func84 rfl 6 rfl ?_
  repeat (first|refine q1 ?_|refine q3 ?_)
  refine TO.step rfl (OT.box rfl rfl rfl rfl rfl (fun b1 => ?_))
  skip
  refine TO.step rfl (OT.box rfl rfl rfl rfl rfl (fun b2 => ?_))
  refine TO.freeze fun m1 hm1 hA1 => ?_
  refine TO.freeze fun m2 hm2 hA2 => ?_
  repeat (first|refine q1 ?_|refine q3 ?_|refine q4 tab rfl rfl ?_|refine q5 ?_|refine q6 ?_|refine q15 ?_)
  refine retQ_ret rfl (by repeat (exact List.Sublist.refl _)) ⟨Mem.le_trans hm1 hm2, rfl, b1, b2, rfl, hA2, hA1.mono hm2⟩

def spanOf (p : UInt8 → Bool) (s : Str) : Nat := (s.takeWhile p).length

set_option maxHeartbeats 400000 in
theorem span_law (m : Mem) (L : List Item) (s : Str) (hs : s.length ≤ 140737488355328) (p : UInt8 → Bool) (fn : FuncId) (cap : List Value) (hc : IsClass m L fn cap p) :
    TCall Try.prog 83 ⟨[strV s, .func (.func fn) ⟨[]⟩ ⟨cap⟩]⟩ m L (Ret (.int .i64 (spanOf p s)) m L) := by
  unfold TCall
  refine TCallX.enter Try.func83 rfl 20 rfl ?_
  repeat (first|refine q1 ?_|refine q2 ?_|refine q3 ?_|refine q4 tab rfl rfl ?_|refine q5 ?_|refine q6 ?_)
  refine TC.loopK (ι := Nat) [0, 1] rfl (fun k => [(5, .int .i64 (k : Int))]) (fun _ => m) (fun _ => L) (fun k => k ≤ s.length ∧ spanOf p s = k + spanOf p (s.drop k)) (fun k => s.length - k) 0 (by repeat (first|exact trivial|refine And.intro rfl ?_)) rfl (by repeat (exact List.Sublist.refl _)) ⟨Nat.zero_le _, by simp⟩ ?_
  rintro k ⟨hk, hI⟩
  repeat (first|refine q1 ?_|refine q3 ?_|refine q4 tab rfl rfl ?_)
  (refine TO.splitP rfl rfl (fun h1 => ?_) (fun h1 => ?_))
  · repeat (refine q4 tab rfl rfl ?_)
    have hlt : k < s.length := by omega
    have hx : s[k]? = some s[k] := by simp [hlt]
    refine TO.step rfl (OT.sidx tab k rfl rfl rfl rfl rfl rfl rfl hx ?_)
    skip
    refine TO.step rfl (OT.call (all := byteV s[k] :: cap) rfl rfl rfl rfl rfl (by rw [fl_eq]; rfl) hc.1 ((hc.2 s[k]).x ?_))
    rintro _ _ _ ⟨rfl, rfl, rfl⟩
    repeat (first|refine q4 tab rfl rfl ?_|refine q5 ?_|refine q6 ?_)
    refine TC.cond rfl (fun h2 => ?_) (fun h2 => ?_)
    · repeat (first|refine q2 ?_|refine q3 ?_|refine q4 tab rfl rfl ?_|refine q6 ?_|refine q13 ?_)
      refine TO.step rfl (OT.arith (r' := ((k + 1 : Nat) : Int)) rfl rfl rfl rfl rfl rfl rfl (by omega) ?_)
      repeat (first|refine q4 tab rfl rfl ?_|refine q5 ?_|refine q6 ?_|refine q7 ?_)
      refine ⟨k + 1, (by repeat (first|exact trivial|refine And.intro rfl ?_)), (by repeat (first|exact trivial|refine And.intro rfl ?_)), rfl, rfl, (by repeat (exact List.Sublist.refl _)), ⟨by omega, ?_⟩, by omega⟩
      rw [hI, List.drop_eq_getElem_cons hlt, spanOf, spanOf, List.takeWhile_cons_of_pos h2]
      simp; omega
    · repeat (first|refine q1 ?_|refine q3 ?_|refine q4 tab rfl rfl ?_|refine q5 ?_|refine q6 ?_|refine q10 ?_|refine q11 ?_|refine q14 ?_|refine q15 ?_)
      refine retQ_ret rfl (by repeat (exact List.Sublist.refl _)) ⟨rfl, rfl, ?_⟩
      rw [hI, List.drop_eq_getElem_cons hlt, spanOf, List.takeWhile_cons_of_neg (by simp [h2])]
      simp
  · repeat (first|refine q1 ?_|refine q3 ?_|refine q4 tab rfl rfl ?_|refine q5 ?_|refine q6 ?_|refine q10 ?_|refine q11 ?_|refine q14 ?_|refine q15 ?_|refine q17 rfl ?_)
    refine retQ_ret rfl (by repeat (exact List.Sublist.refl _)) ⟨rfl, rfl, ?_⟩
    rw [hI, List.drop_eq_nil_of_le (by omega)]
    simp [spanOf]
end Go.Sep

/-
  The walks of slices.Index, Contains, IndexFunc, ContainsFunc at the types' kinds. Written by program (gen2.py).
-/
set_option linter.unusedVariables false
set_option linter.unusedSimpArgs false
namespace Go.Sep
open Go.Proofs
attribute [local irreducible] TC TO OT TCallX TCall DO DOt thenQ blockQ retQ At

def idx {α : Type} [DecidableEq α] : List α → α → Nat → Int
  | [], _, _ => -1
  | x :: xs, v, k => if v = x then (k : Int) else idx xs v (k + 1)

theorem idx_not {α : Type} [DecidableEq α] : ∀ (l : List α) (v : α) (k : Nat), v ∉ l → idx l v k = -1
  | [], _, _, _ => rfl
  | x :: xs, v, k, h => by
    rw [idx, if_neg (fun e => h (by simp [e])), idx_not xs v (k + 1) (fun e => h (by simp [e]))]

theorem idx_mem {α : Type} [DecidableEq α] : ∀ (l : List α) (v : α) (k : Nat), v ∈ l → ∃ j, l[j]? = some v ∧ idx l v k = ((k + j : Nat) : Int)
  | [], _, _, h => by cases h
  | x :: xs, v, k, h => by
    by_cases e : v = x
    · exact ⟨0, by simp [e], by rw [idx, if_pos e]; rfl⟩
    · have h' : v ∈ xs := by
        rcases List.mem_cons.1 h with h | h
        · exact absurd h e
        · exact h
      obtain ⟨j, h1, h2⟩ := idx_mem xs v (k + 1) h'
      exact ⟨j + 1, by simpa using h1, by rw [idx, if_neg e, h2]; congr 1; omega⟩

theorem idx_ge {α : Type} [DecidableEq α] (l : List α) (v : α) : decide (0 ≤ idx l v 0) = decide (v ∈ l) := by
  by_cases h : v ∈ l
  · obtain ⟨j, _, h2⟩ := idx_mem l v 0 h
    simp [h, h2]
  · simp [h, idx_not l v 0 h]

def idxP {α : Type} : List α → (α → Bool) → Nat → Int
  | [], _, _ => -1
  | x :: xs, p, k => if p x = true then (k : Int) else idxP xs p (k + 1)

theorem idxP_ge0 {α : Type} : ∀ (l : List α) (p : α → Bool) (k : Nat), decide (0 ≤ idxP l p k) = l.any p
  | [], p, k => by simp [idxP]
  | x :: xs, p, k => by
    simp only [idxP, List.any_cons]
    split
    · rename_i h; simp [h]
    · rename_i h; rw [idxP_ge0 xs p (k + 1)]; simp [h]
theorem idxP_ge {α : Type} (l : List α) (p : α → Bool) : decide (0 ≤ idxP l p 0) = l.any p := idxP_ge0 l p 0




set_option maxHeartbeats 400000 in
theorem index_str (m : Mem) (L : List Item) (s : Sl) (l : List Str) (v : Str) (hs : SlRep rStr m s l) :
    TCall Try.prog 113 ⟨[s.v, strV v]⟩ m L (Ret (.int .i64 (idx l v 0)) m L) := by
  unfold TCall
  refine TCallX.enter Try.func113 rfl 19 rfl ?_
  repeat (first|refine q1 ?_|refine q2 ?_|refine q3 ?_|refine q4 tab rfl rfl ?_|refine q5 ?_|refine q6 ?_)
  refine TC.loopK (ι := Nat) [0, 1, 7] rfl (fun k => [(8, .int .i64 (k : Int))]) (fun _ => m) (fun _ => L) (fun k => k ≤ l.length ∧ idx l v 0 = idx (l.drop k) v k) (fun k => l.length - k) 0 (by repeat (first|exact trivial|refine And.intro rfl ?_)) rfl (by repeat (exact List.Sublist.refl _)) ⟨Nat.zero_le _, rfl⟩ ?_
  rintro k ⟨hk, hI⟩
  have hl := hs.len
  have hsm := hs.small rfl
  repeat (first|refine q1 ?_|refine q3 ?_|refine q4 tab rfl rfl ?_|refine q5 ?_|refine q6 ?_)
  refine TC.condP rfl (fun h => ?_) (fun h => ?_)
  · have hlt : k < l.length := by omega
    have hx : l[k]? = some l[k] := by simp [hlt]
    repeat (first|refine q1 ?_|refine q2 ?_|refine q3 ?_|refine q4 tab rfl rfl ?_|refine q5 ?_|refine q6 ?_|refine q13 ?_)
    refine TO.step rfl (OT.index tab rStr k hs rfl rfl rfl rfl rfl (by first | rfl | omega) rfl hx ?_)
    rintro b i hd rfl hA
    (refine TO.step rfl (OT.loadA0 tab hA rfl rfl rfl rfl rfl ?_))
    repeat (first|refine q4 tab rfl rfl ?_|refine q5 ?_|refine q6 ?_)
    refine TC.condP rfl (fun h => ?_) (fun h => ?_)
    · repeat (first|refine q1 ?_|refine q3 ?_|refine q4 tab rfl rfl ?_|refine q5 ?_|refine q6 ?_|refine q8 ?_|refine q9 ?_|refine q15 ?_)
      refine retQ_ret rfl (by repeat (exact List.Sublist.refl _)) ⟨rfl, rfl, ?_⟩
      rw [hI, List.drop_eq_getElem_cons hlt, idx, if_pos h]
    · repeat (first|refine q3 ?_|refine q6 ?_|refine q7 ?_|refine q13 ?_)
      refine TO.step rfl (OT.arith (r' := ((k + 1 : Nat) : Int)) rfl rfl rfl rfl rfl rfl rfl (by omega) ?_)
      repeat (first|refine q4 tab rfl rfl ?_|refine q5 ?_|refine q6 ?_)
      exact ⟨k + 1, (by repeat (first|exact trivial|refine And.intro rfl ?_)), (by repeat (first|exact trivial|refine And.intro rfl ?_)), rfl, rfl, (by repeat (exact List.Sublist.refl _)), ⟨by omega, by rw [hI, List.drop_eq_getElem_cons hlt, idx, if_neg h]⟩, by omega⟩
  · repeat (first|refine q1 ?_|refine q3 ?_|refine q4 tab rfl rfl ?_|refine q5 ?_|refine q6 ?_|refine q10 ?_|refine q11 ?_|refine q14 ?_|refine q15 ?_)
    refine retQ_ret rfl (by repeat (exact List.Sublist.refl _)) ⟨rfl, rfl, ?_⟩
    rw [hI, List.drop_eq_nil_of_le (by omega)]
    rfl


set_option maxHeartbeats 400000 in
theorem contains_str (m : Mem) (L : List Item) (s : Sl) (l : List Str) (v : Str) (hs : SlRep rStr m s l) :
    TCall Try.prog 86 ⟨[s.v, strV v]⟩ m L (Ret (.bool (decide (v ∈ l))) m L) := by
  unfold TCall
  refine TCallX.enter Try.func86 rfl 9 rfl ?_
  repeat (first|refine q1 ?_|refine q3 ?_|refine q4 tab rfl rfl ?_|refine q5 ?_|refine q6 ?_)
  refine TO.step rfl (OT.call rfl rfl rfl rfl rfl rfl goes113 ((index_str m L s l v hs).x ?_));
  rintro _ _ _ ⟨rfl, rfl, rfl⟩
  repeat (first|refine q4 tab rfl rfl ?_|refine q5 ?_|refine q6 ?_|refine q15 ?_)
  refine retQ_ret rfl (by repeat (exact List.Sublist.refl _)) ⟨rfl, rfl, ?_⟩
  exact congrArg Value.bool (by rw [idx_ge]; try congr)


set_option maxHeartbeats 400000 in
theorem indexFunc_node (m : Mem) (L : List Item) (s : Sl) (l : List Tree) (p : Tree → Bool) (fn : FuncId) (cap : List Value) (hg : Goes Try.prog fn) (hs : SlRep rTree m s l)
    (hp : ∀ (h : HTree) (a : Tree), a ∈ l → rTree.rep m h a → TCall Try.prog fn ⟨treeV h :: cap⟩ m L (Ret (.bool (p a)) m L)) :
    TCall Try.prog 117 ⟨[s.v, .func (.func fn) ⟨[]⟩ ⟨cap⟩]⟩ m L (Ret (.int .i64 (idxP l p 0)) m L) := by
  unfold TCall
  refine TCallX.enter Try.func117 rfl 19 rfl ?_
  repeat (first|refine q1 ?_|refine q2 ?_|refine q3 ?_|refine q4 tab rfl rfl ?_|refine q5 ?_|refine q6 ?_)
  refine TC.loopK (ι := Nat) [0, 1, 7] rfl (fun k => [(8, .int .i64 (k : Int))]) (fun _ => m) (fun _ => L) (fun k => k ≤ l.length ∧ idxP l p 0 = idxP (l.drop k) p k) (fun k => l.length - k) 0 (by repeat (first|exact trivial|refine And.intro rfl ?_)) rfl (by repeat (exact List.Sublist.refl _)) ⟨Nat.zero_le _, rfl⟩ ?_
  rintro k ⟨hk, hI⟩
  have hl := hs.len
  have hsm := hs.small rfl
  repeat (first|refine q1 ?_|refine q3 ?_|refine q4 tab rfl rfl ?_|refine q5 ?_|refine q6 ?_)
  refine TC.condP rfl (fun h => ?_) (fun h => ?_)
  · have hlt : k < l.length := by omega
    have hx : l[k]? = some l[k] := by simp [hlt]
    repeat (first|refine q1 ?_|refine q2 ?_|refine q3 ?_|refine q4 tab rfl rfl ?_|refine q5 ?_|refine q6 ?_|refine q13 ?_)
    refine TO.step rfl (OT.index tab rTree k hs rfl rfl rfl rfl rfl (by first | rfl | omega) rfl hx ?_)
    rintro b i hd hr hA
    (refine TO.step rfl (OT.loadA0 tab hA rfl rfl rfl rfl rfl ?_))
    skip
    refine TO.step rfl (OT.call (all := treeV hd :: cap) rfl rfl rfl rfl rfl (by rw [fl_eq]; rfl) hg ((hp hd l[k] (List.getElem_mem hlt) hr).x ?_))
    rintro _ _ _ ⟨rfl, rfl, rfl⟩
    repeat (first|refine q5 ?_|refine q6 ?_)
    refine TC.cond rfl (fun h => ?_) (fun h => ?_)
    · repeat (first|refine q1 ?_|refine q3 ?_|refine q4 tab rfl rfl ?_|refine q5 ?_|refine q6 ?_|refine q8 ?_|refine q9 ?_|refine q15 ?_)
      refine retQ_ret rfl (by repeat (exact List.Sublist.refl _)) ⟨rfl, rfl, ?_⟩
      rw [hI, List.drop_eq_getElem_cons hlt, idxP, if_pos h]
    · repeat (first|refine q3 ?_|refine q6 ?_|refine q7 ?_|refine q13 ?_)
      refine TO.step rfl (OT.arith (r' := ((k + 1 : Nat) : Int)) rfl rfl rfl rfl rfl rfl rfl (by omega) ?_)
      repeat (first|refine q4 tab rfl rfl ?_|refine q5 ?_|refine q6 ?_)
      exact ⟨k + 1, (by repeat (first|exact trivial|refine And.intro rfl ?_)), (by repeat (first|exact trivial|refine And.intro rfl ?_)), rfl, rfl, (by repeat (exact List.Sublist.refl _)), ⟨by omega, by rw [hI, List.drop_eq_getElem_cons hlt, idxP, if_neg (by simp [h])]⟩, by omega⟩
  · repeat (first|refine q1 ?_|refine q3 ?_|refine q4 tab rfl rfl ?_|refine q5 ?_|refine q6 ?_|refine q10 ?_|refine q11 ?_|refine q14 ?_|refine q15 ?_)
    refine retQ_ret rfl (by repeat (exact List.Sublist.refl _)) ⟨rfl, rfl, ?_⟩
    rw [hI, List.drop_eq_nil_of_le (by omega)]
    rfl


set_option maxHeartbeats 400000 in
theorem containsFunc_node (m : Mem) (L : List Item) (s : Sl) (l : List Tree) (p : Tree → Bool) (fn : FuncId) (cap : List Value) (hg : Goes Try.prog fn) (hs : SlRep rTree m s l)
    (hp : ∀ (h : HTree) (a : Tree), a ∈ l → rTree.rep m h a → TCall Try.prog fn ⟨treeV h :: cap⟩ m L (Ret (.bool (p a)) m L)) :
    TCall Try.prog 104 ⟨[s.v, .func (.func fn) ⟨[]⟩ ⟨cap⟩]⟩ m L (Ret (.bool (l.any p)) m L) := by
  unfold TCall
  refine TCallX.enter Try.func104 rfl 9 rfl ?_
  repeat (first|refine q1 ?_|refine q3 ?_|refine q4 tab rfl rfl ?_|refine q5 ?_|refine q6 ?_)
  refine TO.step rfl (OT.call rfl rfl rfl rfl rfl rfl goes117 ((indexFunc_node m L s l p fn cap hg hs hp).x ?_));
  rintro _ _ _ ⟨rfl, rfl, rfl⟩
  repeat (first|refine q4 tab rfl rfl ?_|refine q5 ?_|refine q6 ?_|refine q15 ?_)
  refine retQ_ret rfl (by repeat (exact List.Sublist.refl _)) ⟨rfl, rfl, ?_⟩
  rw [idxP_ge]


set_option maxHeartbeats 400000 in
theorem indexFunc_type (m : Mem) (L : List Item) (s : Sl) (l : List Tree) (p : Tree → Bool) (fn : FuncId) (cap : List Value) (hg : Goes Try.prog fn) (hs : SlRep rTree m s l)
    (hp : ∀ (h : HTree) (a : Tree), a ∈ l → rTree.rep m h a → TCall Try.prog fn ⟨treeV h :: cap⟩ m L (Ret (.bool (p a)) m L)) :
    TCall Try.prog 114 ⟨[s.v, .func (.func fn) ⟨[]⟩ ⟨cap⟩]⟩ m L (Ret (.int .i64 (idxP l p 0)) m L) := by
  unfold TCall
  refine TCallX.enter Try.func114 rfl 19 rfl ?_
  repeat (first|refine q1 ?_|refine q2 ?_|refine q3 ?_|refine q4 tab rfl rfl ?_|refine q5 ?_|refine q6 ?_)
  refine TC.loopK (ι := Nat) [0, 1, 7] rfl (fun k => [(8, .int .i64 (k : Int))]) (fun _ => m) (fun _ => L) (fun k => k ≤ l.length ∧ idxP l p 0 = idxP (l.drop k) p k) (fun k => l.length - k) 0 (by repeat (first|exact trivial|refine And.intro rfl ?_)) rfl (by repeat (exact List.Sublist.refl _)) ⟨Nat.zero_le _, rfl⟩ ?_
  rintro k ⟨hk, hI⟩
  have hl := hs.len
  have hsm := hs.small rfl
  repeat (first|refine q1 ?_|refine q3 ?_|refine q4 tab rfl rfl ?_|refine q5 ?_|refine q6 ?_)
  refine TC.condP rfl (fun h => ?_) (fun h => ?_)
  · have hlt : k < l.length := by omega
    have hx : l[k]? = some l[k] := by simp [hlt]
    repeat (first|refine q1 ?_|refine q2 ?_|refine q3 ?_|refine q4 tab rfl rfl ?_|refine q5 ?_|refine q6 ?_|refine q13 ?_)
    refine TO.step rfl (OT.index tab rTree k hs rfl rfl rfl rfl rfl (by first | rfl | omega) rfl hx ?_)
    rintro b i hd hr hA
    (refine TO.step rfl (OT.loadA0 tab hA rfl rfl rfl rfl rfl ?_))
    skip
    refine TO.step rfl (OT.call (all := treeV hd :: cap) rfl rfl rfl rfl rfl (by rw [fl_eq]; rfl) hg ((hp hd l[k] (List.getElem_mem hlt) hr).x ?_))
    rintro _ _ _ ⟨rfl, rfl, rfl⟩
    repeat (first|refine q5 ?_|refine q6 ?_)
    refine TC.cond rfl (fun h => ?_) (fun h => ?_)
    · repeat (first|refine q1 ?_|refine q3 ?_|refine q4 tab rfl rfl ?_|refine q5 ?_|refine q6 ?_|refine q8 ?_|refine q9 ?_|refine q15 ?_)
      refine retQ_ret rfl (by repeat (exact List.Sublist.refl _)) ⟨rfl, rfl, ?_⟩
      rw [hI, List.drop_eq_getElem_cons hlt, idxP, if_pos h]
    · repeat (first|refine q3 ?_|refine q6 ?_|refine q7 ?_|refine q13 ?_)
      refine TO.step rfl (OT.arith (r' := ((k + 1 : Nat) : Int)) rfl rfl rfl rfl rfl rfl rfl (by omega) ?_)
      repeat (first|refine q4 tab rfl rfl ?_|refine q5 ?_|refine q6 ?_)
      exact ⟨k + 1, (by repeat (first|exact trivial|refine And.intro rfl ?_)), (by repeat (first|exact trivial|refine And.intro rfl ?_)), rfl, rfl, (by repeat (exact List.Sublist.refl _)), ⟨by omega, by rw [hI, List.drop_eq_getElem_cons hlt, idxP, if_neg (by simp [h])]⟩, by omega⟩
  · repeat (first|refine q1 ?_|refine q3 ?_|refine q4 tab rfl rfl ?_|refine q5 ?_|refine q6 ?_|refine q10 ?_|refine q11 ?_|refine q14 ?_|refine q15 ?_)
    refine retQ_ret rfl (by repeat (exact List.Sublist.refl _)) ⟨rfl, rfl, ?_⟩
    rw [hI, List.drop_eq_nil_of_le (by omega)]
    rfl


set_option maxHeartbeats 400000 in
theorem containsFunc_type (m : Mem) (L : List Item) (s : Sl) (l : List Tree) (p : Tree → Bool) (fn : FuncId) (cap : List Value) (hg : Goes Try.prog fn) (hs : SlRep rTree m s l)
    (hp : ∀ (h : HTree) (a : Tree), a ∈ l → rTree.rep m h a → TCall Try.prog fn ⟨treeV h :: cap⟩ m L (Ret (.bool (p a)) m L)) :
    TCall Try.prog 92 ⟨[s.v, .func (.func fn) ⟨[]⟩ ⟨cap⟩]⟩ m L (Ret (.bool (l.any p)) m L) := by
  unfold TCall
  refine TCallX.enter Try.func92 rfl 9 rfl ?_
  repeat (first|refine q1 ?_|refine q3 ?_|refine q4 tab rfl rfl ?_|refine q5 ?_|refine q6 ?_)
  refine TO.step rfl (OT.call rfl rfl rfl rfl rfl rfl goes114 ((indexFunc_type m L s l p fn cap hg hs hp).x ?_));
  rintro _ _ _ ⟨rfl, rfl, rfl⟩
  repeat (first|refine q4 tab rfl rfl ?_|refine q5 ?_|refine q6 ?_|refine q15 ?_)
  refine retQ_ret rfl (by repeat (exact List.Sublist.refl _)) ⟨rfl, rfl, ?_⟩
  rw [idxP_ge]

end Go.Sep

/-
  Names: is a text a name; the predeclared names.
-/
set_option linter.unusedVariables false
set_option linter.unusedSimpArgs false
namespace Go.Sep
open Go.Proofs
attribute [local irreducible] TC TO OT TCallX TCall DO DOt thenQ blockQ retQ At

def wordL : List Str := [[116, 121, 112, 101], [115, 116, 114, 117, 99, 116], [105, 110, 116, 101, 114, 102, 97, 99, 101], [102, 117, 110, 99], [118, 97, 114], [105, 102], [101, 108, 115, 101], [102, 111, 114], [114, 101, 116, 117, 114, 110], [98, 114, 101, 97, 107], [99, 111, 110, 116, 105, 110, 117, 101], [116, 114, 117, 101], [102, 97, 108, 115, 101], [110, 105, 108]]
/-- is a text a name? -/
def isName (s : Str) : Bool := decide (0 < s.length) && (decide (s.length ≤ 64) && (!(s.head?.any dgt) && (s.all lod && !decide (s ∈ wordL))))
def basicOf (s : Str) : Int := if s = [105, 110, 116] then 1 else if s = [98, 111, 111, 108] then 2 else if s = [115, 116, 114, 105, 110, 103] then 3 else 0

theorem all_refl2 {m : Mem} : ∀ l : List Str, All2 (rStr.rep m) l l
  | [] => trivial
  | _ :: l => ⟨rfl, all_refl2 l⟩

theorem words_rep {m : Mem} {b : Nat} (h : At m b 0 (encs rStr wordL)) : SlRep rStr m ⟨some ⟨b, 0, none⟩, 14, 14⟩ wordL :=
  ⟨rfl, Nat.le_refl _, (by show 14 * 16 ≤ _; decide), wordL, all_refl2 wordL, .inr ⟨b, 0, rfl, h⟩⟩

set_option maxHeartbeats 400000 in
theorem words_law (m : Mem) (L : List Item) : TCall Try.prog 87 ⟨[]⟩ m L (Made m L fun r m' => ∃ s : Sl, r = s.v ∧ SlRep rStr m' s wordL) := by
  unfold TCall
  refine TCallX.enter Try.func87 rfl 2 rfl ?_
  repeat (first|refine q1 ?_|refine q3 ?_|refine q4 tab rfl rfl ?_|refine q5 ?_|refine q6 ?_)
  refine TO.step rfl (OT.lit tab rfl rfl rfl rfl (fun b => ?_))
  refine TO.freeze fun m1 hm1 hA1 => ?_
  repeat (first|refine q4 tab rfl rfl ?_|refine q5 ?_|refine q6 ?_|refine q15 ?_)
  exact retQ_ret rfl (by repeat (exact List.Sublist.refl _)) ⟨hm1, rfl, _, rfl, words_rep hA1⟩

theorem span_full (p : UInt8 → Bool) (s : Str) : spanOf p s = s.length ↔ s.all p = true := by
  unfold spanOf
  induction s with
  | nil => simp
  | cons x xs ih =>
    by_cases h : p x = true
    · rw [List.takeWhile_cons_of_pos h]; simp [h, ih]
    · rw [List.takeWhile_cons_of_neg h]; simp [h]
theorem dgt_ltr (b : UInt8) : ltr b = (lod b && !dgt b) := by
  have hb : b.toNat < 256 := b.toNat_lt
  unfold lod ltr dgt
  rw [Bool.eq_iff_iff]
  simp only [Bool.or_eq_true, Bool.and_eq_true, decide_eq_true_eq, Bool.not_eq_true', decide_eq_false_iff_not]
  omega

theorem isName_eq {s : Str} (h : 0 < s.length) : isName s = (decide (s.length ≤ 64) && (ltr s[0] && (s.all lod && !decide (s ∈ wordL)))) := by
  cases s with
  | nil => cases h
  | cons x xs =>
    unfold isName
    rw [decide_eq_true h, Bool.true_and]
    congr 1
    simp only [List.head?_cons, Option.any_some, List.getElem_cons_zero, dgt_ltr, List.all_cons]
    cases dgt x <;> cases lod x <;> simp
theorem isName_nil : isName [] = false := rfl

set_option maxHeartbeats 400000 in
theorem name_law (m : Mem) (L : List Item) (s : Str) (hs : s.length ≤ 140737488355328) : TCall Try.prog 45 ⟨[strV s]⟩ m L (Ret (.bool (isName s)) m L) := by
  refine TCall.forget ?_
  unfold TCall
  refine TCallX.enter Try.func45 rfl 29 rfl ?_
  repeat (first|refine q1 ?_|refine q3 ?_|refine q4 tab rfl rfl ?_|refine q5 ?_|refine q6 ?_)
  (refine TO.splitN rfl rfl (fun h1 => ?_) (fun h1 => ?_))
  · repeat (refine q4 tab rfl rfl ?_)
    (refine TO.splitP rfl rfl (fun h2 => ?_) (fun h2 => ?_))
    · repeat (refine q4 tab rfl rfl ?_)
      have hlt : 0 < s.length := List.length_pos_iff.2 h1
      have hx : s[0]? = some s[0] := by simp [hlt]
      refine TO.step rfl (OT.sidx tab 0 rfl rfl rfl rfl rfl rfl rfl hx ?_)
      skip
      refine TO.step rfl (OT.call rfl rfl rfl rfl rfl rfl goes82 ((letter_law m L s[0]).x ?_));
      rintro _ _ _ ⟨rfl, rfl, rfl⟩
      repeat (refine q4 tab rfl rfl ?_)
      (refine TO.split rfl rfl (fun h3 => ?_) (fun h3 => ?_))
      · repeat (refine q4 tab rfl rfl ?_)
        refine TO.step rfl (OT.call rfl rfl rfl rfl rfl rfl goes84 ((either_law m L).x ?_));
        rintro _ m1 _ ⟨hm1, rfl, b1, b2, rfl, hA1, hA2⟩
        skip
        refine TO.step rfl (OT.call rfl rfl rfl rfl rfl rfl goes83 ((span_law m1 L s hs lod 112 _ ⟨goes112, fun b => either_cl m1 L b b1 b2 hA1 hA2⟩).x ?_));
        rintro _ _ _ ⟨rfl, rfl, rfl⟩
        repeat (refine q4 tab rfl rfl ?_)
        (refine TO.splitP rfl rfl (fun h4 => ?_) (fun h4 => ?_))
        · skip
          refine TO.step rfl (OT.call rfl rfl rfl rfl rfl rfl goes87 ((words_law m1 L).x ?_));
          rintro _ m2 _ ⟨hm2, rfl, w, rfl, hw⟩
          repeat (refine q4 tab rfl rfl ?_)
          refine TO.step rfl (OT.call rfl rfl rfl rfl rfl rfl goes86 ((contains_str m2 L w wordL s hw).x ?_));
          rintro _ _ _ ⟨rfl, rfl, rfl⟩
          repeat (first|refine q4 tab rfl rfl ?_|refine q5 ?_|refine q6 ?_|refine q15 ?_)
          refine retQ_ret rfl (by repeat (exact List.Sublist.refl _)) ⟨Mem.le_trans hm1 hm2, rfl, ?_⟩
          rw [isName_eq hlt, decide_eq_true (by omega), h3, (span_full lod s).1 (by omega)]; rfl
        · repeat (first|refine q4 tab rfl rfl ?_|refine q5 ?_|refine q6 ?_|refine q15 ?_)
          refine retQ_ret rfl (by repeat (exact List.Sublist.refl _)) ⟨hm1, rfl, ?_⟩
          have h5 : s.all lod = false := Bool.eq_false_iff.2 (fun h => h4 (by have := (span_full lod s).2 h; omega))
          rw [isName_eq hlt, decide_eq_true (by omega), h3, h5]; rfl
      · repeat (first|refine q4 tab rfl rfl ?_|refine q5 ?_|refine q6 ?_|refine q15 ?_)
        refine retQ_ret rfl (by repeat (exact List.Sublist.refl _)) ⟨Mem.le_refl _, rfl, ?_⟩
        rw [isName_eq hlt, decide_eq_true (by omega), h3]; rfl
    · repeat (first|refine q4 tab rfl rfl ?_|refine q5 ?_|refine q6 ?_|refine q15 ?_)
      refine retQ_ret rfl (by repeat (exact List.Sublist.refl _)) ⟨Mem.le_refl _, rfl, ?_⟩
      have hlt : 0 < s.length := List.length_pos_iff.2 h1
      rw [isName_eq hlt, decide_eq_false (by omega)]; rfl
  · repeat (first|refine q4 tab rfl rfl ?_|refine q5 ?_|refine q6 ?_|refine q15 ?_)
    refine retQ_ret rfl (by repeat (exact List.Sublist.refl _)) ⟨Mem.le_refl _, rfl, ?_⟩
    rw [h1]; rfl

set_option maxHeartbeats 400000 in
theorem reserved_ref (m : Mem) (L : List Item) (s : Str) : TCall Try.prog 90 ⟨[strV s]⟩ m L (Ret (.bool (decide (s ∈ wordL))) m L) := by
  refine TCall.forget ?_
  unfold TCall
  refine TCallX.enter Try.func90 rfl 15 rfl ?_
  repeat (first|refine q1 ?_|refine q3 ?_|refine q4 tab rfl rfl ?_|refine q5 ?_|refine q6 ?_)
  refine TO.step rfl (OT.lit tab rfl rfl rfl rfl (fun b => ?_))
  refine TO.freeze fun m1 hm1 hA1 => ?_
  have hw := words_rep hA1
  repeat (first|refine q2 ?_|refine q4 tab rfl rfl ?_|refine q5 ?_|refine q6 ?_)
  refine TC.loopK (ι := Nat) [0, 5, 6] rfl (fun k => [(7, .int .i64 (k : Int))]) (fun _ => m1) (fun _ => L) (fun k => k ≤ 14 ∧ s ∉ wordL.take k) (fun k => 14 - k) 0 (by repeat (first|exact trivial|refine And.intro rfl ?_)) rfl (by repeat (exact List.Sublist.refl _)) ⟨Nat.zero_le _, by simp⟩ ?_
  rintro k ⟨hk, hI⟩
  have hwl : wordL.length = 14 := rfl
  repeat (first|refine q1 ?_|refine q3 ?_|refine q4 tab rfl rfl ?_|refine q5 ?_|refine q6 ?_)
  refine TC.condP rfl (fun h => ?_) (fun h => ?_)
  · have hlt : k < wordL.length := by omega
    have hx : wordL[k]? = some wordL[k] := by simp [hlt]
    repeat (first|refine q1 ?_|refine q2 ?_|refine q3 ?_|refine q6 ?_|refine q13 ?_)
    refine TO.step rfl (OT.index tab rStr k hw rfl rfl rfl rfl rfl (by first | rfl | omega) rfl hx ?_)
    rintro b i hd rfl hA
    (refine TO.step rfl (OT.loadA0 tab hA rfl rfl rfl rfl rfl ?_))
    repeat (first|refine q1 ?_|refine q3 ?_|refine q4 tab rfl rfl ?_|refine q5 ?_|refine q6 ?_)
    refine TC.condP rfl (fun h2 => ?_) (fun h2 => ?_)
    · repeat (first|refine q1 ?_|refine q3 ?_|refine q4 tab rfl rfl ?_|refine q5 ?_|refine q6 ?_|refine q8 ?_|refine q9 ?_|refine q15 ?_)
      refine retQ_ret rfl (by repeat (exact List.Sublist.refl _)) ⟨hm1, rfl, ?_⟩
      rw [decide_eq_true]
      rw [h2]
      exact List.getElem_mem hlt
    · repeat (first|refine q3 ?_|refine q6 ?_|refine q7 ?_|refine q13 ?_)
      refine TO.step rfl (OT.arith (r' := ((k + 1 : Nat) : Int)) rfl rfl rfl rfl rfl rfl rfl (by omega) ?_)
      repeat (first|refine q4 tab rfl rfl ?_|refine q5 ?_|refine q6 ?_)
      refine ⟨k + 1, (by repeat (first|exact trivial|refine And.intro rfl ?_)), (by repeat (first|exact trivial|refine And.intro rfl ?_)), rfl, rfl, (by repeat (exact List.Sublist.refl _)), ⟨by omega, ?_⟩, by omega⟩
      rw [List.take_succ_eq_append_getElem hlt, List.mem_append]
      rintro (h3 | h3)
      · exact hI h3
      · exact h2 (by simpa using h3)
  · repeat (first|refine q1 ?_|refine q3 ?_|refine q4 tab rfl rfl ?_|refine q5 ?_|refine q6 ?_|refine q10 ?_|refine q11 ?_|refine q14 ?_|refine q15 ?_)
    refine retQ_ret rfl (by repeat (exact List.Sublist.refl _)) ⟨hm1, rfl, ?_⟩
    rw [decide_eq_false]
    rwa [List.take_of_length_le (by omega)] at hI

set_option maxHeartbeats 800000 in
theorem name_ref (m : Mem) (L : List Item) (s : Str) (hs : s.length ≤ 140737488355328) : TCall Try.prog 51 ⟨[strV s]⟩ m L (Ret (.bool (isName s)) m L) := by
  unfold TCall
  refine TCallX.enter Try.func51 rfl 39 rfl ?_
  repeat (first|refine q1 ?_|refine q3 ?_|refine q4 tab rfl rfl ?_|refine q5 ?_|refine q6 ?_)
  skip
  (refine TO.splitP rfl rfl (fun h1 => ?_) (fun h1 => ?_))
  · repeat (first|refine q4 tab rfl rfl ?_|refine q5 ?_|refine q6 ?_)
    refine TC.cond_t rfl ?_
    repeat (first|refine q1 ?_|refine q3 ?_|refine q4 tab rfl rfl ?_|refine q5 ?_|refine q6 ?_|refine q8 ?_|refine q15 ?_)
    refine retQ_ret rfl (by repeat (exact List.Sublist.refl _)) ⟨rfl, rfl, ?_⟩
    have h0 : s = [] := List.length_eq_zero_iff.1 (by omega)
    rw [h0]; rfl
  have hlt : 0 < s.length := by omega
  · repeat (refine q4 tab rfl rfl ?_)
    (refine TO.splitP rfl rfl (fun h2 => ?_) (fun h2 => ?_))
    · repeat (first|refine q4 tab rfl rfl ?_|refine q5 ?_|refine q6 ?_)
      refine TC.cond_t rfl ?_
      repeat (first|refine q1 ?_|refine q3 ?_|refine q4 tab rfl rfl ?_|refine q5 ?_|refine q6 ?_|refine q8 ?_|refine q15 ?_)
      refine retQ_ret rfl (by repeat (exact List.Sublist.refl _)) ⟨rfl, rfl, ?_⟩
      rw [isName_eq hlt, decide_eq_false (by omega)]; rfl
    have hx : s[0]? = some s[0] := by simp [hlt]
    repeat (refine q4 tab rfl rfl ?_)
    refine TO.step rfl (OT.sidx tab 0 rfl rfl rfl rfl rfl rfl rfl hx ?_)
    skip
    refine TO.step rfl (OT.call rfl rfl rfl rfl rfl rfl goes89 ((digit_ref m L s[0]).x ?_));
    rintro _ _ _ ⟨rfl, rfl, rfl⟩
    repeat (refine q4 tab rfl rfl ?_)
    (refine TO.splitP rfl rfl (fun h3 => ?_) (fun h3 => ?_))
    · repeat (first|refine q4 tab rfl rfl ?_|refine q5 ?_|refine q6 ?_)
      refine TC.cond_t rfl ?_
      repeat (first|refine q1 ?_|refine q3 ?_|refine q4 tab rfl rfl ?_|refine q5 ?_|refine q6 ?_|refine q8 ?_|refine q15 ?_)
      refine retQ_ret rfl (by repeat (exact List.Sublist.refl _)) ⟨rfl, rfl, ?_⟩
      have h5 : dgt s[0] = true := decide_eq_true h3
      rw [isName_eq hlt, dgt_ltr, h5]; simp
    repeat (refine q4 tab rfl rfl ?_)
    refine TO.step rfl (OT.call rfl rfl rfl rfl rfl rfl goes90 ((reserved_ref m L s).x ?_));
    rintro _ _ _ ⟨rfl, rfl, rfl⟩
    repeat (first|refine q4 tab rfl rfl ?_|refine q5 ?_|refine q6 ?_)
    refine TC.condP rfl (fun h4 => ?_) (fun h4 => ?_)
    · repeat (first|refine q1 ?_|refine q3 ?_|refine q4 tab rfl rfl ?_|refine q5 ?_|refine q6 ?_|refine q8 ?_|refine q15 ?_)
      refine retQ_ret rfl (by repeat (exact List.Sublist.refl _)) ⟨rfl, rfl, ?_⟩
      rw [isName_eq hlt, decide_eq_true h4]; simp
    repeat (first|refine q1 ?_|refine q2 ?_|refine q3 ?_|refine q4 tab rfl rfl ?_|refine q5 ?_|refine q6 ?_|refine q13 ?_)
    refine TC.loopK (ι := Nat) [0] rfl (fun k => [(3, .int .i64 (k : Int))]) (fun _ => m) (fun _ => L) (fun k => k ≤ s.length ∧ (s.take k).all lod = true) (fun k => s.length - k) 0 (by repeat (first|exact trivial|refine And.intro rfl ?_)) rfl (by repeat (exact List.Sublist.refl _)) ⟨Nat.zero_le _, by simp⟩ ?_
    rintro k ⟨hk, hI⟩
    repeat (first|refine q1 ?_|refine q3 ?_|refine q4 tab rfl rfl ?_|refine q5 ?_|refine q6 ?_)
    refine TC.condP rfl (fun h => ?_) (fun h => ?_)
    · have hl2 : k < s.length := by omega
      have hx : s[k]? = some s[k] := by simp [hl2]
      repeat (first|refine q1 ?_|refine q2 ?_|refine q3 ?_|refine q4 tab rfl rfl ?_|refine q6 ?_|refine q13 ?_)
      refine TO.step rfl (OT.sidx tab k rfl rfl rfl rfl rfl rfl rfl hx ?_)
      skip
      refine TO.step rfl (OT.call rfl rfl rfl rfl rfl rfl goes91 ((letter_ref m L s[k]).x ?_));
      rintro _ _ _ ⟨rfl, rfl, rfl⟩
      repeat (refine q4 tab rfl rfl ?_)
      have step : lod s[k] = true → k + 1 ≤ s.length ∧ (s.take (k + 1)).all lod = true := fun hl => ⟨by omega, by rw [List.take_succ_eq_append_getElem hl2, List.all_append, hI, List.all_cons, hl]; rfl⟩
      refine TO.split (b := !ltr s[k]) rfl rfl (fun h5 => ?_) (fun h5 => ?_)
      · repeat (refine q4 tab rfl rfl ?_)
        refine TO.step rfl (OT.sidx tab k rfl rfl rfl rfl rfl rfl rfl hx ?_)
        skip
        refine TO.step rfl (OT.call rfl rfl rfl rfl rfl rfl goes89 ((digit_ref m L s[k]).x ?_));
        rintro _ _ _ ⟨rfl, rfl, rfl⟩
        repeat (first|refine q4 tab rfl rfl ?_|refine q5 ?_|refine q6 ?_)
        refine TC.cond (t := !dgt s[k]) rfl (fun h6 => ?_) (fun h6 => ?_)
        · repeat (first|refine q1 ?_|refine q3 ?_|refine q4 tab rfl rfl ?_|refine q5 ?_|refine q6 ?_|refine q8 ?_|refine q9 ?_|refine q15 ?_)
          refine retQ_ret rfl (by repeat (exact List.Sublist.refl _)) ⟨rfl, rfl, ?_⟩
          have h7 : s.all lod = false := List.all_eq_false.2 ⟨s[k], List.getElem_mem hl2, by unfold lod; simp_all⟩
          rw [isName_eq hlt, h7]; simp
        · repeat (first|refine q3 ?_|refine q4 tab rfl rfl ?_|refine q6 ?_|refine q7 ?_|refine q13 ?_)
          refine TO.step rfl (OT.arith (r' := ((k + 1 : Nat) : Int)) rfl rfl rfl rfl rfl rfl rfl (by omega) ?_)
          repeat (first|refine q4 tab rfl rfl ?_|refine q5 ?_|refine q6 ?_)
          exact ⟨k + 1, (by repeat (first|exact trivial|refine And.intro rfl ?_)), (by repeat (first|exact trivial|refine And.intro rfl ?_)), rfl, rfl, (by repeat (exact List.Sublist.refl _)), step (by unfold lod; simp_all), by omega⟩
      · repeat (first|refine q4 tab rfl rfl ?_|refine q5 ?_|refine q6 ?_)
        refine TC.cond_f rfl ?_
        repeat (first|refine q3 ?_|refine q4 tab rfl rfl ?_|refine q6 ?_|refine q7 ?_|refine q13 ?_)
        refine TO.step rfl (OT.arith (r' := ((k + 1 : Nat) : Int)) rfl rfl rfl rfl rfl rfl rfl (by omega) ?_)
        repeat (first|refine q4 tab rfl rfl ?_|refine q5 ?_|refine q6 ?_)
        exact ⟨k + 1, (by repeat (first|exact trivial|refine And.intro rfl ?_)), (by repeat (first|exact trivial|refine And.intro rfl ?_)), rfl, rfl, (by repeat (exact List.Sublist.refl _)), step (by unfold lod; simp_all), by omega⟩
    · repeat (first|refine q1 ?_|refine q3 ?_|refine q4 tab rfl rfl ?_|refine q5 ?_|refine q6 ?_|refine q10 ?_|refine q11 ?_|refine q14 ?_|refine q15 ?_)
      refine retQ_ret rfl (by repeat (exact List.Sublist.refl _)) ⟨rfl, rfl, ?_⟩
      rw [List.take_of_length_le (by omega)] at hI
      have h5 : dgt s[0] = false := decide_eq_false h3
      rw [isName_eq hlt, decide_eq_true (by omega), dgt_ltr, h5, hI, decide_eq_false h4]
      have := List.all_eq_true.1 hI s[0] (List.getElem_mem hlt)
      rw [this]; rfl

set_option maxHeartbeats 400000 in
theorem basic_law (m : Mem) (L : List Item) (s : Str) : TCall Try.prog 46 ⟨[strV s]⟩ m L (Ret (.int .i64 (basicOf s)) m L) := by
  unfold TCall
  refine TCallX.enter Try.func46 rfl 10 rfl ?_
  repeat (first|refine q1 ?_|refine q2 ?_|refine q3 ?_|refine q4 tab rfl rfl ?_|refine q5 ?_|refine q6 ?_)
  refine TC.condP rfl (fun h1 => ?_) (fun h1 => ?_)
  · repeat (first|refine q1 ?_|refine q3 ?_|refine q4 tab rfl rfl ?_|refine q5 ?_|refine q6 ?_|refine q8 ?_|refine q9 ?_|refine q15 ?_)
    refine retQ_ret rfl (by repeat (exact List.Sublist.refl _)) ⟨rfl, rfl, ?_⟩
    rw [basicOf, if_pos h1]
  repeat (first|refine q1 ?_|refine q3 ?_|refine q4 tab rfl rfl ?_|refine q5 ?_|refine q6 ?_)
  refine TC.condP rfl (fun h2 => ?_) (fun h2 => ?_)
  · repeat (first|refine q1 ?_|refine q3 ?_|refine q4 tab rfl rfl ?_|refine q5 ?_|refine q6 ?_|refine q8 ?_|refine q9 ?_|refine q15 ?_)
    refine retQ_ret rfl (by repeat (exact List.Sublist.refl _)) ⟨rfl, rfl, ?_⟩
    rw [basicOf, if_neg h1, if_pos h2]
  repeat (first|refine q1 ?_|refine q3 ?_|refine q4 tab rfl rfl ?_|refine q5 ?_|refine q6 ?_)
  refine TC.condP rfl (fun h3 => ?_) (fun h3 => ?_)
  · repeat (first|refine q1 ?_|refine q3 ?_|refine q4 tab rfl rfl ?_|refine q5 ?_|refine q6 ?_|refine q8 ?_|refine q9 ?_|refine q15 ?_)
    refine retQ_ret rfl (by repeat (exact List.Sublist.refl _)) ⟨rfl, rfl, ?_⟩
    rw [basicOf, if_neg h1, if_neg h2, if_pos h3]
  · repeat (first|refine q1 ?_|refine q3 ?_|refine q4 tab rfl rfl ?_|refine q5 ?_|refine q6 ?_|refine q7 ?_|refine q13 ?_|refine q15 ?_)
    refine retQ_ret rfl (by repeat (exact List.Sublist.refl _)) ⟨rfl, rfl, ?_⟩
    rw [basicOf, if_neg h1, if_neg h2, if_neg h3]

set_option maxHeartbeats 400000 in
theorem basic_ref (m : Mem) (L : List Item) (s : Str) : TCall Try.prog 52 ⟨[strV s]⟩ m L (Ret (.int .i64 (basicOf s)) m L) := by
  unfold TCall
  refine TCallX.enter Try.func52 rfl 10 rfl ?_
  repeat (first|refine q1 ?_|refine q2 ?_|refine q3 ?_|refine q4 tab rfl rfl ?_|refine q5 ?_|refine q6 ?_)
  refine TC.condP rfl (fun h1 => ?_) (fun h1 => ?_)
  · repeat (first|refine q1 ?_|refine q3 ?_|refine q4 tab rfl rfl ?_|refine q5 ?_|refine q6 ?_|refine q8 ?_|refine q9 ?_|refine q15 ?_)
    refine retQ_ret rfl (by repeat (exact List.Sublist.refl _)) ⟨rfl, rfl, ?_⟩
    rw [basicOf, if_pos h1]
  repeat (first|refine q1 ?_|refine q3 ?_|refine q4 tab rfl rfl ?_|refine q5 ?_|refine q6 ?_)
  refine TC.condP rfl (fun h2 => ?_) (fun h2 => ?_)
  · repeat (first|refine q1 ?_|refine q3 ?_|refine q4 tab rfl rfl ?_|refine q5 ?_|refine q6 ?_|refine q8 ?_|refine q9 ?_|refine q15 ?_)
    refine retQ_ret rfl (by repeat (exact List.Sublist.refl _)) ⟨rfl, rfl, ?_⟩
    rw [basicOf, if_neg h1, if_pos h2]
  repeat (first|refine q1 ?_|refine q3 ?_|refine q4 tab rfl rfl ?_|refine q5 ?_|refine q6 ?_)
  refine TC.condP rfl (fun h3 => ?_) (fun h3 => ?_)
  · repeat (first|refine q1 ?_|refine q3 ?_|refine q4 tab rfl rfl ?_|refine q5 ?_|refine q6 ?_|refine q8 ?_|refine q9 ?_|refine q15 ?_)
    refine retQ_ret rfl (by repeat (exact List.Sublist.refl _)) ⟨rfl, rfl, ?_⟩
    rw [basicOf, if_neg h1, if_neg h2, if_pos h3]
  · repeat (first|refine q1 ?_|refine q3 ?_|refine q4 tab rfl rfl ?_|refine q5 ?_|refine q6 ?_|refine q7 ?_|refine q13 ?_|refine q15 ?_)
    refine retQ_ret rfl (by repeat (exact List.Sublist.refl _)) ⟨rfl, rfl, ?_⟩
    rw [basicOf, if_neg h1, if_neg h2, if_neg h3]
end Go.Sep

/-
  Plain laws of trees: bulk, size, depth, which trees are types.
-/
set_option linter.unusedVariables false
set_option linter.unusedSimpArgs false
namespace Go.Sep

mutual
def Tree.bulk : Tree → Nat
  | .mk _ n _ ks => 1 + n.length + bulkL ks
def bulkL : List Tree → Nat
  | [] => 0
  | t :: ts => t.bulk + bulkL ts
end
theorem bulkL_mem : ∀ {l : List Tree} {t : Tree}, t ∈ l → t.bulk ≤ bulkL l
  | x :: xs, t, h => by
    rcases List.mem_cons.1 h with rfl | h
    · simp only [bulkL]; omega
    · have := bulkL_mem h; simp only [bulkL]; omega
theorem bulk_kid {a t : Tree} (h : t ∈ a.kids) : t.bulk < a.bulk := by
  obtain ⟨k, n, u, ks⟩ := a
  have := bulkL_mem h
  simp only [Tree.kids, Tree.bulk] at *
  omega
theorem bulk_name (a : Tree) : a.name.length < a.bulk := by
  obtain ⟨k, n, u, ks⟩ := a
  simp only [Tree.name, Tree.bulk]
  omega
theorem bulk_len : ∀ l : List Tree, l.length ≤ bulkL l
  | [] => by simp [bulkL]
  | t :: ts => by
    have := bulk_len ts
    obtain ⟨k, n, u, ks⟩ := t
    simp only [bulkL, Tree.bulk, List.length_cons]
    omega

mutual
def Tree.size : Tree → Nat
  | .mk _ _ _ ks => 1 + sizeL ks
def sizeL : List Tree → Nat
  | [] => 0
  | t :: ts => t.size + sizeL ts
end
mutual
def Tree.deep : Tree → Nat
  | .mk _ _ _ ks => deepL ks + 1
def deepL : List Tree → Nat
  | [] => 0
  | t :: ts => max t.deep (deepL ts)
end
mutual
theorem size_bulk : ∀ a : Tree, a.size ≤ a.bulk
  | .mk _ n _ ks => by
    have := sizeL_bulk ks
    simp only [Tree.size, Tree.bulk]
    omega
theorem sizeL_bulk : ∀ l : List Tree, sizeL l ≤ bulkL l
  | [] => by simp [sizeL, bulkL]
  | t :: ts => by
    have h1 := size_bulk t
    have h2 := sizeL_bulk ts
    simp only [sizeL, bulkL]
    omega
end
mutual
theorem deep_size : ∀ a : Tree, a.deep ≤ a.size
  | .mk _ n _ ks => by
    have := deepL_size ks
    simp only [Tree.size, Tree.deep]
    omega
theorem deepL_size : ∀ l : List Tree, deepL l ≤ sizeL l
  | [] => by simp [sizeL, deepL]
  | t :: ts => by
    have h1 := deep_size t
    have h2 := deepL_size ts
    simp only [sizeL, deepL]
    omega
end
theorem size_pos (a : Tree) : 1 ≤ a.size := by obtain ⟨k, n, u, ks⟩ := a; simp only [Tree.size]; omega
theorem sizeL_append : ∀ l r : List Tree, sizeL (l ++ r) = sizeL l + sizeL r
  | [], r => by simp [sizeL]
  | t :: ts, r => by have := sizeL_append ts r; simp only [List.cons_append, sizeL]; omega
theorem deepL_append : ∀ l r : List Tree, deepL (l ++ r) = max (deepL l) (deepL r)
  | [], r => by simp [deepL]
  | t :: ts, r => by have := deepL_append ts r; simp only [List.cons_append, deepL]; omega

theorem sizeL_take (l : List Tree) (k : Nat) : sizeL (l.take k) ≤ sizeL l := by
  have := sizeL_append (l.take k) (l.drop k)
  rw [List.take_append_drop] at this
  omega
theorem deepL_take (l : List Tree) (k : Nat) : deepL (l.take k) ≤ deepL l := by
  have := deepL_append (l.take k) (l.drop k)
  rw [List.take_append_drop] at this
  omega
theorem sizeL_drop (l : List Tree) (k : Nat) : sizeL (l.take k) + sizeL (l.drop k) = sizeL l := by
  rw [← sizeL_append, List.take_append_drop]
theorem len_sizeL : ∀ l : List Tree, l.length ≤ sizeL l
  | [] => by simp [sizeL]
  | t :: ts => by
    have := len_sizeL ts
    have := size_pos t
    simp only [sizeL, List.length_cons]
    omega
theorem size_kids (a : Tree) : a.size = 1 + sizeL a.kids := by obtain ⟨_, _, _, ks⟩ := a; rfl
theorem deep_kids (a : Tree) : a.deep = deepL a.kids + 1 := by obtain ⟨_, _, _, ks⟩ := a; rfl
theorem sizeL_next (l : List Tree) (k : Nat) (h : k < l.length) : sizeL (l.take (k + 1)) = sizeL (l.take k) + l[k].size := by rw [List.take_succ_eq_append_getElem h, sizeL_append]; simp [sizeL]
theorem deepL_next (l : List Tree) (k : Nat) (h : k < l.length) : deepL (l.take (k + 1)) = max (deepL (l.take k)) l[k].deep := by rw [List.take_succ_eq_append_getElem h, deepL_append]; simp [deepL]

mutual
def Tree.isType : Tree → Bool
  | .mk k n u ks =>
    if k = 10 then decide (u = 0) && (isName n && decide (ks.length = 0))
    else if k = 11 ∨ k = 12 then decide (n = []) && (decide (u = 0) && (decide (ks.length = 1) && allType ks))
    else if k = 13 then decide (n = []) && (decide (0 ≤ u) && (decide (u ≤ (ks.length : Int)) && allType ks))
    else false
def allType : List Tree → Bool
  | [] => true
  | t :: ts => t.isType && allType ts
end
theorem allType_eq : ∀ l : List Tree, allType l = l.all Tree.isType
  | [] => rfl
  | t :: ts => by rw [allType, allType_eq ts, List.all_cons]
theorem isType_eq (a : Tree) : a.isType =
    if a.kind = 10 then decide (a.num = 0) && (isName a.name && decide (a.kids.length = 0))
    else if a.kind = 11 ∨ a.kind = 12 then decide (a.name = []) && (decide (a.num = 0) && (decide (a.kids.length = 1) && a.kids.all Tree.isType))
    else if a.kind = 13 then decide (a.name = []) && (decide (0 ≤ a.num) && (decide (a.num ≤ (a.kids.length : Int)) && a.kids.all Tree.isType))
    else false := by
  obtain ⟨k, n, u, ks⟩ := a
  simp only [Tree.kind, Tree.name, Tree.num, Tree.kids]
  rw [Tree.isType, allType_eq]
  rfl
def Tree.isParam (a : Tree) : Bool := decide (a.kind = 8) && (decide (a.num = 0) && (isName a.name && (decide (a.kids.length = 1) && a.kids.all Tree.isType)))
def Tree.isSig (a : Tree) : Bool := decide (a.kind = 7) && (decide (a.name = []) && (decide (0 ≤ a.num) && (decide (a.num ≤ (a.kids.length : Int)) && ((a.kids.take a.num.toNat).all Tree.isParam && (a.kids.drop a.num.toNat).all Tree.isType))))

/- the type of a sound node -/
mutual
def Tree.ofT : Tree → Tree
  | .mk k n u ks => if k = 10 then (if basicOf n = 0 then .mk 4 n 0 [] else .mk (basicOf n) [] 0 []) else if k = 8 then ofHead ks else .mk (if k = 11 then 5 else if k = 12 then 6 else 7) [] u (ofL ks)
def ofL : List Tree → List Tree
  | [] => []
  | t :: ts => t.ofT :: ofL ts
def ofHead : List Tree → Tree
  | [] => .mk 0 [] 0 []
  | t :: _ => t.ofT
end
theorem ofL_eq : ∀ l : List Tree, ofL l = l.map Tree.ofT
  | [] => rfl
  | t :: ts => by rw [ofL, ofL_eq ts]; rfl
def okNode (a : Tree) : Bool := a.isType || (a.isParam || a.isSig)
theorem isType_node {a : Tree} (h : a.isType = true) : okNode a = true := by unfold okNode; rw [h]; rfl

theorem isType_facts {a : Tree} (h : a.isType = true) : (a.kind = 10 ∧ a.num = 0 ∧ a.kids = []) ∨ ((a.kind = 11 ∨ a.kind = 12) ∧ a.num = 0 ∧ ∀ k ∈ a.kids, k.isType = true) ∨ (a.kind = 13 ∧ ∀ k ∈ a.kids, k.isType = true) := by
  rw [isType_eq] at h
  split at h
  · simp only [Bool.and_eq_true, decide_eq_true_eq] at h
    exact .inl ⟨by assumption, h.1, List.length_eq_zero_iff.1 h.2.2⟩
  split at h
  · simp only [Bool.and_eq_true, decide_eq_true_eq, List.all_eq_true] at h
    exact .inr (.inl ⟨by assumption, h.2.1, h.2.2.2⟩)
  split at h
  · simp only [Bool.and_eq_true, decide_eq_true_eq, List.all_eq_true] at h
    exact .inr (.inr ⟨by assumption, h.2.2.2⟩)
  · cases h
theorem isParam_facts {a : Tree} (h : a.isParam = true) : a.kind = 8 ∧ ∃ k, a.kids = [k] ∧ k.isType = true := by
  unfold Tree.isParam at h
  simp only [Bool.and_eq_true, decide_eq_true_eq, List.all_eq_true] at h
  obtain ⟨h1, _, _, h2, h3⟩ := h
  match hk : a.kids with
  | [] => rw [hk] at h2; cases h2
  | [k] => exact ⟨h1, k, rfl, h3 k (by rw [hk]; simp)⟩
  | _ :: _ :: _ => rw [hk] at h2; simp at h2
theorem isSig_facts {a : Tree} (h : a.isSig = true) : a.kind = 7 ∧ ∀ k ∈ a.kids, okNode k = true := by
  unfold Tree.isSig at h
  simp only [Bool.and_eq_true, decide_eq_true_eq, List.all_eq_true] at h
  obtain ⟨h1, _, _, _, h2, h3⟩ := h
  refine ⟨h1, fun k hk => ?_⟩
  rw [← List.take_append_drop a.num.toNat a.kids, List.mem_append] at hk
  rcases hk with hk | hk
  · unfold okNode; rw [h2 k hk]; simp
  · exact isType_node (h3 k hk)
/-- the ways a sound node may be -/
theorem okNode_facts {a : Tree} (h : okNode a = true) : (a.kind = 10 ∧ a.num = 0 ∧ a.kids = []) ∨ ((a.kind = 11 ∨ a.kind = 12) ∧ a.num = 0 ∧ ∀ k ∈ a.kids, okNode k = true) ∨ ((a.kind = 13 ∨ a.kind = 7) ∧ ∀ k ∈ a.kids, okNode k = true) ∨ (a.kind = 8 ∧ ∃ k, a.kids = [k] ∧ okNode k = true) := by
  unfold okNode at h
  rw [Bool.or_eq_true, Bool.or_eq_true] at h
  rcases h with h | h | h
  · rcases isType_facts h with h | ⟨h1, h2, h3⟩ | ⟨h1, h3⟩
    · exact .inl h
    · exact .inr (.inl ⟨h1, h2, fun k hk => isType_node (h3 k hk)⟩)
    · exact .inr (.inr (.inl ⟨.inl h1, fun k hk => isType_node (h3 k hk)⟩))
  · obtain ⟨h1, k, h2, h3⟩ := isParam_facts h
    exact .inr (.inr (.inr ⟨h1, k, h2, isType_node h3⟩))
  · obtain ⟨h1, h2⟩ := isSig_facts h
    exact .inr (.inr (.inl ⟨.inr h1, h2⟩))
theorem ofT_eq (a : Tree) : a.ofT = if a.kind = 10 then (if basicOf a.name = 0 then .mk 4 a.name 0 [] else .mk (basicOf a.name) [] 0 []) else if a.kind = 8 then ofHead a.kids else .mk (if a.kind = 11 then 5 else if a.kind = 12 then 6 else 7) [] a.num (a.kids.map Tree.ofT) := by
  obtain ⟨k, n, u, ks⟩ := a
  simp only [Tree.kind, Tree.name, Tree.num, Tree.kids]
  rw [Tree.ofT, ofL_eq]
  rfl
def withinB (a : Tree) (x y : Int) : Bool := decide ((a.size : Int) + x ≤ 20000) && decide ((a.deep : Int) + y ≤ 100)
theorem withinB_eq (a : Tree) (x y : Int) : withinB a x y = (decide ((a.size : Int) + x ≤ 20000) && decide ((a.deep : Int) + y ≤ 100)) := rfl
attribute [irreducible] withinB
def okType (a : Tree) : Bool := withinB a 3 3 && a.isType
def okSig (a : Tree) : Bool := withinB a 3 2 && a.isSig
end Go.Sep

/-
  Plain laws of types: equality, which types are formed.
-/
set_option linter.unusedVariables false
set_option linter.unusedSimpArgs false
namespace Go.Sep

mutual
def teq : Tree → Tree → Bool
  | .mk k n u ks, .mk k' n' u' ks' => decide (k = k') && (decide (n = n') && (decide (u = u') && teqL ks ks'))
def teqL : List Tree → List Tree → Bool
  | [], [] => true
  | t :: ts, s :: ss => teq t s && teqL ts ss
  | [], _ :: _ => false
  | _ :: _, [] => false
end
mutual
theorem teq_iff : ∀ a b : Tree, teq a b = true ↔ a = b
  | .mk k n u ks, .mk k' n' u' ks' => by
    have := teqL_iff ks ks'
    simp only [teq, Bool.and_eq_true, decide_eq_true_eq, this, Tree.mk.injEq]
theorem teqL_iff : ∀ l r : List Tree, teqL l r = true ↔ l = r
  | [], [] => by simp [teqL]
  | t :: ts, s :: ss => by
    have h1 := teq_iff t s
    have h2 := teqL_iff ts ss
    simp only [teqL, Bool.and_eq_true, h1, h2, List.cons.injEq]
  | [], _ :: _ => by simp [teqL]
  | _ :: _, [] => by simp [teqL]
end
theorem teq_refl (a : Tree) : teq a a = true := (teq_iff a a).2 rfl
theorem teq_comm (a b : Tree) : teq a b = teq b a := by
  rw [Bool.eq_iff_iff, teq_iff, teq_iff]
  exact eq_comm
theorem teq_eq (a b : Tree) : teq a b = (decide (a.kind = b.kind) && (decide (a.name = b.name) && (decide (a.num = b.num) && teqL a.kids b.kids))) := by
  obtain ⟨_, _, _, _⟩ := a
  obtain ⟨_, _, _, _⟩ := b
  rfl
theorem teqL_len {l r : List Tree} (h : l.length ≠ r.length) : teqL l r = false := by
  cases hc : teqL l r with
  | false => rfl
  | true => exact absurd (congrArg List.length ((teqL_iff l r).1 hc)) h
theorem teqL_step (l r : List Tree) (k : Nat) (h1 : k < l.length) (h2 : k < r.length) : teqL (l.drop k) (r.drop k) = (teq l[k] r[k] && teqL (l.drop (k + 1)) (r.drop (k + 1))) := by
  rw [List.drop_eq_getElem_cons h1, List.drop_eq_getElem_cons h2, teqL]

/-- what a type's own node must be -/
def kindB (a : Tree) : Bool :=
  if a.kind = 1 ∨ a.kind = 2 ∨ a.kind = 3 ∨ a.kind = 8 then decide (a.kids.length = 0)
  else if a.kind = 4 then decide (a.kids.length = 0) && (isName a.name && decide (basicOf a.name = 0))
  else if a.kind = 5 ∨ a.kind = 6 then decide (a.kids.length = 1)
  else if a.kind = 7 then decide (0 ≤ a.num) && decide (a.num ≤ (a.kids.length : Int)) else false
def headB (a : Tree) : Bool := (decide (a.kind = 4) || decide (a.name = [])) && (decide (a.kind = 7) || decide (a.num = 0))
mutual
def Tree.formed : Tree → Bool
  | .mk k n u ks => formedL ks && (headB (.mk k n u ks) && kindB (.mk k n u ks))
def formedL : List Tree → Bool
  | [] => true
  | t :: ts => (!decide (t.kind = 8) && t.formed) && formedL ts
end
theorem formed_eq (a : Tree) : a.formed = (formedL a.kids && (headB a && kindB a)) := by
  obtain ⟨_, _, _, _⟩ := a
  rfl
theorem formedL_eq : ∀ l : List Tree, formedL l = l.all (fun t => !decide (t.kind = 8) && t.formed)
  | [] => rfl
  | t :: ts => by rw [formedL, formedL_eq ts, List.all_cons]
theorem formedL_append (l r : List Tree) : formedL (l ++ r) = (formedL l && formedL r) := by rw [formedL_eq, formedL_eq, formedL_eq, List.all_append]
theorem formedL_next (l : List Tree) (k : Nat) (h : k < l.length) : formedL (l.take (k + 1)) = (formedL (l.take k) && (!decide (l[k].kind = 8) && l[k].formed)) := by
  rw [List.take_succ_eq_append_getElem h, formedL_append]
  simp [formedL]
theorem formedL_false {l : List Tree} {t : Tree} (hm : t ∈ l) (h : (!decide (t.kind = 8) && t.formed) = false) : formedL l = false := by
  rw [formedL_eq]
  exact List.all_eq_false.2 ⟨t, hm, by rw [h]; simp⟩
/-- is it a type? -/
def Tree.sound (a : Tree) : Bool := decide (a.size ≤ 20000 ∧ a.deep ≤ 100) && a.formed
end Go.Sep

/-
  The walks of Equal, the program's and the reference's.
-/
set_option linter.unusedVariables false
set_option linter.unusedSimpArgs false
namespace Go.Sep
open Go.Proofs
attribute [local irreducible] TC TO OT TCallX TCall DO DOt thenQ blockQ retQ At

set_option maxHeartbeats 1600000 in
theorem equal_ref (a : Tree) : ∀ (c : Tree) (m : Mem) (L : List Item) (h g : HTree) (hr : TreeRep m h a) (gr : TreeRep m g c), TCall Try.prog 13 ⟨[treeV h, treeV g]⟩ m L (Ret (.bool (teq a c)) m L) := by
  induction a using Tree.ind with
  | h a ih =>
  intro c m L h g hr gr
  obtain ⟨h1, h2, h3, h4⟩ := hr
  obtain ⟨g1, g2, g3, g4⟩ := gr
  have hl := h4.len
  have gl := g4.len
  have hsm := h4.small rfl
  have gsm := g4.small rfl
  rw [teq_eq, ← h1, ← g1, ← h2, ← g2, ← h3, ← g3]
  unfold TCall
  refine TCallX.enter Try.func13 rfl 53 rfl ?_
  repeat (first|refine q1 ?_|refine q3 ?_)
  refine TO.step rfl (OT.box rfl rfl rfl rfl rfl (fun b => ?_))
  skip
  refine TO.step rfl (OT.box rfl rfl rfl rfl rfl (fun b2 => ?_))
  repeat (first|(first|refine q1 ?_|refine q3 ?_|refine q4 tab rfl rfl ?_|refine q5 ?_|refine q6 ?_)|(first|refine qs rfl (ql tab 0 rfl rfl rfl rfl rfl rfl ?_)|refine qs rfl (ql tab 1 rfl rfl rfl rfl rfl rfl ?_)))
  (refine TO.splitN rfl rfl (fun e1 => ?_) (fun e1 => ?_))
  · repeat (first|refine q1 ?_|refine q3 ?_|refine q4 tab rfl rfl ?_|refine q5 ?_|refine q6 ?_|refine q8 ?_|refine q15 ?_|refine q16 rfl ?_)
    refine retQ_ret rfl (by repeat (first|exact List.Sublist.refl _|refine List.Sublist.cons _ ?_)) ⟨rfl, rfl, ?_⟩
    rw [decide_eq_false e1]; rfl
  repeat (first|(refine q4 tab rfl rfl ?_)|(first|refine qs rfl (ql tab 0 rfl rfl rfl rfl rfl rfl ?_)|refine qs rfl (ql tab 1 rfl rfl rfl rfl rfl rfl ?_)))
  (refine TO.splitN rfl rfl (fun e2 => ?_) (fun e2 => ?_))
  · repeat (first|refine q1 ?_|refine q3 ?_|refine q4 tab rfl rfl ?_|refine q5 ?_|refine q6 ?_|refine q8 ?_|refine q15 ?_|refine q16 rfl ?_)
    refine retQ_ret rfl (by repeat (first|exact List.Sublist.refl _|refine List.Sublist.cons _ ?_)) ⟨rfl, rfl, ?_⟩
    rw [decide_eq_true e1, decide_eq_false e2]; rfl
  repeat (first|(refine q4 tab rfl rfl ?_)|(first|refine qs rfl (ql tab 0 rfl rfl rfl rfl rfl rfl ?_)|refine qs rfl (ql tab 1 rfl rfl rfl rfl rfl rfl ?_)))
  (refine TO.splitN rfl rfl (fun e3 => ?_) (fun e3 => ?_))
  · repeat (first|refine q1 ?_|refine q3 ?_|refine q4 tab rfl rfl ?_|refine q5 ?_|refine q6 ?_|refine q8 ?_|refine q15 ?_|refine q16 rfl ?_)
    refine retQ_ret rfl (by repeat (first|exact List.Sublist.refl _|refine List.Sublist.cons _ ?_)) ⟨rfl, rfl, ?_⟩
    rw [decide_eq_true e1, decide_eq_true e2, decide_eq_false e3]; rfl
  repeat (first|(first|refine q4 tab rfl rfl ?_|refine q5 ?_|refine q6 ?_)|(first|refine qs rfl (ql tab 0 rfl rfl rfl rfl rfl rfl ?_)|refine qs rfl (ql tab 1 rfl rfl rfl rfl rfl rfl ?_)))
  refine TC.condN rfl (fun e4 => ?_) (fun e4 => ?_)
  · repeat (first|refine q1 ?_|refine q3 ?_|refine q4 tab rfl rfl ?_|refine q5 ?_|refine q6 ?_|refine q8 ?_|refine q15 ?_)
    refine retQ_ret rfl (by repeat (first|exact List.Sublist.refl _|refine List.Sublist.cons _ ?_)) ⟨rfl, rfl, ?_⟩
    rw [teqL_len (by omega)]; simp
  rw [decide_eq_true e1, decide_eq_true e2, decide_eq_true e3, Bool.true_and, Bool.true_and, Bool.true_and]
  have hlen : a.kids.length = c.kids.length := by omega
  repeat (first|refine q1 ?_|refine q2 ?_|refine q3 ?_|refine q4 tab rfl rfl ?_|refine q5 ?_|refine q6 ?_|refine q13 ?_)
  refine TC.loopK (ι := Nat) [2, 3] rfl (fun k => [(5, .int .i64 (k : Int))]) (fun _ => m) (fun _ => .cells b2 0 (treeC g) :: .cells b 0 (treeC h) :: L) (fun k => k ≤ a.kids.length ∧ teqL a.kids c.kids = teqL (a.kids.drop k) (c.kids.drop k)) (fun k => a.kids.length - k) 0 (by repeat (first|exact trivial|refine And.intro rfl ?_)) rfl (by repeat (exact List.Sublist.refl _)) ⟨Nat.zero_le _, rfl⟩ ?_
  rintro k ⟨hk, hI⟩
  repeat (first|(first|refine q1 ?_|refine q3 ?_|refine q4 tab rfl rfl ?_|refine q5 ?_|refine q6 ?_)|(refine qs rfl (ql tab 1 rfl rfl rfl rfl rfl rfl ?_)))
  refine TC.condP rfl (fun hlt' => ?_) (fun hlt' => ?_)
  · have hlt : k < a.kids.length := by omega
    have hlt2 : k < c.kids.length := by omega
    have hx : a.kids[k]? = some a.kids[k] := by simp [hlt]
    have hx2 : c.kids[k]? = some c.kids[k] := by simp [hlt2]
    rw [teqL_step _ _ k hlt hlt2] at hI
    repeat (first|refine q1 ?_|refine q2 ?_|refine q6 ?_|refine q13 ?_)
    refine TC.draw0 [] mixed 12 rfl ?_
    refine DO.pure tab (by repeat (first|exact Calm.ret|refine Calm.then ?_|refine Calm.block ?_)) (by kernel_rfl) [0] (by kernel_rfl) rfl ?_
    (refine DO.loadL tab 1 1 (by repeat (first|exact Calm.ret|refine Calm.then ?_|refine Calm.block ?_)) (by kernel_rfl) (by kernel_rfl) rfl rfl rfl rfl rfl rfl rfl rfl ?_)
    refine DO.pure tab (by repeat (first|exact Calm.ret|refine Calm.then ?_|refine Calm.block ?_)) (by kernel_rfl) [2] (by kernel_rfl) rfl ?_
    refine DO.index tab rTree 3 k h4 (by repeat (first|exact Calm.ret|refine Calm.then ?_|refine Calm.block ?_)) (by kernel_rfl) (by kernel_rfl) rfl rfl rfl rfl rfl rfl rfl (by first | rfl | omega) rfl hx ?_
    rintro b' i' h' hrd hA
    (refine DO.loadA (k := 0) tab 4 hA (by repeat (first|exact Calm.ret|refine Calm.then ?_|refine Calm.block ?_)) (by kernel_rfl) (by kernel_rfl) rfl rfl rfl rfl rfl rfl rfl ?_)
    refine DO.pure tab (by repeat (first|exact Calm.ret|refine Calm.then ?_|refine Calm.block ?_)) (by kernel_rfl) [5] (by kernel_rfl) rfl ?_
    (refine DO.loadL tab 6 0 (by repeat (first|exact Calm.ret|refine Calm.then ?_|refine Calm.block ?_)) (by kernel_rfl) (by kernel_rfl) rfl rfl rfl rfl rfl rfl rfl rfl ?_)
    refine DO.pure tab (by repeat (first|exact Calm.ret|refine Calm.then ?_|refine Calm.block ?_)) (by kernel_rfl) [7] (by kernel_rfl) rfl ?_
    refine DO.index tab rTree 8 k g4 (by repeat (first|exact Calm.ret|refine Calm.then ?_|refine Calm.block ?_)) (by kernel_rfl) (by kernel_rfl) rfl rfl rfl rfl rfl rfl rfl (by first | rfl | omega) rfl hx2 ?_
    rintro b'' i'' g' grd gA
    (refine DO.loadA (k := 0) tab 9 gA (by repeat (first|exact Calm.ret|refine Calm.then ?_|refine Calm.block ?_)) (by kernel_rfl) (by kernel_rfl) rfl rfl rfl rfl rfl rfl rfl ?_)
    refine DO.run 10 rfl rfl (by kernel_rfl) rfl (OT.call rfl rfl rfl rfl rfl rfl goes13 ((ih _ (List.getElem_mem hlt) c.kids[k] _ _ h' g' (rTree_iff.1 hrd) (rTree_iff.1 grd)).x ?_))
    rintro _ _ _ ⟨rfl, rfl, rfl⟩; refine ⟨Mem.le_refl _, _, List.Perm.refl _, ?_⟩
    refine DO.pure tab (by repeat (first|exact Calm.ret|refine Calm.then ?_|refine Calm.block ?_)) (by kernel_rfl) [11] (by kernel_rfl) rfl ?_
    (refine DO.nil0 (by kernel_rfl) ?_)
    rotate_left 1
    refine thenQ_n ?_
    skip
    refine TC.cond (t := !teq a.kids[k] c.kids[k]) rfl (fun e5 => ?_) (fun e5 => ?_)
    · rw [Bool.not_eq_true'] at e5
      repeat (first|refine q1 ?_|refine q3 ?_|refine q4 tab rfl rfl ?_|refine q5 ?_|refine q6 ?_|refine q8 ?_|refine q9 ?_|refine q15 ?_)
      refine retQ_ret rfl (by repeat (first|exact List.Sublist.refl _|refine List.Sublist.cons _ ?_)) ⟨rfl, rfl, ?_⟩
      rw [hI, e5]; rfl
    · rw [Bool.not_eq_false'] at e5
      repeat (first|refine q3 ?_|refine q4 tab rfl rfl ?_|refine q6 ?_|refine q7 ?_|refine q13 ?_)
      refine TO.step rfl (OT.arith (r' := ((k + 1 : Nat) : Int)) rfl rfl rfl rfl rfl rfl rfl (by omega) ?_)
      repeat (first|refine q4 tab rfl rfl ?_|refine q5 ?_|refine q6 ?_)
      exact ⟨k + 1, (by repeat (first|exact trivial|refine And.intro rfl ?_)), (by repeat (first|exact trivial|refine And.intro rfl ?_)), rfl, rfl, (by repeat (exact List.Sublist.refl _)), ⟨by omega, by rw [hI, e5]; rfl⟩, by omega⟩
  · repeat (first|refine q1 ?_|refine q3 ?_|refine q4 tab rfl rfl ?_|refine q5 ?_|refine q6 ?_|refine q10 ?_|refine q11 ?_|refine q14 ?_|refine q15 ?_)
    refine retQ_ret rfl (by repeat (first|exact List.Sublist.refl _|refine List.Sublist.cons _ ?_)) ⟨rfl, rfl, ?_⟩
    rw [hI, List.drop_eq_nil_of_le (by omega), List.drop_eq_nil_of_le (by omega)]; rfl

set_option maxHeartbeats 1600000 in
theorem equalFunc_law (m : Mem) (L : List Item) (s t : Sl) (l r : List Tree) (hs : SlRep rTree m s l) (ht : SlRep rTree m t r)
    (hp : ∀ a ∈ l, ∀ (c : Tree) (m : Mem) (L : List Item) (h g : HTree), TreeRep m h a → TreeRep m g c → TCall Try.prog 41 ⟨[treeV h, treeV g]⟩ m L (Ret (.bool (teq a c)) m L)) :
    TCall Try.prog 77 ⟨[s.v, t.v, .func (.func 41) ⟨[]⟩ ⟨[]⟩]⟩ m L (Ret (.bool (teqL l r)) m L) := by
  have hl := hs.len
  have gl := ht.len
  have hsm := hs.small rfl
  have gsm := ht.small rfl
  unfold TCall
  refine TCallX.enter Try.func77 rfl 32 rfl ?_
  repeat (first|refine q1 ?_|refine q3 ?_|refine q4 tab rfl rfl ?_|refine q5 ?_|refine q6 ?_)
  refine TC.condN rfl (fun e4 => ?_) (fun e4 => ?_)
  · repeat (first|refine q1 ?_|refine q3 ?_|refine q4 tab rfl rfl ?_|refine q5 ?_|refine q6 ?_|refine q8 ?_|refine q15 ?_)
    refine retQ_ret rfl (by repeat (exact List.Sublist.refl _)) ⟨rfl, rfl, ?_⟩
    rw [teqL_len (by omega)]
  have hlen : l.length = r.length := by omega
  repeat (first|refine q1 ?_|refine q2 ?_|refine q3 ?_|refine q4 tab rfl rfl ?_|refine q5 ?_|refine q6 ?_|refine q13 ?_)
  refine TC.loopK (ι := Nat) [1, 2, 15, 16] rfl (fun k => [(17, .int .i64 (k : Int))]) (fun _ => m) (fun _ => L) (fun k => k ≤ l.length ∧ teqL l r = teqL (l.drop k) (r.drop k)) (fun k => l.length - k) 0 (by repeat (first|exact trivial|refine And.intro rfl ?_)) rfl (by repeat (exact List.Sublist.refl _)) ⟨Nat.zero_le _, rfl⟩ ?_
  rintro k ⟨hk, hI⟩
  repeat (first|refine q1 ?_|refine q3 ?_|refine q4 tab rfl rfl ?_|refine q5 ?_|refine q6 ?_)
  refine TC.condP rfl (fun hlt' => ?_) (fun hlt' => ?_)
  · have hlt : k < l.length := by omega
    have hlt2 : k < r.length := by omega
    have hx : l[k]? = some l[k] := by simp [hlt]
    have hx2 : r[k]? = some r[k] := by simp [hlt2]
    rw [teqL_step _ _ k hlt hlt2] at hI
    repeat (first|refine q1 ?_|refine q2 ?_|refine q3 ?_|refine q4 tab rfl rfl ?_|refine q6 ?_|refine q13 ?_)
    refine TO.step rfl (OT.index tab rTree k hs rfl rfl rfl rfl rfl (by first | rfl | omega) rfl hx ?_)
    rintro b' i' h' hrd hA
    (refine TO.step rfl (OT.loadA0 tab hA rfl rfl rfl rfl rfl ?_))
    skip
    refine TO.step rfl (OT.alloc tab rfl rfl rfl rfl (fun b1 => ?_))
    repeat (refine q4 tab rfl rfl ?_)
    (refine TO.step rfl (OT.storeL0 tab 0 rfl rfl rfl rfl rfl rfl rfl rfl ?_))
    repeat (first|refine q1 ?_|refine q3 ?_|refine q4 tab rfl rfl ?_|refine q5 ?_|refine q6 ?_)
    refine TO.step rfl (OT.index tab rTree k ht rfl rfl rfl rfl rfl (by first | rfl | omega) rfl hx2 ?_)
    rintro b'' i'' g' grd gA
    (refine TO.step rfl (OT.loadA0 tab gA rfl rfl rfl rfl rfl ?_))
    skip
    refine TO.step rfl (OT.alloc tab rfl rfl rfl rfl (fun b2 => ?_))
    skip
    (refine TO.step rfl (OT.storeL0 tab 0 rfl rfl rfl rfl rfl rfl rfl rfl ?_))
    repeat (first|(first|refine q1 ?_|refine q3 ?_|refine q4 tab rfl rfl ?_|refine q5 ?_|refine q6 ?_)|(first|refine qs rfl (qz tab 0 rfl rfl rfl rfl rfl rfl ?_)|refine qs rfl (qz tab 1 rfl rfl rfl rfl rfl rfl ?_)))
    refine TO.step rfl (OT.call rfl rfl rfl rfl rfl rfl goes41 ((hp _ (List.getElem_mem hlt) r[k] _ _ h' g' (rTree_iff.1 hrd) (rTree_iff.1 grd)).x ?_));
    rintro _ _ _ ⟨rfl, rfl, rfl⟩
    repeat (first|refine q4 tab rfl rfl ?_|refine q5 ?_|refine q6 ?_)
    refine TC.cond (t := !teq l[k] r[k]) rfl (fun e5 => ?_) (fun e5 => ?_)
    · rw [Bool.not_eq_true'] at e5
      repeat (first|refine q1 ?_|refine q3 ?_|refine q4 tab rfl rfl ?_|refine q5 ?_|refine q6 ?_|refine q8 ?_|refine q9 ?_|refine q15 ?_)
      refine retQ_ret rfl (by repeat (first|exact List.Sublist.refl _|refine List.Sublist.cons _ ?_)) ⟨rfl, rfl, ?_⟩
      rw [hI, e5]; rfl
    · rw [Bool.not_eq_false'] at e5
      repeat (first|refine q3 ?_|refine q6 ?_|refine q7 ?_|refine q13 ?_)
      refine TO.step rfl (OT.arith (r' := ((k + 1 : Nat) : Int)) rfl rfl rfl rfl rfl rfl rfl (by omega) ?_)
      repeat (first|refine q4 tab rfl rfl ?_|refine q5 ?_|refine q6 ?_)
      exact ⟨k + 1, (by repeat (first|exact trivial|refine And.intro rfl ?_)), (by repeat (first|exact trivial|refine And.intro rfl ?_)), rfl, rfl, (by repeat (first|exact List.Sublist.refl _|refine List.Sublist.cons _ ?_)), ⟨by omega, by rw [hI, e5]; rfl⟩, by omega⟩
  · repeat (first|refine q1 ?_|refine q3 ?_|refine q4 tab rfl rfl ?_|refine q5 ?_|refine q6 ?_|refine q10 ?_|refine q11 ?_|refine q14 ?_|refine q15 ?_)
    refine retQ_ret rfl (by repeat (exact List.Sublist.refl _)) ⟨rfl, rfl, ?_⟩
    rw [hI, List.drop_eq_nil_of_le (by omega), List.drop_eq_nil_of_le (by omega)]; rfl

set_option maxHeartbeats 1600000 in
theorem equal_law (a : Tree) : ∀ (c : Tree) (m : Mem) (L : List Item) (h g : HTree) (hr : TreeRep m h a) (gr : TreeRep m g c), TCall Try.prog 41 ⟨[treeV h, treeV g]⟩ m L (Ret (.bool (teq a c)) m L) := by
  induction a using Tree.ind with
  | h a ih =>
  intro c m L h g hr gr
  obtain ⟨h1, h2, h3, h4⟩ := hr
  obtain ⟨g1, g2, g3, g4⟩ := gr
  rw [teq_eq, ← h1, ← g1, ← h2, ← g2, ← h3, ← g3]
  unfold TCall
  refine TCallX.enter Try.func41 rfl 31 rfl ?_
  repeat (first|refine q1 ?_|refine q3 ?_)
  refine TO.step rfl (OT.box rfl rfl rfl rfl rfl (fun b => ?_))
  skip
  refine TO.step rfl (OT.box rfl rfl rfl rfl rfl (fun b2 => ?_))
  repeat (first|(first|refine q1 ?_|refine q3 ?_|refine q4 tab rfl rfl ?_|refine q5 ?_|refine q6 ?_)|(first|refine qs rfl (ql tab 0 rfl rfl rfl rfl rfl rfl ?_)|refine qs rfl (ql tab 1 rfl rfl rfl rfl rfl rfl ?_)))
  (refine TO.splitP rfl rfl (fun e1 => ?_) (fun e1 => ?_))
  · repeat (first|(refine q4 tab rfl rfl ?_)|(first|refine qs rfl (ql tab 0 rfl rfl rfl rfl rfl rfl ?_)|refine qs rfl (ql tab 1 rfl rfl rfl rfl rfl rfl ?_)))
    (refine TO.splitP rfl rfl (fun e2 => ?_) (fun e2 => ?_))
    · repeat (first|(refine q4 tab rfl rfl ?_)|(first|refine qs rfl (ql tab 0 rfl rfl rfl rfl rfl rfl ?_)|refine qs rfl (ql tab 1 rfl rfl rfl rfl rfl rfl ?_)))
      (refine TO.splitP rfl rfl (fun e3 => ?_) (fun e3 => ?_))
      · repeat (first|(refine q4 tab rfl rfl ?_)|(first|refine qs rfl (ql tab 0 rfl rfl rfl rfl rfl rfl ?_)|refine qs rfl (ql tab 1 rfl rfl rfl rfl rfl rfl ?_)))
        refine TO.step rfl (OT.call rfl rfl rfl rfl rfl rfl goes77 ((equalFunc_law _ _ h.kids g.kids _ _ h4 g4 (fun k hk => ih k hk)).x ?_));
        rintro _ _ _ ⟨rfl, rfl, rfl⟩
        repeat (first|refine q4 tab rfl rfl ?_|refine q5 ?_|refine q6 ?_|refine q15 ?_)
        refine retQ_ret rfl (by repeat (first|exact List.Sublist.refl _|refine List.Sublist.cons _ ?_)) ⟨rfl, rfl, ?_⟩
        rw [decide_eq_true e1, decide_eq_true e2, decide_eq_true e3]; rfl
      · repeat (first|refine q4 tab rfl rfl ?_|refine q5 ?_|refine q6 ?_|refine q15 ?_)
        refine retQ_ret rfl (by repeat (first|exact List.Sublist.refl _|refine List.Sublist.cons _ ?_)) ⟨rfl, rfl, ?_⟩
        rw [decide_eq_true e1, decide_eq_true e2, decide_eq_false e3]; rfl
    · repeat (first|refine q4 tab rfl rfl ?_|refine q5 ?_|refine q6 ?_|refine q15 ?_)
      refine retQ_ret rfl (by repeat (first|exact List.Sublist.refl _|refine List.Sublist.cons _ ?_)) ⟨rfl, rfl, ?_⟩
      rw [decide_eq_true e1, decide_eq_false e2]; rfl
  · repeat (first|refine q4 tab rfl rfl ?_|refine q5 ?_|refine q6 ?_|refine q15 ?_)
    refine retQ_ret rfl (by repeat (first|exact List.Sublist.refl _|refine List.Sublist.cons _ ?_)) ⟨rfl, rfl, ?_⟩
    rw [decide_eq_false e1]; rfl
end Go.Sep

/-
  The walks of the parser's tellers of types and signatures.
-/
set_option linter.unusedVariables false
set_option linter.unusedSimpArgs false
namespace Go.Sep
open Go.Proofs
attribute [local irreducible] TC TO OT TCallX TCall DO DOt thenQ blockQ retQ At

def bareB (a : Tree) (k t u : Bool) : Bool := k && ((t || decide (a.name = [])) && (u || decide (a.num = 0)))

set_option maxHeartbeats 800000 in
theorem bare_law (m : Mem) (L : List Item) (h : HTree) (a : Tree) (hr : TreeRep m h a) (k t u : Bool) :
    TCall Try.prog 70 ⟨[treeV h, .bool k, .bool t, .bool u]⟩ m L (Ret (.bool (bareB a k t u)) m L) := by
  obtain ⟨h1, h2, h3, h4⟩ := hr
  unfold TCall
  refine TCallX.enter Try.func70 rfl 26 rfl ?_
  repeat (first|refine q1 ?_|refine q3 ?_)
  refine TO.step rfl (OT.box rfl rfl rfl rfl rfl (fun b => ?_))
  cases k <;> cases t <;> cases u
  all_goals repeat' (first|(first|refine q1 ?_|refine q3 ?_|refine q4 tab rfl rfl ?_|refine q5 ?_|refine q6 ?_|refine q15 ?_)|(refine qs rfl (ql tab 0 rfl rfl rfl rfl rfl rfl ?_))|(refine TO.splitP rfl rfl (fun hb => ?_) (fun hb => ?_)))
  all_goals
    refine retQ_ret rfl (by repeat (first|exact List.Sublist.refl _|refine List.Sublist.cons _ ?_)) ⟨rfl, rfl, ?_⟩
    refine congrArg Value.bool ?_
    unfold bareB
    try rw [← h2]
    try rw [← h3]
    simp_all

set_option maxHeartbeats 400000 in
theorem named_law (m : Mem) (L : List Item) (h : HTree) (a : Tree) (hr : TreeRep m h a) (hB : a.bulk ≤ 1048576) : TCall Try.prog 103 ⟨[treeV h]⟩ m L (Ret (.bool (isName a.name)) m L) := by
  obtain ⟨h1, h2, h3, h4⟩ := hr
  have hl := bulk_name a
  unfold TCall
  refine TCallX.enter Try.func103 rfl 6 rfl ?_
  repeat (first|refine q1 ?_|refine q3 ?_)
  refine TO.step rfl (OT.box rfl rfl rfl rfl rfl (fun b => ?_))
  repeat (first|(first|refine q1 ?_|refine q3 ?_|refine q4 tab rfl rfl ?_|refine q5 ?_|refine q6 ?_)|(refine qs rfl (ql tab 0 rfl rfl rfl rfl rfl rfl ?_)))
  refine TO.step rfl (OT.call rfl rfl rfl rfl rfl rfl goes45 ((name_law _ _ h.name (by rw [h2]; omega)).x ?_));
  rintro _ _ _ ⟨rfl, rfl, rfl⟩
  repeat (first|refine q4 tab rfl rfl ?_|refine q5 ?_|refine q6 ?_|refine q15 ?_)
  refine retQ_ret rfl (by repeat (first|exact List.Sublist.refl _|refine List.Sublist.cons _ ?_)) ⟨rfl, rfl, ?_⟩
  rw [h2]

set_option maxHeartbeats 400000 in
theorem of_law (m : Mem) (L : List Item) (h : HTree) (a : Tree) (hr : TreeRep m h a) (hB : a.bulk ≤ 1048576) (k : Int) :
    TCall Try.prog 68 ⟨[treeV h, .int .i64 k]⟩ m L (Ret (.bool (decide (a.kind = k) && (decide (a.num = 0) && isName a.name))) m L) := by
  have hr' := hr
  obtain ⟨h1, h2, h3, h4⟩ := hr
  unfold TCall
  refine TCallX.enter Try.func68 rfl 15 rfl ?_
  repeat (first|refine q1 ?_|refine q3 ?_)
  refine TO.step rfl (OT.box rfl rfl rfl rfl rfl (fun b => ?_))
  repeat (first|(first|refine q1 ?_|refine q3 ?_|refine q4 tab rfl rfl ?_|refine q5 ?_|refine q6 ?_)|(first|refine qs rfl (ql tab 0 rfl rfl rfl rfl rfl rfl ?_)|refine qs rfl (qz tab 0 rfl rfl rfl rfl rfl rfl ?_)))
  refine TO.step rfl (OT.call rfl rfl rfl rfl rfl rfl goes70 ((bare_law _ _ h a hr' (decide (h.kind = k)) true false).x ?_));
  rintro _ _ _ ⟨rfl, rfl, rfl⟩
  repeat (refine q4 tab rfl rfl ?_)
  refine TO.split (b := bareB a (decide (h.kind = k)) true false) rfl rfl (fun hb => ?_) (fun hb => ?_)
  · repeat ((refine qs rfl (qz tab 0 rfl rfl rfl rfl rfl rfl ?_)))
    refine TO.step rfl (OT.call rfl rfl rfl rfl rfl rfl goes103 ((named_law _ _ h a hr' hB).x ?_));
    rintro _ _ _ ⟨rfl, rfl, rfl⟩
    repeat (first|refine q4 tab rfl rfl ?_|refine q5 ?_|refine q6 ?_|refine q15 ?_)
    refine retQ_ret rfl (by repeat (first|exact List.Sublist.refl _|refine List.Sublist.cons _ ?_)) ⟨rfl, rfl, ?_⟩
    unfold bareB at hb
    rw [h1] at hb
    simp_all
  · repeat (first|refine q4 tab rfl rfl ?_|refine q5 ?_|refine q6 ?_|refine q15 ?_)
    refine retQ_ret rfl (by repeat (first|exact List.Sublist.refl _|refine List.Sublist.cons _ ?_)) ⟨rfl, rfl, ?_⟩
    unfold bareB at hb
    rw [h1] at hb
    simp_all

/-- a predicate of nodes -/
def IsPred (fn : FuncId) (p : Tree → Bool) (l : List Tree) : Prop := Goes Try.prog fn ∧ ∀ (m : Mem) (L : List Item) (h : HTree) (a : Tree), a ∈ l → TreeRep m h a → TCall Try.prog fn ⟨[treeV h]⟩ m L (Ret (.bool (p a)) m L)

set_option maxHeartbeats 400000 in
theorem not_law (m : Mem) (L : List Item) (h : HTree) (a : Tree) (hr : TreeRep m h a) (fn : FuncId) (p : Tree → Bool) (l : List Tree) (hp : IsPred fn p l) (ha : a ∈ l) (b1 : Nat) (hA : At m b1 0 [.func (.func fn) ⟨[]⟩ ⟨[]⟩]) :
    TCall Try.prog 105 ⟨[treeV h, .pointer (some ⟨b1, 0, none⟩)]⟩ m L (Ret (.bool (!p a)) m L) := by
  unfold TCall
  refine TCallX.enter Try.func105 rfl 8 rfl ?_
  repeat (first|refine q1 ?_|refine q3 ?_)
  refine TO.step rfl (OT.box rfl rfl rfl rfl rfl (fun b => ?_))
  repeat (first|refine q1 ?_|refine q3 ?_|refine q4 tab rfl rfl ?_|refine q5 ?_|refine q6 ?_)
  (refine TO.step rfl (OT.loadA0 tab hA rfl rfl rfl rfl rfl ?_))
  repeat ((refine qs rfl (qz tab 0 rfl rfl rfl rfl rfl rfl ?_)))
  refine TO.step rfl (OT.call (all := [treeV h]) rfl rfl rfl rfl rfl (by rw [fl_eq]; rfl) hp.1 ((hp.2 _ _ h a ha hr).x ?_))
  rintro _ _ _ ⟨rfl, rfl, rfl⟩
  repeat (first|refine q4 tab rfl rfl ?_|refine q5 ?_|refine q6 ?_|refine q15 ?_)
  refine retQ_ret rfl (by repeat (first|exact List.Sublist.refl _|refine List.Sublist.cons _ ?_)) ⟨rfl, rfl, ?_⟩
  rfl

set_option maxHeartbeats 400000 in
theorem all_law (m : Mem) (L : List Item) (s : Sl) (l : List Tree) (hs : SlRep rTree m s l) (fn : FuncId) (p : Tree → Bool) (hp : IsPred fn p l) :
    TCall Try.prog 71 ⟨[s.v, .func (.func fn) ⟨[]⟩ ⟨[]⟩]⟩ m L (Ret (.bool (l.all p)) m L) := by
  refine TCall.forget ?_
  unfold TCall
  refine TCallX.enter Try.func71 rfl 9 rfl ?_
  repeat (first|refine q1 ?_|refine q3 ?_)
  refine TO.step rfl (OT.box rfl rfl rfl rfl rfl (fun b => ?_))
  refine TO.freeze fun m1 hm1 hA1 => ?_
  repeat (first|refine q1 ?_|refine q3 ?_|refine q4 tab rfl rfl ?_|refine q5 ?_|refine q6 ?_)
  refine TO.step rfl (OT.call rfl rfl rfl rfl rfl rfl goes104 ((containsFunc_node m1 L s l (fun a => !p a) 105 [.pointer (some ⟨b, 0, none⟩)] goes105 (hs.mono hm1) (fun h a ha hr => not_law m1 L h a (rTree_iff.1 hr) fn p l hp ha b hA1)).x ?_));
  rintro _ _ _ ⟨rfl, rfl, rfl⟩
  repeat (first|refine q4 tab rfl rfl ?_|refine q5 ?_|refine q6 ?_|refine q15 ?_)
  refine retQ_ret rfl (by repeat (exact List.Sublist.refl _)) ⟨hm1, rfl, ?_⟩
  rw [List.all_eq_not_any_not]

/-- functions, in slices -/
def rFn : R FuncId FuncId where
  size := 1
  bytes := 8
  enc f := [.func (.func f) ⟨[]⟩ ⟨[]⟩]
  rep _ f g := f = g
  enc_len _ := rfl
  one f := rfl
  mono _ h := h

set_option maxHeartbeats 800000 in
theorem kids_law (m : Mem) (L : List Item) (h : HTree) (a : Tree) (hr : TreeRep m h a) (s : Sl) (fns : List FuncId) (hf : SlRep rFn m s fns) (p : Tree → Bool) (hp : ∀ fn ∈ fns, IsPred fn p a.kids) :
    TCall Try.prog 69 ⟨[treeV h, .nilFunc, s.v]⟩ m L (Ret (.bool (decide (a.kids.length = fns.length) && a.kids.all p)) m L) := by
  obtain ⟨h1, h2, h3, h4⟩ := hr
  have hl := h4.len
  have hsm := h4.small rfl
  have hl2 := hf.len
  unfold TCall
  refine TCallX.enter Try.func69 rfl 50 rfl ?_
  repeat (first|refine q1 ?_|refine q3 ?_)
  refine TO.step rfl (OT.box rfl rfl rfl rfl rfl (fun b => ?_))
  repeat (first|(first|refine q1 ?_|refine q3 ?_|refine q4 tab rfl rfl ?_|refine q5 ?_|refine q6 ?_)|(refine qs rfl (ql tab 0 rfl rfl rfl rfl rfl rfl ?_)))
  (refine TO.splitP rfl rfl (fun hb => ?_) (fun hb => ?_))
  · repeat (first|refine q1 ?_|refine q3 ?_|refine q4 tab rfl rfl ?_|refine q5 ?_|refine q6 ?_|refine q8 ?_|refine q15 ?_|refine q16 rfl ?_)
    refine retQ_ret rfl (by repeat (first|exact List.Sublist.refl _|refine List.Sublist.cons _ ?_)) ⟨rfl, rfl, ?_⟩
    rw [decide_eq_false (by omega)]; rfl
  repeat ((refine q4 tab rfl rfl ?_))
  refine TO.step rfl (OT.nilFn tab rfl rfl rfl rfl rfl rfl ?_)
  repeat (first|(first|refine q4 tab rfl rfl ?_|refine q5 ?_|refine q6 ?_)|(refine qs rfl (ql tab 0 rfl rfl rfl rfl rfl rfl ?_)))
  refine TC.condP rfl (fun hb2 => ?_) (fun hb2 => ?_)
  · repeat (first|refine q1 ?_|refine q3 ?_|refine q4 tab rfl rfl ?_|refine q5 ?_|refine q6 ?_|refine q8 ?_|refine q15 ?_)
    refine retQ_ret rfl (by repeat (first|exact List.Sublist.refl _|refine List.Sublist.cons _ ?_)) ⟨rfl, rfl, ?_⟩
    rw [decide_eq_false (by omega)]; rfl
  repeat (first|(first|refine q1 ?_|refine q2 ?_|refine q3 ?_|refine q4 tab rfl rfl ?_|refine q5 ?_|refine q6 ?_|refine q13 ?_)|(refine qs rfl (ql tab 0 rfl rfl rfl rfl rfl rfl ?_)))
  have hlen : a.kids.length = fns.length := by omega
  refine TC.loopK (ι := Nat) [1, 2, 29, 30] rfl (fun k => [(31, .int .i64 (k : Int))]) (fun _ => m) (fun _ => L) (fun k => k ≤ a.kids.length ∧ (a.kids.take k).all p = true) (fun k => a.kids.length - k) 0 (by repeat (first|exact trivial|refine And.intro rfl ?_)) rfl (by repeat (first|exact List.Sublist.refl _|refine List.Sublist.cons _ ?_)) ⟨Nat.zero_le _, by simp⟩ ?_
  rintro k ⟨hk, hI⟩
  repeat (first|refine q1 ?_|refine q3 ?_|refine q4 tab rfl rfl ?_|refine q5 ?_|refine q6 ?_)
  refine TC.condP rfl (fun h => ?_) (fun h => ?_)
  · have hlt : k < a.kids.length := by omega
    have hx : a.kids[k]? = some a.kids[k] := by simp [hlt]
    have hlt2 : k < fns.length := by omega
    have hx2 : fns[k]? = some fns[k] := by simp [hlt2]
    repeat (first|refine q1 ?_|refine q2 ?_|refine q3 ?_|refine q4 tab rfl rfl ?_|refine q6 ?_|refine q13 ?_)
    refine TO.step rfl (OT.index tab rTree k h4 rfl rfl rfl rfl rfl (by first | rfl | omega) rfl hx ?_)
    rintro b' i hd hrd hA
    (refine TO.step rfl (OT.loadA0 tab hA rfl rfl rfl rfl rfl ?_))
    skip
    refine TO.step rfl (OT.alloc tab rfl rfl rfl rfl (fun b2 => ?_))
    repeat (refine q4 tab rfl rfl ?_)
    (refine TO.step rfl (OT.storeL0 tab 0 rfl rfl rfl rfl rfl rfl rfl rfl ?_))
    repeat (first|refine q1 ?_|refine q3 ?_|refine q4 tab rfl rfl ?_|refine q5 ?_|refine q6 ?_)
    refine TC.condP rfl (fun h5 => ?_) (fun h5 => ?_)
    · repeat (first|refine q3 ?_|refine q4 tab rfl rfl ?_)
      refine TO.step rfl (OT.index tab rFn k hf rfl rfl rfl rfl rfl (by first | rfl | omega) rfl hx2 ?_)
      rintro b3 i3 fn hfn hA3
      obtain rfl : fn = fns[k] := hfn
      (refine TO.step rfl (OT.loadA0 tab hA3 rfl rfl rfl rfl rfl ?_))
      repeat (first|(first|refine q1 ?_|refine q3 ?_|refine q4 tab rfl rfl ?_|refine q5 ?_|refine q6 ?_)|(refine qs rfl (qz tab 0 rfl rfl rfl rfl rfl rfl ?_)))
      have hpp := hp fns[k] (List.getElem_mem hlt2)
      refine TO.step rfl (OT.call (all := [treeV hd]) rfl rfl rfl rfl rfl (by rw [fl_eq]; rfl) hpp.1 ((hpp.2 _ _ hd a.kids[k] (List.getElem_mem hlt) (rTree_iff.1 hrd)).x ?_))
      rintro _ _ _ ⟨rfl, rfl, rfl⟩
      repeat (first|refine q4 tab rfl rfl ?_|refine q5 ?_|refine q6 ?_)
      refine TC.cond (t := !p a.kids[k]) rfl (fun h6 => ?_) (fun h6 => ?_)
      · repeat (first|refine q1 ?_|refine q3 ?_|refine q4 tab rfl rfl ?_|refine q5 ?_|refine q6 ?_|refine q8 ?_|refine q9 ?_|refine q15 ?_)
        refine retQ_ret rfl (by repeat (first|exact List.Sublist.refl _|refine List.Sublist.cons _ ?_)) ⟨rfl, rfl, ?_⟩
        have h7 : a.kids.all p = false := List.all_eq_false.2 ⟨_, List.getElem_mem hlt, by simpa using h6⟩
        rw [h7, Bool.and_false]
      · repeat (first|refine q3 ?_|refine q6 ?_|refine q7 ?_|refine q13 ?_)
        refine TO.step rfl (OT.arith (r' := ((k + 1 : Nat) : Int)) rfl rfl rfl rfl rfl rfl rfl (by omega) ?_)
        repeat (first|refine q4 tab rfl rfl ?_|refine q5 ?_|refine q6 ?_)
        exact ⟨k + 1, (by repeat (first|exact trivial|refine And.intro rfl ?_)), (by repeat (first|exact trivial|refine And.intro rfl ?_)), rfl, rfl, (by repeat (first|exact List.Sublist.refl _|refine List.Sublist.cons _ ?_)), ⟨by omega, by rw [List.take_succ_eq_append_getElem hlt, List.all_append, hI]; simp_all⟩, by omega⟩
    · omega
  · repeat (first|refine q1 ?_|refine q3 ?_|refine q4 tab rfl rfl ?_|refine q5 ?_|refine q6 ?_|refine q10 ?_|refine q11 ?_|refine q14 ?_|refine q15 ?_)
    refine retQ_ret rfl (by repeat (exact List.Sublist.refl _)) ⟨rfl, rfl, ?_⟩
    rw [List.take_of_length_le (by omega)] at hI
    rw [decide_eq_true hlen, hI]; rfl

theorem sl0 (m : Mem) : SlRep rFn m ⟨none, 0, 0⟩ [] := SlRep.nil _ _
theorem sl1 {m : Mem} {b : Nat} {fn : FuncId} (h : At m b 0 [.func (.func fn) ⟨[]⟩ ⟨[]⟩]) : SlRep rFn m ⟨some ⟨b, 0, none⟩, 1, 1⟩ [fn] := SlRep.one (r := rFn) (h := fn) h rfl (by decide)

set_option maxHeartbeats 1600000 in
theorem type_law (a : Tree) : ∀ (m : Mem) (L : List Item) (h : HTree) (hr : TreeRep m h a) (hB : a.bulk ≤ 1048576), TCall Try.prog 34 ⟨[treeV h]⟩ m L (Ret (.bool a.isType) m L) := by
  induction a using Tree.ind with
  | h a ih =>
  intro m L h hr hB
  have hp : IsPred 34 Tree.isType a.kids := ⟨goes34, fun m L h k hk hr => ih k hk m L h hr (Nat.le_trans (Nat.le_of_lt (bulk_kid hk)) hB)⟩
  have hr' := hr
  obtain ⟨h1, h2, h3, h4⟩ := hr
  have hl := h4.len
  refine TCall.forget ?_
  rw [isType_eq]
  unfold TCall
  refine TCallX.enter Try.func34 rfl 47 rfl ?_
  by_cases h10 : a.kind = 10
  · rw [if_pos h10]
    obtain ⟨k, n, u, s⟩ := h
    obtain rfl : k = 10 := h1.trans h10
    repeat (first|refine q1 ?_|refine q3 ?_)
    refine TO.step rfl (OT.box rfl rfl rfl rfl rfl (fun b => ?_))
    repeat (first|(first|refine q1 ?_|refine q2 ?_|refine q3 ?_|refine q4 tab rfl rfl ?_|refine q5 ?_|refine q6 ?_|refine q16 rfl ?_)|(first|refine qs rfl (ql tab 0 rfl rfl rfl rfl rfl rfl ?_)|refine qs rfl (qz tab 0 rfl rfl rfl rfl rfl rfl ?_)))
    refine TO.step rfl (OT.call rfl rfl rfl rfl rfl rfl goes68 ((of_law _ _ ⟨10, n, u, s⟩ a hr' hB 10).x ?_));
    rintro _ _ _ ⟨rfl, rfl, rfl⟩
    repeat (refine q4 tab rfl rfl ?_)
    refine TO.split rfl rfl (fun h7 => ?_) (fun h7 => ?_)
    · repeat ((refine qs rfl (qz tab 0 rfl rfl rfl rfl rfl rfl ?_)))
      refine TO.step rfl (OT.call rfl rfl rfl rfl rfl rfl goes69 ((kids_law _ _ ⟨10, n, u, s⟩ a hr' ⟨none, 0, 0⟩ [] (sl0 _) (fun _ => true) (fun _ h => by cases h)).x ?_));
      rintro _ _ _ ⟨rfl, rfl, rfl⟩
      repeat (first|refine q4 tab rfl rfl ?_|refine q5 ?_|refine q6 ?_|refine q8 ?_|refine q9 ?_|refine q15 ?_)
      refine retQ_ret rfl (by repeat (first|exact List.Sublist.refl _|refine List.Sublist.cons _ ?_)) ⟨Mem.le_refl _, rfl, ?_⟩
      simp_all
    · repeat (first|refine q4 tab rfl rfl ?_|refine q5 ?_|refine q6 ?_|refine q8 ?_|refine q9 ?_|refine q15 ?_)
      refine retQ_ret rfl (by repeat (first|exact List.Sublist.refl _|refine List.Sublist.cons _ ?_)) ⟨Mem.le_refl _, rfl, ?_⟩
      rw [h10, decide_eq_true rfl, Bool.true_and] at h7
      rw [← Bool.and_assoc, h7]; rfl
  rw [if_neg h10]
  by_cases h11 : a.kind = 11 ∨ a.kind = 12
  · rw [if_pos h11]
    have h12 : h.kind = 11 ∨ h.kind = 12 := by rw [h1]; exact h11
    obtain ⟨k, n, u, s⟩ := h
    rcases h12 with h12 | h12
    all_goals
      simp only at h12
      subst h12
      repeat (first|refine q1 ?_|refine q3 ?_)
      refine TO.step rfl (OT.box rfl rfl rfl rfl rfl (fun b => ?_))
      repeat (first|(first|refine q1 ?_|refine q2 ?_|refine q3 ?_|refine q4 tab rfl rfl ?_|refine q5 ?_|refine q6 ?_|refine q13 ?_|refine q16 rfl ?_|refine q17 rfl ?_)|(first|refine qs rfl (ql tab 0 rfl rfl rfl rfl rfl rfl ?_)|refine qs rfl (qz tab 0 rfl rfl rfl rfl rfl rfl ?_)))
      refine TO.step rfl (OT.call rfl rfl rfl rfl rfl rfl goes70 ((bare_law _ _ ⟨_, n, u, s⟩ a hr' true false false).x ?_));
      rintro _ _ _ ⟨rfl, rfl, rfl⟩
      repeat (refine q4 tab rfl rfl ?_)
      refine TO.split rfl rfl (fun h7 => ?_) (fun h7 => ?_)
      · repeat ((refine qs rfl (qz tab 0 rfl rfl rfl rfl rfl rfl ?_)))
        refine TO.step rfl (OT.lit tab rfl rfl rfl rfl (fun b2 => ?_))
        refine TO.freeze fun m1 hm1 hA1 => ?_
        skip
        refine TO.step rfl (OT.call rfl rfl rfl rfl rfl rfl goes69 ((kids_law m1 _ ⟨_, n, u, s⟩ a (hr'.mono hm1) ⟨some ⟨b2, 0, none⟩, 1, 1⟩ [34] (sl1 hA1) Tree.isType (fun fn h => by rw [List.mem_singleton.1 h]; exact hp)).x ?_));
        rintro _ _ _ ⟨rfl, rfl, rfl⟩
        repeat (first|refine q4 tab rfl rfl ?_|refine q5 ?_|refine q6 ?_|refine q8 ?_|refine q9 ?_|refine q15 ?_)
        refine retQ_ret rfl (by repeat (first|exact List.Sublist.refl _|refine List.Sublist.cons _ ?_)) ⟨hm1, rfl, ?_⟩
        simp_all [bareB]
      · repeat (first|refine q4 tab rfl rfl ?_|refine q5 ?_|refine q6 ?_|refine q8 ?_|refine q9 ?_|refine q15 ?_)
        refine retQ_ret rfl (by repeat (first|exact List.Sublist.refl _|refine List.Sublist.cons _ ?_)) ⟨Mem.le_refl _, rfl, ?_⟩
        unfold bareB at h7
        simp only [Bool.true_and, Bool.false_or] at h7
        rw [← Bool.and_assoc, h7]; rfl
  rw [if_neg h11]
  by_cases h13 : a.kind = 13
  · rw [if_pos h13]
    obtain ⟨k, n, u, s⟩ := h
    obtain rfl : k = 13 := h1.trans h13
    repeat (first|refine q1 ?_|refine q3 ?_)
    refine TO.step rfl (OT.box rfl rfl rfl rfl rfl (fun b => ?_))
    repeat (first|(first|refine q1 ?_|refine q2 ?_|refine q3 ?_|refine q4 tab rfl rfl ?_|refine q5 ?_|refine q6 ?_|refine q16 rfl ?_|refine q17 rfl ?_)|(first|refine qs rfl (ql tab 0 rfl rfl rfl rfl rfl rfl ?_)|refine qs rfl (qz tab 0 rfl rfl rfl rfl rfl rfl ?_)))
    refine TO.step rfl (OT.call rfl rfl rfl rfl rfl rfl goes70 ((bare_law _ _ ⟨13, n, u, s⟩ a hr' true false true).x ?_));
    rintro _ _ _ ⟨rfl, rfl, rfl⟩
    simp only at h2 h3 hl
    repeat (refine q4 tab rfl rfl ?_)
    refine TO.split rfl rfl (fun h7 => ?_) (fun h7 => ?_)
    · have hn : a.name = [] := by unfold bareB at h7; simpa using h7
      repeat (first|(refine q4 tab rfl rfl ?_)|(refine qs rfl (ql tab 0 rfl rfl rfl rfl rfl rfl ?_)))
      (refine TO.splitP rfl rfl (fun h8 => ?_) (fun h8 => ?_))
      · repeat (first|(refine q4 tab rfl rfl ?_)|(refine qs rfl (ql tab 0 rfl rfl rfl rfl rfl rfl ?_)))
        (refine TO.splitP rfl rfl (fun h9 => ?_) (fun h9 => ?_))
        · repeat (first|(refine q4 tab rfl rfl ?_)|(refine qs rfl (ql tab 0 rfl rfl rfl rfl rfl rfl ?_)))
          refine TO.step rfl (OT.call rfl rfl rfl rfl rfl rfl goes71 ((all_law _ _ s a.kids h4 34 Tree.isType hp).x ?_));
          rintro _ _ _ ⟨rfl, rfl, rfl⟩
          repeat (first|refine q4 tab rfl rfl ?_|refine q5 ?_|refine q6 ?_|refine q8 ?_|refine q9 ?_|refine q15 ?_)
          refine retQ_ret rfl (by repeat (first|exact List.Sublist.refl _|refine List.Sublist.cons _ ?_)) ⟨Mem.le_refl _, rfl, ?_⟩
          simp only at h8 h9
          rw [decide_eq_true hn, decide_eq_true (by omega), decide_eq_true (by omega)]; rfl
        · repeat (first|refine q4 tab rfl rfl ?_|refine q5 ?_|refine q6 ?_|refine q8 ?_|refine q9 ?_|refine q15 ?_)
          refine retQ_ret rfl (by repeat (first|exact List.Sublist.refl _|refine List.Sublist.cons _ ?_)) ⟨Mem.le_refl _, rfl, ?_⟩
          simp only at h8 h9
          rw [decide_eq_true hn, decide_eq_true (by omega), decide_eq_false (by omega)]; rfl
      · repeat (first|refine q4 tab rfl rfl ?_|refine q5 ?_|refine q6 ?_|refine q8 ?_|refine q9 ?_|refine q15 ?_)
        refine retQ_ret rfl (by repeat (first|exact List.Sublist.refl _|refine List.Sublist.cons _ ?_)) ⟨Mem.le_refl _, rfl, ?_⟩
        simp only at h8
        rw [decide_eq_true hn, decide_eq_false (by omega)]; rfl
    · repeat (first|refine q4 tab rfl rfl ?_|refine q5 ?_|refine q6 ?_|refine q8 ?_|refine q9 ?_|refine q15 ?_)
      refine retQ_ret rfl (by repeat (first|exact List.Sublist.refl _|refine List.Sublist.cons _ ?_)) ⟨Mem.le_refl _, rfl, ?_⟩
      have hn : ¬ a.name = [] := by unfold bareB at h7; simpa using h7
      rw [decide_eq_false hn]; rfl
  rw [if_neg h13]
  repeat (first|refine q1 ?_|refine q3 ?_)
  refine TO.step rfl (OT.box rfl rfl rfl rfl rfl (fun b => ?_))
  repeat (first|(first|refine q1 ?_|refine q2 ?_|refine q3 ?_|refine q4 tab rfl rfl ?_|refine q5 ?_|refine q6 ?_)|(refine qs rfl (ql tab 0 rfl rfl rfl rfl rfl rfl ?_)))
  refine TC.condP rfl (fun h5 => ?_) (fun h5 => ?_)
  · omega
  repeat (first|refine q1 ?_|refine q3 ?_|refine q4 tab rfl rfl ?_|refine q5 ?_|refine q6 ?_)
  refine TC.condP rfl (fun h5 => ?_) (fun h5 => ?_)
  · omega
  repeat (first|refine q3 ?_|refine q4 tab rfl rfl ?_|refine q5 ?_|refine q6 ?_)
  refine TC.condP rfl (fun h5 => ?_) (fun h5 => ?_)
  · omega
  repeat (first|refine q1 ?_|refine q3 ?_|refine q4 tab rfl rfl ?_|refine q5 ?_|refine q6 ?_)
  refine TC.condP rfl (fun h5 => ?_) (fun h5 => ?_)
  · omega
  repeat (first|refine q1 ?_|refine q3 ?_|refine q4 tab rfl rfl ?_|refine q5 ?_|refine q6 ?_|refine q7 ?_|refine q13 ?_|refine q15 ?_)
  exact retQ_ret rfl (by repeat (first|exact List.Sublist.refl _|refine List.Sublist.cons _ ?_)) ⟨Mem.le_refl _, rfl, rfl⟩

set_option maxHeartbeats 800000 in
theorem param_law (a : Tree) (m : Mem) (L : List Item) (h : HTree) (hr : TreeRep m h a) (hB : a.bulk ≤ 1048576) : TCall Try.prog 72 ⟨[treeV h]⟩ m L (Ret (.bool a.isParam) m L) := by
  have hp : IsPred 34 Tree.isType a.kids := ⟨goes34, fun m L h k hk hr => type_law k m L h hr (Nat.le_trans (Nat.le_of_lt (bulk_kid hk)) hB)⟩
  refine TCall.forget ?_
  unfold TCall
  refine TCallX.enter Try.func72 rfl 10 rfl ?_
  repeat (first|refine q1 ?_|refine q3 ?_)
  refine TO.step rfl (OT.box rfl rfl rfl rfl rfl (fun b => ?_))
  repeat (first|(first|refine q1 ?_|refine q3 ?_|refine q4 tab rfl rfl ?_|refine q5 ?_|refine q6 ?_)|(refine qs rfl (qz tab 0 rfl rfl rfl rfl rfl rfl ?_)))
  refine TO.step rfl (OT.call rfl rfl rfl rfl rfl rfl goes68 ((of_law _ _ h a hr hB 8).x ?_));
  rintro _ _ _ ⟨rfl, rfl, rfl⟩
  repeat (refine q4 tab rfl rfl ?_)
  refine TO.split rfl rfl (fun h7 => ?_) (fun h7 => ?_)
  · repeat ((refine qs rfl (qz tab 0 rfl rfl rfl rfl rfl rfl ?_)))
    refine TO.step rfl (OT.lit tab rfl rfl rfl rfl (fun b2 => ?_))
    refine TO.freeze fun m1 hm1 hA1 => ?_
    skip
    refine TO.step rfl (OT.call rfl rfl rfl rfl rfl rfl goes69 ((kids_law m1 _ h a (hr.mono hm1) ⟨some ⟨b2, 0, none⟩, 1, 1⟩ [34] (sl1 hA1) Tree.isType (fun fn h => by rw [List.mem_singleton.1 h]; exact hp)).x ?_));
    rintro _ _ _ ⟨rfl, rfl, rfl⟩
    repeat (first|refine q4 tab rfl rfl ?_|refine q5 ?_|refine q6 ?_|refine q15 ?_)
    refine retQ_ret rfl (by repeat (first|exact List.Sublist.refl _|refine List.Sublist.cons _ ?_)) ⟨hm1, rfl, ?_⟩
    unfold Tree.isParam
    simp_all
  · repeat (first|refine q4 tab rfl rfl ?_|refine q5 ?_|refine q6 ?_|refine q15 ?_)
    refine retQ_ret rfl (by repeat (first|exact List.Sublist.refl _|refine List.Sublist.cons _ ?_)) ⟨Mem.le_refl _, rfl, ?_⟩
    unfold Tree.isParam
    rw [← Bool.and_assoc, ← Bool.and_assoc, Bool.and_assoc (decide (a.kind = 8)), h7]; rfl

set_option maxHeartbeats 800000 in
theorem sig_law (a : Tree) (m : Mem) (L : List Item) (h : HTree) (hr : TreeRep m h a) (hB : a.bulk ≤ 1048576) : TCall Try.prog 35 ⟨[treeV h]⟩ m L (Ret (.bool a.isSig) m L) := by
  have hp : IsPred 34 Tree.isType (a.kids.drop a.num.toNat) := ⟨goes34, fun m L h k hk hr => type_law k m L h hr (Nat.le_trans (Nat.le_of_lt (bulk_kid (List.mem_of_mem_drop hk))) hB)⟩
  have hp2 : IsPred 72 Tree.isParam (a.kids.take a.num.toNat) := ⟨goes72, fun m L h k hk hr => param_law k m L h hr (Nat.le_trans (Nat.le_of_lt (bulk_kid (List.mem_of_mem_take hk))) hB)⟩
  have hr' := hr
  obtain ⟨h1, h2, h3, h4⟩ := hr
  have hl := h4.len
  unfold TCall
  refine TCallX.enter Try.func35 rfl 37 rfl ?_
  repeat (first|refine q1 ?_|refine q3 ?_)
  refine TO.step rfl (OT.box rfl rfl rfl rfl rfl (fun b => ?_))
  repeat (first|(first|refine q1 ?_|refine q3 ?_|refine q4 tab rfl rfl ?_|refine q5 ?_|refine q6 ?_)|(first|refine qs rfl (ql tab 0 rfl rfl rfl rfl rfl rfl ?_)|refine qs rfl (qz tab 0 rfl rfl rfl rfl rfl rfl ?_)))
  refine TO.step rfl (OT.call rfl rfl rfl rfl rfl rfl goes70 ((bare_law _ _ h a hr' (decide (h.kind = 7)) false true).x ?_));
  rintro _ _ _ ⟨rfl, rfl, rfl⟩
  repeat (refine q4 tab rfl rfl ?_)
  refine TO.split rfl rfl (fun h7 => ?_) (fun h7 => ?_)
  · have hn : a.kind = 7 ∧ a.name = [] := by unfold bareB at h7; rw [← h1]; simpa using h7
    repeat (first|(refine q4 tab rfl rfl ?_)|(refine qs rfl (ql tab 0 rfl rfl rfl rfl rfl rfl ?_)))
    (refine TO.splitP rfl rfl (fun h8 => ?_) (fun h8 => ?_))
    · repeat (first|(refine q4 tab rfl rfl ?_)|(refine qs rfl (ql tab 0 rfl rfl rfl rfl rfl rfl ?_)))
      (refine TO.splitP rfl rfl (fun h9 => ?_) (fun h9 => ?_))
      · repeat (first|(refine q4 tab rfl rfl ?_)|(refine qs rfl (ql tab 0 rfl rfl rfl rfl rfl rfl ?_)))
        have hnum : h.num = ((a.num.toNat : Nat) : Int) := by omega
        refine TO.step rfl (OT.cut tab rTree 0 a.num.toNat h4 rfl rfl rfl rfl rfl rfl rfl (.inl ⟨rfl, rfl⟩) (.inr (by rw [hnum])) (Nat.zero_le _) (by omega) (fun s1 hs1 => ?_))
        rw [List.drop_zero] at hs1
        skip
        refine TO.step rfl (OT.call rfl rfl rfl rfl rfl rfl goes71 ((all_law _ _ s1 _ hs1 72 Tree.isParam hp2).x ?_));
        rintro _ _ _ ⟨rfl, rfl, rfl⟩
        repeat (refine q4 tab rfl rfl ?_)
        have pre : a.isSig = ((a.kids.take a.num.toNat).all Tree.isParam && (a.kids.drop a.num.toNat).all Tree.isType) := by
          unfold Tree.isSig
          rw [decide_eq_true hn.1, decide_eq_true hn.2, decide_eq_true (show 0 ≤ a.num by omega), decide_eq_true (show a.num ≤ (a.kids.length : Int) by omega)]; rfl
        refine TO.split rfl rfl (fun h10 => ?_) (fun h10 => ?_)
        · repeat (first|(refine q4 tab rfl rfl ?_)|(refine qs rfl (ql tab 0 rfl rfl rfl rfl rfl rfl ?_)))
          refine TO.step rfl (OT.cut tab rTree a.num.toNat h.kids.len h4 rfl rfl rfl rfl rfl rfl rfl (.inr (by rw [hnum])) (.inl ⟨rfl, rfl⟩) (by omega) (by omega) (fun s2 hs2 => ?_))
          rw [List.take_of_length_le (by omega)] at hs2
          skip
          refine TO.step rfl (OT.call rfl rfl rfl rfl rfl rfl goes71 ((all_law _ _ s2 _ hs2 34 Tree.isType hp).x ?_));
          rintro _ _ _ ⟨rfl, rfl, rfl⟩
          repeat (first|refine q4 tab rfl rfl ?_|refine q5 ?_|refine q6 ?_|refine q15 ?_)
          refine retQ_ret rfl (by repeat (first|exact List.Sublist.refl _|refine List.Sublist.cons _ ?_)) ⟨rfl, rfl, ?_⟩
          rw [pre, h10]; rfl
        · repeat (first|refine q4 tab rfl rfl ?_|refine q5 ?_|refine q6 ?_|refine q15 ?_)
          refine retQ_ret rfl (by repeat (first|exact List.Sublist.refl _|refine List.Sublist.cons _ ?_)) ⟨rfl, rfl, ?_⟩
          rw [pre, h10]; rfl
      · repeat (first|refine q4 tab rfl rfl ?_|refine q5 ?_|refine q6 ?_|refine q15 ?_)
        refine retQ_ret rfl (by repeat (first|exact List.Sublist.refl _|refine List.Sublist.cons _ ?_)) ⟨rfl, rfl, ?_⟩
        unfold Tree.isSig
        rw [decide_eq_true hn.1, decide_eq_true hn.2, decide_eq_true (show 0 ≤ a.num by omega), decide_eq_false (show ¬ a.num ≤ (a.kids.length : Int) by omega)]; rfl
    · repeat (first|refine q4 tab rfl rfl ?_|refine q5 ?_|refine q6 ?_|refine q15 ?_)
      refine retQ_ret rfl (by repeat (first|exact List.Sublist.refl _|refine List.Sublist.cons _ ?_)) ⟨rfl, rfl, ?_⟩
      unfold Tree.isSig
      rw [decide_eq_true hn.1, decide_eq_true hn.2, decide_eq_false (show ¬ 0 ≤ a.num by omega)]; rfl
  · repeat (first|refine q4 tab rfl rfl ?_|refine q5 ?_|refine q6 ?_|refine q15 ?_)
    refine retQ_ret rfl (by repeat (first|exact List.Sublist.refl _|refine List.Sublist.cons _ ?_)) ⟨rfl, rfl, ?_⟩
    have hn : ¬ (a.kind = 7 ∧ a.name = []) := by unfold bareB at h7; rw [← h1]; simpa using h7
    unfold Tree.isSig
    rw [← Bool.and_assoc, ← Bool.decide_and, decide_eq_false hn]; rfl
end Go.Sep

/-
  types.Of and the reference's: small, of, From.
-/
set_option linter.unusedVariables false
set_option linter.unusedSimpArgs false
namespace Go.Sep
open Go.Proofs
attribute [local irreducible] TC TO OT TCallX TCall DO DOt thenQ blockQ retQ At

/-- a number in a cell of one's own, lowered -/
@[reducible] def cellI (b : Nat) (z : Int) : Item := .cells b 0 [.int .i64 z]
theorem set_get {L : List Item} {i : Nat} {x : Item} (h : L[i]? = some x) (y : Item) : (L.set i y)[i]? = some y := by
  rw [List.getElem?_set_self (List.getElem?_eq_some_iff.1 h).1]

def Low (m : Mem) (L : List Item) (i bl : Nat) (r : Bool) (z' : Int) : Value → Mem → List Item → Prop := fun v m' L' => m = m' ∧ v = .bool r ∧ ∃ y : Int, L' = L.set i (cellI bl y) ∧ (r = true → y = z')

set_option maxHeartbeats 1600000 in
theorem small_law (a : Tree) : ∀ (m : Mem) (L : List Item) (h : HTree) (hr : TreeRep m h a) (room z : Int) (i bl : Nat) (hi : L[i]? = some (cellI bl z)) (hz : 0 ≤ z ∧ z ≤ 20000) (hroom : 0 ≤ room ∧ room ≤ 1000),
    TCall Try.prog 33 ⟨[treeV h, .int .i64 room, .pointer (some ⟨bl, 0, none⟩)]⟩ m L (Low m L i bl (decide ((a.size : Int) ≤ z ∧ (a.deep : Int) ≤ room)) (z - a.size)) := by
  induction a using Tree.ind with
  | h a ih =>
  intro m L h hr room z i bl hi hz hroom
  obtain ⟨h1, h2, h3, h4⟩ := hr
  have hl := h4.len
  have hsm := h4.small rfl
  have hsz := size_kids a
  have hdp := deep_kids a
  unfold TCall
  refine TCallX.enter Try.func33 rfl 36 rfl ?_
  repeat (first|refine q1 ?_|refine q3 ?_)
  refine TO.step rfl (OT.box rfl rfl rfl rfl rfl (fun b => ?_))
  repeat (first|refine q1 ?_|refine q3 ?_|refine q4 tab rfl rfl ?_|refine q5 ?_|refine q6 ?_)
  refine TO.step rfl (OT.loadL0 tab (i + 1) rfl rfl rfl rfl hi rfl ?_)
  refine TO.step rfl (OT.arith (r' := z - 1) rfl rfl rfl rfl rfl rfl rfl (by omega) ?_)
  repeat (refine q4 tab rfl rfl ?_)
  refine TO.step rfl (OT.storeL0 tab (i + 1) rfl rfl rfl rfl rfl rfl hi rfl ?_)
  have hset := fun y => set_get hi (cellI bl y)
  repeat (first|refine q1 ?_|refine q3 ?_|refine q4 tab rfl rfl ?_|refine q5 ?_|refine q6 ?_)
  refine TO.step rfl (OT.loadL0 tab (i + 1) rfl rfl rfl rfl (hset _) rfl ?_)
  have bad : ∀ {y : Int}, ¬ ((a.size : Int) ≤ z ∧ (a.deep : Int) ≤ room) → Low m L i bl (decide ((a.size : Int) ≤ z ∧ (a.deep : Int) ≤ room)) (z - a.size) (.bool false) m (L.set i (cellI bl y)) := fun {y} hn => ⟨rfl, by rw [decide_eq_false hn], y, rfl, fun hd => absurd (of_decide_eq_true hd) hn⟩
  repeat (refine q4 tab rfl rfl ?_)
  (refine TO.splitP rfl rfl (fun h5 => ?_) (fun h5 => ?_))
  · repeat (first|refine q4 tab rfl rfl ?_|refine q5 ?_|refine q6 ?_)
    refine TC.cond_t rfl ?_
    repeat (first|refine q1 ?_|refine q3 ?_|refine q4 tab rfl rfl ?_|refine q5 ?_|refine q6 ?_|refine q8 ?_|refine q15 ?_)
    exact retQ_ret rfl (by repeat (first|exact List.Sublist.refl _|refine List.Sublist.cons _ ?_)) (bad (by omega))
  repeat (first|refine q4 tab rfl rfl ?_|refine q5 ?_|refine q6 ?_)
  refine TC.condP rfl (fun h6 => ?_) (fun h6 => ?_)
  · repeat (first|refine q1 ?_|refine q3 ?_|refine q4 tab rfl rfl ?_|refine q5 ?_|refine q6 ?_|refine q8 ?_|refine q15 ?_)
    exact retQ_ret rfl (by repeat (first|exact List.Sublist.refl _|refine List.Sublist.cons _ ?_)) (bad (by omega))
  repeat (first|(first|refine q1 ?_|refine q2 ?_|refine q3 ?_|refine q4 tab rfl rfl ?_|refine q5 ?_|refine q6 ?_|refine q13 ?_)|(refine qs rfl (ql tab 0 rfl rfl rfl rfl rfl rfl ?_)))
  refine TC.loopK (ι := Nat × Int) [1, 2, 23, 24] rfl (fun x => [(25, .int .i64 (x.1 : Int))]) (fun _ => m) (fun x => .cells b 0 (treeC h) :: L.set i (cellI bl x.2)) (fun x => x.1 ≤ a.kids.length ∧ x.2 = z - 1 - sizeL (a.kids.take x.1) ∧ 0 ≤ x.2 ∧ (deepL (a.kids.take x.1) : Int) ≤ room - 1) (fun x => a.kids.length - x.1) (0, z - 1) (by repeat (first|exact trivial|refine And.intro rfl ?_)) rfl (by repeat (exact List.Sublist.refl _)) ⟨Nat.zero_le _, by simp [sizeL], by simp only; omega, by simp [deepL]; omega⟩ ?_
  rintro ⟨k, y⟩ ⟨hk, hy, hy0, hd⟩
  simp only at hk hy hy0 hd ⊢
  repeat (first|refine q1 ?_|refine q3 ?_|refine q4 tab rfl rfl ?_|refine q5 ?_|refine q6 ?_)
  refine TC.condP rfl (fun h => ?_) (fun h => ?_)
  · have hlt : k < a.kids.length := by omega
    have hx : a.kids[k]? = some a.kids[k] := by simp [hlt]
    have hmem := List.getElem_mem hlt
    have e1 := sizeL_next a.kids k hlt
    have e2 := deepL_next a.kids k hlt
    have e3 := sizeL_take a.kids (k + 1)
    have e4 := deepL_take a.kids (k + 1)
    repeat (first|refine q1 ?_|refine q2 ?_|refine q3 ?_|refine q6 ?_|refine q13 ?_)
    refine TO.step rfl (OT.index tab rTree k h4 rfl rfl rfl rfl rfl (by first | rfl | omega) rfl hx ?_)
    rintro b' i' h' hrd hA
    (refine TO.step rfl (OT.loadA0 tab hA rfl rfl rfl rfl rfl ?_))
    skip
    refine TO.step rfl (OT.alloc tab rfl rfl rfl rfl (fun b2 => ?_))
    skip
    (refine TO.step rfl (OT.storeL0 tab 0 rfl rfl rfl rfl rfl rfl rfl rfl ?_))
    repeat (first|(first|refine q1 ?_|refine q3 ?_|refine q4 tab rfl rfl ?_|refine q5 ?_|refine q6 ?_)|(refine qs rfl (qz tab 0 rfl rfl rfl rfl rfl rfl ?_)))
    refine TO.step rfl (OT.arith (r' := room - 1) rfl rfl rfl rfl rfl rfl rfl (by omega) ?_)
    repeat (refine q4 tab rfl rfl ?_)
    refine TO.step rfl (OT.call rfl rfl rfl rfl rfl rfl goes33 ((ih _ hmem _ _ h' (rTree_iff.1 hrd) (room - 1) y (i + 2) bl (hset y) (by omega) (by omega)).x ?_));
    rintro _ _ L3 ⟨rfl, rfl, y', hL, hy'⟩
    have hL2 : ∀ (x1 x2 : Item), (x1 :: x2 :: L.set i (cellI bl y)).set (i + 2) (cellI bl y') = x1 :: x2 :: L.set i (cellI bl y') := fun x1 x2 => by simp [List.set_set]
    replace hL := hL.trans (hL2 (.cells b2 0 (treeC h')) _)
    subst hL
    repeat (first|refine q4 tab rfl rfl ?_|refine q5 ?_|refine q6 ?_)
    refine TC.condN rfl (fun h7 => ?_) (fun h7 => ?_)
    · repeat (first|refine q1 ?_|refine q3 ?_|refine q4 tab rfl rfl ?_|refine q5 ?_|refine q6 ?_|refine q8 ?_|refine q9 ?_|refine q15 ?_)
      exact retQ_ret rfl (by repeat (first|exact List.Sublist.refl _|refine List.Sublist.cons _ ?_)) (bad (by omega))
    · repeat (first|refine q3 ?_|refine q6 ?_|refine q7 ?_|refine q13 ?_)
      refine TO.step rfl (OT.arith (r' := ((k + 1 : Nat) : Int)) rfl rfl rfl rfl rfl rfl rfl (by omega) ?_)
      repeat (first|refine q4 tab rfl rfl ?_|refine q5 ?_|refine q6 ?_)
      have := hy' (decide_eq_true h7)
      exact ⟨(k + 1, y'), (by repeat (first|exact trivial|refine And.intro rfl ?_)), (by repeat (first|exact trivial|refine And.intro rfl ?_)), rfl, rfl, (by repeat (first|exact List.Sublist.refl _|refine List.Sublist.cons _ ?_)), ⟨by simp only; omega, by simp only; omega, by simp only; omega, by simp only; omega⟩, by simp only; omega⟩
  · repeat (first|refine q1 ?_|refine q3 ?_|refine q4 tab rfl rfl ?_|refine q5 ?_|refine q6 ?_|refine q10 ?_|refine q11 ?_|refine q14 ?_|refine q15 ?_)
    refine retQ_ret rfl (by repeat (first|exact List.Sublist.refl _|refine List.Sublist.cons _ ?_)) ⟨rfl, ?_, y, rfl, ?_⟩
    · rw [List.take_of_length_le (by omega)] at hy hd
      rw [decide_eq_true]
      omega
    · intro _
      rw [List.take_of_length_le (by omega)] at hy
      omega
end Go.Sep

/-
  The walks of the tellers of types: size, formed, IsSound; sound, isSound; Same.
-/
set_option linter.unusedVariables false
set_option linter.unusedSimpArgs false
namespace Go.Sep
open Go.Proofs
attribute [local irreducible] TC TO OT TCallX TCall DO DOt thenQ blockQ retQ At

set_option maxHeartbeats 800000 in
theorem size_type (a : Tree) : ∀ (m : Mem) (L : List Item) (h : HTree) (hr : TreeRep m h a) (hB : a.bulk ≤ 1048576), TCall Try.prog 78 ⟨[treeV h]⟩ m L (Ret (.tuple ⟨[.int .i64 (a.size : Int), .int .i64 (a.deep : Int)]⟩) m L) := by
  induction a using Tree.ind with
  | h a ih =>
  intro m L h hr hB
  obtain ⟨h1, h2, h3, h4⟩ := hr
  have hl := h4.len
  have hsm := h4.small rfl
  have hbl := bulk_len a.kids
  unfold TCall
  refine TCallX.enter Try.func78 rfl 35 rfl ?_
  repeat (first|refine q1 ?_|refine q3 ?_)
  refine TO.step rfl (OT.box rfl rfl rfl rfl rfl (fun b => ?_))
  repeat (first|refine q1 ?_|refine q2 ?_|refine q3 ?_|refine q4 tab rfl rfl ?_|refine q5 ?_|refine q6 ?_)
  refine TC.loopK (ι := Nat) [1] rfl (fun k => [(6, .int .i64 (k : Int)), (4, .int .i64 ((1 + sizeL (a.kids.take k) : Nat) : Int)), (5, .int .i64 ((deepL (a.kids.take k) : Nat) : Int))]) (fun _ => m) (fun _ => .cells b 0 (treeC h) :: L) (fun k => k ≤ a.kids.length) (fun k => a.kids.length - k) 0 (by repeat (first|exact trivial|refine And.intro rfl ?_)) rfl (by repeat (exact List.Sublist.refl _)) (Nat.zero_le _) ?_
  rintro k hk
  repeat (first|(first|refine q1 ?_|refine q3 ?_|refine q4 tab rfl rfl ?_|refine q5 ?_|refine q6 ?_)|(refine qs rfl (ql tab 0 rfl rfl rfl rfl rfl rfl ?_)))
  refine TC.condP rfl (fun h => ?_) (fun h => ?_)
  · have hlt : k < a.kids.length := by omega
    have hx : a.kids[k]? = some a.kids[k] := by simp [hlt]
    have hmem := List.getElem_mem hlt
    repeat (first|(first|refine q1 ?_|refine q2 ?_|refine q3 ?_|refine q4 tab rfl rfl ?_|refine q6 ?_|refine q13 ?_)|(refine qs rfl (ql tab 0 rfl rfl rfl rfl rfl rfl ?_)))
    refine TO.step rfl (OT.index tab rTree k h4 rfl rfl rfl rfl rfl (by first | rfl | omega) rfl hx ?_)
    rintro b' i hd hrd hA
    (refine TO.step rfl (OT.loadA0 tab hA rfl rfl rfl rfl rfl ?_))
    skip
    refine TO.step rfl (OT.call rfl rfl rfl rfl rfl rfl goes78 ((ih _ hmem _ _ hd (rTree_iff.1 hrd) (Nat.le_trans (Nat.le_of_lt (bulk_kid hmem)) hB)).x ?_));
    rintro _ _ _ ⟨rfl, rfl, rfl⟩
    have e1 := sizeL_next a.kids k hlt
    have e2 := deepL_next a.kids k hlt
    have e3 : sizeL (a.kids.take (k + 1)) ≤ 1048576 := by
      have := size_bulk a
      have := size_kids a
      have := sizeL_take a.kids (k + 1)
      omega
    repeat (first|refine q1 ?_|refine q3 ?_|refine q4 tab rfl rfl ?_|refine q5 ?_|refine q6 ?_)
    refine TO.step rfl (OT.arith (r' := ((1 + sizeL (a.kids.take (k + 1)) : Nat) : Int)) rfl rfl rfl rfl rfl rfl (by rw [e1]; omega) (by omega) ?_)
    repeat (first|refine q1 ?_|refine q3 ?_|refine q4 tab rfl rfl ?_|refine q5 ?_|refine q6 ?_)
    refine TC.condP rfl (fun h6 => ?_) (fun h6 => ?_)
    · repeat (first|refine q3 ?_|refine q4 tab rfl rfl ?_|refine q5 ?_|refine q6 ?_|refine q7 ?_)
      refine TO.step rfl (OT.arith (r' := ((k + 1 : Nat) : Int)) rfl rfl rfl rfl rfl rfl rfl (by omega) ?_)
      repeat (first|refine q4 tab rfl rfl ?_|refine q5 ?_|refine q6 ?_)
      have e4 : deepL (a.kids.take (k + 1)) = a.kids[k].deep := by omega
      exact ⟨k + 1, by simp only [e4]; exact (by repeat (first|exact trivial|refine And.intro rfl ?_)), (by repeat (first|exact trivial|refine And.intro rfl ?_)), rfl, rfl, (by repeat (exact List.Sublist.refl _)), by omega, by omega⟩
    · repeat (first|refine q3 ?_|refine q4 tab rfl rfl ?_|refine q6 ?_|refine q7 ?_|refine q13 ?_)
      refine TO.step rfl (OT.arith (r' := ((k + 1 : Nat) : Int)) rfl rfl rfl rfl rfl rfl rfl (by omega) ?_)
      repeat (first|refine q4 tab rfl rfl ?_|refine q5 ?_|refine q6 ?_)
      have e4 : deepL (a.kids.take (k + 1)) = deepL (a.kids.take k) := by omega
      exact ⟨k + 1, by simp only [e4]; exact (by repeat (first|exact trivial|refine And.intro rfl ?_)), (by repeat (first|exact trivial|refine And.intro rfl ?_)), rfl, rfl, (by repeat (exact List.Sublist.refl _)), by omega, by omega⟩
  · have hd : deepL a.kids ≤ 1048576 := by
      have := deep_size a
      have := size_bulk a
      obtain ⟨_, _, _, ks⟩ := a
      simp only [Tree.deep, Tree.kids] at *
      omega
    repeat (first|refine q1 ?_|refine q3 ?_|refine q4 tab rfl rfl ?_|refine q6 ?_|refine q10 ?_|refine q11 ?_|refine q14 ?_)
    rw [List.take_of_length_le (by omega)]
    refine TO.step rfl (OT.arith (r' := ((deepL a.kids + 1 : Nat) : Int)) rfl rfl rfl rfl rfl rfl (by omega) (by omega) ?_)
    repeat (first|refine q4 tab rfl rfl ?_|refine q5 ?_|refine q6 ?_|refine q15 ?_)
    refine retQ_ret rfl (by repeat (first|exact List.Sublist.refl _|refine List.Sublist.cons _ ?_)) ⟨rfl, rfl, ?_⟩
    obtain ⟨_, _, _, ks⟩ := a
    rfl


theorem kindB_leaf {a : Tree} (h : a.kind = 1 ∨ a.kind = 2 ∨ a.kind = 3 ∨ a.kind = 8) : kindB a = decide (a.kids.length = 0) := by unfold kindB; rw [if_pos h]
theorem kindB_4 {a : Tree} (h : a.kind = 4) : kindB a = (decide (a.kids.length = 0) && (isName a.name && decide (basicOf a.name = 0))) := by unfold kindB; rw [if_neg (by omega), if_pos h]
theorem kindB_5 {a : Tree} (h : a.kind = 5 ∨ a.kind = 6) : kindB a = decide (a.kids.length = 1) := by unfold kindB; rw [if_neg (by omega), if_neg (by omega), if_pos h]
theorem kindB_7 {a : Tree} (h : a.kind = 7) : kindB a = (decide (0 ≤ a.num) && decide (a.num ≤ (a.kids.length : Int))) := by unfold kindB; rw [if_neg (by omega), if_neg (by omega), if_neg (by omega), if_pos h]
theorem kindB_no {a : Tree} (h1 : ¬ (a.kind = 1 ∨ a.kind = 2 ∨ a.kind = 3 ∨ a.kind = 8)) (h2 : ¬ a.kind = 4) (h3 : ¬ (a.kind = 5 ∨ a.kind = 6)) (h4 : ¬ a.kind = 7) : kindB a = false := by unfold kindB; rw [if_neg h1, if_neg h2, if_neg h3, if_neg h4]

set_option maxHeartbeats 6400000 in
theorem formed_ref (a : Tree) : ∀ (m : Mem) (L : List Item) (h : HTree) (hr : TreeRep m h a) (hB : a.bulk ≤ 1048576), TCall Try.prog 79 ⟨[treeV h]⟩ m L (Ret (.bool a.formed) m L) := by
  induction a using Tree.ind with
  | h a ih =>
  intro m L h hr hB
  obtain ⟨h1, h2, h3, h4⟩ := hr
  have hl := h4.len
  have hsm := h4.small rfl
  have hnl := bulk_name a
  rw [formed_eq]
  unfold TCall
  refine TCallX.enter Try.func79 rfl 93 rfl ?_
  repeat (first|refine q1 ?_|refine q3 ?_)
  refine TO.step rfl (OT.box rfl rfl rfl rfl rfl (fun b => ?_))
  repeat (first|refine q1 ?_|refine q2 ?_|refine q3 ?_|refine q4 tab rfl rfl ?_|refine q5 ?_|refine q6 ?_)
  refine TC.loopK (ι := Nat) [1] rfl (fun k => [(3, .int .i64 (k : Int))]) (fun _ => m) (fun _ => .cells b 0 (treeC h) :: L) (fun k => k ≤ a.kids.length ∧ formedL (a.kids.take k) = true) (fun k => a.kids.length - k) 0 (by repeat (first|exact trivial|refine And.intro rfl ?_)) rfl (by repeat (exact List.Sublist.refl _)) ⟨Nat.zero_le _, rfl⟩ ?_
  rintro k ⟨hk, hI⟩
  repeat (first|(first|refine q1 ?_|refine q3 ?_|refine q4 tab rfl rfl ?_|refine q5 ?_|refine q6 ?_)|(refine qs rfl (ql tab 0 rfl rfl rfl rfl rfl rfl ?_)))
  refine TC.condP rfl (fun hlt' => ?_) (fun hlt' => ?_)
  · have hlt : k < a.kids.length := by omega
    have hx : a.kids[k]? = some a.kids[k] := by simp [hlt]
    have hmem := List.getElem_mem hlt
    have hnx := formedL_next a.kids k hlt
    repeat (first|(first|refine q1 ?_|refine q2 ?_|refine q3 ?_|refine q4 tab rfl rfl ?_|refine q6 ?_|refine q13 ?_)|(refine qs rfl (ql tab 0 rfl rfl rfl rfl rfl rfl ?_)))
    refine TO.step rfl (OT.index tab rTree k h4 rfl rfl rfl rfl rfl (by first | rfl | omega) rfl hx ?_)
    rintro b' i' h' hrd hA
    have hk' := (rTree_iff.1 hrd).kind
    repeat (refine q4 tab rfl rfl ?_)
    (refine TO.step rfl (OT.loadA tab hA rfl rfl rfl rfl rfl ?_))
    repeat (refine q4 tab rfl rfl ?_)
    (refine TO.splitP rfl rfl (fun e8 => ?_) (fun e8 => ?_))
    · repeat (first|refine q1 ?_|refine q3 ?_|refine q4 tab rfl rfl ?_|refine q5 ?_|refine q6 ?_|refine q8 ?_|refine q9 ?_|refine q15 ?_|refine q16 rfl ?_)
      refine retQ_ret rfl (by repeat (first|exact List.Sublist.refl _|refine List.Sublist.cons _ ?_)) ⟨rfl, rfl, ?_⟩
      rw [formedL_false hmem (by rw [decide_eq_true (show a.kids[k].kind = 8 by omega)]; rfl)]; rfl
    repeat (first|(refine q4 tab rfl rfl ?_)|(refine qs rfl (ql tab 0 rfl rfl rfl rfl rfl rfl ?_)))
    refine TO.step rfl (OT.index tab rTree k h4 rfl rfl rfl rfl rfl (by first | rfl | omega) rfl hx ?_)
    rintro b'' i'' h'' hrd' hA'
    (refine TO.step rfl (OT.loadA0 tab hA' rfl rfl rfl rfl rfl ?_))
    skip
    refine TO.step rfl (OT.call rfl rfl rfl rfl rfl rfl goes79 ((ih _ hmem _ _ h'' (rTree_iff.1 hrd') (Nat.le_trans (Nat.le_of_lt (bulk_kid hmem)) hB)).x ?_));
    rintro _ _ _ ⟨rfl, rfl, rfl⟩
    repeat (first|refine q4 tab rfl rfl ?_|refine q5 ?_|refine q6 ?_)
    refine TC.cond (t := !a.kids[k].formed) rfl (fun e5 => ?_) (fun e5 => ?_)
    · rw [Bool.not_eq_true'] at e5
      repeat (first|refine q1 ?_|refine q3 ?_|refine q4 tab rfl rfl ?_|refine q5 ?_|refine q6 ?_|refine q8 ?_|refine q9 ?_|refine q15 ?_)
      refine retQ_ret rfl (by repeat (first|exact List.Sublist.refl _|refine List.Sublist.cons _ ?_)) ⟨rfl, rfl, ?_⟩
      rw [formedL_false hmem (by rw [e5]; simp)]; rfl
    · rw [Bool.not_eq_false'] at e5
      repeat (first|refine q3 ?_|refine q4 tab rfl rfl ?_|refine q6 ?_|refine q7 ?_|refine q13 ?_)
      refine TO.step rfl (OT.arith (r' := ((k + 1 : Nat) : Int)) rfl rfl rfl rfl rfl rfl rfl (by omega) ?_)
      repeat (first|refine q4 tab rfl rfl ?_|refine q5 ?_|refine q6 ?_)
      exact ⟨k + 1, (by repeat (first|exact trivial|refine And.intro rfl ?_)), (by repeat (first|exact trivial|refine And.intro rfl ?_)), rfl, rfl, (by repeat (exact List.Sublist.refl _)), ⟨by omega, by rw [hnx, hI, e5, decide_eq_false (show ¬ a.kids[k].kind = 8 by omega)]; rfl⟩, by omega⟩
  have hf : formedL a.kids = true := by rw [List.take_of_length_le (by omega)] at hI; exact hI
  rw [hf, Bool.true_and]
  obtain ⟨q, n, u, s⟩ := h
  simp only at h1 h2 h3 hl
  by_cases hA : a.kind = 1 ∨ a.kind = 2 ∨ a.kind = 3 ∨ a.kind = 8
  · rw [kindB_leaf hA]
    rcases hA with hA | hA | hA | hA
    · obtain rfl : q = 1 := h1.trans hA
      repeat (first|(first|refine q1 ?_|refine q3 ?_|refine q4 tab rfl rfl ?_|refine q6 ?_|refine q10 ?_|refine q11 ?_|refine q14 ?_)|(refine qs rfl (ql tab 0 rfl rfl rfl rfl rfl rfl ?_)))
      (refine TO.splitN rfl rfl (fun e1 => ?_) (fun e1 => ?_))
      · repeat (first|refine q1 ?_|refine q3 ?_|refine q4 tab rfl rfl ?_|refine q5 ?_|refine q6 ?_|refine q8 ?_|refine q15 ?_|refine q16 rfl ?_)
        refine retQ_ret rfl (by repeat (first|exact List.Sublist.refl _|refine List.Sublist.cons _ ?_)) ⟨rfl, rfl, ?_⟩
        unfold headB
        rw [← h2, decide_eq_false e1, decide_eq_false (show ¬ a.kind = 4 by omega)]; rfl
      repeat (first|(first|refine q4 tab rfl rfl ?_|refine q5 ?_|refine q6 ?_)|(refine qs rfl (ql tab 0 rfl rfl rfl rfl rfl rfl ?_)))
      refine TC.condN rfl (fun e2 => ?_) (fun e2 => ?_)
      · repeat (first|refine q1 ?_|refine q3 ?_|refine q4 tab rfl rfl ?_|refine q5 ?_|refine q6 ?_|refine q8 ?_|refine q15 ?_)
        refine retQ_ret rfl (by repeat (first|exact List.Sublist.refl _|refine List.Sublist.cons _ ?_)) ⟨rfl, rfl, ?_⟩
        unfold headB
        rw [← h3, decide_eq_false e2, decide_eq_false (show ¬ a.kind = 7 by omega)]; simp
      have hhd : headB a = true := by unfold headB; rw [← h2, ← h3, decide_eq_true e1, decide_eq_true e2]; simp
      rw [hhd, Bool.true_and]
      repeat (first|(first|refine q1 ?_|refine q2 ?_|refine q3 ?_|refine q4 tab rfl rfl ?_|refine q5 ?_|refine q6 ?_|refine q8 ?_|refine q9 ?_|refine q13 ?_|refine q15 ?_|refine q16 rfl ?_)|(refine qs rfl (ql tab 0 rfl rfl rfl rfl rfl rfl ?_)))
      refine retQ_ret rfl (by repeat (first|exact List.Sublist.refl _|refine List.Sublist.cons _ ?_)) ⟨rfl, rfl, ?_⟩
      refine congrArg Value.bool ?_
      congr 1
      apply propext
      (try simp only)
      omega
    · obtain rfl : q = 2 := h1.trans hA
      repeat (first|(first|refine q1 ?_|refine q3 ?_|refine q4 tab rfl rfl ?_|refine q6 ?_|refine q10 ?_|refine q11 ?_|refine q14 ?_)|(refine qs rfl (ql tab 0 rfl rfl rfl rfl rfl rfl ?_)))
      (refine TO.splitN rfl rfl (fun e1 => ?_) (fun e1 => ?_))
      · repeat (first|refine q1 ?_|refine q3 ?_|refine q4 tab rfl rfl ?_|refine q5 ?_|refine q6 ?_|refine q8 ?_|refine q15 ?_|refine q16 rfl ?_)
        refine retQ_ret rfl (by repeat (first|exact List.Sublist.refl _|refine List.Sublist.cons _ ?_)) ⟨rfl, rfl, ?_⟩
        unfold headB
        rw [← h2, decide_eq_false e1, decide_eq_false (show ¬ a.kind = 4 by omega)]; rfl
      repeat (first|(first|refine q4 tab rfl rfl ?_|refine q5 ?_|refine q6 ?_)|(refine qs rfl (ql tab 0 rfl rfl rfl rfl rfl rfl ?_)))
      refine TC.condN rfl (fun e2 => ?_) (fun e2 => ?_)
      · repeat (first|refine q1 ?_|refine q3 ?_|refine q4 tab rfl rfl ?_|refine q5 ?_|refine q6 ?_|refine q8 ?_|refine q15 ?_)
        refine retQ_ret rfl (by repeat (first|exact List.Sublist.refl _|refine List.Sublist.cons _ ?_)) ⟨rfl, rfl, ?_⟩
        unfold headB
        rw [← h3, decide_eq_false e2, decide_eq_false (show ¬ a.kind = 7 by omega)]; simp
      have hhd : headB a = true := by unfold headB; rw [← h2, ← h3, decide_eq_true e1, decide_eq_true e2]; simp
      rw [hhd, Bool.true_and]
      repeat (first|(first|refine q1 ?_|refine q2 ?_|refine q3 ?_|refine q4 tab rfl rfl ?_|refine q5 ?_|refine q6 ?_|refine q8 ?_|refine q9 ?_|refine q13 ?_|refine q15 ?_|refine q16 rfl ?_|refine q17 rfl ?_)|(refine qs rfl (ql tab 0 rfl rfl rfl rfl rfl rfl ?_)))
      refine retQ_ret rfl (by repeat (first|exact List.Sublist.refl _|refine List.Sublist.cons _ ?_)) ⟨rfl, rfl, ?_⟩
      refine congrArg Value.bool ?_
      congr 1
      apply propext
      (try simp only)
      omega
    · obtain rfl : q = 3 := h1.trans hA
      repeat (first|(first|refine q1 ?_|refine q3 ?_|refine q4 tab rfl rfl ?_|refine q6 ?_|refine q10 ?_|refine q11 ?_|refine q14 ?_)|(refine qs rfl (ql tab 0 rfl rfl rfl rfl rfl rfl ?_)))
      (refine TO.splitN rfl rfl (fun e1 => ?_) (fun e1 => ?_))
      · repeat (first|refine q1 ?_|refine q3 ?_|refine q4 tab rfl rfl ?_|refine q5 ?_|refine q6 ?_|refine q8 ?_|refine q15 ?_|refine q16 rfl ?_)
        refine retQ_ret rfl (by repeat (first|exact List.Sublist.refl _|refine List.Sublist.cons _ ?_)) ⟨rfl, rfl, ?_⟩
        unfold headB
        rw [← h2, decide_eq_false e1, decide_eq_false (show ¬ a.kind = 4 by omega)]; rfl
      repeat (first|(first|refine q4 tab rfl rfl ?_|refine q5 ?_|refine q6 ?_)|(refine qs rfl (ql tab 0 rfl rfl rfl rfl rfl rfl ?_)))
      refine TC.condN rfl (fun e2 => ?_) (fun e2 => ?_)
      · repeat (first|refine q1 ?_|refine q3 ?_|refine q4 tab rfl rfl ?_|refine q5 ?_|refine q6 ?_|refine q8 ?_|refine q15 ?_)
        refine retQ_ret rfl (by repeat (first|exact List.Sublist.refl _|refine List.Sublist.cons _ ?_)) ⟨rfl, rfl, ?_⟩
        unfold headB
        rw [← h3, decide_eq_false e2, decide_eq_false (show ¬ a.kind = 7 by omega)]; simp
      have hhd : headB a = true := by unfold headB; rw [← h2, ← h3, decide_eq_true e1, decide_eq_true e2]; simp
      rw [hhd, Bool.true_and]
      repeat (first|(first|refine q1 ?_|refine q2 ?_|refine q3 ?_|refine q4 tab rfl rfl ?_|refine q5 ?_|refine q6 ?_|refine q8 ?_|refine q9 ?_|refine q13 ?_|refine q15 ?_|refine q16 rfl ?_|refine q17 rfl ?_)|(refine qs rfl (ql tab 0 rfl rfl rfl rfl rfl rfl ?_)))
      refine retQ_ret rfl (by repeat (first|exact List.Sublist.refl _|refine List.Sublist.cons _ ?_)) ⟨rfl, rfl, ?_⟩
      refine congrArg Value.bool ?_
      congr 1
      apply propext
      (try simp only)
      omega
    · obtain rfl : q = 8 := h1.trans hA
      repeat (first|(first|refine q1 ?_|refine q3 ?_|refine q4 tab rfl rfl ?_|refine q6 ?_|refine q10 ?_|refine q11 ?_|refine q14 ?_)|(refine qs rfl (ql tab 0 rfl rfl rfl rfl rfl rfl ?_)))
      (refine TO.splitN rfl rfl (fun e1 => ?_) (fun e1 => ?_))
      · repeat (first|refine q1 ?_|refine q3 ?_|refine q4 tab rfl rfl ?_|refine q5 ?_|refine q6 ?_|refine q8 ?_|refine q15 ?_|refine q16 rfl ?_)
        refine retQ_ret rfl (by repeat (first|exact List.Sublist.refl _|refine List.Sublist.cons _ ?_)) ⟨rfl, rfl, ?_⟩
        unfold headB
        rw [← h2, decide_eq_false e1, decide_eq_false (show ¬ a.kind = 4 by omega)]; rfl
      repeat (first|(first|refine q4 tab rfl rfl ?_|refine q5 ?_|refine q6 ?_)|(refine qs rfl (ql tab 0 rfl rfl rfl rfl rfl rfl ?_)))
      refine TC.condN rfl (fun e2 => ?_) (fun e2 => ?_)
      · repeat (first|refine q1 ?_|refine q3 ?_|refine q4 tab rfl rfl ?_|refine q5 ?_|refine q6 ?_|refine q8 ?_|refine q15 ?_)
        refine retQ_ret rfl (by repeat (first|exact List.Sublist.refl _|refine List.Sublist.cons _ ?_)) ⟨rfl, rfl, ?_⟩
        unfold headB
        rw [← h3, decide_eq_false e2, decide_eq_false (show ¬ a.kind = 7 by omega)]; simp
      have hhd : headB a = true := by unfold headB; rw [← h2, ← h3, decide_eq_true e1, decide_eq_true e2]; simp
      rw [hhd, Bool.true_and]
      repeat (first|(first|refine q1 ?_|refine q2 ?_|refine q3 ?_|refine q4 tab rfl rfl ?_|refine q5 ?_|refine q6 ?_|refine q8 ?_|refine q9 ?_|refine q13 ?_|refine q15 ?_|refine q16 rfl ?_|refine q17 rfl ?_)|(refine qs rfl (ql tab 0 rfl rfl rfl rfl rfl rfl ?_)))
      refine retQ_ret rfl (by repeat (first|exact List.Sublist.refl _|refine List.Sublist.cons _ ?_)) ⟨rfl, rfl, ?_⟩
      refine congrArg Value.bool ?_
      congr 1
      apply propext
      (try simp only)
      omega
  by_cases hB4 : a.kind = 4
  · rw [kindB_4 hB4]
    obtain rfl : q = 4 := h1.trans hB4
    repeat (first|(first|refine q1 ?_|refine q3 ?_|refine q4 tab rfl rfl ?_|refine q5 ?_|refine q6 ?_|refine q10 ?_|refine q11 ?_|refine q14 ?_)|(refine qs rfl (ql tab 0 rfl rfl rfl rfl rfl rfl ?_)))
    refine TC.condN rfl (fun e2 => ?_) (fun e2 => ?_)
    · repeat (first|refine q1 ?_|refine q3 ?_|refine q4 tab rfl rfl ?_|refine q5 ?_|refine q6 ?_|refine q8 ?_|refine q15 ?_)
      refine retQ_ret rfl (by repeat (first|exact List.Sublist.refl _|refine List.Sublist.cons _ ?_)) ⟨rfl, rfl, ?_⟩
      unfold headB
      rw [← h3, decide_eq_false e2, decide_eq_false (show ¬ a.kind = 7 by omega)]; simp
    have hhd : headB a = true := by unfold headB; rw [← h3, decide_eq_true hB4, decide_eq_true e2]; simp
    rw [hhd, Bool.true_and]
    repeat (first|(first|refine q1 ?_|refine q2 ?_|refine q3 ?_|refine q4 tab rfl rfl ?_|refine q5 ?_|refine q6 ?_|refine q13 ?_|refine q16 rfl ?_|refine q17 rfl ?_)|(refine qs rfl (ql tab 0 rfl rfl rfl rfl rfl rfl ?_)))
    (refine TO.splitP rfl rfl (fun e3 => ?_) (fun e3 => ?_))
    · simp only at e3
      repeat (first|(refine q4 tab rfl rfl ?_)|(refine qs rfl (ql tab 0 rfl rfl rfl rfl rfl rfl ?_)))
      refine TO.step rfl (OT.call rfl rfl rfl rfl rfl rfl goes51 ((name_ref _ _ n (by rw [h2]; omega)).x ?_));
      rintro _ _ _ ⟨rfl, rfl, rfl⟩
      repeat (refine q4 tab rfl rfl ?_)
      refine TO.split (b := isName n) rfl rfl (fun e4 => ?_) (fun e4 => ?_)
      · repeat (first|(refine q4 tab rfl rfl ?_)|(refine qs rfl (ql tab 0 rfl rfl rfl rfl rfl rfl ?_)))
        refine TO.step rfl (OT.call rfl rfl rfl rfl rfl rfl goes52 ((basic_ref _ _ n).x ?_));
        rintro _ _ _ ⟨rfl, rfl, rfl⟩
        repeat (first|refine q4 tab rfl rfl ?_|refine q5 ?_|refine q6 ?_|refine q8 ?_|refine q9 ?_|refine q15 ?_)
        refine retQ_ret rfl (by repeat (first|exact List.Sublist.refl _|refine List.Sublist.cons _ ?_)) ⟨rfl, rfl, ?_⟩
        rw [← h2, e4, decide_eq_true (show a.kids.length = 0 by omega)]; rfl
      · repeat (first|refine q4 tab rfl rfl ?_|refine q5 ?_|refine q6 ?_|refine q8 ?_|refine q9 ?_|refine q15 ?_)
        refine retQ_ret rfl (by repeat (first|exact List.Sublist.refl _|refine List.Sublist.cons _ ?_)) ⟨rfl, rfl, ?_⟩
        rw [← h2, e4]; simp
    · simp only at e3
      repeat (first|refine q4 tab rfl rfl ?_|refine q5 ?_|refine q6 ?_|refine q8 ?_|refine q9 ?_|refine q15 ?_)
      refine retQ_ret rfl (by repeat (first|exact List.Sublist.refl _|refine List.Sublist.cons _ ?_)) ⟨rfl, rfl, ?_⟩
      rw [decide_eq_false (show ¬ a.kids.length = 0 by omega)]; rfl
  by_cases hC : a.kind = 5 ∨ a.kind = 6
  · rw [kindB_5 hC]
    rcases hC with hC | hC
    · obtain rfl : q = 5 := h1.trans hC
      repeat (first|(first|refine q1 ?_|refine q3 ?_|refine q4 tab rfl rfl ?_|refine q6 ?_|refine q10 ?_|refine q11 ?_|refine q14 ?_)|(refine qs rfl (ql tab 0 rfl rfl rfl rfl rfl rfl ?_)))
      (refine TO.splitN rfl rfl (fun e1 => ?_) (fun e1 => ?_))
      · repeat (first|refine q1 ?_|refine q3 ?_|refine q4 tab rfl rfl ?_|refine q5 ?_|refine q6 ?_|refine q8 ?_|refine q15 ?_|refine q16 rfl ?_)
        refine retQ_ret rfl (by repeat (first|exact List.Sublist.refl _|refine List.Sublist.cons _ ?_)) ⟨rfl, rfl, ?_⟩
        unfold headB
        rw [← h2, decide_eq_false e1, decide_eq_false (show ¬ a.kind = 4 by omega)]; rfl
      repeat (first|(first|refine q4 tab rfl rfl ?_|refine q5 ?_|refine q6 ?_)|(refine qs rfl (ql tab 0 rfl rfl rfl rfl rfl rfl ?_)))
      refine TC.condN rfl (fun e2 => ?_) (fun e2 => ?_)
      · repeat (first|refine q1 ?_|refine q3 ?_|refine q4 tab rfl rfl ?_|refine q5 ?_|refine q6 ?_|refine q8 ?_|refine q15 ?_)
        refine retQ_ret rfl (by repeat (first|exact List.Sublist.refl _|refine List.Sublist.cons _ ?_)) ⟨rfl, rfl, ?_⟩
        unfold headB
        rw [← h3, decide_eq_false e2, decide_eq_false (show ¬ a.kind = 7 by omega)]; simp
      have hhd : headB a = true := by unfold headB; rw [← h2, ← h3, decide_eq_true e1, decide_eq_true e2]; simp
      rw [hhd, Bool.true_and]
      repeat (first|(first|refine q1 ?_|refine q2 ?_|refine q3 ?_|refine q4 tab rfl rfl ?_|refine q5 ?_|refine q6 ?_|refine q8 ?_|refine q9 ?_|refine q13 ?_|refine q15 ?_|refine q16 rfl ?_|refine q17 rfl ?_)|(refine qs rfl (ql tab 0 rfl rfl rfl rfl rfl rfl ?_)))
      refine retQ_ret rfl (by repeat (first|exact List.Sublist.refl _|refine List.Sublist.cons _ ?_)) ⟨rfl, rfl, ?_⟩
      refine congrArg Value.bool ?_
      congr 1
      apply propext
      (try simp only)
      omega
    · obtain rfl : q = 6 := h1.trans hC
      repeat (first|(first|refine q1 ?_|refine q3 ?_|refine q4 tab rfl rfl ?_|refine q6 ?_|refine q10 ?_|refine q11 ?_|refine q14 ?_)|(refine qs rfl (ql tab 0 rfl rfl rfl rfl rfl rfl ?_)))
      (refine TO.splitN rfl rfl (fun e1 => ?_) (fun e1 => ?_))
      · repeat (first|refine q1 ?_|refine q3 ?_|refine q4 tab rfl rfl ?_|refine q5 ?_|refine q6 ?_|refine q8 ?_|refine q15 ?_|refine q16 rfl ?_)
        refine retQ_ret rfl (by repeat (first|exact List.Sublist.refl _|refine List.Sublist.cons _ ?_)) ⟨rfl, rfl, ?_⟩
        unfold headB
        rw [← h2, decide_eq_false e1, decide_eq_false (show ¬ a.kind = 4 by omega)]; rfl
      repeat (first|(first|refine q4 tab rfl rfl ?_|refine q5 ?_|refine q6 ?_)|(refine qs rfl (ql tab 0 rfl rfl rfl rfl rfl rfl ?_)))
      refine TC.condN rfl (fun e2 => ?_) (fun e2 => ?_)
      · repeat (first|refine q1 ?_|refine q3 ?_|refine q4 tab rfl rfl ?_|refine q5 ?_|refine q6 ?_|refine q8 ?_|refine q15 ?_)
        refine retQ_ret rfl (by repeat (first|exact List.Sublist.refl _|refine List.Sublist.cons _ ?_)) ⟨rfl, rfl, ?_⟩
        unfold headB
        rw [← h3, decide_eq_false e2, decide_eq_false (show ¬ a.kind = 7 by omega)]; simp
      have hhd : headB a = true := by unfold headB; rw [← h2, ← h3, decide_eq_true e1, decide_eq_true e2]; simp
      rw [hhd, Bool.true_and]
      repeat (first|(first|refine q1 ?_|refine q2 ?_|refine q3 ?_|refine q4 tab rfl rfl ?_|refine q5 ?_|refine q6 ?_|refine q8 ?_|refine q9 ?_|refine q13 ?_|refine q15 ?_|refine q16 rfl ?_|refine q17 rfl ?_)|(refine qs rfl (ql tab 0 rfl rfl rfl rfl rfl rfl ?_)))
      refine retQ_ret rfl (by repeat (first|exact List.Sublist.refl _|refine List.Sublist.cons _ ?_)) ⟨rfl, rfl, ?_⟩
      refine congrArg Value.bool ?_
      congr 1
      apply propext
      (try simp only)
      omega
  by_cases hD : a.kind = 7
  · rw [kindB_7 hD]
    obtain rfl : q = 7 := h1.trans hD
    repeat (first|(first|refine q1 ?_|refine q3 ?_|refine q4 tab rfl rfl ?_|refine q6 ?_|refine q10 ?_|refine q11 ?_|refine q14 ?_)|(refine qs rfl (ql tab 0 rfl rfl rfl rfl rfl rfl ?_)))
    (refine TO.splitN rfl rfl (fun e1 => ?_) (fun e1 => ?_))
    · repeat (first|refine q1 ?_|refine q3 ?_|refine q4 tab rfl rfl ?_|refine q5 ?_|refine q6 ?_|refine q8 ?_|refine q15 ?_|refine q16 rfl ?_)
      refine retQ_ret rfl (by repeat (first|exact List.Sublist.refl _|refine List.Sublist.cons _ ?_)) ⟨rfl, rfl, ?_⟩
      unfold headB
      rw [← h2, decide_eq_false e1, decide_eq_false hB4]; rfl
    have hhd : headB a = true := by unfold headB; rw [← h2, decide_eq_true e1, decide_eq_true hD]; simp
    rw [hhd, Bool.true_and]
    repeat (first|(first|refine q1 ?_|refine q2 ?_|refine q3 ?_|refine q4 tab rfl rfl ?_|refine q5 ?_|refine q6 ?_|refine q13 ?_|refine q16 rfl ?_|refine q17 rfl ?_)|(refine qs rfl (ql tab 0 rfl rfl rfl rfl rfl rfl ?_)))
    (refine TO.splitP rfl rfl (fun e3 => ?_) (fun e3 => ?_))
    · simp only at e3
      repeat (first|(first|refine q4 tab rfl rfl ?_|refine q5 ?_|refine q6 ?_|refine q8 ?_|refine q9 ?_|refine q15 ?_)|(refine qs rfl (ql tab 0 rfl rfl rfl rfl rfl rfl ?_)))
      refine retQ_ret rfl (by repeat (first|exact List.Sublist.refl _|refine List.Sublist.cons _ ?_)) ⟨rfl, rfl, ?_⟩
      rw [decide_eq_true (show 0 ≤ a.num by omega), Bool.true_and]
      refine congrArg Value.bool ?_
      congr 1
      apply propext
      (try simp only)
      omega
    · simp only at e3
      repeat (first|refine q4 tab rfl rfl ?_|refine q5 ?_|refine q6 ?_|refine q8 ?_|refine q9 ?_|refine q15 ?_)
      refine retQ_ret rfl (by repeat (first|exact List.Sublist.refl _|refine List.Sublist.cons _ ?_)) ⟨rfl, rfl, ?_⟩
      rw [decide_eq_false (show ¬ 0 ≤ a.num by omega)]; rfl
  rw [kindB_no hA hB4 hC hD, Bool.and_false]
  repeat (first|(first|refine q1 ?_|refine q3 ?_|refine q4 tab rfl rfl ?_|refine q6 ?_|refine q10 ?_|refine q11 ?_|refine q14 ?_)|(refine qs rfl (ql tab 0 rfl rfl rfl rfl rfl rfl ?_)))
  (refine TO.splitN rfl rfl (fun e0 => ?_) (fun e0 => ?_))
  · repeat (first|(refine q4 tab rfl rfl ?_)|(refine qs rfl (ql tab 0 rfl rfl rfl rfl rfl rfl ?_)))
    (refine TO.splitN rfl rfl (fun e1 => ?_) (fun e1 => ?_))
    · repeat (first|refine q1 ?_|refine q3 ?_|refine q4 tab rfl rfl ?_|refine q5 ?_|refine q6 ?_|refine q8 ?_|refine q15 ?_|refine q16 rfl ?_)
      refine retQ_ret rfl (by repeat (first|exact List.Sublist.refl _|refine List.Sublist.cons _ ?_)) ⟨rfl, rfl, ?_⟩
      rfl
    repeat (first|(refine q4 tab rfl rfl ?_)|(refine qs rfl (ql tab 0 rfl rfl rfl rfl rfl rfl ?_)))
    (refine TO.splitN rfl rfl (fun e3 => ?_) (fun e3 => ?_))
    · repeat (first|(first|refine q4 tab rfl rfl ?_|refine q5 ?_|refine q6 ?_)|(refine qs rfl (ql tab 0 rfl rfl rfl rfl rfl rfl ?_)))
      refine TC.condN rfl (fun e2 => ?_) (fun e2 => ?_)
      · repeat (first|refine q1 ?_|refine q3 ?_|refine q4 tab rfl rfl ?_|refine q5 ?_|refine q6 ?_|refine q8 ?_|refine q15 ?_)
        refine retQ_ret rfl (by repeat (first|exact List.Sublist.refl _|refine List.Sublist.cons _ ?_)) ⟨rfl, rfl, ?_⟩
        rfl
      repeat (first|(first|refine q1 ?_|refine q2 ?_|refine q3 ?_|refine q4 tab rfl rfl ?_|refine q5 ?_|refine q6 ?_|refine q13 ?_)|(refine qs rfl (ql tab 0 rfl rfl rfl rfl rfl rfl ?_)))
      refine TC.condP rfl (fun e5 => ?_) (fun e5 => ?_)
      · simp only at e5; omega
      repeat (first|refine q1 ?_|refine q3 ?_|refine q4 tab rfl rfl ?_|refine q5 ?_|refine q6 ?_)
      refine TC.condP rfl (fun e5 => ?_) (fun e5 => ?_)
      · simp only at e5; omega
      repeat (first|refine q1 ?_|refine q3 ?_|refine q4 tab rfl rfl ?_|refine q5 ?_|refine q6 ?_)
      refine TC.condP rfl (fun e5 => ?_) (fun e5 => ?_)
      · simp only at e5; omega
      repeat (first|refine q3 ?_|refine q4 tab rfl rfl ?_|refine q5 ?_|refine q6 ?_)
      refine TC.condP rfl (fun e5 => ?_) (fun e5 => ?_)
      · simp only at e5; omega
      repeat (first|refine q1 ?_|refine q3 ?_|refine q4 tab rfl rfl ?_|refine q5 ?_|refine q6 ?_)
      refine TC.condP rfl (fun e5 => ?_) (fun e5 => ?_)
      · simp only at e5; omega
      repeat (first|refine q1 ?_|refine q3 ?_|refine q4 tab rfl rfl ?_|refine q5 ?_|refine q6 ?_)
      refine TC.condP rfl (fun e5 => ?_) (fun e5 => ?_)
      · simp only at e5; omega
      repeat (first|refine q3 ?_|refine q4 tab rfl rfl ?_|refine q5 ?_|refine q6 ?_)
      refine TC.condP rfl (fun e5 => ?_) (fun e5 => ?_)
      · simp only at e5; omega
      repeat (first|refine q1 ?_|refine q3 ?_|refine q4 tab rfl rfl ?_|refine q5 ?_|refine q6 ?_)
      refine TC.condP rfl (fun e5 => ?_) (fun e5 => ?_)
      · simp only at e5; omega
      repeat (first|refine q1 ?_|refine q3 ?_|refine q4 tab rfl rfl ?_|refine q5 ?_|refine q6 ?_|refine q7 ?_|refine q13 ?_|refine q15 ?_)
      refine retQ_ret rfl (by repeat (first|exact List.Sublist.refl _|refine List.Sublist.cons _ ?_)) ⟨rfl, rfl, ?_⟩
      rfl
    · simp only at e3; omega
  · simp only at e0; omega
end Go.Sep
