/-
  Rules for what sorted insertion needs: conversions and shifts of small numbers, cap, copy within a slice, append of zeros, the stand-in for overlaps.
-/
import Derived.Laws.Externs
import Derived.Test.YtggfaplmdcpccaaB2
set_option linter.unusedVariables false
set_option linter.unusedSimpArgs false
namespace Go.Sep

section
variable {P : Program} {N : Nat} {ρ : Env} {D : List Deferred} {m : Mem} {L : List Item} {Q : EPost} {full : List Oper} {o : Oper} {K : Env → Mem → List Item → Prop}

def Tab.intK {P : Program} (T : Tab P) (t : TypeId) : Option IntKind :=
  match T.get t with
  | some ⟨.int k, _, _, _⟩ => some k
  | _ => none

theorem intK_get {T : Tab P} {t : TypeId} {k : IntKind} (h : T.intK t = some k) : ∃ i, T.get t = some i ∧ i.u = .int k := by
  unfold Tab.intK at h
  split at h
  · rename_i k' _ _ _ hg
    simp only [Option.some.injEq] at h
    subst h
    exact ⟨_, hg, rfl⟩
  · cases h

/-- an integer seen as1 another kind of integer -/
theorem OT.conv (T : Tab P) {s t : TypeId} {x : Operand} {k ks kt : IntKind} {d : Nat} {a r : Int} (ho : o.op = .convert s t x) (hd : o.dst = some d) (hN : Nat.blt d N = true)
    (hs : T.intK s = some ks) (ht : T.intK t = some kt) (hx : ev ρ x = some (.int k a)) (hr : kt.wrap a = r) (hK : K ((d, .int kt r) :: ρ) m L) : OT P N o ρ D m L Q K := by
  obtain ⟨si, s1, s2⟩ := intK_get hs
  obtain ⟨ti, t1, t2⟩ := intK_get ht
  refine OT.run hd hN (fun ac w ha => ⟨w, ?_, ha.st⟩) hK
  have hus := T.run_underlying w s1
  have hut := T.run_underlying w t1
  rw [s2] at hus
  rw [t2] at hut
  simp only [execOp, ho, ha.env.eval hx, Go.convert, Sem.run_bind, hus, hut, Result.andThen_ok, Conv.intToInt, Sem.run_pure, hr]

/-- half of a number -/
theorem OT.half {t t' : TypeId} {x y : Operand} {k ky : IntKind} {d : Nat} {a r : Int} (ho : o.op = .binOp .shr t x y t') (hd : o.dst = some d) (hN : Nat.blt d N = true)
    (hx : ev ρ x = some (.int k a)) (hy : ev ρ y = some (.int ky 1)) (hb : 1 ≤ k.bits) (hr : a.fdiv 2 = r) (hK : K ((d, .int k r) :: ρ) m L) : OT P N o ρ D m L Q K := by
  refine OT.run hd hN (fun ac w ha => ⟨w, ?_, ha.st⟩) hK
  have hmin : min 1 k.bits = 1 := by omega
  simp only [execOp, ho, ha.env.eval hx, ha.env.eval hy, Sem.run_bind, eqGuard, binOp, Op.shift]
  simp [hmin, hr]

theorem OT.cap (T : Tab P) {x : Operand} {t e : TypeId} {ei : TI} {s : Sl} {d : Nat} (ho : o.op = .call ⟨.builtin .cap, ⟨[x]⟩, ⟨[t]⟩⟩) (hd : o.dst = some d) (hN : Nat.blt d N = true)
    (hx : ev ρ x = some s.v) (he : T.elem t = some (e, ei)) (hK : K ((d, .int .i64 (s.cap : Int)) :: ρ) m L) : OT P N o ρ D m L Q K := by
  obtain ⟨ti, h4, h5, h6⟩ := elem_get he
  refine OT.run hd hN (fun ac w ha => ⟨w, ?_, ha.st⟩) hK
  have hu := T.run_underlying w h4
  rw [h5] at hu
  simp only [execOp, ho, resolve, invoke, builtin, Sem.run_bind, Sem.run_pure, Result.andThen_ok, List.map_toArray, List.map_cons, List.map_nil, ha.env.eval hx, Builtin.cap_, hu]
  simp [Builtin.cap_, hu, goInt]

/-- s[lo:hi] of any slice -/
theorem OT.cutS (T : Tab P) (lo hi : Nat) {s : Sl} {x : Operand} {lx hx : Option Operand} {lov hiv : Option Value} {t : TypeId} {d sz : Nat}
    (ho : o.op = .slice t x lx hx none) (hd : o.dst = some d) (hN : Nat.blt d N = true) (he : ev ρ x = some s.v) (h1 : evO ρ lx = some lov) (h2 : evO ρ hx = some hiv) (hsz : T.esize t = some sz)
    (g1 : (lov = none ∧ lo = 0) ∨ lov = some (.int .i64 (lo : Int))) (g2 : (hiv = none ∧ hi = s.len) ∨ hiv = some (.int .i64 (hi : Int))) (hle : lo ≤ hi) (hhi : hi ≤ s.cap)
    (hK : K ((d, .slice (if s.cap = lo then s.a else s.a.map (·.add (lo * sz))) (hi - lo) (s.cap - lo)) :: ρ) m L) : OT P N o ρ D m L Q K := by
  refine OT.run hd hN (fun ac w ha => ⟨w, ?_, ha.st⟩) hK
  have hr := run_sliceAt (P := P) (w := w) T hsz g1 g2 hle hhi
  simp only [execOp, ho, ha.env.eval he, ha.env.evalO h1, ha.env.evalO h2, Option.map_none, Sem.run_bind, hr, Result.andThen_ok, Sem.run_pure]

/-- s[lo:hi] of a slice whose address is known; lo below the capacity -/
theorem OT.cutQ (T : Tab P) (lo hi : Nat) {x : Operand} {lx hx : Option Operand} {lov hiv : Option Value} {t : TypeId} {d b off n c : Nat}
    (ho : o.op = .slice t x lx hx none) (hd : o.dst = some d) (hN : Nat.blt d N = true) (he : ev ρ x = some (.slice (some ⟨b, off, none⟩) n c)) (h1 : evO ρ lx = some lov) (h2 : evO ρ hx = some hiv) (hsz : T.esize t = some 1)
    (g1 : (lov = none ∧ lo = 0) ∨ lov = some (.int .i64 (lo : Int))) (g2 : (hiv = none ∧ hi = n) ∨ hiv = some (.int .i64 (hi : Int))) (hle : lo ≤ hi) (hhi : hi ≤ c) (hlc : lo < c)
    (hK : K ((d, .slice (some ⟨b, off + lo, none⟩) (hi - lo) (c - lo)) :: ρ) m L) : OT P N o ρ D m L Q K := by
  refine OT.cutP T lo hi ho hd hN he h1 h2 hsz g1 g2 hle hhi ?_
  rw [if_neg (by omega), Nat.mul_one]
  exact hK

/-- copy: the source's cells are 'news', the target lies in owned cells -/
theorem OT.copy (T : Tab P) (i : Nat) {x y : Operand} {t t2 e : TypeId} {ei : TI} {b off k n c : Nat} {s2 : Sl} {vs news : List Value} {d : Nat} (ho : o.op = .call ⟨.builtin .copy, ⟨[x, y]⟩, ⟨[t, t2]⟩⟩) (hd : o.dst = some d) (hN : Nat.blt d N = true)
    (hx : ev ρ x = some (.slice (some ⟨b, off + k, none⟩) n c)) (hy : ev ρ y = some s2.v) (he : T.elem t = some (e, ei)) (hsz : Nat.beq ei.size 1 = true)
    (hsrc : ∀ w, St m w L → Src w ⟨s2.a, min s2.len n, s2.cap⟩ 1 news) (h1 : allOne news = true) (hi : L[i]? = some (.cells b off vs)) (hk : k + news.length ≤ vs.length)
    (hK : K ((d, .int .i64 ((min s2.len n : Nat) : Int)) :: ρ) m (L.set i (.cells b off (putAt vs k news)))) : OT P N o ρ D m L Q K := by
  obtain ⟨ti, h4, h5, h6⟩ := elem_get he
  have hs1 := Nat.eq_of_beq_eq_true hsz
  intro ac w ha
  have hu := T.run_underlying w h4
  rw [h5] at hu
  have hes := T.run_sizeOf w h6
  rw [hs1] at hes
  have hst := ha.st.at_ hi
  obtain ⟨w', hr, hst'⟩ := run_storeCells (P := P) news vs k 0 w hst h1 (by omega)
  have hfirst := run_first (P := P) (hsrc w ha.st)
  have hfirst' : (Builtin.firstCells 1 (min s2.len n) s2.v).run P w = .ok ⟨news⟩ w := by
    obtain ⟨a2, n2, c2⟩ := s2
    cases a2 <;> exact hfirst
  have he' : (execOp ac.eval o).run P w = .ok (.value (.int .i64 ((min s2.len n : Nat) : Int))) w' := by
    simp only [execOp, ho, resolve, invoke, builtin, Sem.run_bind, Sem.run_pure, Result.andThen_ok, List.map_toArray, List.map_cons, List.map_nil, ha.env.eval hx, ha.env.eval hy]
    have hlen : (Builtin.lenOf s2.v).run P w = .ok s2.len w := rfl
    have hmin : Nat.min s2.len n = min s2.len n := rfl
    simp [Builtin.copy_, hu, hes, hlen, hfirst', hr, goInt, hmin]
  simp only [Oper.wp, he', Oper.upon, hd]
  have hp := ha.put hN (.int .i64 ((min s2.len n : Nat) : Int))
  exact ⟨_, _, _, ⟨hp.size, hp.env, hp.defers, hst'.back hi⟩, hK⟩

/-- append(s, make([]T, z)...) where there is no room -/
theorem OT.growZ (T : Tab P) {s : Sl} {vs : List Value} {x y : Operand} {t t2 e : TypeId} {ei : TI} {kz : IntKind} {z : Nat} {iv : Int} {zv : Value} {d : Nat} (hM : s.len ≤ vs.length) (hadr : s.len = 0 ∨ ∃ b o, s.a = some ⟨b, o, none⟩) (hz0 : 0 < z) (hiv : iv = (z : Int))
    (ho : o.op = .call ⟨.builtin .append, ⟨[x, y]⟩, ⟨[t, t2]⟩⟩) (hd : o.dst = some d) (hN : Nat.blt d N = true) (hx : ev ρ x = some s.v) (hy : ev ρ y = some (.int .i64 iv)) (he : T.elem t = some (e, ei)) (ht2 : T.intK t2 = some kz)
    (hsz : Nat.beq ei.size 1 = true) (hb : Nat.blt 0 ei.bytes = true) (hz : cellsF ei.zero = some [zv]) (hfit : (s.len + z) * ei.bytes ≤ 140737488355328) (hroom : s.cap < s.len + z)
    (hK : ∀ b vs', s.len + z ≤ vs'.length → vs'.take (s.len + z) = vs.take s.len ++ List.replicate z zv → K ((d, .slice (some ⟨b, 0, none⟩) (s.len + z) vs'.length) :: ρ) m (.cells b 0 vs' :: mcell s vs :: L)) : OT P N o ρ D m (mcell s vs :: L) Q K := by
  obtain ⟨ti, h4, h5, h6⟩ := elem_get he
  obtain ⟨si, s1, s2⟩ := intK_get ht2
  obtain ⟨_, _, hu, _⟩ := T.ok t ti h4
  rw [h5] at hu
  obtain ⟨_, _, hu2, _⟩ := T.ok t2 si s1
  rw [s2] at hu2
  obtain ⟨info, q1, q2, q3, q4, q5⟩ := T.ok e ei h6
  have hs1 := Nat.eq_of_beq_eq_true hsz
  have hbp : 0 < ei.bytes := by simpa [Nat.blt_eq] using hb
  have hbound : s.len + z ≤ 140737488355328 := Nat.le_trans (Nat.le_mul_of_pos_right _ hbp) hfit
  have hzc := cellsF_eq hz
  intro ac w ha
  have hsrc : Src w s 1 (vs.take s.len) := by
    refine ⟨by rw [List.length_take]; omega, ?_⟩
    rcases hadr with h | ⟨b, o, h⟩
    · exact .inl h
    · right
      refine ⟨b, o, h, fun j v hv => ?_⟩
      have hc := ha.st.cells (i := 0) (b := b) (off := o) (vs := vs) (by simp [mcell, h])
      refine hc j v ?_
      rw [List.getElem?_take] at hv
      split at hv
      · exact hv
      · cases hv
  have hold := run_first (P := P) (hsrc.drew)
  have hnr : ¬ (s.len + z ≤ s.cap) := by omega
  have h48 : ¬ (Builtin.nextslicecap (s.len + z) s.cap * ei.bytes > 281474976710656) := by
    have := growslice_fits hroom hfit
    omega
  obtain ⟨nc, hnc, hge⟩ : ∃ nc, nc = (Question.appendCap (s.len + z) s.cap e).cut (w.tape w.drawn (.appendCap (s.len + z) s.cap e)) ∧ s.len + z ≤ nc := ⟨_, rfl, by simp [Question.cut]⟩
  have hzcell : ∀ k, Builtin.zeroCells ei.zero.cells k = ⟨List.replicate k zv⟩ := by
    intro k
    rw [hzc]
    apply Array.ext'
    simp only [Builtin.zeroCells, Array.toList_map, Array.toList_range]
    apply List.ext_getElem
    · simp
    · intro i h1 h2
      simp [Nat.mod_one]
  have hst := ha.st.drew.allocCells ((⟨vs.take s.len⟩ : Array Value) ++ (⟨List.replicate z zv⟩ : Array Value) ++ (⟨List.replicate (nc - (s.len + z)) zv⟩ : Array Value)) e
  have hlen : (vs.take s.len ++ List.replicate z zv ++ List.replicate (nc - (s.len + z)) zv).length = nc := by simp; omega
  have hw : iv = ((z : Nat) : Int) := hiv
  have hzb : ¬ ((z : Int) * (ei.bytes : Int) > 281474976710656) := by
    have : z * ei.bytes ≤ 140737488355328 := Nat.le_trans (Nat.mul_le_mul_right _ (by omega)) hfit
    have h2 : ((z : Int) * (ei.bytes : Int)) = ((z * ei.bytes : Nat) : Int) := by simp
    rw [h2]; omega
  have hwrap : IntKind.i64.wrap (z : Int) = (z : Int) := wrap64_in (by omega) (by omega)
  have hb0 : ei.bytes ≠ 0 := by omega
  have hmax : ¬ (9223372036854775807 < (s.len : Int) + (z : Int)) := by omega
  have hneg : ¬ ((z : Int) < 0) := by omega
  have hzn : ¬ (z = 0) := by omega
  have hr : (Builtin.append_ #[t, t2] o.type #[s.v, .int .i64 iv]).run P w = .ok (.slice (some ⟨w.heap.size, 0, none⟩) (s.len + z) nc) (w.drew.alloc (.cells ((⟨vs.take s.len⟩ : Array Value) ++ (⟨List.replicate z zv⟩ : Array Value) ++ (⟨List.replicate (nc - (s.len + z)) zv⟩ : Array Value)) e)) := by
    subst hw
    simp only [Sl.v] at hold
    simp [Builtin.append_, run_underlying hu, run_underlying hu2, sizeOf, typeInfo, zeroValue, q1, q3, q4, q5, hs1, asInt, asIntOf, hwrap, hneg, hzb, hnr, h48, hmax, hold, hzn, hzcell, Question.forced, newRow, ← hnc, IntKind.max, IntKind.signed, IntKind.bits, hb0]
  have he' : (execOp ac.eval o).run P w = .ok (.value (.slice (some ⟨w.heap.size, 0, none⟩) (s.len + z) nc)) (w.drew.alloc (.cells ((⟨vs.take s.len⟩ : Array Value) ++ (⟨List.replicate z zv⟩ : Array Value) ++ (⟨List.replicate (nc - (s.len + z)) zv⟩ : Array Value)) e)) := by
    simp only [execOp, ho, resolve, invoke, builtin, Sem.run_bind, Sem.run_pure, Result.andThen_ok, List.map_toArray, List.map_cons, List.map_nil, ha.env.eval hx, ha.env.eval hy, hr]
  simp only [Oper.wp, he', Oper.upon, hd]
  have hp := ha.put hN (.slice (some ⟨w.heap.size, 0, none⟩) (s.len + z) nc)
  have hk := hK w.heap.size (vs.take s.len ++ List.replicate z zv ++ List.replicate (nc - (s.len + z)) zv) (by rw [hlen]; exact hge) (by
    rw [List.append_assoc, ← List.append_assoc, List.take_append_of_le_length (by simp; omega), List.take_of_length_le (by simp; omega)])
  rw [hlen] at hk
  have hst' : St m (w.drew.alloc (.cells ((⟨vs.take s.len⟩ : Array Value) ++ (⟨List.replicate z zv⟩ : Array Value) ++ (⟨List.replicate (nc - (s.len + z)) zv⟩ : Array Value)) e)) (.cells w.heap.size 0 (vs.take s.len ++ List.replicate z zv ++ List.replicate (nc - (s.len + z)) zv) :: mcell s vs :: L) := by simpa using hst
  exact ⟨_, _, _, ⟨hp.size, hp.env, hp.defers, hst'⟩, hk⟩

section
variable {ops : List Oper} {ts : List Nat} {fuel : Nat} {listed : List Bool} {Ls Lp : List Item}
/-- s[lo:hi], taken first -/
theorem DO.cutP (T : Tab P) (i : Nat) (lo hi : Nat) {x : Operand} {lx hx : Option Operand} {lov hiv : Option Value} {t : TypeId} {o : Oper} {d b off n c : Nat} (hc : Calm Q) (hns : Region.noSelect ⟨ops⟩ = true) (hok : orderOkP ops ts [i] listed = true)
    (hi' : ops[i]? = some o) (hg : gv ops ρ o = some true) (ho : o.op = .slice t x lx hx none) (hd : o.dst = some d) (hN : Nat.blt d N = true)
    (he : ev ρ x = some (.slice (some ⟨b, off, none⟩) n c)) (h1 : evO ρ lx = some lov) (h2 : evO ρ hx = some hiv) (hsz : T.esize t = some 1)
    (g1 : (lov = none ∧ lo = 0) ∨ lov = some (.int .i64 (lo : Int))) (g2 : (hiv = none ∧ hi = n) ∨ hiv = some (.int .i64 (hi : Int))) (hle : lo ≤ hi) (hhi : hi ≤ c) (hlc : lo < c)
    (h : DO P N ops ts fuel (listed.set i true) ((d, .slice (some ⟨b, off + lo, none⟩) (hi - lo) (c - lo)) :: ρ) D m Ls Lp Q) : DO P N ops ts (fuel + 1) listed ρ D m Ls Lp Q := by
  simp only [orderOkP, Bool.and_eq_true] at hok
  obtain ⟨o1, o2, o3, _⟩ := hok
  refine DO.takeP i hc hi' hd hN hg hns o1 o2 (by simpa using o3) (fun ac w hA => ?_) h
  have hr := run_sliceAt (P := P) (w := w) T (s := ⟨some ⟨b, off, none⟩, n, c⟩) hsz g1 g2 hle hhi
  simp only [Sl.v] at hr
  simp only [execOp, ho, hA.eval he, hA.evalO h1, hA.evalO h2, Option.map_none, Sem.run_bind, hr, Result.andThen_ok, Sem.run_pure]
  rw [if_neg (by omega)]
  simp [addr_add]
end

/-- a call of an entry of the model -/
theorem OT.callX {F : Operand} {args : List Operand} {ats : Array TypeId} {f : FuncId} {fn : Func} {E : Array Value → Sem Value} {vs : List Value} {v : Value} {d : Nat} (ho : o.op = .call ⟨.value F, ⟨args⟩, ats⟩) (hd : o.dst = some d) (hN : Nat.blt d N = true)
    (hF : ev ρ F = some (.func (.func f) ⟨[]⟩ ⟨[]⟩)) (ha : evs ρ args = some vs) (hf : P.funcs[f]? = some fn) (hname : (fn.name == "runtime.NumGoroutine") = false) (hb : fn.body.isNone = true) (hn : Extern.findNext fn = none) (hE : Extern.find fn = some E)
    (hr : ∀ w, St m w L → (E ⟨vs⟩).run P w = .ok v w) (hK : K ((d, v) :: ρ) m L) : OT P N o ρ D m L Q K := by
  refine OT.run hd hN (fun ac w hac => ⟨w, ?_, hac.st⟩) hK
  have hargs := hac.env.evals ha
  have hcall := run_callFunc_extern hf hname hb hn hE ⟨vs⟩ w
  rw [hr w hac.st] at hcall
  simp only [execOp, ho, resolve, hac.env.eval hF, Deferred.ofValue, Sem.run_bind, Sem.run_pure, Result.andThen_ok, invoke]
  rw [show (#[] ++ Array.map ac.eval ⟨args⟩ ++ #[] : Array Value) = ⟨vs⟩ by simp [hargs]]
  exact hcall
end
end Go.Sep

/-
  Slices of maps; a queue whose first element goes.
-/
set_option linter.unusedVariables false
set_option linter.unusedSimpArgs false
namespace Go.Sep

/-- a map variable: nil, or a map with its keys (the values have no size) -/
abbrev MapH := Option (Nat × Ents Int × Nat)
def mv : MapH → Value
  | none => .map none
  | some (b, _, _) => .map (some b)
def mitem : MapH → Item
  | none => .room 0 0 0
  | some (b, es, c) => .obj b (mapO kInt es c)
def mkeys : MapH → List Int
  | none => []
  | some (_, es, _) => es.map (·.1)
def mtoks (ws : List MapH) : List Item := ws.map mitem

theorem mtoks_out {ws : List MapH} {k : Nat} {x : MapH} (L : List Item) (h : ws[k]? = some x) : (mtoks ws ++ L).Perm (mitem x :: (mtoks (ws.eraseIdx k) ++ L)) := by
  have h1 : (mtoks ws)[k]? = some (mitem x) := map_get _ h
  have h2 := perm_at h1
  have e : (mtoks ws).eraseIdx k = mtoks (ws.eraseIdx k) := eraseIdx_map' _ _ _
  rw [e] at h2
  exact h2.append_right L
theorem mtoks_in {ws : List MapH} {k : Nat} {x : MapH} (L : List Item) (h : k < ws.length) : (mitem x :: (mtoks (ws.eraseIdx k) ++ L)).Perm (mtoks (ws.set k x) ++ L) := by
  have h2 := perm_back (L := mtoks ws) (i := k) (by simpa [mtoks] using h) (mitem x)
  have e : (mtoks ws).eraseIdx k = mtoks (ws.eraseIdx k) := eraseIdx_map' _ _ _
  have e2 : (mtoks ws).set k (mitem x) = mtoks (ws.set k x) := by simp [mtoks, List.map_set]
  rw [e, e2] at h2
  exact h2.append_right L
theorem mtoks_same {ws : List MapH} {k : Nat} {x : MapH} (L : List Item) (h : ws[k]? = some x) : (mitem x :: (mtoks (ws.eraseIdx k) ++ L)).Perm (mtoks ws ++ L) := (mtoks_out L h).symm

theorem St.mtoks0 {m : Mem} {w : World} {L : List Item} (h : St m w L) (n : Nat) : St m w (mtoks (List.replicate n none) ++ L) := by
  induction n with
  | zero => exact h
  | succ n ih => exact ih.room0 0 0

theorem mhas_keys {es : Ents Int} {x : Int} : mhas es x = decide (x ∈ es.map (·.1)) := by
  induction es with
  | nil => rfl
  | cons e es ih =>
    simp only [mhas, List.any_cons, List.map_cons, List.mem_cons] at ih ⊢
    rw [ih]
    by_cases h : e.1 = x
    · simp [h]
    · simp [h, Ne.symm h]
theorem mset_keys {es : Ents Int} {x : Int} (v : Value) (c : Nat) (h : x ∉ es.map (·.1)) : (mset es x v c).map (·.1) = es.map (·.1) ++ [x] := by
  unfold mset
  have : mhas es x = false := by rw [mhas_keys]; simpa using h
  simp [this]
theorem mdel_keys : ∀ {es : Ents Int} {x : Int}, (es.map (·.1)).Nodup → (mdel es x).map (·.1) = (es.map (·.1)).filter fun y => decide (y ≠ x)
  | [], x, _ => rfl
  | e :: es, x, h => by
    simp only [List.map_cons, List.nodup_cons] at h
    unfold mdel
    by_cases hx : e.1 = x
    · subst hx
      simp only [List.findIdx_cons, decide_true, cond_true, List.eraseIdx_cons_zero, List.map_cons, List.filter_cons, ne_eq, not_true_eq_false, decide_false, Bool.false_eq_true, if_false]
      rw [List.filter_eq_self.2]
      intro y hy
      simp only [ne_eq, decide_eq_true_eq]
      exact fun e => h.1 (e ▸ hy)
    · have ih := mdel_keys (x := x) h.2
      unfold mdel at ih
      simp only [List.findIdx_cons, hx, decide_false, cond_false, List.eraseIdx_cons_succ, List.map_cons, List.filter_cons, ne_eq, not_false_eq_true, decide_true, if_true]
      rw [ih]

section
variable {P : Program} {N : Nat} {ρ : Env} {D : List Deferred} {m : Mem} {L : List Item} {Q : EPost} {full : List Oper} {o : Oper} {K : Env → Mem → List Item → Prop}
theorem TC.mtoks0 {c : Code} (n : Nat) (h : TC P N c ρ D m (mtoks (List.replicate n none) ++ L) Q) : TC P N c ρ D m L Q := fun a w ha => h a w ⟨ha.size, ha.env, ha.defers, ha.st.mtoks0 n⟩
theorem TO.mtoks0 {l : List Oper} (n : Nat) (h : TO P N ⟨full⟩ l ρ D m (mtoks (List.replicate n none) ++ L) Q) : TO P N ⟨full⟩ l ρ D m L Q := fun a w ha => h a w ⟨ha.size, ha.env, ha.defers, ha.st.mtoks0 n⟩

theorem equalIn_nilMap {t a b : TypeId} {w : World} (dd : Nat) (hu : (underlying t).run P w = .ok (.map a b) w) (h : MapH) :
    (Op.equalIn (dd + 1) t (mv h) (.map none)).run P w = .ok (decide (h = none)) w := by
  rcases h with _ | ⟨b, es, c⟩
  · simp only [mv, Op.equalIn, Sem.run_bind, hu, Result.andThen_ok, Sem.run_pure]; rfl
  · simp only [mv, Op.equalIn, Sem.run_bind, hu, Result.andThen_ok, Sem.run_pure]; rfl

/-- m == nil -/
theorem OT.nilMap (T : Tab P) {t t' kt vt : TypeId} {x y : Operand} {d : Nat} (h : MapH) (ho : o.op = .binOp .eql t x y t') (hd : o.dst = some d) (hN : Nat.blt d N = true)
    (hx : ev ρ x = some (mv h)) (hy : ev ρ y = some (.map none)) (ht : T.mapT kInt t = some (kt, vt)) (hK : K ((d, .bool (decide (h = none))) :: ρ) m L) : OT P N o ρ D m L Q K := by
  obtain ⟨ti, ki, h1, h2, h3, h4⟩ := mapT_get ht
  refine OT.run hd hN (fun a w ha => ⟨w, ?_, ha.st⟩) hK
  have hu := T.run_underlying w h1
  rw [h2] at hu
  have heq := equalIn_nilMap (P := P) 9999 hu h
  have e1 : binOp .eql t (mv h) (.map none) = (do pure (.bool (← Op.equalIn (9999 + 1) t (mv h) (.map none))) : Sem Value) := by
    rcases h with _ | ⟨b, es, c⟩ <;> rfl
  have e2 : (eqGuard .eql t x y (mv h) (.map none)).run P w = .ok () w := by
    rcases h with _ | ⟨b, es, c⟩ <;> simp [eqGuard, mv]
  simp only [execOp, ho, ha.env.eval hx, ha.env.eval hy, Sem.run_bind, e1, e2, Result.andThen_ok, heq, Sem.run_pure]

/-- len of a map that may be nil -/
theorem OT.lenMap (T : Tab P) (i : Nat) {t kt vt : TypeId} {mp : Operand} {d : Nat} (h : MapH) (ho : o.op = .call ⟨.builtin .len, ⟨[mp]⟩, ⟨[t]⟩⟩) (hd : o.dst = some d) (hN : Nat.blt d N = true)
    (hm : ev ρ mp = some (mv h)) (ht : T.mapT kInt t = some (kt, vt)) (hi : L[i]? = some (mitem h))
    (hK : K ((d, .int .i64 ((mkeys h).length : Int)) :: ρ) m L) : OT P N o ρ D m L Q K := by
  rcases h with _ | ⟨b, es, c⟩
  · obtain ⟨ti, ki, h1, h2, h3, h4⟩ := mapT_get ht
    refine OT.run hd hN (fun a w ha => ⟨w, ?_, ha.st⟩) hK
    have hu := T.run_underlying w h1
    rw [h2] at hu
    have hm' : ev ρ mp = some (.map none) := hm
    simp only [execOp, ho, resolve, Sem.run_bind, Sem.run_pure, Result.andThen_ok, invoke, builtin, List.map_toArray, List.map_cons, List.map_nil, ha.env.eval hm', Builtin.len_]
    simp [hu, ha.env.eval hm', goInt, mkeys]
  · refine OT.mapLen T kInt i ho hd hN hm ht hi ?_
    simpa [mkeys] using hK

theorem OT.runN {v : Value} {m' : Mem} {L' : List Item} (hd : o.dst = none)
    (h : ∀ a w, Ok N ρ D m L a w → ∃ w', (execOp a.eval o).run P w = .ok (.value v) w' ∧ St m' w' L') (hK : K ρ m' L') : OT P N o ρ D m L Q K := by
  intro a w ha
  obtain ⟨w', hr, hst⟩ := h a w ha
  simp only [Oper.wp, hr, Oper.upon, hd]
  exact ⟨_, _, _, ⟨ha.size, ha.env, ha.defers, hst⟩, hK⟩

theorem OT.mapDel0 {κ : Type} [DecidableEq κ] (T : Tab P) (k : KeyK κ) (i : Nat) {t t2 kt vt : TypeId} {mp ky : Operand} {b c : Nat} {es : Ents κ} (x : κ) (ho : o.op = .call ⟨.builtin .delete, ⟨[mp, ky]⟩, ⟨[t, t2]⟩⟩) (hd : o.dst = none)
    (hm : ev ρ mp = some (.map (some b))) (hk : ev ρ ky = some (k.v x)) (ht : T.mapT k t = some (kt, vt)) (hi : L[i]? = some (.obj b (mapO k es c)))
    (hK : K ρ m (L.set i (.obj b (mapO k (mdel es x) c)))) : OT P N o ρ D m L Q K := by
  obtain ⟨ti, ki, h1, h2, h3, h4⟩ := mapT_get ht
  refine OT.runN (v := .tuple #[]) hd (fun a w ha => ?_) hK
  have hu := T.run_underlying w h1
  rw [h2] at hu
  have huk := T.run_underlying w h3
  have hst := ha.st.at_ hi
  have hobj : w.heap[b]? = some (mapO k es c) := (hst.items _ (List.mem_cons_self ..)).1
  have hset := hst.setObj (mapO k (mdel es x) c) rfl
  refine ⟨_, ?_, hset.back hi⟩
  have hck := fun e => k.check P w e kt ki.u x h4 huk
  have hfk := run_findKey (P := P) k h4 huk x es
  have hdel : (Builtin.delete_ #[t, t2] o.type #[.map (some b), k.v x]).run P w = .ok (.tuple #[]) { w with heap := w.heap.setIfInBounds b (mapO k (mdel es x) c) } := by
    simp only [Builtin.delete_]
    simp only [List.getElem?_toArray, List.getElem?_cons_zero, List.getElem?_cons_succ, Sem.run_bind, hu, Result.andThen_ok, run_getObj hobj rfl, mapO, hck, hfk]
    by_cases hh : mhas es x = true
    · have he : (⟨es.map (entE k)⟩ : Array MapEntry).eraseIdxIfInBounds (es.findIdx fun e => decide (e.1 = x)) = ⟨(mdel es x).map (entE k)⟩ := by
        have hx : ∃ e ∈ es, decide (e.1 = x) = true := by simpa [mhas, List.any_eq_true] using hh
        have hlt : (es.findIdx fun e => decide (e.1 = x)) < es.length := List.findIdx_lt_length_of_exists hx
        apply Array.ext'
        simp [Array.eraseIdxIfInBounds, hlt, mdel, map_eraseIdx]
      simp only [hh, if_true, he, Sem.run_bind]
      rw [run_setObj _ hobj rfl]
      simp [mapO]
    · have hf : mhas es x = false := by simpa using hh
      have he : mdel es x = es := by
        have hn : es.findIdx (fun e => decide (e.1 = x)) = es.length := List.findIdx_eq_length.2 fun e he => by
          rw [mhas, List.any_eq_false] at hf
          simpa using hf e he
        rw [mdel, hn]
        exact List.eraseIdx_of_length_le (Nat.le_refl _)
      simp only [hf, Bool.false_eq_true, if_false, he, Sem.run_bind]
      rw [run_setObj _ hobj rfl]
      simp [mapO]
  simp only [execOp, ho, resolve, Sem.run_bind, Sem.run_pure, Result.andThen_ok, invoke, builtin, List.map_toArray, List.map_cons, List.map_nil, ha.env.eval hm, ha.env.eval hk, hdel]

/-- the first element of an owned slice goes -/
theorem OT.behead {α : Type} (T : Tab P) {f : α → Value} {s : Sl} {vs : List Value} {x0 : α} {xs : List α} {x : Operand} {lx : Option Operand} {t : TypeId} {d : Nat} (hq : MQ f s vs (x0 :: xs))
    (ho : o.op = .slice t x lx none none) (hd : o.dst = some d) (hN : Nat.blt d N = true) (he : ev ρ x = some s.v) (h1 : evO ρ lx = some (some (.int .i64 1))) (hsz : T.esize t = some 1)
    (hK : ∀ s' vs', MQ f s' vs' xs → K ((d, s'.v) :: ρ) m (mcell s' vs' :: L)) : OT P N o ρ D m (mcell s vs :: L) Q K := by
  have hl := hq.len
  simp only [List.length_cons] at hl
  obtain ⟨b, off, c, hs, hc1, hc2⟩ := hq.ne (by simp)
  subst hs
  simp only [List.length_cons] at hc1 hc2 hl ⊢
  have hq2 := hq.eq
  simp only [List.length_cons, List.map_cons] at hq2
  rcases vs with _ | ⟨v0, vs⟩
  · simp at hc2; omega
  simp only [List.length_cons] at hc2
  simp only [List.take_succ_cons, List.cons.injEq] at hq2
  have hcut : ∀ w : World, (Instr.sliceAt t (.slice (some ⟨b, off, none⟩) (xs.length + 1) c) (some (.int .i64 1)) none none).run P w = .ok (.slice (if c = 1 then some ⟨b, off, none⟩ else some ⟨b, off + 1, none⟩) xs.length (c - 1)) w := fun w => by
    have hr := run_sliceAt (P := P) (w := w) T (s := ⟨some ⟨b, off, none⟩, xs.length + 1, c⟩) (lov := some (.int .i64 1)) (hiv := none) (lo := 1) (hi := xs.length + 1) hsz (.inr rfl) (.inl ⟨rfl, rfl⟩) (by omega) (by simp only; omega)
    simp only [Sl.v, Option.map_some, addr_add, Nat.one_mul, Nat.add_sub_cancel] at hr
    exact hr
  intro ac w ha
  have hsp : St m w (.cells b (off + 1) vs :: L) := (St.split (vs := [v0]) (us := vs) ha.st).sub (List.sublist_cons_self _ _)
  have hrun : (execOp ac.eval o).run P w = .ok (.value (.slice (if c = 1 then some ⟨b, off, none⟩ else some ⟨b, off + 1, none⟩) xs.length (c - 1))) w := by
    have he' : ev ρ x = some (.slice (some ⟨b, off, none⟩) (xs.length + 1) c) := he
    simp only [execOp, ho, ha.env.eval he', ha.env.evalO h1, Option.map_none, Sem.run_bind, hcut, Result.andThen_ok, Sem.run_pure]
  simp only [Oper.wp, hrun, Oper.upon, hd]
  have hp := ha.put hN (.slice (if c = 1 then some ⟨b, off, none⟩ else some ⟨b, off + 1, none⟩) xs.length (c - 1))
  by_cases h1c : c = 1
  · have hx0 : xs = [] := List.eq_nil_of_length_eq_zero (by omega)
    have hv0 : vs = [] := List.eq_nil_of_length_eq_zero (by omega)
    subst hx0; subst hv0; subst h1c
    refine ⟨_, _, _, ⟨hp.size, hp.env, hp.defers, ?_⟩, hK ⟨some ⟨b, off, none⟩, 0, 0⟩ [] ⟨MS.at_ _ _ _ _ _ (Nat.le_refl _) rfl, rfl⟩⟩
    exact (hsp.sub (List.sublist_cons_self _ _)).cells0 b off
  · rw [if_neg h1c] at hp ⊢
    refine ⟨_, _, _, ⟨hp.size, hp.env, hp.defers, ?_⟩, hK ⟨some ⟨b, off + 1, none⟩, xs.length, c - 1⟩ vs ⟨MS.at_ _ _ _ _ _ (by omega) (by omega), hq2.2⟩⟩
    exact hsp
end
end Go.Sep

/-
  Bytes of strings, sums of strings, functions compared with nil.
-/
set_option linter.unusedVariables false
set_option linter.unusedSimpArgs false
namespace Go.Sep
theorem Item.Free.weaken {m m' : Mem} (h : m ≤ m') {x : Item} (hf : x.Free m') : x.Free m where
  pin := by rw [← h.pin]; exact hf.pin
  c := fun j hj => by
    have h1 := hf.c j hj
    cases hc : m.c x.blk (x.off + j) with
    | none => rfl
    | some v => rw [h.c _ _ _ hc] at h1; cases h1
  o := fun b o hx => by
    have h1 := hf.o b o hx
    cases hc : m.o b with
    | none => rfl
    | some v => rw [h.o _ _ hc] at h1; cases h1

theorem St.weaken {m m' : Mem} {w : World} {L : List Item} (h : St m' w L) (hm : m ≤ m') : St m w L where
  os := by rw [h.os, hm.pin]
  tape := by rw [h.tape, hm.pin]
  output := by rw [h.output, hm.pin]
  size := by rw [← hm.pin]; exact h.size
  pin := by rw [← hm.pin]; exact h.pin
  c := fun b i v hv => h.c b i v (hm.c b i v hv)
  o := fun b x hx => h.o b x (hm.o b x hx)
  t := fun b x hx => h.t b x (hm.t b x hx)
  items := h.items
  free := fun x hx => (h.free x hx).weaken hm
  disj := h.disj

/-- what was learned on the way is let go -/
theorem TCall.forget {P : Program} {f : FuncId} {args : Array Value} {m : Mem} {L : List Item} {v : Value} (h : TCall P f args m L (Made m L fun r _ => r = v)) : TCall P f args m L (Ret v m L) :=
  fun w hs => (h w hs).mono fun e w' he => by
    cases e with
    | returned v => obtain ⟨m', L', h1, h2, rfl, rfl⟩ := he; exact ⟨m, L, h1.weaken h2, rfl, rfl, rfl⟩
    | panicked ch => obtain ⟨_, _, _, hf⟩ := he; exact hf.elim
    | outgrown => exact he

section
variable {P : Program} {N : Nat} {ρ : Env} {D : List Deferred} {m : Mem} {L : List Item} {Q : EPost} {o : Oper} {K : Env → Mem → List Item → Prop}

@[reducible] def byteV (b : UInt8) : Value := .int .u8 (b.toNat : Int)

def Tab.isStr {P : Program} (T : Tab P) (t : TypeId) : Bool :=
  match T.get t with
  | some ⟨.string, _, _, _⟩ => true
  | _ => false

theorem isStr_get {T : Tab P} {t : TypeId} (h : T.isStr t = true) : ∃ i, T.get t = some i ∧ i.u = .string := by
  unfold Tab.isStr at h
  split at h
  · exact ⟨_, by assumption, rfl⟩
  · cases h

theorem getElem_data (s : Str) (k : Nat) {b : UInt8} (h : s[k]? = some b) : (⟨⟨s⟩⟩ : ByteArray)[k]? = some b := by
  obtain ⟨hk, he⟩ := List.getElem?_eq_some_iff.1 h
  have hs : k < (⟨⟨s⟩⟩ : ByteArray).size := hk
  rw [getElem?_pos _ k hs]
  exact congrArg some he

/-- s[k] of a string -/
theorem OT.sidx (T : Tab P) {t : TypeId} {x y : Operand} {s : Str} {i : Int} {b : UInt8} {d : Nat} (k : Nat) (ho : o.op = .index t x y) (hd : o.dst = some d) (hN : Nat.blt d N = true)
    (ht : T.isStr t = true) (hx : ev ρ x = some (strV s)) (hy : ev ρ y = some (.int .i64 i)) (hi : i = (k : Int)) (hb : s[k]? = some b) (hK : K ((d, byteV b) :: ρ) m L) : OT P N o ρ D m L Q K := by
  obtain ⟨ti, h1, h2⟩ := isStr_get ht
  subst hi
  refine OT.run hd hN (fun a w ha => ⟨w, ?_, ha.st⟩) hK
  have hu := T.run_underlying w h1
  rw [h2] at hu
  have hg := getElem_data s k hb
  simp only [execOp, ho, ha.env.eval hx, ha.env.eval hy, Instr.index, asIntOf, Sem.run_bind, Sem.run_pure, Result.andThen_ok, hu, Int.toNat_natCast, Int.natCast_nonneg, if_true, hg]

theorem u8_or (a b : Nat) (ha : a < 256) (hb : b < 256) : IntKind.wrap .u8 (((BitVec.ofInt 8 (a : Int)) ||| (BitVec.ofInt 8 (b : Int))).toNat : Int) = ((a ||| b : Nat) : Int) := by
  have h1 : ((BitVec.ofInt 8 (a : Int)) ||| (BitVec.ofInt 8 (b : Int))).toNat = a ||| b := by
    rw [BitVec.toNat_or]
    simp only [BitVec.ofInt_natCast, BitVec.toNat_ofNat]
    rw [Nat.mod_eq_of_lt (by omega), Nat.mod_eq_of_lt (by omega)]
  rw [h1]
  have h2 : a ||| b < 256 := Nat.or_lt_two_pow (n := 8) ha hb
  simp [IntKind.wrap, IntKind.signed, IntKind.bits]
  omega

/-- a | b of bytes -/
theorem OT.orU8 {t t' : TypeId} {x y : Operand} {a b : Nat} {d : Nat} (ho : o.op = .binOp .or t x y t') (hd : o.dst = some d) (hN : Nat.blt d N = true)
    (hx : ev ρ x = some (.int .u8 (a : Int))) (hy : ev ρ y = some (.int .u8 (b : Int))) (ha' : a < 256) (hb' : b < 256) (hK : K ((d, .int .u8 ((a ||| b : Nat) : Int)) :: ρ) m L) : OT P N o ρ D m L Q K := by
  refine OT.run hd hN (fun ac w ha => ⟨w, ?_, ha.st⟩) hK
  have hr := u8_or a b ha' hb'
  simp only [execOp, ho, ha.env.eval hx, ha.env.eval hy, Sem.run_bind, eqGuard, binOp, Op.intBits]
  simp [IntKind.bits] at hr ⊢
  exact hr

/-- s + t of strings -/
theorem OT.concat {t t' : TypeId} {x y : Operand} {s u : Str} {d : Nat} (ho : o.op = .binOp .add t x y t') (hd : o.dst = some d) (hN : Nat.blt d N = true)
    (hx : ev ρ x = some (strV s)) (hy : ev ρ y = some (strV u)) (hl : s.length + u.length ≤ 9223372036854775807) (hK : K ((d, strV (s ++ u)) :: ρ) m L) : OT P N o ρ D m L Q K := by
  refine OT.run hd hN (fun ac w ha => ⟨w, ?_, ha.st⟩) hK
  have h1 : ¬ (((⟨⟨s⟩⟩ : ByteArray).size + (⟨⟨u⟩⟩ : ByteArray).size : Nat) : Int) > IntKind.i64.max := by
    show ¬ ((s.length + u.length : Nat) : Int) > IntKind.i64.max
    have : IntKind.i64.max = 9223372036854775807 := by decide
    rw [this]; omega
  have h2 : (⟨⟨s⟩⟩ : ByteArray) ++ (⟨⟨u⟩⟩ : ByteArray) = ⟨⟨s ++ u⟩⟩ := by
    apply ByteArray.ext
    simp
  simp only [execOp, ho, ha.env.eval hx, ha.env.eval hy, Sem.run_bind, eqGuard, binOp, Op.stringOp]
  rw [if_neg h1, h2]
  simp

def Tab.isFunc {P : Program} (T : Tab P) (t : TypeId) : Bool :=
  match T.get t with
  | some ⟨.func _ _ _, _, _, _⟩ => true
  | _ => false
theorem isFunc_get {T : Tab P} {t : TypeId} (h : T.isFunc t = true) : ∃ i a b c, T.get t = some i ∧ i.u = .func a b c := by
  unfold Tab.isFunc at h
  split at h
  · exact ⟨_, _, _, _, by assumption, rfl⟩
  · cases h

theorem equalIn_nilFn {t : TypeId} {w : World} {a b c} (dd : Nat) (hu : (underlying t).run P w = .ok (.func a b c) w) :
    (Op.equalIn (dd + 1) t .nilFunc .nilFunc).run P w = .ok true w := by
  simp only [Op.equalIn, Sem.run_bind, hu, Result.andThen_ok, Sem.run_pure]
theorem OT.nilFn (T : Tab P) {t t' : TypeId} {x y : Operand} {d : Nat} (ho : o.op = .binOp .eql t x y t') (hd : o.dst = some d) (hN : Nat.blt d N = true)
    (hx : ev ρ x = some .nilFunc) (hy : ev ρ y = some .nilFunc) (ht : T.isFunc t = true) (hK : K ((d, .bool true) :: ρ) m L) : OT P N o ρ D m L Q K := by
  obtain ⟨ti, a, b, c, h1, h2⟩ := isFunc_get ht
  refine OT.run hd hN (fun ac w ha => ⟨w, ?_, ha.st⟩) hK
  have hu := T.run_underlying w h1
  rw [h2] at hu
  have e1 : binOp .eql t .nilFunc .nilFunc = (do pure (.bool (← Op.equalIn (9999 + 1) t .nilFunc .nilFunc)) : Sem Value) := rfl
  have e2 : (eqGuard .eql t x y .nilFunc .nilFunc).run P w = .ok () w := by simp [eqGuard]
  have h := equalIn_nilFn (P := P) 9999 hu
  simp only [execOp, ho, ha.env.eval hx, ha.env.eval hy, Sem.run_bind, e2, Result.andThen_ok, e1, h, Sem.run_pure]


/-- a result that lies in a cell -/
theorem retQ_ret_c1 (T : Tab P) (i : Nat) {fn : Func} {R : Value → Mem → List Item → Prop} {X : List PanicEntry → Mem → List Item → Prop} {t : Nat} {ty : TypeId} {b : Nat} {cs : List Value} {v : Value} {L' : List Item}
    (hres : fn.results = ⟨[.cell t ty]⟩) (ht : look ρ t = some (.pointer (some ⟨b, 0, none⟩))) (hi : L[i]? = some (.cells b 0 cs)) (hv : T.load ty cs 0 = some v) (hs : L'.Sublist L)
    (h : R v m L') : retQ P fn R X .ret ρ [] m L := by
  refine ⟨rfl, _, L', fun a w hA hst => ?_, hs, h⟩
  have h1 := run_loadVar (P := P) T (k := 0) (hst.cells hi) hv
  have h2 := hA t _ ht
  unfold results
  rw [hres, Array.mapM_eq_mapM_toList]
  simp [Sem.run_bind, Sem.run_map, h2, asAddr, h1]
end

/-! short names of the rules that are tried in turn -/
abbrev q1 := @TC.seq
abbrev q2 := @TC.block
abbrev q3 := @TC.region
abbrev q4 := @TO.pureP
abbrev q5 := @TO.nil
abbrev q6 := @thenQ_n
abbrev q7 := @blockQ_n
abbrev q8 := @thenQ_r
abbrev q9 := @blockQ_r
abbrev q10 := @thenQ_x
abbrev q11 := @blockQ_hit
abbrev q12 := @blockQ_miss
abbrev q13 := @TC.skip
abbrev q14 := @TC.exit
abbrev q15 := @TC.ret
abbrev q16 := @TC.cond_t
abbrev q17 := @TC.cond_f
abbrev qs := @TO.step
abbrev ql := @OT.loadL
abbrev qz := @OT.loadL0
end Go.Sep

/-
  Maps that are only read.
-/
set_option linter.unusedVariables false
set_option linter.unusedSimpArgs false
namespace Go.Sep
variable {κ : Type} [DecidableEq κ]
section
variable {P : Program} {N : Nat} {ρ : Env} {D : List Deferred} {m : Mem} {L : List Item} {Q : EPost} {o : Oper} {full : List Oper} {K : Env → Mem → List Item → Prop}
theorem TO.freezeO {l : List Oper} {b : Nat} {x : Obj} (h : ∀ m', m ≤ m' → m'.o b = some x → TO P N ⟨full⟩ l ρ D m' L Q) : TO P N ⟨full⟩ l ρ D m (.obj b x :: L) Q := by
  intro a w ha
  obtain ⟨h1, h2, h3⟩ := ha.st.freezeObj
  exact h _ h1 h2 a w ⟨ha.size, ha.env, ha.defers, h3⟩
theorem TC.freezeO {c : Code} {b : Nat} {x : Obj} (h : ∀ m', m ≤ m' → m'.o b = some x → TC P N c ρ D m' L Q) : TC P N c ρ D m (.obj b x :: L) Q := by
  intro a w ha
  obtain ⟨h1, h2, h3⟩ := ha.st.freezeObj
  exact h _ h1 h2 a w ⟨ha.size, ha.env, ha.defers, h3⟩
/-- v, ok := m[k] -/
theorem OT.lookupOkP (T : Tab P) (k : KeyK κ) {t kt vt : TypeId} {mp ky : Operand} {b c d : Nat} {es : Ents κ} (x : κ) {zi : TI} (ho : o.op = .lookup t mp ky true) (hd : o.dst = some d) (hN : Nat.blt d N = true)
    (hm : ev ρ mp = some (.map (some b))) (hk : ev ρ ky = some (k.v x)) (ht : T.mapT k t = some (kt, vt)) (hz : T.get vt = some zi) (hi : m.o b = some (mapO k es c))
    (hK : K ((d, .tuple ⟨[(mget es x).getD zi.zero, .bool (mhas es x)]⟩) :: ρ) m L) : OT P N o ρ D m L Q K := by
  refine OT.run hd hN (fun a w ha => ⟨w, ?_, ha.st⟩) hK
  obtain ⟨ti, ki, h1, h2, h3, h4⟩ := mapT_get ht
  have hu := T.run_underlying w h1
  rw [h2] at hu
  have huk := T.run_underlying w h3
  have hobj : w.heap[b]? = some (mapO k es c) := (ha.st.o _ _ hi).1
  have hck := fun e => k.check P w e kt ki.u x h4 huk
  have hfk := run_findKey (P := P) k h4 huk x es
  have hzv := T.run_zero w hz
  simp only [execOp, ho, ha.env.eval hm, ha.env.eval hk, Sem.run_bind, Instr.lookup, hu, Result.andThen_ok, run_getObj hobj rfl, mapO, Sem.run_pure, hck, hfk]
  by_cases hh : mhas es x = true
  · have hg : ∃ v, mget es x = some v := by
      have hx : ∃ e ∈ es, decide (e.1 = x) = true := by simpa [mhas, List.any_eq_true] using hh
      obtain ⟨e, he, hx⟩ := hx
      cases hf : es.find? (fun e => decide (e.1 = x)) with
      | none => exact absurd hx (by simpa using List.find?_eq_none.1 hf e he)
      | some u => exact ⟨u.2.1, by simp [mget, hf]⟩
    obtain ⟨v, hv⟩ := hg
    simp [hh, hv]
  · have hf : mhas es x = false := by simpa using hh
    have hv : mget es x = none := by
      have : es.find? (fun e => decide (e.1 = x)) = none := List.find?_eq_none.2 fun e he hx => by
        rw [mhas, List.any_eq_false] at hf
        exact hf e he hx
      simp [mget, this]
    simp [hf, hv, hzv]

/-- v := m[k] -/
theorem OT.lookupP (T : Tab P) (k : KeyK κ) {t kt vt : TypeId} {mp ky : Operand} {b c d : Nat} {es : Ents κ} (x : κ) {zi : TI} (ho : o.op = .lookup t mp ky false) (hd : o.dst = some d) (hN : Nat.blt d N = true)
    (hm : ev ρ mp = some (.map (some b))) (hk : ev ρ ky = some (k.v x)) (ht : T.mapT k t = some (kt, vt)) (hz : T.get vt = some zi) (hi : m.o b = some (mapO k es c))
    (hK : K ((d, (mget es x).getD zi.zero) :: ρ) m L) : OT P N o ρ D m L Q K := by
  refine OT.run hd hN (fun a w ha => ⟨w, ?_, ha.st⟩) hK
  obtain ⟨ti, ki, h1, h2, h3, h4⟩ := mapT_get ht
  have hu := T.run_underlying w h1
  rw [h2] at hu
  have huk := T.run_underlying w h3
  have hobj : w.heap[b]? = some (mapO k es c) := (ha.st.o _ _ hi).1
  have hck := fun e => k.check P w e kt ki.u x h4 huk
  have hfk := run_findKey (P := P) k h4 huk x es
  have hzv := T.run_zero w hz
  simp only [execOp, ho, ha.env.eval hm, ha.env.eval hk, Sem.run_bind, Instr.lookup, hu, Result.andThen_ok, run_getObj hobj rfl, mapO, Sem.run_pure, hck, hfk]
  by_cases hh : mhas es x = true
  · have hg : ∃ v, mget es x = some v := by
      have hx : ∃ e ∈ es, decide (e.1 = x) = true := by simpa [mhas, List.any_eq_true] using hh
      obtain ⟨e, he, hx⟩ := hx
      cases hf : es.find? (fun e => decide (e.1 = x)) with
      | none => exact absurd hx (by simpa using List.find?_eq_none.1 hf e he)
      | some u => exact ⟨u.2.1, by simp [mget, hf]⟩
    obtain ⟨v, hv⟩ := hg
    simp [hh, hv]
  · have hf : mhas es x = false := by simpa using hh
    have hv : mget es x = none := by
      have : es.find? (fun e => decide (e.1 = x)) = none := List.find?_eq_none.2 fun e he hx => by
        rw [mhas, List.any_eq_false] at hf
        exact hf e he hx
      simp [mget, this]
    simp [hf, hv, hzv]

theorem OT.mapLenP (T : Tab P) (k : KeyK κ) {t kt vt : TypeId} {mp : Operand} {b c d : Nat} {es : Ents κ} (ho : o.op = .call ⟨.builtin .len, ⟨[mp]⟩, ⟨[t]⟩⟩) (hd : o.dst = some d) (hN : Nat.blt d N = true)
    (hm : ev ρ mp = some (.map (some b))) (ht : T.mapT k t = some (kt, vt)) (hi : m.o b = some (mapO k es c))
    (hK : K ((d, .int .i64 (es.length : Int)) :: ρ) m L) : OT P N o ρ D m L Q K := by
  refine OT.run hd hN (fun a w ha => ⟨w, ?_, ha.st⟩) hK
  obtain ⟨ti, ki, h1, h2, h3, h4⟩ := mapT_get ht
  have hu := T.run_underlying w h1
  rw [h2] at hu
  have hobj : w.heap[b]? = some (mapO k es c) := (ha.st.o _ _ hi).1
  simp only [execOp, ho, resolve, Sem.run_bind, Sem.run_pure, Result.andThen_ok, invoke, builtin, List.map_toArray, List.map_cons, List.map_nil, ha.env.eval hm, Builtin.len_]
  simp [hu, run_getObj hobj rfl, mapO, ha.env.eval hm, goInt]


theorem equalIn_mapSome {t a b : TypeId} {w : World} (dd r : Nat) (hu : (underlying t).run P w = .ok (.map a b) w) :
    (Op.equalIn (dd + 1) t (.map (some r)) (.map none)).run P w = .ok false w := by
  simp only [Op.equalIn, Sem.run_bind, hu, Result.andThen_ok, Sem.run_pure]
theorem equalIn_mapNone {t a b : TypeId} {w : World} (dd : Nat) (hu : (underlying t).run P w = .ok (.map a b) w) :
    (Op.equalIn (dd + 1) t (.map none) (.map none)).run P w = .ok true w := by
  simp only [Op.equalIn, Sem.run_bind, hu, Result.andThen_ok, Sem.run_pure]
  rfl

/-- a map is not nil; nil is -/
theorem OT.mapNe (T : Tab P) (k : KeyK κ) {t t' kt vt : TypeId} {x y : Operand} {r : Option Nat} {d : Nat} (ho : o.op = .binOp .neq t x y t') (hd : o.dst = some d) (hN : Nat.blt d N = true)
    (hx : ev ρ x = some (.map r)) (hy : ev ρ y = some (.map none)) (ht : T.mapT k t = some (kt, vt)) (hK : K ((d, .bool r.isSome) :: ρ) m L) : OT P N o ρ D m L Q K := by
  obtain ⟨ti, ki, h1, h2, h3, h4⟩ := mapT_get ht
  refine OT.run hd hN (fun ac w ha => ⟨w, ?_, ha.st⟩) hK
  have hu := T.run_underlying w h1
  rw [h2] at hu
  have e1 : ∀ z, binOp .neq t (.map z) (.map none) = (do pure (.bool (!(← Op.equalIn (9999 + 1) t (.map z) (.map none)))) : Sem Value) := fun _ => rfl
  have e2 : (eqGuard .neq t x y (.map r) (.map none)).run P w = .ok () w := by simp [eqGuard]
  cases r with
  | none =>
    have h := equalIn_mapNone (P := P) 9999 hu
    simp only [execOp, ho, ha.env.eval hx, ha.env.eval hy, Sem.run_bind, e2, Result.andThen_ok, e1, h, Sem.run_pure]; rfl
  | some r =>
    have h := equalIn_mapSome (P := P) 9999 r hu
    simp only [execOp, ho, ha.env.eval hx, ha.env.eval hy, Sem.run_bind, e2, Result.andThen_ok, e1, h, Sem.run_pure]; rfl
theorem OT.mapEq (T : Tab P) (k : KeyK κ) {t t' kt vt : TypeId} {x y : Operand} {r : Option Nat} {d : Nat} (ho : o.op = .binOp .eql t x y t') (hd : o.dst = some d) (hN : Nat.blt d N = true)
    (hx : ev ρ x = some (.map r)) (hy : ev ρ y = some (.map none)) (ht : T.mapT k t = some (kt, vt)) (hK : K ((d, .bool r.isNone) :: ρ) m L) : OT P N o ρ D m L Q K := by
  obtain ⟨ti, ki, h1, h2, h3, h4⟩ := mapT_get ht
  refine OT.run hd hN (fun ac w ha => ⟨w, ?_, ha.st⟩) hK
  have hu := T.run_underlying w h1
  rw [h2] at hu
  have e1 : ∀ z, binOp .eql t (.map z) (.map none) = (do pure (.bool (← Op.equalIn (9999 + 1) t (.map z) (.map none))) : Sem Value) := fun _ => rfl
  have e2 : (eqGuard .eql t x y (.map r) (.map none)).run P w = .ok () w := by simp [eqGuard]
  cases r with
  | none =>
    have h := equalIn_mapNone (P := P) 9999 hu
    simp only [execOp, ho, ha.env.eval hx, ha.env.eval hy, Sem.run_bind, e2, Result.andThen_ok, e1, h, Sem.run_pure]; rfl
  | some r =>
    have h := equalIn_mapSome (P := P) 9999 r hu
    simp only [execOp, ho, ha.env.eval hx, ha.env.eval hy, Sem.run_bind, e2, Result.andThen_ok, e1, h, Sem.run_pure]; rfl
end
end Go.Sep

/-
  Comparisons of bools.
-/
set_option linter.unusedVariables false
set_option linter.unusedSimpArgs false
namespace Go.Sep
section
variable {P : Program} {N : Nat} {ρ : Env} {D : List Deferred} {m : Mem} {L : List Item} {Q : EPost} {o : Oper} {full : List Oper} {K : Env → Mem → List Item → Prop}
def Tab.isBool {P : Program} (T : Tab P) (t : TypeId) : Bool :=
  match T.get t with
  | some ⟨.bool, _, _, _⟩ => true
  | _ => false
theorem isBool_get {T : Tab P} {t : TypeId} (h : T.isBool t = true) : ∃ i, T.get t = some i ∧ i.u = .bool := by
  unfold Tab.isBool at h
  split at h
  · exact ⟨_, by assumption, rfl⟩
  · cases h
theorem equalIn_bool {t : TypeId} {w : World} (dd : Nat) (a b : Bool) (hu : (underlying t).run P w = .ok .bool w) :
    (Op.equalIn (dd + 1) t (.bool a) (.bool b)).run P w = .ok (a == b) w := by
  simp only [Op.equalIn, Sem.run_bind, hu, Result.andThen_ok, Sem.run_pure]
/-- a == b, a != b of bools -/
theorem OT.eqBool (T : Tab P) {t t' : TypeId} {x y : Operand} {a b : Bool} {d : Nat} (ho : o.op = .binOp .eql t x y t') (hd : o.dst = some d) (hN : Nat.blt d N = true)
    (hx : ev ρ x = some (.bool a)) (hy : ev ρ y = some (.bool b)) (ht : T.isBool t = true) (hK : K ((d, .bool (a == b)) :: ρ) m L) : OT P N o ρ D m L Q K := by
  obtain ⟨ti, h1, h2⟩ := isBool_get ht
  refine OT.run hd hN (fun ac w ha => ⟨w, ?_, ha.st⟩) hK
  have hu := T.run_underlying w h1
  rw [h2] at hu
  have e1 : binOp .eql t (.bool a) (.bool b) = (do pure (.bool (← Op.equalIn (9999 + 1) t (.bool a) (.bool b))) : Sem Value) := rfl
  have e2 : (eqGuard .eql t x y (.bool a) (.bool b)).run P w = .ok () w := by simp [eqGuard]
  have h := equalIn_bool (P := P) 9999 a b hu
  simp only [execOp, ho, ha.env.eval hx, ha.env.eval hy, Sem.run_bind, e2, Result.andThen_ok, e1, h, Sem.run_pure]
theorem OT.neqBool (T : Tab P) {t t' : TypeId} {x y : Operand} {a b : Bool} {d : Nat} (ho : o.op = .binOp .neq t x y t') (hd : o.dst = some d) (hN : Nat.blt d N = true)
    (hx : ev ρ x = some (.bool a)) (hy : ev ρ y = some (.bool b)) (ht : T.isBool t = true) (hK : K ((d, .bool (!(a == b))) :: ρ) m L) : OT P N o ρ D m L Q K := by
  obtain ⟨ti, h1, h2⟩ := isBool_get ht
  refine OT.run hd hN (fun ac w ha => ⟨w, ?_, ha.st⟩) hK
  have hu := T.run_underlying w h1
  rw [h2] at hu
  have e1 : binOp .neq t (.bool a) (.bool b) = (do pure (.bool (!(← Op.equalIn (9999 + 1) t (.bool a) (.bool b)))) : Sem Value) := rfl
  have e2 : (eqGuard .neq t x y (.bool a) (.bool b)).run P w = .ok () w := by simp [eqGuard]
  have h := equalIn_bool (P := P) 9999 a b hu
  simp only [execOp, ho, ha.env.eval hx, ha.env.eval hy, Sem.run_bind, e2, Result.andThen_ok, e1, h, Sem.run_pure]
end
end Go.Sep

/-
  Room made ahead of an append; entries of maps.
-/
set_option linter.unusedVariables false
set_option linter.unusedSimpArgs false
namespace Go.Sep
section
variable {P : Program} {N : Nat} {ρ : Env} {D : List Deferred} {m : Mem} {L : List Item} {Q : EPost} {full : List Oper} {o : Oper} {K : Env → Mem → List Item → Prop}
/-- append(s[:0], make(n)...) of the nil slice: room for n -/
theorem OT.growNil (T : Tab P) {x y : Operand} {t t2 e : TypeId} {ei : TI} {kz : IntKind} {z : Nat} {iv : Int} {d : Nat} (hz0 : 0 < z) (hiv : iv = (z : Int))
    (ho : o.op = .call ⟨.builtin .append, ⟨[x, y]⟩, ⟨[t, t2]⟩⟩) (hd : o.dst = some d) (hN : Nat.blt d N = true) (hx : ev ρ x = some (.slice none 0 0)) (hy : ev ρ y = some (.int .i64 iv)) (he : T.elem t = some (e, ei)) (ht2 : T.intK t2 = some kz)
    (hb : Nat.blt 0 ei.bytes = true) {sz : Nat} (hzs : (cellsF ei.zero).map List.length = some sz) (hsz : Nat.beq ei.size sz = true) (hfit : z * ei.bytes ≤ 140737488355328)
    (hK : ∀ b c, z ≤ c → K ((d, .slice (some ⟨b, 0, none⟩) z c) :: ρ) m (.room b 0 (c * sz) :: L)) : OT P N o ρ D m L Q K := by
  obtain ⟨ti, h4, h5, h6⟩ := elem_get he
  obtain ⟨si, s1, s2⟩ := intK_get ht2
  obtain ⟨_, _, hu, _⟩ := T.ok t ti h4
  rw [h5] at hu
  obtain ⟨_, _, hu2, _⟩ := T.ok t2 si s1
  rw [s2] at hu2
  obtain ⟨info, q1, q2, q3, q4, q5⟩ := T.ok e ei h6
  have hbp : 0 < ei.bytes := by simpa [Nat.blt_eq] using hb
  have hs1 : ei.size = sz := Nat.eq_of_beq_eq_true hsz
  subst hs1
  have hbound : z ≤ 140737488355328 := Nat.le_trans (Nat.le_mul_of_pos_right _ hbp) hfit
  have hzc : ei.zero.cells.size = ei.size := by
    cases hc : cellsF ei.zero with
    | none => rw [hc] at hzs; cases hzs
    | some l => rw [hc] at hzs; rw [cellsF_eq hc]; simpa using hzs
  intro ac w ha
  have h48 : ¬ (Builtin.nextslicecap z 0 * ei.bytes > 281474976710656) := by
    have := growslice_fits (need := z) (old := 0) (bytes := ei.bytes) (by omega) hfit
    omega
  obtain ⟨nc, hnc, hge⟩ : ∃ nc, nc = (Question.appendCap z 0 e).cut (w.tape w.drawn (.appendCap z 0 e)) ∧ z ≤ nc := ⟨_, rfl, by simp [Question.cut]⟩
  have hw : iv = ((z : Nat) : Int) := hiv
  have hzb : ¬ ((z : Int) * (ei.bytes : Int) > 281474976710656) := by
    have h2 : ((z : Int) * (ei.bytes : Int)) = ((z * ei.bytes : Nat) : Int) := by simp
    rw [h2]; omega
  have hwrap : IntKind.i64.wrap (z : Int) = (z : Int) := wrap64_in (by omega) (by omega)
  have hb0 : ei.bytes ≠ 0 := by omega
  have hmax : ¬ (9223372036854775807 < (z : Int)) := by omega
  have hneg : ¬ ((z : Int) < 0) := by omega
  have hzn : ¬ (z = 0) := by omega
  have hst := ha.st.drew.allocCells (Builtin.zeroCells ei.zero.cells z ++ Builtin.zeroCells ei.zero.cells (nc - z)) e
  have hr : (Builtin.append_ #[t, t2] o.type #[.slice none 0 0, .int .i64 iv]).run P w = .ok (.slice (some ⟨w.heap.size, 0, none⟩) z nc) (w.drew.alloc (.cells (Builtin.zeroCells ei.zero.cells z ++ Builtin.zeroCells ei.zero.cells (nc - z)) e)) := by
    subst hw
    simp [Builtin.append_, run_underlying hu, run_underlying hu2, sizeOf, typeInfo, zeroValue, q1, q3, q4, q5, asInt, asIntOf, hwrap, hneg, hzb, h48, hmax, hzn, Question.forced, newRow, ← hnc, IntKind.max, IntKind.signed, IntKind.bits, hb0, Builtin.firstCells, Builtin.lenOf]
    intro h0
    have : Builtin.zeroCells ei.zero.cells z = #[] := Array.eq_empty_of_size_eq_zero (by rw [size_zeroCells, hzc]; exact h0)
    rw [this, Array.empty_append]
  have he' : (execOp ac.eval o).run P w = .ok (.value (.slice (some ⟨w.heap.size, 0, none⟩) z nc)) (w.drew.alloc (.cells (Builtin.zeroCells ei.zero.cells z ++ Builtin.zeroCells ei.zero.cells (nc - z)) e)) := by
    simp only [execOp, ho, resolve, invoke, builtin, Sem.run_bind, Sem.run_pure, Result.andThen_ok, List.map_toArray, List.map_cons, List.map_nil, ha.env.eval hx, ha.env.eval hy, hr]
  simp only [Oper.wp, he', Oper.upon, hd]
  have hp := ha.put hN (.slice (some ⟨w.heap.size, 0, none⟩) z nc)
  have hk := hK w.heap.size nc hge
  have hlen : (Builtin.zeroCells ei.zero.cells z ++ Builtin.zeroCells ei.zero.cells (nc - z)).toList.length = nc * ei.size := by
    rw [Array.length_toList, Array.size_append, size_zeroCells, size_zeroCells, hzc, ← Nat.add_mul]
    congr 1; omega
  have hst' := hst.toRoom
  rw [hlen] at hst'
  exact ⟨_, _, _, ⟨hp.size, hp.env, hp.defers, hst'⟩, hk⟩
/-- what is computed, said otherwise -/
theorem OT.pureC (T : Tab P) {d : Nat} {v v' : Value} (hd : o.dst = some d) (hN : Nat.blt d N = true) (he : evalOp T ρ o.op = some v) (hv : v = v') (hK : K ((d, v') :: ρ) m L) : OT P N o ρ D m L Q K := by
  subst hv
  exact OT.run hd hN (fun a w ha => ⟨w, evalOp_run T ha.env he w, ha.st⟩) hK
end
/-! entries -/
section
variable {κ : Type} [DecidableEq κ]
theorem any_find {α : Type} (l : List α) (p : α → Bool) : l.any p = (l.find? p).isSome := by
  rw [Bool.eq_iff_iff, List.any_eq_true, List.find?_isSome]
theorem findIdx_spec {es : Ents κ} {x : κ} (h : mhas es x = true) : ∃ e, es[es.findIdx fun e => decide (e.1 = x)]? = some e ∧ e.1 = x := by
  have hl : (es.findIdx fun e => decide (e.1 = x)) < es.length := List.findIdx_lt_length.2 (by simpa [mhas, List.any_eq_true] using h)
  refine ⟨es[es.findIdx fun e => decide (e.1 = x)], by simp, ?_⟩
  have := List.findIdx_getElem (xs := es) (p := fun e => decide (e.1 = x)) (w := hl)
  simpa using this
theorem mset_hit {es : Ents κ} {x : κ} (h : mhas es x = true) (v : Value) (c : Nat) : mset es x v c = es.modify (es.findIdx fun e => decide (e.1 = x)) (fun e => (e.1, v, e.2.2)) := by
  simp [mset, h]
theorem mset_miss {es : Ents κ} {x : κ} (h : mhas es x = false) (v : Value) (c : Nat) : mset es x v c = es ++ [(x, v, c)] := by
  simp [mset, h]
theorem find_modify (y : κ) (v : Value) (x : κ) : ∀ (es : Ents κ), mhas es x = true → mget (es.modify (es.findIdx fun e => decide (e.1 = x)) (fun e => (e.1, v, e.2.2))) y = if x = y then some v else mget es y
  | [], h => by simp [mhas] at h
  | e :: r, h => by
    by_cases he : e.1 = x
    · have h0 : ((e :: r).findIdx fun e => decide (e.1 = x)) = 0 := by simp [List.findIdx_cons, he]
      rw [h0]
      by_cases hy : x = y
      · subst hy; simp [mget, he]
      · have hy' : ¬ e.1 = y := fun q => hy (he.symm.trans q)
        simp [mget, List.find?_cons, hy, hy']
    · have h0 : ((e :: r).findIdx fun e => decide (e.1 = x)) = (r.findIdx fun e => decide (e.1 = x)) + 1 := by simp [List.findIdx_cons, he]
      have hr : mhas r x = true := by simpa [mhas, he] using h
      have ih := find_modify y v x r hr
      rw [h0]
      by_cases hy : e.1 = y
      · have hy' : ¬ x = y := fun q => he (hy.trans q.symm)
        simp [mget, List.find?_cons, hy, hy']
      · have e1 : mget (e :: r) y = mget r y := by simp [mget, List.find?_cons, hy]
        have e2 : ∀ r' : Ents κ, mget (e :: r') y = mget r' y := fun r' => by simp [mget, List.find?_cons, hy]
        rw [List.modify_succ_cons, e2, e1, ih]
theorem mget_mset {es : Ents κ} (x : κ) (v : Value) (c : Nat) (y : κ) : mget (mset es x v c) y = if x = y then some v else mget es y := by
  by_cases h : mhas es x = true
  · rw [mset_hit h]
    exact find_modify y v x es h
  · have hf : mhas es x = false := by simpa using h
    rw [mset_miss hf]
    by_cases hy : x = y
    · subst hy
      have : es.find? (fun e => decide (e.1 = x)) = none := List.find?_eq_none.2 fun e he hx => by
        rw [mhas, List.any_eq_false] at hf
        exact hf e he hx
      simp [mget, List.find?_append, this]
    · simp [mget, List.find?_append, hy]
theorem mhas_mget {es : Ents κ} (x : κ) : mhas es x = (mget es x).isSome := by
  rw [mget, Option.isSome_map, mhas, any_find]
theorem mset_len {es : Ents κ} (x : κ) (v : Value) (c : Nat) : (mset es x v c).length = if mhas es x then es.length else es.length + 1 := by
  by_cases h : mhas es x = true
  · rw [mset_hit h, if_pos h]; simp
  · have hf : mhas es x = false := by simpa using h
    rw [mset_miss hf, if_neg h]; simp
end
end Go.Sep

/-
  Rows of several cells an element that the call owns: a copy is made, elements are overwritten.
-/
set_option linter.unusedVariables false
set_option linter.unusedSimpArgs false
namespace Go.Sep
theorem encs_cons {H α : Type} (r : R H α) (x : H) (xs : List H) : encs r (x :: xs) = r.enc x ++ encs r xs := by simp [encs]
theorem encs_split {H α : Type} (r : R H α) {hs : List H} {k : Nat} {h : H} (hk : hs[k]? = some h) : encs r hs = encs r (hs.take k) ++ (r.enc h ++ encs r (hs.drop (k + 1))) := by
  obtain ⟨hlt, rfl⟩ := List.getElem?_eq_some_iff.1 hk
  rw [← encs_cons, ← encs_append, ← List.drop_eq_getElem_cons hlt, List.take_append_drop]
theorem encs_take_len {H α : Type} (r : R H α) {hs : List H} {k : Nat} {h : H} (hk : hs[k]? = some h) : (encs r (hs.take k)).length = k * r.size := by
  obtain ⟨hlt, _⟩ := List.getElem?_eq_some_iff.1 hk
  rw [encs_len, List.length_take, Nat.min_eq_left (by omega)]
theorem encs_drop {H α : Type} (r : R H α) {hs : List H} {k : Nat} {h : H} (hk : hs[k]? = some h) (j : Nat) : (encs r hs).drop (k * r.size + j) = (r.enc h ++ encs r (hs.drop (k + 1))).drop j := by
  rw [encs_split r hk, ← encs_take_len r hk, List.drop_append, List.drop_of_length_le (by omega), List.nil_append]
  congr 1; omega
theorem encs_set {H α : Type} (r : R H α) {hs : List H} {k : Nat} {h : H} (hk : hs[k]? = some h) (h2 : H) : encs r (hs.set k h2) = encs r (hs.take k) ++ (r.enc h2 ++ encs r (hs.drop (k + 1))) := by
  obtain ⟨hlt, _⟩ := List.getElem?_eq_some_iff.1 hk
  have hk2 : (hs.set k h2)[k]? = some h2 := by simp [hlt]
  rw [encs_split r hk2, List.take_set, List.drop_set_of_lt (by omega)]
  congr 2
  exact List.set_eq_of_length_le (by simp; omega)
theorem load_drop {P : Program} (T : Tab P) {t : TypeId} {cs cs2 : List Value} {k j : Nat} (h : cs.drop k = cs2.drop j) : T.load t cs k = T.load t cs2 j := by
  have hg : cs[k]? = cs2[j]? := by
    have := congrArg List.head? h
    simpa using this
  unfold Tab.load
  rw [h, hg]
/-- a part of an element of an owned row -/
theorem load_encs {P : Program} (T : Tab P) {H α : Type} (r : R H α) {t : TypeId} {hs : List H} {k j : Nat} {h : H} {v : Value} (hk : hs[k]? = some h) (hv : ∀ rest, T.load t (r.enc h ++ rest) j = some v) : T.load t (encs r hs) (k * r.size + j) = some v := by
  rw [load_drop T (encs_drop r hk j)]
  exact hv _
theorem putAt_right : ∀ (cs a b : List Value) (j : Nat), putAt (a ++ b) (a.length + j) cs = a ++ putAt b j cs
  | [], a, b, j => rfl
  | c :: cs, a, b, j => by
    rw [putAt, putAt, List.set_append_right _ _ (by omega), Nat.add_sub_cancel_left, Nat.add_assoc]
    exact putAt_right cs a (b.set j c) (j + 1)
theorem putAt_encs {H α : Type} (r : R H α) {hs : List H} {k j : Nat} {h h2 : H} {cs : List Value} (hk : hs[k]? = some h) (hp : ∀ rest, putAt (r.enc h ++ rest) j cs = r.enc h2 ++ rest) : putAt (encs r hs) (k * r.size + j) cs = encs r (hs.set k h2) := by
  rw [encs_split r hk, encs_set r hk, ← encs_take_len r hk, putAt_right, hp]
theorem All2.set' {H α : Type} {r : H → α → Prop} : ∀ {hs : List H} {l : List α} (k : Nat) {h : H} {a : α}, All2 r hs l → l[k]? = some a → r h a → All2 r (hs.set k h) l
  | [], [], k, h, a, _, hk, _ => by simp at hk
  | x :: xs, y :: ys, 0, h, a, hh, hk, hr => by simp at hk; subst hk; exact ⟨hr, hh.2⟩
  | x :: xs, y :: ys, k + 1, h, a, hh, hk, hr => ⟨hh.1, All2.set' k hh.2 (by simpa using hk) hr⟩
  | [], _ :: _, _, _, _, hh, _, _ => hh.elim
  | _ :: _, [], _, _, _, hh, _, _ => hh.elim
section
variable {P : Program} {N : Nat} {ρ : Env} {D : List Deferred} {m : Mem} {L : List Item} {Q : EPost} {full : List Oper} {o : Oper} {K : Env → Mem → List Item → Prop}
/-- append([]T{}, s...), s not empty: the copy's cells are one's own -/
theorem OT.cloneOwn {H α : Type} (T : Tab P) (r : R H α) {s2 : Sl} {l : List α} {a0 : Option Addr} {x y : Operand} {t t2 : TypeId} {d : Nat} (hs2 : SlRep r m s2 l) (hpos : 0 < s2.len)
    (ho : o.op = .call ⟨.builtin .append, ⟨[x, y]⟩, ⟨[t, t2]⟩⟩) (hd : o.dst = some d) (hN : Nat.blt d N = true) (hx : ev ρ x = some (.slice a0 0 0)) (hy : ev ρ y = some s2.v) (hT : T.okElem t t2 r.size r.bytes = true)
    (hK : ∀ hs b c, All2 (r.rep m) hs l → s2.len ≤ c → K ((d, .slice (some ⟨b, 0, none⟩) s2.len c) :: ρ) m (.cells b 0 (encs r hs) :: L)) : OT P N o ρ D m L Q K := by
  obtain ⟨e, e2, ei, ei2, q1, q2, q3, q4, q5, q6⟩ := okElem_get hT
  intro a w ha
  obtain ⟨hl2, k1, k2, k3, k4⟩ := hs2.src ha.st
  have hbp : 0 < ei.bytes := by omega
  have hfit := hs2.fit
  rw [← q4] at hfit
  obtain ⟨ti, h4, h5, h6⟩ := elem_get q1
  obtain ⟨ti2, p4, p5, p6⟩ := elem_get q2
  obtain ⟨_, _, hu, _⟩ := T.ok t ti h4
  rw [h5] at hu
  obtain ⟨_, _, hu2, _⟩ := T.ok t2 ti2 p4
  rw [p5] at hu2
  obtain ⟨info, r1, r2, r3, r4, r5⟩ := T.ok e ei h6
  have hbound : s2.len ≤ 140737488355328 := Nat.le_trans (Nat.le_mul_of_pos_right _ hbp) hfit
  have h48 : ¬ (Builtin.nextslicecap s2.len 0 * ei.bytes > 281474976710656) := by
    have := growslice_fits (need := s2.len) (old := 0) (bytes := ei.bytes) (by omega) hfit
    omega
  have hnew' := run_first (P := P) (k2.drew)
  have hold := run_first (P := P) (w := w.drew) (s := ⟨a0, 0, 0⟩) (size := ei.size) (news := []) ⟨by simp, .inl rfl⟩
  rw [← q3] at hnew'
  obtain ⟨nc, hnc, hge⟩ : ∃ nc, nc = (Question.appendCap s2.len 0 e).cut (w.tape w.drawn (.appendCap s2.len 0 e)) ∧ s2.len ≤ nc := ⟨_, rfl, by simp [Question.cut]⟩
  have hst := ha.st.drew.allocCells ((⟨encs r hl2⟩ : Array Value) ++ Builtin.zeroCells ei.zero.cells (nc - s2.len)) e
  have hl1 : ((⟨encs r hl2⟩ : Array Value) ++ Builtin.zeroCells ei.zero.cells (nc - s2.len)).toList = encs r hl2 ++ (Builtin.zeroCells ei.zero.cells (nc - s2.len)).toList := by simp
  rw [hl1] at hst
  have hst2 := hst.split.sub (L' := .cells w.drew.heap.size 0 (encs r hl2) :: L) (List.Sublist.cons_cons _ (List.sublist_cons_self _ _))
  have hb0 : ei.bytes ≠ 0 := by omega
  have hmax : ¬ (9223372036854775807 < (s2.len : Int)) := by omega
  have hne : ¬ (s2.len = 0) := by omega
  have hr : (Builtin.append_ #[t, t2] o.type #[.slice a0 0 0, s2.v]).run P w = .ok (.slice (some ⟨w.heap.size, 0, none⟩) s2.len nc) (w.drew.alloc (.cells ((⟨encs r hl2⟩ : Array Value) ++ Builtin.zeroCells ei.zero.cells (nc - s2.len)) e)) := by
    simp only [Sl.v] at hnew' hold
    simp [Builtin.append_, run_underlying hu, run_underlying hu2, sizeOf, typeInfo, zeroValue, r1, r3, r4, r5, Builtin.lenOf, hne, hnew', hold, h48, hmax, Question.forced, newRow, ← hnc, IntKind.max, IntKind.signed, IntKind.bits, hb0]
  have he' : (execOp a.eval o).run P w = .ok (.value (.slice (some ⟨w.heap.size, 0, none⟩) s2.len nc)) (w.drew.alloc (.cells ((⟨encs r hl2⟩ : Array Value) ++ Builtin.zeroCells ei.zero.cells (nc - s2.len)) e)) := by
    simp only [execOp, ho, resolve, invoke, builtin, Sem.run_bind, Sem.run_pure, Result.andThen_ok, List.map_toArray, List.map_cons, List.map_nil, ha.env.eval hx, ha.env.eval hy, hr]
  simp only [Oper.wp, he', Oper.upon, hd]
  have hp := ha.put hN (.slice (some ⟨w.heap.size, 0, none⟩) s2.len nc)
  exact ⟨_, _, _, ⟨hp.size, hp.env, hp.defers, hst2⟩, hK hl2 w.heap.size nc k1 hge⟩
/-- an element's part, of a row that the call owns -/
theorem OT.loadE {H α : Type} (T : Tab P) (i : Nat) (r : R H α) {hs : List H} {k j q : Nat} {h : H} {v : Value} {x : Operand} {t : TypeId} {b d : Nat} (hk : hs[k]? = some h) (hq : q = k * r.size + j) (hv : ∀ rest, T.load t (r.enc h ++ rest) j = some v) (ho : o.op = .load t x) (hd : o.dst = some d) (hN : Nat.blt d N = true)
    (hx : ev ρ x = some (.pointer (some ⟨b, q, none⟩))) (hi : L[i]? = some (.cells b 0 (encs r hs))) (hK : K ((d, v) :: ρ) m L) : OT P N o ρ D m L Q K := by
  subst hq
  exact OT.loadL (off := 0) (k := k * r.size + j) T i ho hd hN (by rw [Nat.zero_add]; exact hx) hi (load_encs T r hk hv) hK
theorem OT.storeE {H α : Type} (T : Tab P) (i : Nat) (r : R H α) {hs : List H} {k j q : Nat} {h h2 : H} {v : Value} {cs : List Value} {x y : Operand} {t : TypeId} {b : Nat} (hk : hs[k]? = some h) (hq : q = k * r.size + j) (hp : ∀ rest, putAt (r.enc h ++ rest) j cs = r.enc h2 ++ rest) (hj : j + cs.length ≤ r.size) (ho : o.op = .store t x y) (hd : o.dst = none)
    (hx : ev ρ x = some (.pointer (some ⟨b, q, none⟩))) (hy : ev ρ y = some v) (hv : cellsF v = some cs) (hs' : T.sizeOk t cs = true) (hi : L[i]? = some (.cells b 0 (encs r hs))) (hK : K ρ m (L.set i (.cells b 0 (encs r (hs.set k h2))))) : OT P N o ρ D m L Q K := by
  subst hq
  have hl := (List.getElem?_eq_some_iff.1 hk).1
  have hkl : (k + 1) * r.size ≤ hs.length * r.size := Nat.mul_le_mul_right _ hl
  refine OT.storeG (off := 0) (k := k * r.size + j) T i ho hd (by rw [Nat.zero_add]; exact hx) hy hv hs' hi (by rw [encs_len]; rw [Nat.add_mul] at hkl; omega) ?_
  rw [putAt_encs r hk hp]
  exact hK
end
end Go.Sep
