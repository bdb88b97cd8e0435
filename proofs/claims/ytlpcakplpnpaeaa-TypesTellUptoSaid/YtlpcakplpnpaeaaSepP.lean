/-
  Slices of maps; a queue whose first element goes.
-/
import Derived.Test.YtlpcakplpnpaeaaSepO
set_option linter.unusedVariables false
set_option linter.unusedSimpArgs false
namespace Go.Sep

/-- a map variable: nil, or a map with its keys (the values have no size) -/
abbrev MapH := Option (Nat × Ents Int × Nat)
def mv : MapH → Value
  | none => .map none
  | some (b, _, _) => .map (some b)
def mitem : MapH → Item
  | none => .room 0 0 0
  | some (b, es, c) => .obj b (mapO kInt es c)
def mkeys : MapH → List Int
  | none => []
  | some (_, es, _) => es.map (·.1)
def mtoks (ws : List MapH) : List Item := ws.map mitem

theorem mtoks_out {ws : List MapH} {k : Nat} {x : MapH} (L : List Item) (h : ws[k]? = some x) : (mtoks ws ++ L).Perm (mitem x :: (mtoks (ws.eraseIdx k) ++ L)) := by
  have h1 : (mtoks ws)[k]? = some (mitem x) := map_get _ h
  have h2 := perm_at h1
  have e : (mtoks ws).eraseIdx k = mtoks (ws.eraseIdx k) := eraseIdx_map' _ _ _
  rw [e] at h2
  exact h2.append_right L
theorem mtoks_in {ws : List MapH} {k : Nat} {x : MapH} (L : List Item) (h : k < ws.length) : (mitem x :: (mtoks (ws.eraseIdx k) ++ L)).Perm (mtoks (ws.set k x) ++ L) := by
  have h2 := perm_back (L := mtoks ws) (i := k) (by simpa [mtoks] using h) (mitem x)
  have e : (mtoks ws).eraseIdx k = mtoks (ws.eraseIdx k) := eraseIdx_map' _ _ _
  have e2 : (mtoks ws).set k (mitem x) = mtoks (ws.set k x) := by simp [mtoks, List.map_set]
  rw [e, e2] at h2
  exact h2.append_right L
theorem mtoks_same {ws : List MapH} {k : Nat} {x : MapH} (L : List Item) (h : ws[k]? = some x) : (mitem x :: (mtoks (ws.eraseIdx k) ++ L)).Perm (mtoks ws ++ L) := (mtoks_out L h).symm

theorem St.mtoks0 {m : Mem} {w : World} {L : List Item} (h : St m w L) (n : Nat) : St m w (mtoks (List.replicate n none) ++ L) := by
  induction n with
  | zero => exact h
  | succ n ih => exact ih.room0 0 0

theorem mhas_keys {es : Ents Int} {x : Int} : mhas es x = decide (x ∈ es.map (·.1)) := by
  induction es with
  | nil => rfl
  | cons e es ih =>
    simp only [mhas, List.any_cons, List.map_cons, List.mem_cons] at ih ⊢
    rw [ih]
    by_cases h : e.1 = x
    · simp [h]
    · simp [h, Ne.symm h]
theorem mset_keys {es : Ents Int} {x : Int} (v : Value) (c : Nat) (h : x ∉ es.map (·.1)) : (mset es x v c).map (·.1) = es.map (·.1) ++ [x] := by
  unfold mset
  have : mhas es x = false := by rw [mhas_keys]; simpa using h
  simp [this]
theorem mdel_keys : ∀ {es : Ents Int} {x : Int}, (es.map (·.1)).Nodup → (mdel es x).map (·.1) = (es.map (·.1)).filter fun y => decide (y ≠ x)
  | [], x, _ => rfl
  | e :: es, x, h => by
    simp only [List.map_cons, List.nodup_cons] at h
    unfold mdel
    by_cases hx : e.1 = x
    · subst hx
      simp only [List.findIdx_cons, decide_true, cond_true, List.eraseIdx_cons_zero, List.map_cons, List.filter_cons, ne_eq, not_true_eq_false, decide_false, Bool.false_eq_true, if_false]
      rw [List.filter_eq_self.2]
      intro y hy
      simp only [ne_eq, decide_eq_true_eq]
      exact fun e => h.1 (e ▸ hy)
    · have ih := mdel_keys (x := x) h.2
      unfold mdel at ih
      simp only [List.findIdx_cons, hx, decide_false, cond_false, List.eraseIdx_cons_succ, List.map_cons, List.filter_cons, ne_eq, not_false_eq_true, decide_true, if_true]
      rw [ih]

section
variable {P : Program} {N : Nat} {ρ : Env} {D : List Deferred} {m : Mem} {L : List Item} {Q : EPost} {full : List Oper} {o : Oper} {K : Env → Mem → List Item → Prop}
theorem TC.mtoks0 {c : Code} (n : Nat) (h : TC P N c ρ D m (mtoks (List.replicate n none) ++ L) Q) : TC P N c ρ D m L Q := fun a w ha => h a w ⟨ha.size, ha.env, ha.defers, ha.st.mtoks0 n⟩
theorem TO.mtoks0 {l : List Oper} (n : Nat) (h : TO P N ⟨full⟩ l ρ D m (mtoks (List.replicate n none) ++ L) Q) : TO P N ⟨full⟩ l ρ D m L Q := fun a w ha => h a w ⟨ha.size, ha.env, ha.defers, ha.st.mtoks0 n⟩

theorem equalIn_nilMap {t a b : TypeId} {w : World} (dd : Nat) (hu : (underlying t).run P w = .ok (.map a b) w) (h : MapH) :
    (Op.equalIn (dd + 1) t (mv h) (.map none)).run P w = .ok (decide (h = none)) w := by
  rcases h with _ | ⟨b, es, c⟩
  · simp only [mv, Op.equalIn, Sem.run_bind, hu, Result.andThen_ok, Sem.run_pure]; rfl
  · simp only [mv, Op.equalIn, Sem.run_bind, hu, Result.andThen_ok, Sem.run_pure]; rfl

/-- m == nil -/
theorem OT.nilMap (T : Tab P) {t t' kt vt : TypeId} {x y : Operand} {d : Nat} (h : MapH) (ho : o.op = .binOp .eql t x y t') (hd : o.dst = some d) (hN : Nat.blt d N = true)
    (hx : ev ρ x = some (mv h)) (hy : ev ρ y = some (.map none)) (ht : T.mapT kInt t = some (kt, vt)) (hK : K ((d, .bool (decide (h = none))) :: ρ) m L) : OT P N o ρ D m L Q K := by
  obtain ⟨ti, ki, h1, h2, h3, h4⟩ := mapT_get ht
  refine OT.run hd hN (fun a w ha => ⟨w, ?_, ha.st⟩) hK
  have hu := T.run_underlying w h1
  rw [h2] at hu
  have heq := equalIn_nilMap (P := P) 9999 hu h
  have e1 : binOp .eql t (mv h) (.map none) = (do pure (.bool (← Op.equalIn (9999 + 1) t (mv h) (.map none))) : Sem Value) := by
    rcases h with _ | ⟨b, es, c⟩ <;> rfl
  have e2 : (eqGuard .eql t x y (mv h) (.map none)).run P w = .ok () w := by
    rcases h with _ | ⟨b, es, c⟩ <;> simp [eqGuard, mv]
  simp only [execOp, ho, ha.env.eval hx, ha.env.eval hy, Sem.run_bind, e1, e2, Result.andThen_ok, heq, Sem.run_pure]

/-- len of a map that may be nil -/
theorem OT.lenMap (T : Tab P) (i : Nat) {t kt vt : TypeId} {mp : Operand} {d : Nat} (h : MapH) (ho : o.op = .call ⟨.builtin .len, ⟨[mp]⟩, ⟨[t]⟩⟩) (hd : o.dst = some d) (hN : Nat.blt d N = true)
    (hm : ev ρ mp = some (mv h)) (ht : T.mapT kInt t = some (kt, vt)) (hi : L[i]? = some (mitem h))
    (hK : K ((d, .int .i64 ((mkeys h).length : Int)) :: ρ) m L) : OT P N o ρ D m L Q K := by
  rcases h with _ | ⟨b, es, c⟩
  · obtain ⟨ti, ki, h1, h2, h3, h4⟩ := mapT_get ht
    refine OT.run hd hN (fun a w ha => ⟨w, ?_, ha.st⟩) hK
    have hu := T.run_underlying w h1
    rw [h2] at hu
    have hm' : ev ρ mp = some (.map none) := hm
    simp only [execOp, ho, resolve, Sem.run_bind, Sem.run_pure, Result.andThen_ok, invoke, builtin, List.map_toArray, List.map_cons, List.map_nil, ha.env.eval hm', Builtin.len_]
    simp [hu, ha.env.eval hm', goInt, mkeys]
  · refine OT.mapLen T kInt i ho hd hN hm ht hi ?_
    simpa [mkeys] using hK

theorem OT.runN {v : Value} {m' : Mem} {L' : List Item} (hd : o.dst = none)
    (h : ∀ a w, Ok N ρ D m L a w → ∃ w', (execOp a.eval o).run P w = .ok (.value v) w' ∧ St m' w' L') (hK : K ρ m' L') : OT P N o ρ D m L Q K := by
  intro a w ha
  obtain ⟨w', hr, hst⟩ := h a w ha
  simp only [Oper.wp, hr, Oper.upon, hd]
  exact ⟨_, _, _, ⟨ha.size, ha.env, ha.defers, hst⟩, hK⟩

theorem OT.mapDel0 {κ : Type} [DecidableEq κ] (T : Tab P) (k : KeyK κ) (i : Nat) {t t2 kt vt : TypeId} {mp ky : Operand} {b c : Nat} {es : Ents κ} (x : κ) (ho : o.op = .call ⟨.builtin .delete, ⟨[mp, ky]⟩, ⟨[t, t2]⟩⟩) (hd : o.dst = none)
    (hm : ev ρ mp = some (.map (some b))) (hk : ev ρ ky = some (k.v x)) (ht : T.mapT k t = some (kt, vt)) (hi : L[i]? = some (.obj b (mapO k es c)))
    (hK : K ρ m (L.set i (.obj b (mapO k (mdel es x) c)))) : OT P N o ρ D m L Q K := by
  obtain ⟨ti, ki, h1, h2, h3, h4⟩ := mapT_get ht
  refine OT.runN (v := .tuple #[]) hd (fun a w ha => ?_) hK
  have hu := T.run_underlying w h1
  rw [h2] at hu
  have huk := T.run_underlying w h3
  have hst := ha.st.at_ hi
  have hobj : w.heap[b]? = some (mapO k es c) := (hst.items _ (List.mem_cons_self ..)).1
  have hset := hst.setObj (mapO k (mdel es x) c) rfl
  refine ⟨_, ?_, hset.back hi⟩
  have hck := fun e => k.check P w e kt ki.u x h4 huk
  have hfk := run_findKey (P := P) k h4 huk x es
  have hdel : (Builtin.delete_ #[t, t2] o.type #[.map (some b), k.v x]).run P w = .ok (.tuple #[]) { w with heap := w.heap.setIfInBounds b (mapO k (mdel es x) c) } := by
    simp only [Builtin.delete_]
    simp only [List.getElem?_toArray, List.getElem?_cons_zero, List.getElem?_cons_succ, Sem.run_bind, hu, Result.andThen_ok, run_getObj hobj rfl, mapO, hck, hfk]
    by_cases hh : mhas es x = true
    · have he : (⟨es.map (entE k)⟩ : Array MapEntry).eraseIdxIfInBounds (es.findIdx fun e => decide (e.1 = x)) = ⟨(mdel es x).map (entE k)⟩ := by
        have hx : ∃ e ∈ es, decide (e.1 = x) = true := by simpa [mhas, List.any_eq_true] using hh
        have hlt : (es.findIdx fun e => decide (e.1 = x)) < es.length := List.findIdx_lt_length_of_exists hx
        apply Array.ext'
        simp [Array.eraseIdxIfInBounds, hlt, mdel, map_eraseIdx]
      simp only [hh, if_true, he, Sem.run_bind]
      rw [run_setObj _ hobj rfl]
      simp [mapO]
    · have hf : mhas es x = false := by simpa using hh
      have he : mdel es x = es := by
        have hn : es.findIdx (fun e => decide (e.1 = x)) = es.length := List.findIdx_eq_length.2 fun e he => by
          rw [mhas, List.any_eq_false] at hf
          simpa using hf e he
        rw [mdel, hn]
        exact List.eraseIdx_of_length_le (Nat.le_refl _)
      simp only [hf, Bool.false_eq_true, if_false, he, Sem.run_bind]
      rw [run_setObj _ hobj rfl]
      simp [mapO]
  simp only [execOp, ho, resolve, Sem.run_bind, Sem.run_pure, Result.andThen_ok, invoke, builtin, List.map_toArray, List.map_cons, List.map_nil, ha.env.eval hm, ha.env.eval hk, hdel]

/-- the first element of an owned slice goes -/
theorem OT.behead {α : Type} (T : Tab P) {f : α → Value} {s : Sl} {vs : List Value} {x0 : α} {xs : List α} {x : Operand} {lx : Option Operand} {t : TypeId} {d : Nat} (hq : MQ f s vs (x0 :: xs))
    (ho : o.op = .slice t x lx none none) (hd : o.dst = some d) (hN : Nat.blt d N = true) (he : ev ρ x = some s.v) (h1 : evO ρ lx = some (some (.int .i64 1))) (hsz : T.esize t = some 1)
    (hK : ∀ s' vs', MQ f s' vs' xs → K ((d, s'.v) :: ρ) m (mcell s' vs' :: L)) : OT P N o ρ D m (mcell s vs :: L) Q K := by
  have hl := hq.len
  simp only [List.length_cons] at hl
  obtain ⟨b, off, c, hs, hc1, hc2⟩ := hq.ne (by simp)
  subst hs
  simp only [List.length_cons] at hc1 hc2 hl ⊢
  have hq2 := hq.eq
  simp only [List.length_cons, List.map_cons] at hq2
  rcases vs with _ | ⟨v0, vs⟩
  · simp at hc2; omega
  simp only [List.length_cons] at hc2
  simp only [List.take_succ_cons, List.cons.injEq] at hq2
  have hcut : ∀ w : World, (Instr.sliceAt t (.slice (some ⟨b, off, none⟩) (xs.length + 1) c) (some (.int .i64 1)) none none).run P w = .ok (.slice (if c = 1 then some ⟨b, off, none⟩ else some ⟨b, off + 1, none⟩) xs.length (c - 1)) w := fun w => by
    have hr := run_sliceAt (P := P) (w := w) T (s := ⟨some ⟨b, off, none⟩, xs.length + 1, c⟩) (lov := some (.int .i64 1)) (hiv := none) (lo := 1) (hi := xs.length + 1) hsz (.inr rfl) (.inl ⟨rfl, rfl⟩) (by omega) (by simp only; omega)
    simp only [Sl.v, Option.map_some, addr_add, Nat.one_mul, Nat.add_sub_cancel] at hr
    exact hr
  intro ac w ha
  have hsp : St m w (.cells b (off + 1) vs :: L) := (St.split (vs := [v0]) (us := vs) ha.st).sub (List.sublist_cons_self _ _)
  have hrun : (execOp ac.eval o).run P w = .ok (.value (.slice (if c = 1 then some ⟨b, off, none⟩ else some ⟨b, off + 1, none⟩) xs.length (c - 1))) w := by
    have he' : ev ρ x = some (.slice (some ⟨b, off, none⟩) (xs.length + 1) c) := he
    simp only [execOp, ho, ha.env.eval he', ha.env.evalO h1, Option.map_none, Sem.run_bind, hcut, Result.andThen_ok, Sem.run_pure]
  simp only [Oper.wp, hrun, Oper.upon, hd]
  have hp := ha.put hN (.slice (if c = 1 then some ⟨b, off, none⟩ else some ⟨b, off + 1, none⟩) xs.length (c - 1))
  by_cases h1c : c = 1
  · have hx0 : xs = [] := List.eq_nil_of_length_eq_zero (by omega)
    have hv0 : vs = [] := List.eq_nil_of_length_eq_zero (by omega)
    subst hx0; subst hv0; subst h1c
    refine ⟨_, _, _, ⟨hp.size, hp.env, hp.defers, ?_⟩, hK ⟨some ⟨b, off, none⟩, 0, 0⟩ [] ⟨MS.at_ _ _ _ _ _ (Nat.le_refl _) rfl, rfl⟩⟩
    exact (hsp.sub (List.sublist_cons_self _ _)).cells0 b off
  · rw [if_neg h1c] at hp ⊢
    refine ⟨_, _, _, ⟨hp.size, hp.env, hp.defers, ?_⟩, hK ⟨some ⟨b, off + 1, none⟩, xs.length, c - 1⟩ vs ⟨MS.at_ _ _ _ _ _ (by omega) (by omega), hq2.2⟩⟩
    exact hsp
end
end Go.Sep
