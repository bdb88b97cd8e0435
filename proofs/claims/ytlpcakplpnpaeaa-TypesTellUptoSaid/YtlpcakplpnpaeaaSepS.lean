/-
  Maps that are only read.
-/
import Derived.Test.YtlpcakplpnpaeaaSepR
set_option linter.unusedVariables false
set_option linter.unusedSimpArgs false
namespace Go.Sep
variable {κ : Type} [DecidableEq κ]
section
variable {P : Program} {N : Nat} {ρ : Env} {D : List Deferred} {m : Mem} {L : List Item} {Q : EPost} {o : Oper} {full : List Oper} {K : Env → Mem → List Item → Prop}
theorem TO.freezeO {l : List Oper} {b : Nat} {x : Obj} (h : ∀ m', m ≤ m' → m'.o b = some x → TO P N ⟨full⟩ l ρ D m' L Q) : TO P N ⟨full⟩ l ρ D m (.obj b x :: L) Q := by
  intro a w ha
  obtain ⟨h1, h2, h3⟩ := ha.st.freezeObj
  exact h _ h1 h2 a w ⟨ha.size, ha.env, ha.defers, h3⟩
theorem TC.freezeO {c : Code} {b : Nat} {x : Obj} (h : ∀ m', m ≤ m' → m'.o b = some x → TC P N c ρ D m' L Q) : TC P N c ρ D m (.obj b x :: L) Q := by
  intro a w ha
  obtain ⟨h1, h2, h3⟩ := ha.st.freezeObj
  exact h _ h1 h2 a w ⟨ha.size, ha.env, ha.defers, h3⟩
/-- v, ok := m[k] -/
theorem OT.lookupOkP (T : Tab P) (k : KeyK κ) {t kt vt : TypeId} {mp ky : Operand} {b c d : Nat} {es : Ents κ} (x : κ) {zi : TI} (ho : o.op = .lookup t mp ky true) (hd : o.dst = some d) (hN : Nat.blt d N = true)
    (hm : ev ρ mp = some (.map (some b))) (hk : ev ρ ky = some (k.v x)) (ht : T.mapT k t = some (kt, vt)) (hz : T.get vt = some zi) (hi : m.o b = some (mapO k es c))
    (hK : K ((d, .tuple ⟨[(mget es x).getD zi.zero, .bool (mhas es x)]⟩) :: ρ) m L) : OT P N o ρ D m L Q K := by
  refine OT.run hd hN (fun a w ha => ⟨w, ?_, ha.st⟩) hK
  obtain ⟨ti, ki, h1, h2, h3, h4⟩ := mapT_get ht
  have hu := T.run_underlying w h1
  rw [h2] at hu
  have huk := T.run_underlying w h3
  have hobj : w.heap[b]? = some (mapO k es c) := (ha.st.o _ _ hi).1
  have hck := fun e => k.check P w e kt ki.u x h4 huk
  have hfk := run_findKey (P := P) k h4 huk x es
  have hzv := T.run_zero w hz
  simp only [execOp, ho, ha.env.eval hm, ha.env.eval hk, Sem.run_bind, Instr.lookup, hu, Result.andThen_ok, run_getObj hobj rfl, mapO, Sem.run_pure, hck, hfk]
  by_cases hh : mhas es x = true
  · have hg : ∃ v, mget es x = some v := by
      have hx : ∃ e ∈ es, decide (e.1 = x) = true := by simpa [mhas, List.any_eq_true] using hh
      obtain ⟨e, he, hx⟩ := hx
      cases hf : es.find? (fun e => decide (e.1 = x)) with
      | none => exact absurd hx (by simpa using List.find?_eq_none.1 hf e he)
      | some u => exact ⟨u.2.1, by simp [mget, hf]⟩
    obtain ⟨v, hv⟩ := hg
    simp [hh, hv]
  · have hf : mhas es x = false := by simpa using hh
    have hv : mget es x = none := by
      have : es.find? (fun e => decide (e.1 = x)) = none := List.find?_eq_none.2 fun e he hx => by
        rw [mhas, List.any_eq_false] at hf
        exact hf e he hx
      simp [mget, this]
    simp [hf, hv, hzv]

/-- v := m[k] -/
theorem OT.lookupP (T : Tab P) (k : KeyK κ) {t kt vt : TypeId} {mp ky : Operand} {b c d : Nat} {es : Ents κ} (x : κ) {zi : TI} (ho : o.op = .lookup t mp ky false) (hd : o.dst = some d) (hN : Nat.blt d N = true)
    (hm : ev ρ mp = some (.map (some b))) (hk : ev ρ ky = some (k.v x)) (ht : T.mapT k t = some (kt, vt)) (hz : T.get vt = some zi) (hi : m.o b = some (mapO k es c))
    (hK : K ((d, (mget es x).getD zi.zero) :: ρ) m L) : OT P N o ρ D m L Q K := by
  refine OT.run hd hN (fun a w ha => ⟨w, ?_, ha.st⟩) hK
  obtain ⟨ti, ki, h1, h2, h3, h4⟩ := mapT_get ht
  have hu := T.run_underlying w h1
  rw [h2] at hu
  have huk := T.run_underlying w h3
  have hobj : w.heap[b]? = some (mapO k es c) := (ha.st.o _ _ hi).1
  have hck := fun e => k.check P w e kt ki.u x h4 huk
  have hfk := run_findKey (P := P) k h4 huk x es
  have hzv := T.run_zero w hz
  simp only [execOp, ho, ha.env.eval hm, ha.env.eval hk, Sem.run_bind, Instr.lookup, hu, Result.andThen_ok, run_getObj hobj rfl, mapO, Sem.run_pure, hck, hfk]
  by_cases hh : mhas es x = true
  · have hg : ∃ v, mget es x = some v := by
      have hx : ∃ e ∈ es, decide (e.1 = x) = true := by simpa [mhas, List.any_eq_true] using hh
      obtain ⟨e, he, hx⟩ := hx
      cases hf : es.find? (fun e => decide (e.1 = x)) with
      | none => exact absurd hx (by simpa using List.find?_eq_none.1 hf e he)
      | some u => exact ⟨u.2.1, by simp [mget, hf]⟩
    obtain ⟨v, hv⟩ := hg
    simp [hh, hv]
  · have hf : mhas es x = false := by simpa using hh
    have hv : mget es x = none := by
      have : es.find? (fun e => decide (e.1 = x)) = none := List.find?_eq_none.2 fun e he hx => by
        rw [mhas, List.any_eq_false] at hf
        exact hf e he hx
      simp [mget, this]
    simp [hf, hv, hzv]

theorem OT.mapLenP (T : Tab P) (k : KeyK κ) {t kt vt : TypeId} {mp : Operand} {b c d : Nat} {es : Ents κ} (ho : o.op = .call ⟨.builtin .len, ⟨[mp]⟩, ⟨[t]⟩⟩) (hd : o.dst = some d) (hN : Nat.blt d N = true)
    (hm : ev ρ mp = some (.map (some b))) (ht : T.mapT k t = some (kt, vt)) (hi : m.o b = some (mapO k es c))
    (hK : K ((d, .int .i64 (es.length : Int)) :: ρ) m L) : OT P N o ρ D m L Q K := by
  refine OT.run hd hN (fun a w ha => ⟨w, ?_, ha.st⟩) hK
  obtain ⟨ti, ki, h1, h2, h3, h4⟩ := mapT_get ht
  have hu := T.run_underlying w h1
  rw [h2] at hu
  have hobj : w.heap[b]? = some (mapO k es c) := (ha.st.o _ _ hi).1
  simp only [execOp, ho, resolve, Sem.run_bind, Sem.run_pure, Result.andThen_ok, invoke, builtin, List.map_toArray, List.map_cons, List.map_nil, ha.env.eval hm, Builtin.len_]
  simp [hu, run_getObj hobj rfl, mapO, ha.env.eval hm, goInt]


theorem equalIn_mapSome {t a b : TypeId} {w : World} (dd r : Nat) (hu : (underlying t).run P w = .ok (.map a b) w) :
    (Op.equalIn (dd + 1) t (.map (some r)) (.map none)).run P w = .ok false w := by
  simp only [Op.equalIn, Sem.run_bind, hu, Result.andThen_ok, Sem.run_pure]
theorem equalIn_mapNone {t a b : TypeId} {w : World} (dd : Nat) (hu : (underlying t).run P w = .ok (.map a b) w) :
    (Op.equalIn (dd + 1) t (.map none) (.map none)).run P w = .ok true w := by
  simp only [Op.equalIn, Sem.run_bind, hu, Result.andThen_ok, Sem.run_pure]
  rfl

/-- a map is not nil; nil is -/
theorem OT.mapNe (T : Tab P) (k : KeyK κ) {t t' kt vt : TypeId} {x y : Operand} {r : Option Nat} {d : Nat} (ho : o.op = .binOp .neq t x y t') (hd : o.dst = some d) (hN : Nat.blt d N = true)
    (hx : ev ρ x = some (.map r)) (hy : ev ρ y = some (.map none)) (ht : T.mapT k t = some (kt, vt)) (hK : K ((d, .bool r.isSome) :: ρ) m L) : OT P N o ρ D m L Q K := by
  obtain ⟨ti, ki, h1, h2, h3, h4⟩ := mapT_get ht
  refine OT.run hd hN (fun ac w ha => ⟨w, ?_, ha.st⟩) hK
  have hu := T.run_underlying w h1
  rw [h2] at hu
  have e1 : ∀ z, binOp .neq t (.map z) (.map none) = (do pure (.bool (!(← Op.equalIn (9999 + 1) t (.map z) (.map none)))) : Sem Value) := fun _ => rfl
  have e2 : (eqGuard .neq t x y (.map r) (.map none)).run P w = .ok () w := by simp [eqGuard]
  cases r with
  | none =>
    have h := equalIn_mapNone (P := P) 9999 hu
    simp only [execOp, ho, ha.env.eval hx, ha.env.eval hy, Sem.run_bind, e2, Result.andThen_ok, e1, h, Sem.run_pure]; rfl
  | some r =>
    have h := equalIn_mapSome (P := P) 9999 r hu
    simp only [execOp, ho, ha.env.eval hx, ha.env.eval hy, Sem.run_bind, e2, Result.andThen_ok, e1, h, Sem.run_pure]; rfl
theorem OT.mapEq (T : Tab P) (k : KeyK κ) {t t' kt vt : TypeId} {x y : Operand} {r : Option Nat} {d : Nat} (ho : o.op = .binOp .eql t x y t') (hd : o.dst = some d) (hN : Nat.blt d N = true)
    (hx : ev ρ x = some (.map r)) (hy : ev ρ y = some (.map none)) (ht : T.mapT k t = some (kt, vt)) (hK : K ((d, .bool r.isNone) :: ρ) m L) : OT P N o ρ D m L Q K := by
  obtain ⟨ti, ki, h1, h2, h3, h4⟩ := mapT_get ht
  refine OT.run hd hN (fun ac w ha => ⟨w, ?_, ha.st⟩) hK
  have hu := T.run_underlying w h1
  rw [h2] at hu
  have e1 : ∀ z, binOp .eql t (.map z) (.map none) = (do pure (.bool (← Op.equalIn (9999 + 1) t (.map z) (.map none))) : Sem Value) := fun _ => rfl
  have e2 : (eqGuard .eql t x y (.map r) (.map none)).run P w = .ok () w := by simp [eqGuard]
  cases r with
  | none =>
    have h := equalIn_mapNone (P := P) 9999 hu
    simp only [execOp, ho, ha.env.eval hx, ha.env.eval hy, Sem.run_bind, e2, Result.andThen_ok, e1, h, Sem.run_pure]; rfl
  | some r =>
    have h := equalIn_mapSome (P := P) 9999 r hu
    simp only [execOp, ho, ha.env.eval hx, ha.env.eval hy, Sem.run_bind, e2, Result.andThen_ok, e1, h, Sem.run_pure]; rfl
end
end Go.Sep
