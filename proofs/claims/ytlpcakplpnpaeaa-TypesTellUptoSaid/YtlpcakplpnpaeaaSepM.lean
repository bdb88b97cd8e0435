/-
  Maps that the call itself makes (owned objects), keys that are strings or ints.
-/
import Derived.Test.YtlpcakplpnpaeaaSepH
set_option linter.unusedVariables false
set_option linter.unusedSimpArgs false
namespace Go.Sep

/-- kinds of keys -/
structure KeyK (κ : Type) [DecidableEq κ] where
  v : κ → Value
  fits : TypeDesc → Bool
  same : ∀ d a b, fits d = true → Instr.sameNow d (v a) (v b) = some (decide (a = b))
  bits : ∀ a, Instr.sameBits 10000 (v a) (v a) = true
  check : ∀ (P : Program) (w : World) (e : Bool) (t : TypeId) (d : TypeDesc) (a : κ), fits d = true → (underlying t).run P w = .ok d w → (Instr.checkKey e 10000 t (v a)).run P w = .ok () w

def kStr : KeyK Str where
  v := strV
  fits d := match d with | .string => true | _ => false
  same d a b h := by
    cases d <;> first | (cases h; done) | skip
    simp only [Instr.sameNow, Option.some.injEq]
    rw [beq_toListBytes, toList_mk, toList_mk, beq_dec]
  bits a := by
    show ((⟨⟨a⟩⟩ : ByteArray) == ⟨⟨a⟩⟩) = true
    rw [beq_toListBytes]; simp
  check P w e t d a h hu := by
    cases d <;> first | (cases h; done) | skip
    rw [show (10000 : Nat) = 9999 + 1 from rfl, Instr.checkKey]
    simp only [Sem.run_bind, hu, Result.andThen_ok, Sem.run_pure]

def kInt : KeyK Int where
  v n := .int .i64 n
  fits d := match d with | .int _ => true | _ => false
  same d a b h := by
    cases d <;> first | (cases h; done) | skip
    simp [Instr.sameNow, beq_dec]
  bits a := by simp [Instr.sameBits]
  check P w e t d a h hu := by
    cases d <;> first | (cases h; done) | skip
    rw [show (10000 : Nat) = 9999 + 1 from rfl, Instr.checkKey]
    simp only [Sem.run_bind, hu, Result.andThen_ok, Sem.run_pure]

section
variable {κ : Type} [DecidableEq κ]

/-- a map's entries: key, value, when it was laid -/
abbrev Ents (κ : Type) := List (κ × Value × Nat)

def entE (k : KeyK κ) (e : κ × Value × Nat) : MapEntry := { key := k.v e.1, val := e.2.1, born := e.2.2 }
def mapO (k : KeyK κ) (es : Ents κ) (clock : Nat) : Obj := .map ⟨es.map (entE k)⟩ clock

def mget (es : Ents κ) (x : κ) : Option Value := (es.find? fun e => decide (e.1 = x)).map (·.2.1)
def mhas (es : Ents κ) (x : κ) : Bool := es.any fun e => decide (e.1 = x)
def mset (es : Ents κ) (x : κ) (v : Value) (clock : Nat) : Ents κ :=
  if mhas es x then es.map (fun e => e) |>.modify (es.findIdx fun e => decide (e.1 = x)) (fun e => (e.1, v, e.2.2)) else es ++ [(x, v, clock)]
def mclock (es : Ents κ) (x : κ) (clock : Nat) : Nat := if mhas es x then clock else clock + 1
def mdel (es : Ents κ) (x : κ) : Ents κ := es.eraseIdx (es.findIdx fun e => decide (e.1 = x))

theorem findNow_eq (k : KeyK κ) (d : TypeDesc) (hd : k.fits d = true) (x : κ) : ∀ (es : Ents κ) (i : Nat),
    Instr.findNow d (k.v x) (es.map (entE k)) i = some (if mhas es x then some (i + es.findIdx (fun e => decide (e.1 = x)), (mget es x).getD undef) else none)
  | [], i => rfl
  | e :: es, i => by
    simp only [List.map_cons, Instr.findNow, entE, k.same _ _ _ hd]
    by_cases h : e.1 = x
    · have h' : x = e.1 := h.symm
      simp [h, mhas, mget, List.findIdx_cons]
    · have h' : ¬ x = e.1 := fun e' => h e'.symm
      have hb : decide (e.1 = x) = false := by simpa using h
      have ih := findNow_eq k d hd x es (i + 1)
      simp only [decide_eq_false h', ih]
      have e1 : mhas (e :: es) x = mhas es x := by simp [mhas, hb]
      have e2 : mget (e :: es) x = mget es x := by simp [mget, hb]
      have e3 : (e :: es).findIdx (fun e => decide (e.1 = x)) = es.findIdx (fun e => decide (e.1 = x)) + 1 := by simp [List.findIdx_cons, hb]
      rw [e1, e2, e3, show i + 1 + es.findIdx (fun e => decide (e.1 = x)) = i + (es.findIdx (fun e => decide (e.1 = x)) + 1) by omega]

theorem run_findKey {P : Program} (k : KeyK κ) {t : TypeId} {d : TypeDesc} {w : World} (hd : k.fits d = true) (hu : (underlying t).run P w = .ok d w) (x : κ) (es : Ents κ) :
    (Instr.findKey t (k.v x) (es.map (entE k))).run P w = .ok (if mhas es x then some (es.findIdx (fun e => decide (e.1 = x)), (mget es x).getD undef) else none) w := by
  have := findNow_eq k d hd x es 0
  simp only [Nat.zero_add] at this
  simp only [Instr.findKey, Sem.run_bind, hu, Result.andThen_ok, this, Sem.run_pure]

/-- the types of a map -/
def Tab.mapT {P : Program} (T : Tab P) (k : KeyK κ) (t : TypeId) : Option (TypeId × TypeId) :=
  match T.get t with
  | some ⟨.map a b, _, _, _⟩ => match T.get a with
    | some i => bif k.fits i.u then some (a, b) else none
    | none => none
  | _ => none

theorem mapT_get {P : Program} {T : Tab P} {k : KeyK κ} {t a b : TypeId} (h : T.mapT k t = some (a, b)) : ∃ ti i, T.get t = some ti ∧ ti.u = .map a b ∧ T.get a = some i ∧ k.fits i.u = true := by
  unfold Tab.mapT at h
  split at h
  · rename_i a' b' x y z hg
    split at h
    · rename_i i hi
      cases hb : k.fits i.u with
      | false => simp [hb] at h
      | true =>
        simp only [hb, cond_true, Option.some.injEq, Prod.mk.injEq] at h
        obtain ⟨rfl, rfl⟩ := h
        exact ⟨_, i, hg, rfl, hi, hb⟩
    · cases h
  · cases h

variable {P : Program} {N : Nat} {ρ : Env} {D : List Deferred} {m : Mem} {L : List Item} {Q : EPost} {full : List Oper} {o : Oper} {K : Env → Mem → List Item → Prop}

theorem OT.makeMap (k : KeyK κ) {t : TypeId} {d : Nat} (ho : o.op = .makeMap t none) (hd : o.dst = some d) (hN : Nat.blt d N = true)
    (hK : ∀ b, K ((d, .map (some b)) :: ρ) m (.obj b (mapO k [] 0) :: L)) : OT P N o ρ D m L Q K := by
  intro a w ha
  have hr : (execOp a.eval o).run P w = .ok (.value (.map (some w.heap.size))) (w.alloc (.map #[] 0)) := by
    simp only [execOp, ho, Option.map_none, Instr.makeMap, Sem.run_bind, Sem.run_pure, run_newObj, Result.andThen_ok, World.alloc_eq]
  simp only [Oper.wp, hr, Oper.upon, hd]
  have hp := ha.put hN (.map (some w.heap.size))
  exact ⟨_, _, _, ⟨hp.size, hp.env, hp.defers, ha.st.allocObj (.map #[] 0) rfl⟩, hK _⟩

theorem run_getObj {w : World} {b : Nat} {ob : Obj} (h : w.heap[b]? = some ob) (hc : isCells ob = false) : (getObj b).run P w = .ok ob w := by
  simp only [getObj, Sem.run, h]
  cases ob <;> first | rfl | (simp [isCells] at hc; done)

theorem run_setObj {w : World} {b : Nat} {ob : Obj} (o' : Obj) (h : w.heap[b]? = some ob) (hc : isCells ob = false) : (setObj b o').run P w = .ok () { w with heap := w.heap.setIfInBounds b o' } := by
  simp only [setObj, Sem.run, h]
  cases ob <;> first | rfl | (simp [isCells] at hc; done)

theorem map_eraseIdx {α β : Type} (f : α → β) : ∀ (l : List α) (i : Nat), (l.map f).eraseIdx i = (l.eraseIdx i).map f
  | [], i => by simp
  | a :: l, 0 => by simp
  | a :: l, i + 1 => by simp [map_eraseIdx f l i]

theorem mset_enc (k : KeyK κ) (es : Ents κ) (x : κ) (v : Value) (c : Nat) (h : mhas es x = true) :
    (⟨es.map (entE k)⟩ : Array MapEntry).modify (es.findIdx fun e => decide (e.1 = x)) (fun e => { e with key := k.v x, val := v }) = ⟨(mset es x v c).map (entE k)⟩ := by
  apply Array.ext'
  simp only [Array.toList_modify, mset, h, if_true, List.map_id']
  have hx : ∃ e ∈ es, decide (e.1 = x) = true := by simpa [mhas, List.any_eq_true] using h
  have hlt : (es.findIdx fun e => decide (e.1 = x)) < es.length := List.findIdx_lt_length_of_exists hx
  have hk : es[es.findIdx fun e => decide (e.1 = x)].1 = x := by simpa using List.findIdx_getElem (w := hlt)
  apply List.ext_getElem?
  intro j
  simp only [List.getElem?_modify, List.getElem?_map]
  by_cases hj : (es.findIdx fun e => decide (e.1 = x)) = j
  · subst hj
    simp [hlt, entE, hk]
  · simp [hj]

theorem OT.mapSet (T : Tab P) (k : KeyK κ) (i : Nat) {t kt vt : TypeId} {mp ky vl : Operand} {b c : Nat} {es : Ents κ} (x : κ) {v : Value} (ho : o.op = .mapUpdate t mp ky vl) (hd : o.dst = none)
    (hm : ev ρ mp = some (.map (some b))) (hk : ev ρ ky = some (k.v x)) (hv : ev ρ vl = some v) (ht : T.mapT k t = some (kt, vt)) (hi : L[i]? = some (.obj b (mapO k es c)))
    (hK : K ρ m (L.set i (.obj b (mapO k (mset es x v c) (mclock es x c))))) : OT P N o ρ D m L Q K := by
  refine OT.run0 hd (fun a w ha => ?_) hK
  obtain ⟨ti, ki, h1, h2, h3, h4⟩ := mapT_get ht
  have hu := T.run_underlying w h1
  rw [h2] at hu
  have huk := T.run_underlying w h3
  have hst := ha.st.at_ hi
  have hobj : w.heap[b]? = some (mapO k es c) := (hst.items _ (List.mem_cons_self ..)).1
  have hset := hst.setObj (mapO k (mset es x v c) (mclock es x c)) rfl
  refine ⟨_, ?_, hset.back hi⟩
  have hck := k.check P w false kt ki.u x h4 huk
  have hfk := run_findKey (P := P) k h4 huk x es
  have hup : (Instr.mapUpdate t (.map (some b)) (k.v x) v).run P w = .ok () { w with heap := w.heap.setIfInBounds b (mapO k (mset es x v c) (mclock es x c)) } := by
    simp only [Instr.mapUpdate, Sem.run_bind, hu, Result.andThen_ok, run_getObj hobj rfl, mapO, hck, hfk]
    by_cases hh : mhas es x = true
    · have hx : ∃ e ∈ es, decide (e.1 = x) = true := by simpa [mhas, List.any_eq_true] using hh
      have hlt : (es.findIdx fun e => decide (e.1 = x)) < es.length := List.findIdx_lt_length_of_exists hx
      have hkx : es[es.findIdx fun e => decide (e.1 = x)].1 = x := by simpa using List.findIdx_getElem (w := hlt)
      have hkey : (((⟨es.map (entE k)⟩ : Array MapEntry)[es.findIdx fun e => decide (e.1 = x)]?).map (·.key)).getD (k.v x) = k.v x := by
        simp [hlt, entE, hkx]
      have he := mset_enc k es x v c hh
      simp only [hh, if_true, Sem.run_bind, hkey, Instr.keyThatStays, k.bits, Sem.run_pure, Result.andThen_ok, he, mclock]
      rw [run_setObj _ hobj rfl]
    · have hf : mhas es x = false := by simpa using hh
      simp only [hf, Bool.false_eq_true, if_false, mclock, mset]
      rw [run_setObj _ hobj rfl]
      simp [mapO, entE]
  simp only [execOp, ho, ha.env.eval hm, ha.env.eval hk, ha.env.eval hv, Sem.run_bind, hup, Result.andThen_ok, Sem.run_pure]

theorem OT.mapLen (T : Tab P) (k : KeyK κ) (i : Nat) {t kt vt : TypeId} {mp : Operand} {b c d : Nat} {es : Ents κ} (ho : o.op = .call ⟨.builtin .len, ⟨[mp]⟩, ⟨[t]⟩⟩) (hd : o.dst = some d) (hN : Nat.blt d N = true)
    (hm : ev ρ mp = some (.map (some b))) (ht : T.mapT k t = some (kt, vt)) (hi : L[i]? = some (.obj b (mapO k es c)))
    (hK : K ((d, .int .i64 (es.length : Int)) :: ρ) m L) : OT P N o ρ D m L Q K := by
  refine OT.run hd hN (fun a w ha => ⟨w, ?_, ha.st⟩) hK
  obtain ⟨ti, ki, h1, h2, h3, h4⟩ := mapT_get ht
  have hu := T.run_underlying w h1
  rw [h2] at hu
  have hst := ha.st.at_ hi
  have hobj : w.heap[b]? = some (mapO k es c) := (hst.items _ (List.mem_cons_self ..)).1
  simp only [execOp, ho, resolve, Sem.run_bind, Sem.run_pure, Result.andThen_ok, invoke, builtin, List.map_toArray, List.map_cons, List.map_nil, ha.env.eval hm, Builtin.len_]
  simp [hu, run_getObj hobj rfl, mapO, ha.env.eval hm, goInt]

/-- v, ok := m[k] -/
theorem OT.lookupOk (T : Tab P) (k : KeyK κ) (i : Nat) {t kt vt : TypeId} {mp ky : Operand} {b c d : Nat} {es : Ents κ} (x : κ) {zi : TI} (ho : o.op = .lookup t mp ky true) (hd : o.dst = some d) (hN : Nat.blt d N = true)
    (hm : ev ρ mp = some (.map (some b))) (hk : ev ρ ky = some (k.v x)) (ht : T.mapT k t = some (kt, vt)) (hz : T.get vt = some zi) (hi : L[i]? = some (.obj b (mapO k es c)))
    (hK : K ((d, .tuple ⟨[(mget es x).getD zi.zero, .bool (mhas es x)]⟩) :: ρ) m L) : OT P N o ρ D m L Q K := by
  refine OT.run hd hN (fun a w ha => ⟨w, ?_, ha.st⟩) hK
  obtain ⟨ti, ki, h1, h2, h3, h4⟩ := mapT_get ht
  have hu := T.run_underlying w h1
  rw [h2] at hu
  have huk := T.run_underlying w h3
  have hst := ha.st.at_ hi
  have hobj : w.heap[b]? = some (mapO k es c) := (hst.items _ (List.mem_cons_self ..)).1
  have hck := fun e => k.check P w e kt ki.u x h4 huk
  have hfk := run_findKey (P := P) k h4 huk x es
  have hzv := T.run_zero w hz
  simp only [execOp, ho, ha.env.eval hm, ha.env.eval hk, Sem.run_bind, Instr.lookup, hu, Result.andThen_ok, run_getObj hobj rfl, mapO, Sem.run_pure, hck, hfk]
  by_cases hh : mhas es x = true
  · have hg : ∃ v, mget es x = some v := by
      have hx : ∃ e ∈ es, decide (e.1 = x) = true := by simpa [mhas, List.any_eq_true] using hh
      obtain ⟨e, he, hx⟩ := hx
      cases hf : es.find? (fun e => decide (e.1 = x)) with
      | none => exact absurd hx (by simpa using List.find?_eq_none.1 hf e he)
      | some u => exact ⟨u.2.1, by simp [mget, hf]⟩
    obtain ⟨v, hv⟩ := hg
    simp [hh, hv]
  · have hf : mhas es x = false := by simpa using hh
    have hv : mget es x = none := by
      have : es.find? (fun e => decide (e.1 = x)) = none := List.find?_eq_none.2 fun e he hx => by
        rw [mhas, List.any_eq_false] at hf
        exact hf e he hx
      simp [mget, this]
    simp [hf, hv, hzv]

theorem OT.mapDel (T : Tab P) (k : KeyK κ) (i : Nat) {t t2 kt vt : TypeId} {mp ky : Operand} {b c d : Nat} {es : Ents κ} (x : κ) (ho : o.op = .call ⟨.builtin .delete, ⟨[mp, ky]⟩, ⟨[t, t2]⟩⟩) (hd : o.dst = some d) (hN : Nat.blt d N = true)
    (hm : ev ρ mp = some (.map (some b))) (hk : ev ρ ky = some (k.v x)) (ht : T.mapT k t = some (kt, vt)) (hi : L[i]? = some (.obj b (mapO k es c)))
    (hK : K ((d, .tuple ⟨[]⟩) :: ρ) m (L.set i (.obj b (mapO k (mdel es x) c)))) : OT P N o ρ D m L Q K := by
  obtain ⟨ti, ki, h1, h2, h3, h4⟩ := mapT_get ht
  refine OT.run hd hN (fun a w ha => ?_) hK
  have hu := T.run_underlying w h1
  rw [h2] at hu
  have huk := T.run_underlying w h3
  have hst := ha.st.at_ hi
  have hobj : w.heap[b]? = some (mapO k es c) := (hst.items _ (List.mem_cons_self ..)).1
  have hset := hst.setObj (mapO k (mdel es x) c) rfl
  refine ⟨_, ?_, hset.back hi⟩
  have hck := fun e => k.check P w e kt ki.u x h4 huk
  have hfk := run_findKey (P := P) k h4 huk x es
  have hdel : (Builtin.delete_ #[t, t2] o.type #[.map (some b), k.v x]).run P w = .ok (.tuple #[]) { w with heap := w.heap.setIfInBounds b (mapO k (mdel es x) c) } := by
    simp only [Builtin.delete_]
    simp only [List.getElem?_toArray, List.getElem?_cons_zero, List.getElem?_cons_succ, Sem.run_bind, hu, Result.andThen_ok, run_getObj hobj rfl, mapO, hck, hfk]
    by_cases hh : mhas es x = true
    · have he : (⟨es.map (entE k)⟩ : Array MapEntry).eraseIdxIfInBounds (es.findIdx fun e => decide (e.1 = x)) = ⟨(mdel es x).map (entE k)⟩ := by
        have hx : ∃ e ∈ es, decide (e.1 = x) = true := by simpa [mhas, List.any_eq_true] using hh
        have hlt : (es.findIdx fun e => decide (e.1 = x)) < es.length := List.findIdx_lt_length_of_exists hx
        apply Array.ext'
        simp [Array.eraseIdxIfInBounds, hlt, mdel, map_eraseIdx]
      simp only [hh, if_true, he, Sem.run_bind]
      rw [run_setObj _ hobj rfl]
      simp [mapO]
    · have hf : mhas es x = false := by simpa using hh
      have he : mdel es x = es := by
        have hn : es.findIdx (fun e => decide (e.1 = x)) = es.length := List.findIdx_eq_length.2 fun e he => by
          rw [mhas, List.any_eq_false] at hf
          simpa using hf e he
        rw [mdel, hn]
        exact List.eraseIdx_of_length_le (Nat.le_refl _)
      simp only [hf, Bool.false_eq_true, if_false, he, Sem.run_bind]
      rw [run_setObj _ hobj rfl]
      simp [mapO]
  simp only [execOp, ho, resolve, Sem.run_bind, Sem.run_pure, Result.andThen_ok, invoke, builtin, List.map_toArray, List.map_cons, List.map_nil, ha.env.eval hm, ha.env.eval hk, hdel]
end
end Go.Sep
