/-
  Data that is read: representations (R), slices (SlRep), indexing.
-/
import Derived.Test.YtlpcakplpnpaeaaSepD
set_option linter.unusedVariables false
set_option linter.unusedSimpArgs false
namespace Go.Sep

/-- A kind of data: handles (what the cells hold), data, what ties them. -/
structure R (H α : Type) where
  size : Nat
  bytes : Nat
  enc : H → List Value
  rep : Mem → H → α → Prop
  enc_len : ∀ h, (enc h).length = size
  one : ∀ h, allOne (enc h) = true
  mono : ∀ {m m' : Mem} {h : H} {a : α}, m ≤ m' → rep m h a → rep m' h a

structure Sl where
  a : Option Addr
  len : Nat
  cap : Nat

@[reducible] def Sl.v (s : Sl) : Value := .slice s.a s.len s.cap

def All2 {H α : Type} (r : H → α → Prop) : List H → List α → Prop
  | [], [] => True
  | h :: hs, a :: as => r h a ∧ All2 r hs as
  | _, _ => False

theorem All2.length {H α : Type} {r : H → α → Prop} : ∀ {hs : List H} {as : List α}, All2 r hs as → hs.length = as.length
  | [], [], _ => rfl
  | h :: hs, a :: as, h2 => by simp [All2.length h2.2]
  | [], _ :: _, h => h.elim
  | _ :: _, [], h => h.elim
theorem All2.mono {H α : Type} {r r' : H → α → Prop} (hr : ∀ h a, r h a → r' h a) : ∀ {hs : List H} {as : List α}, All2 r hs as → All2 r' hs as
  | [], [], _ => trivial
  | h :: hs, a :: as, h2 => ⟨hr _ _ h2.1, All2.mono hr h2.2⟩
  | [], _ :: _, h => h.elim
  | _ :: _, [], h => h.elim
theorem All2.append {H α : Type} {r : H → α → Prop} : ∀ {hs : List H} {as : List α} {hs' : List H} {as' : List α}, All2 r hs as → All2 r hs' as' → All2 r (hs ++ hs') (as ++ as')
  | [], [], _, _, _, h => h
  | h :: hs, a :: as, _, _, h2, h3 => ⟨h2.1, All2.append h2.2 h3⟩
  | [], _ :: _, _, _, h, _ => h.elim
  | _ :: _, [], _, _, h, _ => h.elim
theorem All2.get {H α : Type} {r : H → α → Prop} : ∀ {hs : List H} {as : List α}, All2 r hs as → ∀ {k : Nat} {a : α}, as[k]? = some a → ∃ h, hs[k]? = some h ∧ r h a
  | [], [], _, k, a, hk => by simp at hk
  | h :: hs, a :: as, h2, 0, b, hk => by simp at hk; subst hk; exact ⟨h, by simp, h2.1⟩
  | h :: hs, a :: as, h2, k + 1, b, hk => by
    rw [List.getElem?_cons_succ] at hk ⊢
    exact All2.get h2.2 hk
  | [], _ :: _, h, _, _, _ => h.elim
  | _ :: _, [], h, _, _, _ => h.elim
theorem All2.take {H α : Type} {r : H → α → Prop} : ∀ (k : Nat) {hs : List H} {as : List α}, All2 r hs as → All2 r (hs.take k) (as.take k)
  | 0, hs, as, _ => by simp [All2]
  | k + 1, [], [], _ => trivial
  | k + 1, h :: hs, a :: as, h2 => ⟨h2.1, All2.take k h2.2⟩
  | _ + 1, [], _ :: _, h => h.elim
  | _ + 1, _ :: _, [], h => h.elim
theorem All2.drop {H α : Type} {r : H → α → Prop} : ∀ (k : Nat) {hs : List H} {as : List α}, All2 r hs as → All2 r (hs.drop k) (as.drop k)
  | 0, hs, as, h => h
  | k + 1, [], [], _ => trivial
  | k + 1, h :: hs, a :: as, h2 => All2.drop k h2.2
  | _ + 1, [], _ :: _, h => h.elim
  | _ + 1, _ :: _, [], h => h.elim

/-- the cells of a row of handles -/
def encs {H α : Type} (r : R H α) (hs : List H) : List Value := hs.flatMap r.enc

theorem encs_len {H α : Type} (r : R H α) : ∀ hs : List H, (encs r hs).length = hs.length * r.size
  | [] => by simp [encs]
  | h :: hs => by
    have := encs_len r hs
    simp only [encs, List.flatMap_cons, List.length_append, r.enc_len, List.length_cons] at this ⊢
    rw [this, Nat.add_mul]; omega

theorem encs_one {H α : Type} (r : R H α) : ∀ hs : List H, allOne (encs r hs) = true
  | [] => rfl
  | h :: hs => by
    have := encs_one r hs
    have h1 := r.one h
    simp only [encs, List.flatMap_cons] at this ⊢
    generalize r.enc h = l at h1
    induction l with
    | nil => exact this
    | cons v l ih => simp only [allOne, Bool.and_eq_true, List.cons_append] at h1 ⊢; exact ⟨h1.1, ih h1.2⟩

theorem encs_append {H α : Type} (r : R H α) (a b : List H) : encs r (a ++ b) = encs r a ++ encs r b := by simp [encs]

theorem encs_get {H α : Type} (r : R H α) : ∀ {hs : List H} {k : Nat} {h : H}, hs[k]? = some h → ∀ (j : Nat) (v : Value), (r.enc h)[j]? = some v → (encs r hs)[k * r.size + j]? = some v
  | [], k, h, hk, _, _, _ => by simp at hk
  | x :: hs, 0, h, hk, j, v, hv => by
    simp at hk; subst hk
    have hj := (List.getElem?_eq_some_iff.1 hv).1
    simp only [encs, List.flatMap_cons, Nat.zero_mul, Nat.zero_add]
    rw [List.getElem?_append_left hj]; exact hv
  | x :: hs, k + 1, h, hk, j, v, hv => by
    rw [List.getElem?_cons_succ] at hk
    have ih := encs_get r hk j v hv
    simp only [encs, List.flatMap_cons] at ih ⊢
    rw [List.getElem?_append_right (by rw [r.enc_len, Nat.add_mul]; omega), r.enc_len, show (k + 1) * r.size + j - r.size = k * r.size + j by rw [Nat.add_mul]; omega]
    exact ih

/-- the slice s reads as l -/
structure SlRep {H α : Type} (r : R H α) (m : Mem) (s : Sl) (l : List α) : Prop where
  len : s.len = l.length
  cap : s.len ≤ s.cap
  fit : s.len * r.bytes ≤ 140737488355328
  cells : ∃ hs, All2 (r.rep m) hs l ∧ ((l = [] ∧ (s.a = none → s.cap = 0)) ∨ ∃ b o, s.a = some ⟨b, o, none⟩ ∧ At m b o (encs r hs))

theorem SlRep.mono {H α : Type} {r : R H α} {m m' : Mem} {s : Sl} {l : List α} (h : SlRep r m s l) (hm : m ≤ m') : SlRep r m' s l := by
  obtain ⟨hs, h1, h2⟩ := h.cells
  refine ⟨h.len, h.cap, h.fit, hs, h1.mono fun _ _ => r.mono hm, ?_⟩
  rcases h2 with h2 | ⟨b, o, h3, h4⟩
  · exact .inl h2
  · exact .inr ⟨b, o, h3, h4.mono hm⟩

theorem SlRep.small {H α : Type} {r : R H α} {m : Mem} {s : Sl} {l : List α} (h : SlRep r m s l) (hb : Nat.blt 0 r.bytes = true) : l.length ≤ 140737488355328 := by
  have h1 : 0 < r.bytes := by simpa [Nat.blt_eq] using hb
  have := h.fit
  rw [← h.len]
  exact Nat.le_trans (Nat.le_mul_of_pos_right _ h1) this

theorem SlRep.nil {H α : Type} (r : R H α) (m : Mem) : SlRep r m ⟨none, 0, 0⟩ ([] : List α) :=
  ⟨rfl, Nat.le_refl _, by simp, [], trivial, .inl ⟨rfl, fun _ => rfl⟩⟩

/-- an element of a slice: where it lies, what it is -/
theorem SlRep.elem {H α : Type} {r : R H α} {m : Mem} {s : Sl} {l : List α} (h : SlRep r m s l) {k : Nat} {a : α} (hk : l[k]? = some a) :
    ∃ b o hd, s.a = some ⟨b, o, none⟩ ∧ r.rep m hd a ∧ At m b (o + k * r.size) (r.enc hd) := by
  obtain ⟨hs, h1, h2⟩ := h.cells
  obtain ⟨hd, h3, h4⟩ := h1.get hk
  rcases h2 with ⟨h2, _⟩ | ⟨b, o, h5, h6⟩
  · subst h2; simp at hk
  · refine ⟨b, o, hd, h5, h4, fun j v hv => ?_⟩
    rw [Nat.add_assoc]
    exact h6 _ _ (encs_get r h3 j v hv)

/-! the plain kinds -/
def rInt : R Int Int where
  size := 1
  bytes := 8
  enc n := [.int .i64 n]
  rep _ h a := h = a
  enc_len _ := rfl
  one _ := rfl
  mono _ h := h
def rBool : R Bool Bool where
  size := 1
  bytes := 1
  enc n := [.bool n]
  rep _ h a := h = a
  enc_len _ := rfl
  one _ := rfl
  mono _ h := h
abbrev Str := List UInt8
@[reducible] def strV (s : Str) : Value := .string ⟨⟨s⟩⟩
def rStr : R Str Str where
  size := 1
  bytes := 16
  enc s := [strV s]
  rep _ h a := h = a
  enc_len _ := rfl
  one _ := rfl
  mono _ h := h
def rSl {H α : Type} (r : R H α) : R Sl (List α) where
  size := 1
  bytes := 24
  enc s := [s.v]
  rep m s l := SlRep r m s l
  enc_len _ := rfl
  one _ := rfl
  mono hm h := h.mono hm

section
variable {P : Program} {N : Nat} {ρ : Env} {D : List Deferred} {m : Mem} {L : List Item} {Q : EPost} {full : List Oper} {o : Oper} {K : Env → Mem → List Item → Prop}

def Tab.elem {P : Program} (T : Tab P) (t : TypeId) : Option (TypeId × TI) :=
  match T.get t with
  | some ⟨.slice e, _, _, _⟩ => match T.get e with
    | some i => some (e, i)
    | none => none
  | _ => none

theorem elem_get {T : Tab P} {t e : TypeId} {i : TI} (h : T.elem t = some (e, i)) : ∃ ti, T.get t = some ti ∧ ti.u = .slice e ∧ T.get e = some i := by
  unfold Tab.elem at h
  split at h
  · rename_i e' a b c hg
    split at h
    · rename_i j hj
      simp only [Option.some.injEq, Prod.mk.injEq] at h
      obtain ⟨rfl, rfl⟩ := h
      exact ⟨_, hg, rfl, hj⟩
    · cases h
  · cases h

def Tab.esize {P : Program} (T : Tab P) (t : TypeId) : Option Nat :=
  match T.elem t with
  | some (_, i) => some i.size
  | none => none

theorem esize_get {T : Tab P} {t : TypeId} {n : Nat} (h : T.esize t = some n) : ∃ e i, T.elem t = some (e, i) ∧ i.size = n := by
  unfold Tab.esize at h
  split at h
  · rename_i e i he
    simp only [Option.some.injEq] at h
    exact ⟨e, i, he, h⟩
  · cases h

theorem run_indexAddr (T : Tab P) {t : TypeId} {n sz len cap : Nat} {ad : Addr} {i : Int} {k : IntKind} {w : World} (he : T.esize t = some sz) (h0 : 0 ≤ i) (h1 : i < len) :
    (Instr.indexAt t (.slice (some ad) len cap) (.int k i)).run P w = .ok (.pointer (some (ad.add (i.toNat * sz)))) w := by
  obtain ⟨e, ei, h2, h3⟩ := esize_get he
  obtain ⟨ti, h4, h5, h6⟩ := elem_get h2
  have hu := T.run_underlying w h4
  rw [h5] at hu
  simp only [Instr.indexAt, Sem.run_bind, asIntOf, Sem.run_pure, Result.andThen_ok, hu]
  rw [if_pos ⟨h0, h1⟩]
  simp only [Sem.run_bind, T.run_sizeOf w h6, Result.andThen_ok, Sem.run_pure, h3]

/-- xs[k] of a slice that is read: a pointer at cells that are known -/
theorem OT.index {H α : Type} (T : Tab P) (r : R H α) {s : Sl} {l : List α} (k : Nat) {x y : Operand} {t : TypeId} {d : Nat} {a : α} (hs : SlRep r m s l)
    (ho : o.op = .indexAddr t x y) (hd : o.dst = some d) (hN : Nat.blt d N = true) (hx : ev ρ x = some s.v) {iv : Int} (hy : ev ρ y = some (.int .i64 iv)) (hik : iv = (k : Int)) (hsz : T.esize t = some r.size) (hk : l[k]? = some a)
    (hK : ∀ b i hd', r.rep m hd' a → At m b i (r.enc hd') → K ((d, .pointer (some ⟨b, i, none⟩)) :: ρ) m L) : OT P N o ρ D m L Q K := by
  subst hik
  obtain ⟨b, i, hd', h1, h2, h3⟩ := hs.elem hk
  have hlt : k < s.len := by rw [hs.len]; exact (List.getElem?_eq_some_iff.1 hk).1
  refine OT.run hd hN (fun ac w ha => ⟨w, ?_, ha.st⟩) (hK b (i + k * r.size) hd' h2 h3)
  have hx' := ha.env.eval hx
  simp only [Sl.v, h1] at hx'
  have := run_indexAddr (P := P) T (n := 0) (len := s.len) (cap := s.cap) (ad := ⟨b, i, none⟩) (k := .i64) (w := w) hsz (Int.natCast_nonneg k) (by omega : (k : Int) < s.len)
  rw [addr_add, Int.toNat_natCast] at this
  simp only [execOp, ho, hx', ha.env.eval hy, Sem.run_bind, this, Result.andThen_ok, Sem.run_pure]

/-- xs[k] of a slice whose address is known -/
theorem OT.indexP (T : Tab P) (k : Nat) {x y : Operand} {t : TypeId} {d b i n c sz : Nat}
    (ho : o.op = .indexAddr t x y) (hd : o.dst = some d) (hN : Nat.blt d N = true) (hx : ev ρ x = some (.slice (some ⟨b, i, none⟩) n c)) {iv : Int} (hy : ev ρ y = some (.int .i64 iv)) (hik : iv = (k : Int)) (hsz : T.esize t = some sz) (hk : k < n)
    (hK : K ((d, .pointer (some ⟨b, i + k * sz, none⟩)) :: ρ) m L) : OT P N o ρ D m L Q K := by
  subst hik
  refine OT.run hd hN (fun ac w ha => ⟨w, ?_, ha.st⟩) hK
  have := run_indexAddr (P := P) T (n := 0) (cap := c) (ad := ⟨b, i, none⟩) (k := .i64) (w := w) hsz (Int.natCast_nonneg k) (by omega : (k : Int) < n)
  rw [addr_add, Int.toNat_natCast] at this
  simp only [execOp, ho, ha.env.eval hx, ha.env.eval hy, Sem.run_bind, this, Result.andThen_ok, Sem.run_pure]
end
end Go.Sep
