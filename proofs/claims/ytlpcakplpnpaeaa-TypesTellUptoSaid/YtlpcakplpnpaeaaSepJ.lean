/-
  Rows of one-cell elements that the call owns, written as a list and how it is put down; rows of rows that grow.
-/
import Derived.Test.YtlpcakplpnpaeaaSepI
set_option linter.unusedVariables false
set_option linter.unusedSimpArgs false
namespace Go.Sep

theorem load_one {P : Program} {T : Tab P} {t : TypeId} {n k : Nat} {cs : List Value} {v : Value} (ha : T.isAgg t = some (false, n)) (hv : cs[k]? = some v) : T.load t cs k = some v := by
  unfold Tab.load; rw [ha]; simp only [fo_eq]; exact hv

theorem map_get {α β : Type} (f : α → β) {xs : List α} {k : Nat} {x : α} (h : xs[k]? = some x) : (xs.map f)[k]? = some (f x) := by simp [h]

section
variable {P : Program} {N : Nat} {ρ : Env} {D : List Deferred} {m : Mem} {L : List Item} {Q : EPost} {full : List Oper} {o : Oper} {K : Env → Mem → List Item → Prop}
variable {ops : List Oper} {ts : List Nat} {fuel : Nat} {listed : List Bool} {Ls Lp : List Item}

theorem OT.loadM {α : Type} (T : Tab P) (i : Nat) (f : α → Value) {xs : List α} {x0 : α} {x : Operand} {t : TypeId} {b off k d n : Nat} (hxk : xs[k]? = some x0) (ho : o.op = .load t x) (hd : o.dst = some d) (hN : Nat.blt d N = true)
    (hx : ev ρ x = some (.pointer (some ⟨b, off + k * 1, none⟩))) (hi : L[i]? = some (.cells b off (xs.map f))) (ha : T.isAgg t = some (false, n)) (hK : K ((d, f x0) :: ρ) m L) : OT P N o ρ D m L Q K :=
  OT.loadL (k := k * 1) T i ho hd hN hx hi (load_one ha (by rw [Nat.mul_one]; exact map_get f hxk)) hK

theorem OT.storeM {α : Type} (T : Tab P) (i : Nat) (f : α → Value) {xs : List α} (x0 : α) {x y : Operand} {t : TypeId} {b off k : Nat} (ho : o.op = .store t x y) (hd : o.dst = none)
    (hx : ev ρ x = some (.pointer (some ⟨b, off + k * 1, none⟩))) (hy : ev ρ y = some (f x0)) (hv : cellsF (f x0) = some [f x0]) (hs : T.sizeOk t [f x0] = true) (hi : L[i]? = some (.cells b off (xs.map f))) (hk : k < xs.length)
    (hK : K ρ m (L.set i (.cells b off ((xs.set k x0).map f)))) : OT P N o ρ D m L Q K :=
  OT.storeG (k := k * 1) T i ho hd hx hy hv hs hi (by simp; omega) (by
    have e : putAt (xs.map f) (k * 1) [f x0] = (xs.set k x0).map f := by simp [putAt, List.map_set]
    rw [e]; exact hK)

theorem OT.makeM {α : Type} (T : Tab P) (f : α → Value) (x0 : α) (n : Nat) {t : TypeId} {d : Nat} {iv : Int} {x y : Operand} {e : TypeId} {ei : TI} (hiv : iv = (n : Int)) (ho : o.op = .makeSlice t x y) (hd : o.dst = some d) (hN : Nat.blt d N = true)
    (hx : ev ρ x = some (.int .i64 iv)) (hy : ev ρ y = some (.int .i64 iv)) (he : T.elem t = some (e, ei)) (hs : Nat.beq ei.size 1 = true) (hz : cellsF ei.zero = some [f x0]) (hfit : n * ei.bytes ≤ 281474976710656) (hb : Nat.blt 0 ei.bytes = true)
    (hK : ∀ b, K ((d, .slice (some ⟨b, 0, none⟩) n n) :: ρ) m (.cells b 0 ((List.replicate n x0).map f) :: L)) : OT P N o ρ D m L Q K := by
  subst hiv
  exact OT.make T ho hd hN hx hy he hs hz hfit hb (fun b => by have := hK b; rw [List.map_replicate] at this; exact this)

theorem DO.loadM {α : Type} (T : Tab P) (i : Nat) (j : Nat) (f : α → Value) {xs : List α} {x0 : α} {x : Operand} {t : TypeId} {o : Oper} {b off k d n : Nat} (hxk : xs[k]? = some x0) (hc : Calm Q) (hns : Region.noSelect ⟨ops⟩ = true) (hok : orderOk ops ts [i] listed = true)
    (hi : ops[i]? = some o) (hg : gv ops ρ o = some true) (ho : o.op = .load t x) (hd : o.dst = some d) (hN : Nat.blt d N = true)
    (hx : ev ρ x = some (.pointer (some ⟨b, off + k * 1, none⟩))) (hj : Ls[j]? = some (.cells b off (xs.map f))) (ha : T.isAgg t = some (false, n))
    (h : DO P N ops ts fuel (listed.set i true) ((d, f x0) :: ρ) D m Ls Lp Q) : DO P N ops ts (fuel + 1) listed ρ D m Ls Lp Q :=
  DO.loadL (k := k * 1) T i j hc hns hok hi hg ho hd hN hx hj (load_one ha (by rw [Nat.mul_one]; exact map_get f hxk)) h
end

/-! rows that grow -/
def toks (ss : List Sl) (size : Nat) : List Item := ss.map fun s => tok s size

theorem eraseIdx_map' {α β : Type} (f : α → β) : ∀ (l : List α) (k : Nat), (l.map f).eraseIdx k = (l.eraseIdx k).map f
  | [], k => by simp
  | x :: xs, 0 => by simp
  | x :: xs, k + 1 => by simp [eraseIdx_map' f xs k]

theorem toks_out {ss : List Sl} {size k : Nat} {s : Sl} (L : List Item) (h : ss[k]? = some s) : (toks ss size ++ L).Perm (tok s size :: (toks (ss.eraseIdx k) size ++ L)) := by
  have h1 : (toks ss size)[k]? = some (tok s size) := map_get _ h
  have h2 := perm_at h1
  have e : (toks ss size).eraseIdx k = toks (ss.eraseIdx k) size := eraseIdx_map' _ _ _
  rw [e] at h2
  exact h2.append_right L

theorem toks_in {ss : List Sl} {size k : Nat} {s : Sl} (L : List Item) (h : k < ss.length) : (tok s size :: (toks (ss.eraseIdx k) size ++ L)).Perm (toks (ss.set k s) size ++ L) := by
  have h2 := perm_back (L := toks ss size) (i := k) (by simpa [toks] using h) (tok s size)
  have e : (toks ss size).eraseIdx k = toks (ss.eraseIdx k) size := eraseIdx_map' _ _ _
  have e2 : (toks ss size).set k (tok s size) = toks (ss.set k s) size := by simp [toks, List.map_set]
  rw [e, e2] at h2
  exact h2.append_right L

/-- rows, each in a slice of its own that may grow -/
def OwnRows {H α : Type} (r : R H α) (m : Mem) : List Sl → List (List α) → Prop := All2 fun s l => Own s ∧ SlRep r m s l

theorem OwnRows.mono {H α : Type} {r : R H α} {m m' : Mem} {ss : List Sl} {ls : List (List α)} (h : OwnRows r m ss ls) (hm : m ≤ m') : OwnRows r m' ss ls := All2.mono (fun _ _ h => ⟨h.1, h.2.mono hm⟩) h

theorem All2.set {H α : Type} {r : H → α → Prop} : ∀ {hs : List H} {as : List α} (k : Nat) {h : H} {a : α}, All2 r hs as → r h a → All2 r (hs.set k h) (as.set k a)
  | [], [], k, _, _, h1, _ => trivial
  | x :: xs, y :: ys, 0, _, _, h1, h2 => ⟨h2, h1.2⟩
  | x :: xs, y :: ys, k + 1, _, _, h1, h2 => ⟨h1.1, All2.set k h1.2 h2⟩

theorem OwnRows.rows {H α : Type} {r : R H α} {m : Mem} {ss : List Sl} {ls : List (List α)} (h : OwnRows r m ss ls) : All2 ((rSl r).rep m) ss ls := All2.mono (fun _ _ h => h.2) h

theorem OwnRows.empty {H α : Type} (r : R H α) (m : Mem) (n : Nat) : OwnRows r m (List.replicate n ⟨none, 0, 0⟩) (List.replicate n []) := by
  induction n with
  | zero => exact trivial
  | succ n ih => exact ⟨⟨Own.nil, SlRep.nil r m⟩, ih⟩

theorem St.toks0 {m : Mem} {w : World} {L : List Item} (h : St m w L) (n size : Nat) : St m w (toks (List.replicate n ⟨none, 0, 0⟩) size ++ L) := by
  induction n with
  | zero => exact h
  | succ n ih => exact ih.room0 0 0

section
variable {P : Program} {N : Nat} {ρ : Env} {D : List Deferred} {m : Mem} {L : List Item} {Q : EPost} {full : List Oper}
theorem TC.toks0 {c : Code} (n size : Nat) (h : TC P N c ρ D m (toks (List.replicate n ⟨none, 0, 0⟩) size ++ L) Q) : TC P N c ρ D m L Q := fun a w ha => h a w ⟨ha.size, ha.env, ha.defers, ha.st.toks0 n size⟩
theorem TO.toks0 {l : List Oper} (n size : Nat) (h : TO P N ⟨full⟩ l ρ D m (toks (List.replicate n ⟨none, 0, 0⟩) size ++ L) Q) : TO P N ⟨full⟩ l ρ D m L Q := fun a w ha => h a w ⟨ha.size, ha.env, ha.defers, ha.st.toks0 n size⟩
end

/-- a row of rows that is made and then left alone -/
theorem OwnRows.whole {H α : Type} {r : R H α} {m : Mem} {ss : List Sl} {ls : List (List α)} {b n : Nat} (h : OwnRows r m ss ls) (hA : At m b 0 (ss.map Sl.v)) (hn : n = ls.length) (hfit : n * 24 ≤ 140737488355328) :
    SlRep (rSl r) m ⟨some ⟨b, 0, none⟩, n, n⟩ ls := by
  refine ⟨hn, Nat.le_refl _, hfit, ss, h.rows, .inr ⟨b, 0, rfl, ?_⟩⟩
  have e : encs (rSl r) ss = ss.map Sl.v := by
    simp only [encs, rSl]
    clear h hA
    induction ss with
    | nil => rfl
    | cons x xs ih => simpa using ih
  rw [e]; exact hA

end Go.Sep
