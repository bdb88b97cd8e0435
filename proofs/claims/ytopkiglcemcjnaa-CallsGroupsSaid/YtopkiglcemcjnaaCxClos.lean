/-
  Who comes to whom, by the way through ever more functions: plain.
-/
import Derived.Test.YtopkiglcemcjnaaCxPlain2
set_option linter.unusedVariables false
set_option linter.unusedSimpArgs false
namespace Go.Sep

/-- by one call or more, what lies between being below m -/
inductive PV (g : List (List Int)) (m : Nat) (i : Nat) : Nat → Prop
  | edge {j : Nat} : Edge g i j → PV g m i j
  | step {k j : Nat} : PV g m i k → k < m → Edge g k j → PV g m i j

theorem PV.path1 {g : List (List Int)} {m i j : Nat} (h : PV g m i j) : Path1 g i j := by
  induction h with
  | edge he => exact ⟨_, he, .refl⟩
  | step _ _ he ih =>
    obtain ⟨c, h1, h2⟩ := ih
    exact ⟨c, h1, .step h2 he⟩
theorem PV.mono {g : List (List Int)} {m m' i j : Nat} (h : PV g m i j) (hm : m ≤ m') : PV g m' i j := by
  induction h with
  | edge he => exact .edge he
  | step _ hk he ih => exact .step ih (by omega) he
theorem PV.split {g : List (List Int)} {m i j : Nat} (h : PV g (m + 1) i j) : PV g m i j ∨ (PV g m i m ∧ PV g m m j) := by
  induction h with
  | edge he => exact .inl (.edge he)
  | step _ hk he ih =>
    rename_i k j' _
    by_cases e : k = m
    · subst e
      rcases ih with h1 | ⟨h1, h2⟩
      · exact .inr ⟨h1, .edge he⟩
      · exact .inr ⟨h1, .edge he⟩
    · rcases ih with h1 | ⟨h1, h2⟩
      · exact .inl (.step h1 (by omega) he)
      · exact .inr ⟨h1, .step h2 (by omega) he⟩
theorem PV.of_path1 {g : List (List Int)} {n i j : Nat} (hlt : ∀ a b, a < n → Edge g a b → b < n) (hi : i < n) (h : Path1 g i j) : PV g n i j := by
  obtain ⟨c, h1, h2⟩ := h
  have : ∀ {x : Nat}, Path g c x → PV g n i x ∧ x < n := fun hp => by
    induction hp with
    | refl => exact ⟨.edge h1, hlt _ _ hi h1⟩
    | step _ he ih => exact ⟨.step ih.1 ih.2 he, hlt _ _ ih.2 he⟩
  exact (this h2).1
theorem Path1.trans {g : List (List Int)} {a b c : Nat} (h : Path1 g a b) (k : Path1 g b c) : Path1 g a c := by
  obtain ⟨x, h1, h2⟩ := h
  exact ⟨x, h1, h2.trans k.path⟩

/-- a table's entry -/
def cat (C : List (List Bool)) (i j : Nat) : Bool := ((C[i]?.getD [])[j]?).getD false
def cset (C : List (List Bool)) (i j : Nat) (v : Bool) : List (List Bool) := C.set i ((C[i]?.getD []).set j v)

structure Sq (n : Nat) (C : List (List Bool)) : Prop where
  len : C.length = n
  rows : ∀ (i : Nat) (r : List Bool), C[i]? = some r → r.length = n

theorem Sq.get {n : Nat} {C : List (List Bool)} (h : Sq n C) {i j : Nat} (hi : i < n) (hj : j < n) : ∃ r, C[i]? = some r ∧ r.length = n ∧ r[j]? = some (cat C i j) := by
  have hl := h.len
  have hr : C[i]? = some (C[i]'(by omega)) := by simp [show i < C.length by omega]
  have hrl := h.rows i _ hr
  refine ⟨_, hr, hrl, ?_⟩
  unfold cat
  rw [hr]
  simp only [Option.getD_some]
  rw [List.getElem?_eq_getElem (by omega)]
  rfl
theorem Sq.set {n : Nat} {C : List (List Bool)} (h : Sq n C) {i j : Nat} (hi : i < n) (v : Bool) : Sq n (cset C i j v) := by
  have hl := h.len
  refine ⟨by simp [cset, hl], fun i' r hr => ?_⟩
  unfold cset at hr
  rw [List.getElem?_set] at hr
  split at hr
  · rename_i e
    subst e
    rw [if_pos (by omega)] at hr
    simp only [Option.some.injEq] at hr
    rw [← hr, List.length_set]
    have hr0 : C[i]? = some (C[i]'(by omega)) := by simp [show i < C.length by omega]
    rw [hr0]; exact h.rows i _ hr0
  · exact h.rows i' r hr
theorem cat_set {n : Nat} {C : List (List Bool)} (h : Sq n C) {i j i' j' : Nat} (hi : i < n) (hj : j < n) (v : Bool) : cat (cset C i j v) i' j' = if i = i' ∧ j = j' then v else cat C i' j' := by
  have hl := h.len
  obtain ⟨r, hr, hrl, hrj⟩ := h.get hi hj
  unfold cat cset
  rw [List.getElem?_set, hr]
  simp only [Option.getD_some]
  by_cases e : i = i'
  · subst e
    rw [if_pos rfl, if_pos (by omega)]
    simp only [Option.getD_some, true_and, hr]
    rw [List.getElem?_set]
    by_cases e2 : j = j'
    · subst e2
      rw [if_pos rfl, if_pos (by omega), if_pos rfl]; rfl
    · rw [if_neg e2, if_neg e2]
  · rw [if_neg e, if_neg (fun hh => e hh.1)]

/-- what a table says is so -/
def CSound (g : List (List Int)) (n : Nat) (C : List (List Bool)) : Prop := ∀ i j, i < n → j < n → cat C i j = true → Path1 g i j
/-- in the midst: functions below m are done; of m rows below i, and row i up to k -/
structure CMid (g : List (List Int)) (n m i k : Nat) (C : List (List Bool)) : Prop where
  sq : Sq n C
  sound : CSound g n C
  below : ∀ a b, a < n → b < n → PV g m a b → cat C a b = true
  rows : ∀ a b, a < i → b < n → PV g (m + 1) a b → cat C a b = true
  here : ∀ b, b < k → PV g (m + 1) i b → cat C i b = true

theorem CMid.or {g : List (List Int)} {n m i k : Nat} {C : List (List Bool)} (h : CMid g n m i k C) (hm : m < n) (hi : i < n) (hk : k < n) (him : cat C i m = true) : CMid g n m i (k + 1) (cset C i k (cat C i k || cat C m k)) := by
  have hc := fun a b => cat_set h.sq (i' := a) (j' := b) hi hk (cat C i k || cat C m k)
  have up : ∀ a b, cat C a b = true → cat (cset C i k (cat C i k || cat C m k)) a b = true := fun a b hab => by
    rw [hc]
    split
    · rename_i e
      rw [e.1, e.2, hab]; rfl
    · exact hab
  refine ⟨h.sq.set hi _, fun a b ha hb hab => ?_, fun a b ha hb hp => up a b (h.below a b ha hb hp), fun a b ha hb hp => up a b (h.rows a b ha hb hp), fun b hb hp => ?_⟩
  · rw [hc] at hab
    split at hab
    · rename_i e
      obtain ⟨rfl, rfl⟩ := e
      simp only [Bool.or_eq_true] at hab
      rcases hab with h1 | h1
      · exact h.sound _ _ hi hk h1
      · exact (h.sound _ _ hi hm him).trans (h.sound _ _ hm hk h1)
    · exact h.sound a b ha hb hab
  · by_cases e : b = k
    · subst e
      rw [hc, if_pos ⟨rfl, rfl⟩]
      rcases hp.split with h1 | ⟨_, h2⟩
      · rw [h.below i b hi hk h1]; rfl
      · rw [h.below m b hm hk h2]; simp
    · exact up i b (h.here b (by omega) hp)
theorem CMid.rowDone {g : List (List Int)} {n m i : Nat} {C : List (List Bool)} (h : CMid g n m i n C) : CMid g n m (i + 1) 0 C := by
  refine ⟨h.sq, h.sound, h.below, fun a b ha hb hp => ?_, fun b hb => by omega⟩
  by_cases e : a = i
  · subst e; exact h.here b hb hp
  · exact h.rows a b (by omega) hb hp
theorem CMid.rowNot {g : List (List Int)} {n m i k : Nat} {C : List (List Bool)} (h : CMid g n m i k C) (hm : m < n) (hi : i < n) (him : cat C i m = false) : CMid g n m (i + 1) 0 C := by
  refine ⟨h.sq, h.sound, h.below, fun a b ha hb hp => ?_, fun b hb => by omega⟩
  by_cases e : a = i
  · subst e
    rcases hp.split with h1 | ⟨h1, _⟩
    · exact h.below a b hi hb h1
    · have := h.below a m hi hm h1
      rw [him] at this; cases this
  · exact h.rows a b (by omega) hb hp
theorem CMid.next {g : List (List Int)} {n m : Nat} {C : List (List Bool)} (h : CMid g n m n 0 C) : CMid g n (m + 1) 0 0 C :=
  ⟨h.sq, h.sound, fun a b ha hb hp => h.rows a b ha hb hp, fun a b ha => by omega, fun b hb => by omega⟩
theorem CMid.done {g : List (List Int)} {n : Nat} {C : List (List Bool)} (h : CMid g n n 0 0 C) (hlt : ∀ a b, a < n → Edge g a b → b < n) {i j : Nat} (hi : i < n) (hj : j < n) : cat C i j = true ↔ Path1 g i j :=
  ⟨h.sound i j hi hj, fun hp => h.below i j hi hj (PV.of_path1 hlt hi hp)⟩
end Go.Sep
