/-
  Tables of truth values: a slice of rows, each row in cells of its own.
-/
import Derived.Test.YtopkiglcemcjnaaSepP
set_option linter.unusedVariables false
set_option linter.unusedSimpArgs false
namespace Go.Sep

/-- slices, as addresses -/
def rAddr : R Sl Sl where
  size := 1
  bytes := 24
  enc s := [s.v]
  rep _ h a := h = a
  enc_len _ := rfl
  one _ := rfl
  mono _ h := h

abbrev BRow := Nat × List Bool
def browI (x : BRow) : Item := .cells x.1 0 (x.2.map Value.bool)
@[reducible] def browS (n : Nat) (x : BRow) : Sl := ⟨some ⟨x.1, 0, none⟩, n, n⟩
def brows (xs : List BRow) : List Item := xs.map browI

theorem brows_at {a : Item} {xs : List BRow} {k : Nat} {x : BRow} (h : xs[k]? = some x) : (a :: brows xs)[1 + k]? = some (.cells x.1 0 (x.2.map Value.bool)) := by
  rw [Nat.add_comm]; exact map_get browI h
theorem brows_atL {a : Item} {xs : List BRow} {k : Nat} {x : BRow} (L : List Item) (h : xs[k]? = some x) : (a :: (brows xs ++ L))[1 + k]? = some (.cells x.1 0 (x.2.map Value.bool)) := by
  have hk := (List.getElem?_eq_some_iff.1 h).1
  rw [Nat.add_comm, List.getElem?_cons_succ, List.getElem?_append_left (by simpa [brows] using hk)]
  exact map_get browI h
theorem brows_set {a : Item} {xs : List BRow} {k : Nat} {b : Nat} {l : List Bool} (L : List Item) (h : k < xs.length) : (a :: (brows xs ++ L)).set (1 + k) (.cells b 0 (l.map Value.bool)) = a :: (brows (xs.set k (b, l)) ++ L) := by
  rw [Nat.add_comm]
  simp only [List.set_cons_succ]
  rw [List.set_append_left _ _ (by simpa [brows] using h)]
  congr 2
  simp [brows, List.map_set, browI]

section
variable {P : Program} {N : Nat} {ρ : Env} {D : List Deferred} {L : List Item} {Q : EPost}
theorem TC.freezeRows {c : Code} : ∀ (rows : List BRow) {m : Mem}, (∀ m', m ≤ m' → (∀ x ∈ rows, At m' x.1 0 (x.2.map Value.bool)) → TC P N c ρ D m' L Q) → TC P N c ρ D m (brows rows ++ L) Q
  | [], m, h => h m (Mem.le_refl _) (fun x hx => by cases hx)
  | y :: rows, m, h => by
    refine TC.freeze (b := y.1) (off := 0) (vs := y.2.map Value.bool) fun m1 hm1 hA => ?_
    refine TC.freezeRows rows fun m2 hm2 hB => ?_
    refine h m2 (Mem.le_trans hm1 hm2) fun x hx => ?_
    rcases List.mem_cons.1 hx with rfl | hx
    · exact hA.mono hm2
    · exact hB x hx
end

theorem bools_rep {m : Mem} {b n : Nat} {l : List Bool} (hA : At m b 0 (l.map Value.bool)) (hl : l.length = n) (hn : n ≤ 140737488355328) : SlRep rBool m ⟨some ⟨b, 0, none⟩, n, n⟩ l := by
  refine ⟨hl.symm, Nat.le_refl _, by simp only [rBool]; omega, l, ?_, .inr ⟨b, 0, rfl, ?_⟩⟩
  · clear hl hA
    induction l with
    | nil => trivial
    | cons x xs ih => exact ⟨rfl, ih⟩
  · have e : encs rBool l = l.map Value.bool := by
      clear hl hA
      induction l with
      | nil => rfl
      | cons x xs ih => simpa [encs, rBool] using ih
    rw [e]; exact hA

/-- a table that is left alone -/
theorem rows_rep {m : Mem} {s : Sl} {n : Nat} {rows : List BRow} (h : SlRep rAddr m s (rows.map (browS n))) (hA : ∀ x ∈ rows, At m x.1 0 (x.2.map Value.bool)) (hl : ∀ x ∈ rows, x.2.length = n) (hn : n ≤ 140737488355328) : SlRep (rSl rBool) m s (rows.map (·.2)) := by
  obtain ⟨hs, h2, hc⟩ := h.cells
  have hlen := h.len
  have key : ∀ (hs : List Sl) (rows : List BRow), (∀ x ∈ rows, At m x.1 0 (x.2.map Value.bool)) → (∀ x ∈ rows, x.2.length = n) → All2 (rAddr.rep m) hs (rows.map (browS n)) → All2 ((rSl rBool).rep m) hs (rows.map (·.2)) := fun hs => by
    induction hs with
    | nil =>
      intro rows _ _ h
      cases rows with
      | nil => trivial
      | cons x xs => exact h.elim
    | cons s hs ih =>
      intro rows hA hl h
      cases rows with
      | nil => exact h.elim
      | cons x xs =>
        refine ⟨?_, ih xs (fun y hy => hA y (List.mem_cons_of_mem _ hy)) (fun y hy => hl y (List.mem_cons_of_mem _ hy)) h.2⟩
        have e : s = browS n x := h.1
        subst e
        exact bools_rep (hA x (List.mem_cons_self ..)) (hl x (List.mem_cons_self ..)) hn
  refine ⟨by simpa using hlen, h.cap, h.fit, hs, key hs rows hA hl h2, ?_⟩
  rcases hc with ⟨h3, h4⟩ | ⟨b, o, h3, h4⟩
  · left
    refine ⟨?_, h4⟩
    have : rows = [] := by simpa using h3
    rw [this]; rfl
  · exact .inr ⟨b, o, h3, h4⟩
end Go.Sep
