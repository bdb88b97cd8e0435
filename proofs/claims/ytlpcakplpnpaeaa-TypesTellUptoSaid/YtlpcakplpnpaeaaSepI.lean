/-
  Small things about growing slices, and contracts that make something.
-/
import Derived.Test.YtlpcakplpnpaeaaSepM
set_option linter.unusedVariables false
set_option linter.unusedSimpArgs false
namespace Go.Sep

/-- a room of no size is at hand -/
theorem St.room0 {m : Mem} {w : World} {L : List Item} (h : St m w L) (b off : Nat) : St m w (.room b off 0 :: L) := by
  refine h.ofItems (fun y hy => ?_) (fun y hy => ?_) (List.pairwise_cons.2 ⟨fun y hy => .inl rfl, h.disj⟩)
  · rcases List.mem_cons.1 hy with rfl | hy
    · intro j hj; omega
    · exact h.items y hy
  · rcases List.mem_cons.1 hy with rfl | hy
    · exact ⟨fun hl => by simp [Item.len] at hl, fun j hj => by simp [Item.len] at hj, fun _ _ e => by cases e⟩
    · exact h.free y hy

/-- a contract that makes something: memory grows, the items are as they were -/
@[reducible] def Made (m : Mem) (L : List Item) (X : Value → Mem → Prop) : Value → Mem → List Item → Prop := fun r m' L' => m ≤ m' ∧ L = L' ∧ X r m'

section
variable {P : Program} {N : Nat} {ρ : Env} {D : List Deferred} {m : Mem} {L : List Item} {Q : EPost} {full : List Oper} {o : Oper} {K : Env → Mem → List Item → Prop}

theorem TC.room0 {c : Code} (b off : Nat) (h : TC P N c ρ D m (.room b off 0 :: L) Q) : TC P N c ρ D m L Q := fun a w ha => h a w ⟨ha.size, ha.env, ha.defers, ha.st.room0 b off⟩
theorem TO.room0 {l : List Oper} (b off : Nat) (h : TO P N ⟨full⟩ l ρ D m (.room b off 0 :: L) Q) : TO P N ⟨full⟩ l ρ D m L Q := fun a w ha => h a w ⟨ha.size, ha.env, ha.defers, ha.st.room0 b off⟩
theorem TC.grow0 {c : Code} {size : Nat} (h : TC P N c ρ D m (tok ⟨none, 0, 0⟩ size :: L) Q) : TC P N c ρ D m L Q := TC.room0 0 0 h
theorem TO.grow0 {l : List Oper} {size : Nat} (h : TO P N ⟨full⟩ l ρ D m (tok ⟨none, 0, 0⟩ size :: L) Q) : TO P N ⟨full⟩ l ρ D m L Q := TO.room0 0 0 h
theorem tok_lit (b size : Nat) : tok ⟨some ⟨b, 0, none⟩, 0, 0⟩ size = .room b 0 0 := by simp [tok]
theorem TC.growL {c : Code} (b size : Nat) (h : TC P N c ρ D m (tok ⟨some ⟨b, 0, none⟩, 0, 0⟩ size :: L) Q) : TC P N c ρ D m L Q := TC.room0 b 0 (by rw [tok_lit] at h; exact h)
theorem TO.growL {l : List Oper} (b size : Nat) (h : TO P N ⟨full⟩ l ρ D m (tok ⟨some ⟨b, 0, none⟩, 0, 0⟩ size :: L) Q) : TO P N ⟨full⟩ l ρ D m L Q := TO.room0 b 0 (by rw [tok_lit] at h; exact h)

theorem SlRep.lit0 {H α : Type} (r : R H α) (m : Mem) (b : Nat) : SlRep r m ⟨some ⟨b, 0, none⟩, 0, 0⟩ ([] : List α) :=
  ⟨rfl, Nat.le_refl _, by simp, [], trivial, .inl ⟨rfl, fun h => by cases h⟩⟩
theorem Own.lit (b n c : Nat) : Own ⟨some ⟨b, 0, none⟩, n, c⟩ := .inr ⟨b, 0, rfl⟩
theorem Own.nil : Own ⟨none, 0, 0⟩ := .inl rfl
end

theorem OT.perm {P : Program} {N : Nat} {ρ : Env} {D : List Deferred} {m : Mem} {L L' : List Item} {Q : EPost} {o : Oper} {K : Env → Mem → List Item → Prop} (hp : L.Perm L') (h : OT P N o ρ D m L' Q K) : OT P N o ρ D m L Q K :=
  fun a w ha => h a w ⟨ha.size, ha.env, ha.defers, ha.st.perm hp⟩

theorem perm_last {α : Type} {x : α} {l : List α} : (x :: l).Perm (l ++ [x]) := (List.perm_append_singleton x l).symm
theorem perm_first {α : Type} {x : α} {l : List α} : (l ++ [x]).Perm (x :: l) := List.perm_append_singleton x l
theorem perm_mid {α : Type} {x : α} {l l' : List α} : (x :: (l ++ l')).Perm (l ++ (x :: l')) := List.perm_middle.symm

/-- the state of a loop that grows one slice -/
structure Grow where
  k : Nat
  s : Sl
  m : Mem

theorem foldl_take {α β : Type} (f : β → α → β) (z : β) (l : List α) {k : Nat} (h : k < l.length) : (l.take (k + 1)).foldl f z = f ((l.take k).foldl f z) l[k] := by
  rw [List.take_succ_eq_append_getElem h, List.foldl_append]; rfl
end Go.Sep
