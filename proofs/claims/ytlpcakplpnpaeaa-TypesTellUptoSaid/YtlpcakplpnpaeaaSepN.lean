/-
  Regions in which several things may come up next.
-/
import Derived.Test.YtlpcakplpnpaeaaSepL
set_option linter.unusedVariables false
set_option linter.unusedSimpArgs false
namespace Go.Sep

def AllL {α : Type} (p : α → Prop) : List α → Prop
  | [] => True
  | x :: xs => p x ∧ AllL p xs

theorem AllL.mem {α : Type} {p : α → Prop} : ∀ {l : List α}, AllL p l → ∀ x ∈ l, p x
  | [], _, x, h => by cases h
  | y :: ys, h, x, hx => by
    rcases List.mem_cons.1 hx with rfl | hx
    · exact h.1
    · exact h.2.mem x hx

section
variable {P : Program} {N : Nat} {ρ : Env} {D : List Deferred} {m : Mem} {L Ls Lp : List Item} {Q : EPost} {ops : List Oper} {ts : List Nat} {fuel : Nat} {listed : List Bool}

/-- one of several: what it must come to -/
def Fork (P : Program) (N : Nat) (ops : List Oper) (ts : List Nat) (fuel : Nat) (listed : List Bool) (ρ : Env) (D : List Deferred) (m : Mem) (Ls Lp : List Item) (Q : EPost) (i : Nat) : Prop :=
  ∃ o, ops[i]? = some o ∧ gv ops ρ o = some true ∧ ts.contains i = false ∧
    OT P N o ρ D m (Ls ++ Lp) Q (fun ρ' m' L' => m ≤ m' ∧ ∃ Lp', L'.Perm (Ls ++ Lp') ∧ DO P N ops ts fuel (listed.set i true) ρ' D m' Ls Lp' Q)

theorem DO.fork (i : Nat) (is : List Nat) (hr : Region.ready .any ⟨ops⟩ ⟨listed⟩ = i :: is) (h : AllL (Fork P N ops ts fuel listed ρ D m Ls Lp Q) (i :: is)) : DO P N ops ts (fuel + 1) listed ρ D m Ls Lp Q := by
  intro a w ha
  refine ⟨fun h0 => (by rw [hr] at h0; cases h0), fun j hj => ?_⟩
  rw [hr] at hj
  obtain ⟨o, hi, hg, ht, h1⟩ := h.mem j hj
  have hi' : (⟨ops⟩ : Array Oper)[j]? = some o := by simpa using hi
  have e : (⟨listed⟩ : Array Bool).setIfInBounds j true = ⟨listed.set j true⟩ := by
    apply Array.ext'; simp
  unfold wpOp
  simp only [hi', gv_wanted hg ha.env, if_true]
  refine .inl (Oper.wp_mono ?_ (h1 a w ha))
  rintro a' w' ⟨ρ', m', L', h1, h2, Lp', h3, h4⟩
  have h5 : Ok N ρ' D m' (Ls ++ Lp') a' w' := h1.perm h3
  refine ⟨fun _ => ⟨m', Lp', h2, h5.st⟩, ?_⟩
  rw [e]
  refine wpAnyT_strong ?_ _ _ _ _ (h4 a' w' h5)
  rintro w2 ⟨m2, L2, g1, g2⟩
  exact ⟨m2, L2, Mem.le_trans h2 g1, g2⟩

/-- a cut behind the first part, when that part is what stands open -/
theorem TC.cutT {ι : Type} {x y : Code} (ks : List Nat) {ρc : Env} (hk : pickEnv ρ ks = some ρc) (sρ : ι → Env) (sm : ι → Mem) (sL : ι → List Item) (I : ι → Prop)
    (hx : TC P N x ρ D m L (thenQ (fun ρ' D' m' L' => ∃ i, Has ρ' (sρ i) ∧ Has ρ' ρc ∧ D' = D ∧ m' = sm i ∧ (sL i).Sublist L' ∧ I i) Q))
    (hy : ∀ i, I i → TC P N y (sρ i ++ ρc) D (sm i) (sL i) Q) : TC P N x ρ D m L (thenQ (fun ρ' D' m' L' => TC P N y ρ' D' m' L' Q) Q) :=
  hx.mono fun e ρ' D' m' L' h => by
    cases e with
    | normal =>
      obtain ⟨i, h1, h2, h3, h4, h5, h6⟩ := (show ∃ i, Has ρ' (sρ i) ∧ Has ρ' ρc ∧ _ from h)
      subst h3; subst h4
      exact (show TC P N y ρ' D' (sm i) L' Q from fun a w ha => hy i h6 a w ((ha.sub (h1.append h2).sub).sublist h5))
    | _ => exact h

/-- no cells at all are at hand -/
theorem St.cells0 {w : World} (h : St m w L) (b off : Nat) : St m w (.cells b off [] :: L) := by
  obtain ⟨vs, h1, h2⟩ := (h.room0 b off).ofRoom
  have : vs = [] := List.eq_nil_of_length_eq_zero h1
  subst this
  exact h2
theorem TC.mcell0 {c : Code} (h : TC P N c ρ D m (mcell ⟨none, 0, 0⟩ [] :: L) Q) : TC P N c ρ D m L Q := fun a w ha => h a w ⟨ha.size, ha.env, ha.defers, ha.st.cells0 0 0⟩
end

theorem pf1 {α : Type} {a b : α} {l : List α} : (a :: b :: l).Perm (b :: a :: l) := List.Perm.swap _ _ _
theorem pf2 {α : Type} {a b c : α} {l : List α} : (a :: b :: c :: l).Perm (c :: a :: b :: l) := (List.perm_middle (l₁ := [a, b])).symm.symm
theorem pf3 {α : Type} {a b c d : α} {l : List α} : (a :: b :: c :: d :: l).Perm (d :: a :: b :: c :: l) := List.perm_middle (l₁ := [a, b, c])
theorem pf4 {α : Type} {a b c d e : α} {l : List α} : (a :: b :: c :: d :: e :: l).Perm (e :: a :: b :: c :: d :: l) := List.perm_middle (l₁ := [a, b, c, d])
end Go.Sep
