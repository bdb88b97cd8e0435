/-
  Plain laws of types: equality, which types are formed.
-/
import Derived.Test.YtlpcakplpnpaeaaTyPlain
set_option linter.unusedVariables false
set_option linter.unusedSimpArgs false
namespace Go.Sep

mutual
def teq : Tree → Tree → Bool
  | .mk k n u ks, .mk k' n' u' ks' => decide (k = k') && (decide (n = n') && (decide (u = u') && teqL ks ks'))
def teqL : List Tree → List Tree → Bool
  | [], [] => true
  | t :: ts, s :: ss => teq t s && teqL ts ss
  | [], _ :: _ => false
  | _ :: _, [] => false
end
mutual
theorem teq_iff : ∀ a b : Tree, teq a b = true ↔ a = b
  | .mk k n u ks, .mk k' n' u' ks' => by
    have := teqL_iff ks ks'
    simp only [teq, Bool.and_eq_true, decide_eq_true_eq, this, Tree.mk.injEq]
theorem teqL_iff : ∀ l r : List Tree, teqL l r = true ↔ l = r
  | [], [] => by simp [teqL]
  | t :: ts, s :: ss => by
    have h1 := teq_iff t s
    have h2 := teqL_iff ts ss
    simp only [teqL, Bool.and_eq_true, h1, h2, List.cons.injEq]
  | [], _ :: _ => by simp [teqL]
  | _ :: _, [] => by simp [teqL]
end
theorem teq_refl (a : Tree) : teq a a = true := (teq_iff a a).2 rfl
theorem teq_comm (a b : Tree) : teq a b = teq b a := by
  rw [Bool.eq_iff_iff, teq_iff, teq_iff]
  exact eq_comm
theorem teq_eq (a b : Tree) : teq a b = (decide (a.kind = b.kind) && (decide (a.name = b.name) && (decide (a.num = b.num) && teqL a.kids b.kids))) := by
  obtain ⟨_, _, _, _⟩ := a
  obtain ⟨_, _, _, _⟩ := b
  rfl
theorem teqL_len {l r : List Tree} (h : l.length ≠ r.length) : teqL l r = false := by
  cases hc : teqL l r with
  | false => rfl
  | true => exact absurd (congrArg List.length ((teqL_iff l r).1 hc)) h
theorem teqL_step (l r : List Tree) (k : Nat) (h1 : k < l.length) (h2 : k < r.length) : teqL (l.drop k) (r.drop k) = (teq l[k] r[k] && teqL (l.drop (k + 1)) (r.drop (k + 1))) := by
  rw [List.drop_eq_getElem_cons h1, List.drop_eq_getElem_cons h2, teqL]

/-- what a type's own node must be -/
def kindB (a : Tree) : Bool :=
  if a.kind = 1 ∨ a.kind = 2 ∨ a.kind = 3 ∨ a.kind = 8 then decide (a.kids.length = 0)
  else if a.kind = 4 then decide (a.kids.length = 0) && (isName a.name && decide (basicOf a.name = 0))
  else if a.kind = 5 ∨ a.kind = 6 then decide (a.kids.length = 1)
  else if a.kind = 7 then decide (0 ≤ a.num) && decide (a.num ≤ (a.kids.length : Int)) else false
def headB (a : Tree) : Bool := (decide (a.kind = 4) || decide (a.name = [])) && (decide (a.kind = 7) || decide (a.num = 0))
mutual
def Tree.formed : Tree → Bool
  | .mk k n u ks => formedL ks && (headB (.mk k n u ks) && kindB (.mk k n u ks))
def formedL : List Tree → Bool
  | [] => true
  | t :: ts => (!decide (t.kind = 8) && t.formed) && formedL ts
end
theorem formed_eq (a : Tree) : a.formed = (formedL a.kids && (headB a && kindB a)) := by
  obtain ⟨_, _, _, _⟩ := a
  rfl
theorem formedL_eq : ∀ l : List Tree, formedL l = l.all (fun t => !decide (t.kind = 8) && t.formed)
  | [] => rfl
  | t :: ts => by rw [formedL, formedL_eq ts, List.all_cons]
theorem formedL_append (l r : List Tree) : formedL (l ++ r) = (formedL l && formedL r) := by rw [formedL_eq, formedL_eq, formedL_eq, List.all_append]
theorem formedL_next (l : List Tree) (k : Nat) (h : k < l.length) : formedL (l.take (k + 1)) = (formedL (l.take k) && (!decide (l[k].kind = 8) && l[k].formed)) := by
  rw [List.take_succ_eq_append_getElem h, formedL_append]
  simp [formedL]
theorem formedL_false {l : List Tree} {t : Tree} (hm : t ∈ l) (h : (!decide (t.kind = 8) && t.formed) = false) : formedL l = false := by
  rw [formedL_eq]
  exact List.all_eq_false.2 ⟨t, hm, by rw [h]; simp⟩
/-- is it a type? -/
def Tree.sound (a : Tree) : Bool := decide (a.size ≤ 20000 ∧ a.deep ≤ 100) && a.formed
end Go.Sep
