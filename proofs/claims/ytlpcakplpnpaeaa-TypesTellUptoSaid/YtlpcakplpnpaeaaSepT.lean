/-
  Comparisons of bools.
-/
import Derived.Test.YtlpcakplpnpaeaaSepS
set_option linter.unusedVariables false
set_option linter.unusedSimpArgs false
namespace Go.Sep
section
variable {P : Program} {N : Nat} {ρ : Env} {D : List Deferred} {m : Mem} {L : List Item} {Q : EPost} {o : Oper} {full : List Oper} {K : Env → Mem → List Item → Prop}
def Tab.isBool {P : Program} (T : Tab P) (t : TypeId) : Bool :=
  match T.get t with
  | some ⟨.bool, _, _, _⟩ => true
  | _ => false
theorem isBool_get {T : Tab P} {t : TypeId} (h : T.isBool t = true) : ∃ i, T.get t = some i ∧ i.u = .bool := by
  unfold Tab.isBool at h
  split at h
  · exact ⟨_, by assumption, rfl⟩
  · cases h
theorem equalIn_bool {t : TypeId} {w : World} (dd : Nat) (a b : Bool) (hu : (underlying t).run P w = .ok .bool w) :
    (Op.equalIn (dd + 1) t (.bool a) (.bool b)).run P w = .ok (a == b) w := by
  simp only [Op.equalIn, Sem.run_bind, hu, Result.andThen_ok, Sem.run_pure]
/-- a == b, a != b of bools -/
theorem OT.eqBool (T : Tab P) {t t' : TypeId} {x y : Operand} {a b : Bool} {d : Nat} (ho : o.op = .binOp .eql t x y t') (hd : o.dst = some d) (hN : Nat.blt d N = true)
    (hx : ev ρ x = some (.bool a)) (hy : ev ρ y = some (.bool b)) (ht : T.isBool t = true) (hK : K ((d, .bool (a == b)) :: ρ) m L) : OT P N o ρ D m L Q K := by
  obtain ⟨ti, h1, h2⟩ := isBool_get ht
  refine OT.run hd hN (fun ac w ha => ⟨w, ?_, ha.st⟩) hK
  have hu := T.run_underlying w h1
  rw [h2] at hu
  have e1 : binOp .eql t (.bool a) (.bool b) = (do pure (.bool (← Op.equalIn (9999 + 1) t (.bool a) (.bool b))) : Sem Value) := rfl
  have e2 : (eqGuard .eql t x y (.bool a) (.bool b)).run P w = .ok () w := by simp [eqGuard]
  have h := equalIn_bool (P := P) 9999 a b hu
  simp only [execOp, ho, ha.env.eval hx, ha.env.eval hy, Sem.run_bind, e2, Result.andThen_ok, e1, h, Sem.run_pure]
theorem OT.neqBool (T : Tab P) {t t' : TypeId} {x y : Operand} {a b : Bool} {d : Nat} (ho : o.op = .binOp .neq t x y t') (hd : o.dst = some d) (hN : Nat.blt d N = true)
    (hx : ev ρ x = some (.bool a)) (hy : ev ρ y = some (.bool b)) (ht : T.isBool t = true) (hK : K ((d, .bool (!(a == b))) :: ρ) m L) : OT P N o ρ D m L Q K := by
  obtain ⟨ti, h1, h2⟩ := isBool_get ht
  refine OT.run hd hN (fun ac w ha => ⟨w, ?_, ha.st⟩) hK
  have hu := T.run_underlying w h1
  rw [h2] at hu
  have e1 : binOp .neq t (.bool a) (.bool b) = (do pure (.bool (!(← Op.equalIn (9999 + 1) t (.bool a) (.bool b)))) : Sem Value) := rfl
  have e2 : (eqGuard .neq t x y (.bool a) (.bool b)).run P w = .ok () w := by simp [eqGuard]
  have h := equalIn_bool (P := P) 9999 a b hu
  simp only [execOp, ho, ha.env.eval hx, ha.env.eval hy, Sem.run_bind, e2, Result.andThen_ok, e1, h, Sem.run_pure]
end
end Go.Sep
