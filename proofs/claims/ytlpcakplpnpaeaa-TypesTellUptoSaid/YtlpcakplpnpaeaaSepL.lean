/-
  Comparisons of slices and maps with nil.
-/
import Derived.Test.YtlpcakplpnpaeaaSepK
set_option linter.unusedVariables false
set_option linter.unusedSimpArgs false
namespace Go.Sep
theorem perm_f2 {α : Type} {x a b : α} {L : List α} : (a :: b :: (L ++ [x])).Perm (x :: a :: b :: L) := perm_first (l := a :: b :: L)
theorem perm_f3 {α : Type} {x a b c : α} {L : List α} : (a :: b :: c :: (L ++ [x])).Perm (x :: a :: b :: c :: L) := perm_first (l := a :: b :: c :: L)
theorem perm_f4 {α : Type} {x a b c d : α} {L : List α} : (a :: b :: c :: d :: (L ++ [x])).Perm (x :: a :: b :: c :: d :: L) := perm_first (l := a :: b :: c :: d :: L)
theorem perm_4 {α : Type} {a b c d : α} {L : List α} : (a :: b :: c :: d :: (L ++ [])).Perm (a :: b :: c :: d :: L) := by rw [List.append_nil]
theorem perm_6 {α : Type} {a b c d e f : α} {L : List α} : (a :: b :: c :: d :: e :: f :: (L ++ [])).Perm (a :: b :: c :: d :: e :: f :: L) := by rw [List.append_nil]

section
variable {P : Program} {N : Nat} {ρ : Env} {D : List Deferred} {m : Mem} {L : List Item} {Q : EPost} {o : Oper} {K : Env → Mem → List Item → Prop}

theorem equalIn_nilSlice {t e : TypeId} {w : World} (dd : Nat) (hu : (underlying t).run P w = .ok (.slice e) w) (s : Sl) :
    (Op.equalIn (dd + 1) t s.v (.slice none 0 0)).run P w = .ok (decide (s.a = none)) w := by
  obtain ⟨a, n, c⟩ := s
  cases a with
  | none => simp only [Sl.v, Op.equalIn, Sem.run_bind, hu, Result.andThen_ok, Sem.run_pure]; rfl
  | some a => simp only [Sl.v, Op.equalIn, Sem.run_bind, hu, Result.andThen_ok, Sem.run_pure]; rfl

theorem run_nilSlice (T : Tab P) {t e : TypeId} {ei : TI} {s : Sl} {w : World} {X Y : Operand} (he : T.elem t = some (e, ei)) :
    (do eqGuard .eql t X Y s.v (.slice none 0 0); binOp .eql t s.v (.slice none 0 0) : Sem Value).run P w = .ok (.bool (decide (s.a = none))) w := by
  obtain ⟨ti, h4, h5, h6⟩ := elem_get he
  have hu := T.run_underlying w h4
  rw [h5] at hu
  have h := equalIn_nilSlice (P := P) 9999 hu s
  have e1 : binOp .eql t s.v (.slice none 0 0) = (do pure (.bool (← Op.equalIn (9999 + 1) t s.v (.slice none 0 0))) : Sem Value) := rfl
  have e2 : (eqGuard .eql t X Y s.v (.slice none 0 0)).run P w = .ok () w := by simp [eqGuard, Sl.v]
  rw [e1]
  simp only [Sem.run_bind, e2, Result.andThen_ok, h, Sem.run_pure]

theorem OT.nilSlice (T : Tab P) {t t' e : TypeId} {ei : TI} {s : Sl} {x y : Operand} {d : Nat} (ho : o.op = .binOp .eql t x y t') (hd : o.dst = some d) (hN : Nat.blt d N = true)
    (hx : ev ρ x = some s.v) (hy : ev ρ y = some (.slice none 0 0)) (he : T.elem t = some (e, ei)) (hK : K ((d, .bool (decide (s.a = none))) :: ρ) m L) : OT P N o ρ D m L Q K := by
  refine OT.run hd hN (fun a w ha => ⟨w, ?_, ha.st⟩) hK
  have hr := run_nilSlice (P := P) T (s := s) (w := w) (X := x) (Y := y) he
  simp only [Sem.run_bind] at hr
  simp only [execOp, ho, ha.env.eval hx, ha.env.eval hy, Sem.run_bind]
  revert hr
  cases (eqGuard BinOp.eql t x y s.v (Value.slice none 0 0)).run P w with
  | ok u w' => intro hr; simp only [Result.andThen_ok] at hr ⊢; rw [hr]; rfl
  | _ => intro hr; cases hr

/-- a result that lies in a cell, and one in a slot -/
theorem retQ_ret_c (T : Tab P) (i : Nat) {fn : Func} {R : Value → Mem → List Item → Prop} {X : List PanicEntry → Mem → List Item → Prop} {t u : Nat} {ty : TypeId} {b : Nat} {cs : List Value} {v v2 : Value} {L' : List Item}
    (hres : fn.results = ⟨[.cell t ty, .tmp u]⟩) (ht : look ρ t = some (.pointer (some ⟨b, 0, none⟩))) (hi : L[i]? = some (.cells b 0 cs)) (hv : T.load ty cs 0 = some v) (hu : look ρ u = some v2) (hs : L'.Sublist L)
    (h : R (.tuple ⟨[v, v2]⟩) m L') : retQ P fn R X .ret ρ [] m L := by
  refine ⟨rfl, _, L', fun a w hA hst => ?_, hs, h⟩
  have h1 := run_loadVar (P := P) T (k := 0) (hst.cells hi) hv
  have h2 := hA t _ ht
  have h3 := hA u _ hu
  unfold results
  rw [hres, Array.mapM_eq_mapM_toList]
  simp [Sem.run_bind, Sem.run_map, h2, h3, asAddr, h1]
end
end Go.Sep
