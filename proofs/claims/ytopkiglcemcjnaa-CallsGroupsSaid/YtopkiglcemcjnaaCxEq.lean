/-
  Sites compared.
-/
import Derived.Test.YtopkiglcemcjnaaCxAwake
set_option linter.unusedVariables false
set_option linter.unusedSimpArgs false
namespace Go.Sep
open Go.Proofs

theorem run_eqInt (w : World) {t : TypeId} {k : IntKind} (n : Nat) (hu : (underlying t).run Try.prog w = .ok (.int k) w) (a b : Int) : (Op.equalIn (n + 1) t (.int .i64 a) (.int .i64 b)).run Try.prog w = .ok (decide (a = b)) w := by
  simp only [Op.equalIn, Sem.run_bind, hu, Result.andThen_ok]
  simp [beq_dec]
theorem run_eqStr (w : World) {t : TypeId} (n : Nat) (hu : (underlying t).run Try.prog w = .ok .string w) (a b : Str) : (Op.equalIn (n + 1) t (strV a) (strV b)).run Try.prog w = .ok (decide (a = b)) w := by
  simp only [Op.equalIn, Sem.run_bind, hu, Result.andThen_ok]
  simp only [beq_toListBytes, toList_mk, beq_dec, Sem.run_pure]

def sf0 : Field := { name := "From", type := 3, offset := 0, embedded := false, tag := "", pkgPath := "", byteOffset := 0 }
def sf1 : Field := { name := "To", type := 3, offset := 1, embedded := false, tag := "", pkgPath := "", byteOffset := 8 }
def sf2 : Field := { name := "Iface", type := 3, offset := 2, embedded := false, tag := "", pkgPath := "", byteOffset := 16 }
def sf3 : Field := { name := "Method", type := 9, offset := 3, embedded := false, tag := "", pkgPath := "", byteOffset := 24 }
theorem site_u (w : World) : (underlying 34).run Try.prog w = .ok (.struct #[sf0, sf1, sf2, sf3]) w := tab.run_underlying (i := tiOf Try.t34 Try.t33) w rfl
theorem int_u (w : World) : (underlying 3).run Try.prog w = .ok (.int .i64) w := tab.run_underlying (i := tiOf Try.t3 Try.t3) w rfl
theorem str_u (w : World) : (underlying 9).run Try.prog w = .ok .string w := tab.run_underlying (i := tiOf Try.t9 Try.t9) w rfl
theorem site_stood : Try.prog.stoodInHeld 34 = false := by kernel_rfl
theorem site_guard : Try.prog.eqGuardType Try.prog.depth 34 = false := by kernel_rfl

theorem run_eqSite (w : World) (a b : Site) : (Op.equalIn (9998 + 1 + 1) 34 (siteV a) (siteV b)).run Try.prog w = .ok (decide (a = b)) w := by
  have p : ∀ (s : Site) (f : Field) (v : Value), tab.part f.type (siteC s) f.offset = some v → (part f.type ⟨siteC s⟩ f.offset).run Try.prog w = .ok v w := fun s f v h => tab.run_part w h
  have p0 : ∀ x y z s, (part sf0.type ⟨[.int .i64 x, .int .i64 y, .int .i64 z, strV s]⟩ sf0.offset).run Try.prog w = .ok (.int .i64 x) w := fun x y z s => p ⟨x, y, z, s⟩ sf0 _ rfl
  have p1 : ∀ x y z s, (part sf1.type ⟨[.int .i64 x, .int .i64 y, .int .i64 z, strV s]⟩ sf1.offset).run Try.prog w = .ok (.int .i64 y) w := fun x y z s => p ⟨x, y, z, s⟩ sf1 _ rfl
  have p2 : ∀ x y z s, (part sf2.type ⟨[.int .i64 x, .int .i64 y, .int .i64 z, strV s]⟩ sf2.offset).run Try.prog w = .ok (.int .i64 z) w := fun x y z s => p ⟨x, y, z, s⟩ sf2 _ rfl
  have p3 : ∀ x y z s, (part sf3.type ⟨[.int .i64 x, .int .i64 y, .int .i64 z, strV s]⟩ sf3.offset).run Try.prog w = .ok (strV s) w := fun x y z s => p ⟨x, y, z, s⟩ sf3 _ rfl
  rw [Op.equalIn]
  simp only [Sem.run_bind, site_u, Result.andThen_ok]
  simp only [Go.program, Sem.run]
  simp only [Result.andThen_ok, site_stood, Bool.false_eq_true, if_false]
  have e0 : ∀ a b : Int, (Op.equalIn 9999 sf0.type (.int .i64 a) (.int .i64 b)).run Try.prog w = .ok (decide (a = b)) w := run_eqInt w 9998 (int_u w)
  have e1 : ∀ a b : Int, (Op.equalIn 9999 sf1.type (.int .i64 a) (.int .i64 b)).run Try.prog w = .ok (decide (a = b)) w := run_eqInt w 9998 (int_u w)
  have e2 : ∀ a b : Int, (Op.equalIn 9999 sf2.type (.int .i64 a) (.int .i64 b)).run Try.prog w = .ok (decide (a = b)) w := run_eqInt w 9998 (int_u w)
  have e3 : ∀ a b : Str, (Op.equalIn 9999 sf3.type (strV a) (strV b)).run Try.prog w = .ok (decide (a = b)) w := run_eqStr w 9998 (str_u w)
  have n0 : sf0.name ≠ "_" := by decide
  have n1 : sf1.name ≠ "_" := by decide
  have n2 : sf2.name ≠ "_" := by decide
  have n3 : sf3.name ≠ "_" := by decide
  have hiff : (a = b) ↔ (a.frm = b.frm ∧ a.to = b.to ∧ a.iface = b.iface ∧ a.method = b.method) := by
    obtain ⟨a1, a2, a3, a4⟩ := a
    obtain ⟨b1, b2, b3, b4⟩ := b
    simp
  have hdec : decide (a = b) = (decide (a.frm = b.frm) && decide (a.to = b.to) && decide (a.iface = b.iface) && decide (a.method = b.method)) := by
    rw [Bool.eq_iff_iff]; simp [hiff, and_assoc]
  rw [hdec]
  rw [← Array.forIn_toList]
  by_cases h0 : a.frm = b.frm
  · by_cases h1 : a.to = b.to
    · by_cases h2 : a.iface = b.iface
      · by_cases h3 : a.method = b.method
        · simp [n0, n1, n2, n3, p0, p1, p2, p3, e0, e1, e2, e3, h0, h1, h2, h3]
        · simp [n0, n1, n2, n3, p0, p1, p2, p3, e0, e1, e2, e3, h0, h1, h2, h3]
      · simp [n0, n1, n2, n3, p0, p1, p2, p3, e0, e1, e2, e3, h0, h1, h2]
    · simp [n0, n1, n2, n3, p0, p1, p2, p3, e0, e1, e2, e3, h0, h1]
  · simp [n0, n1, n2, n3, p0, p1, p2, p3, e0, e1, e2, e3, h0]

theorem run_neqSite (w : World) (a b : Site) (X Y : Operand) : (do eqGuard .neq 34 X Y (siteV a) (siteV b); binOp .neq 34 (siteV a) (siteV b) : Sem Value).run Try.prog w = .ok (.bool (!decide (a = b))) w := by
  have h := run_eqSite w a b
  have e1 : binOp .neq 34 (siteV a) (siteV b) = (do pure (.bool (!(← Op.equalIn (9998 + 1 + 1) 34 (siteV a) (siteV b)))) : Sem Value) := rfl
  have e2 : (eqGuard .neq 34 X Y (siteV a) (siteV b)).run Try.prog w = .ok () w := by
    simp [eqGuard, Go.program, Sem.run, site_guard]
  rw [e1]
  simp only [Sem.run_bind, e2, Result.andThen_ok, h, Sem.run_pure]

section
variable {N : Nat} {ρ : Env} {D : List Deferred} {m : Mem} {L : List Item} {Q : EPost} {o : Oper} {K : Env → Mem → List Item → Prop}
theorem OT.neqSite {a b : Site} {x y : Operand} {t' : TypeId} {d : Nat} (ho : o.op = .binOp .neq 34 x y t') (hd : o.dst = some d) (hN : Nat.blt d N = true)
    (hx : ev ρ x = some (siteV a)) (hy : ev ρ y = some (siteV b)) (hK : K ((d, .bool (!decide (a = b))) :: ρ) m L) : OT Try.prog N o ρ D m L Q K := by
  refine OT.run hd hN (fun ac w ha => ⟨w, ?_, ha.st⟩) hK
  have hr := run_neqSite w a b x y
  simp only [Sem.run_bind] at hr
  simp only [execOp, ho, ha.env.eval hx, ha.env.eval hy, Sem.run_bind]
  revert hr
  cases (eqGuard BinOp.neq 34 x y (siteV a) (siteV b)).run Try.prog w with
  | ok u w' => intro hr; simp only [Result.andThen_ok] at hr ⊢; rw [hr]; rfl
  | _ => intro hr; cases hr
end
end Go.Sep
