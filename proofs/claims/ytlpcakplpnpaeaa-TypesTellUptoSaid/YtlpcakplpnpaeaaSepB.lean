/-
  Environments, a table of types, and the operations that only compute: 'evalOp', sound.
-/
import Derived.Test.YtlpcakplpnpaeaaSepA
set_option linter.unusedVariables false
set_option linter.unusedSimpArgs false
namespace Go.Sep

abbrev Env := List (Nat × Value)

def look : Env → Nat → Option Value
  | [], _ => none
  | (i, v) :: r, j => bif Nat.beq i j then some v else look r j

def ev (ρ : Env) : Operand → Option Value
  | .tmp t => look ρ t
  | .const v => some v
  | .global g => some (.pointer (some ⟨g, 0, none⟩))
  | .func f => some (.func (.func f) #[] #[])

/-- the identity that looks at the value's head -/
def fo : Option Value → Option Value
  | some (.bool b) => some (.bool b)
  | some (.int k n) => some (.int k n)
  | some (.float k n) => some (.float k n)
  | some (.complex k a b) => some (.complex k a b)
  | some (.string s) => some (.string s)
  | some (.pointer a) => some (.pointer a)
  | some (.slice a n c) => some (.slice a n c)
  | some (.map r) => some (.map r)
  | some (.chan r) => some (.chan r)
  | some (.func f a b) => some (.func f a b)
  | some .nilFunc => some .nilFunc
  | some (.iface t v) => some (.iface t v)
  | some .nilIface => some .nilIface
  | some (.agg cs) => some (.agg cs)
  | some (.tuple vs) => some (.tuple vs)
  | none => none

theorem fo_eq (x : Option Value) : fo x = x := by cases x with
  | none => rfl
  | some v => cases v <;> rfl

/-- the identity that looks at a list's spine and its values' heads -/
def fl : List Value → Option (List Value)
  | [] => some []
  | x :: xs => match fo (some x), fl xs with
    | some y, some ys => some (y :: ys)
    | _, _ => none

theorem fl_eq : ∀ l : List Value, fl l = some l
  | [] => rfl
  | x :: xs => by simp [fl, fo_eq, fl_eq xs]

structure TI where
  u : TypeDesc
  size : Nat
  bytes : Nat
  zero : Value

structure Tab (P : Program) where
  get : TypeId → Option TI
  ok : ∀ t i, get t = some i → ∃ info, P.info? t = some info ∧ P.underlying t = some i.u ∧ info.size = i.size ∧ info.bytes = i.bytes ∧ info.zero = some i.zero
  fields : ∀ t i, get t = some i → ∀ fs, i.u = .struct fs → ∀ f ∈ fs.toList, ∃ j, P.info? f.type = some j

def TypeDesc.isAgg : TypeDesc → Bool
  | .struct _ | .array _ _ => true
  | _ => false

/-- a field's type and place -/
def Tab.field {P : Program} (T : Tab P) (t : TypeId) (f : Nat) : Option Field :=
  match T.get t with
  | some ⟨.struct fs, _, _, _⟩ => fs.toList[f]?
  | _ => none

def Tab.isAgg {P : Program} (T : Tab P) (t : TypeId) : Option (Bool × Nat) :=
  match T.get t with
  | some i => some (TypeDesc.isAgg i.u, i.size)
  | none => none

/-- a part of a list of cells, as a value of type t -/
def Tab.part {P : Program} (T : Tab P) (t : TypeId) (cs : List Value) (off : Nat) : Option Value :=
  match T.isAgg t with
  | some (true, n) => match fl ((cs.drop off).take n) with
    | some l => some (.agg ⟨l⟩)
    | none => none
  | some (false, _) => fo cs[off]?
  | none => none

def evs (ρ : Env) : List Operand → Option (List Value)
  | [] => some []
  | x :: xs => match fo (ev ρ x), evs ρ xs with
    | some y, some ys => some (y :: ys)
    | _, _ => none

def cmpInt (op : BinOp) (a b : Int) : Option Value :=
  match op with
  | .eql => some (.bool (decide (a = b)))
  | .neq => some (.bool (!decide (a = b)))
  | .lss => some (.bool (decide (a < b)))
  | .leq => some (.bool (decide (a ≤ b)))
  | .gtr => some (.bool (decide (b < a)))
  | .geq => some (.bool (decide (b ≤ a)))
  | _ => none

def cmpStr (op : BinOp) (a b : List UInt8) : Option Value :=
  match op with
  | .eql => some (.bool (decide (a = b)))
  | .neq => some (.bool (!decide (a = b)))
  | _ => none

def sameKind (a b : IntKind) : Bool :=
  match a, b with
  | .i8, .i8 | .i16, .i16 | .i32, .i32 | .i64, .i64 | .u8, .u8 | .u16, .u16 | .u32, .u32 | .u64, .u64 => true
  | _, _ => false

theorem sameKind_eq {a b : IntKind} (h : sameKind a b = true) : a = b := by cases a <;> cases b <;> first | rfl | cases h

def evalBin (op : BinOp) : Option Value → Option Value → Option Value
  | some (.int k a), some (.int k' b) => bif sameKind k k' then cmpInt op a b else none
  | some (.string ⟨⟨a⟩⟩), some (.string ⟨⟨b⟩⟩) => cmpStr op a b
  | _, _ => none

def cellsF : Value → Option (List Value)
  | .agg ⟨cs⟩ => fl cs
  | .tuple _ => none
  | v => match fo (some v) with
    | some u => some [u]
    | none => none

theorem cellsF_eq {v : Value} {cs : List Value} (h : cellsF v = some cs) : v.cells = ⟨cs⟩ := by
  unfold cellsF at h
  split at h
  · rw [fl_eq] at h; simp only [Option.some.injEq] at h; subst h; rfl
  · cases h
  · rename_i h1 h2
    rw [fo_eq] at h
    simp only [Option.some.injEq] at h; subst h
    cases v <;> first | rfl | exact (h1 _ rfl).elim

def putAt : List Value → Nat → List Value → List Value
  | vs, _, [] => vs
  | vs, k, c :: cs => putAt (vs.set k c) (k + 1) cs

theorem putAt_length : ∀ (cs vs : List Value) (k : Nat), (putAt vs k cs).length = vs.length
  | [], vs, k => rfl
  | c :: cs, vs, k => by simp [putAt, putAt_length cs]

/-- a struct's literal -/
def fillF {P : Program} (T : Tab P) (ρ : Env) (fs : List Field) : List Value → List (Nat × Operand) → Option (List Value)
  | cs, [] => fl cs
  | cs, (i, x) :: r => match fs[i]? with
    | some f => match T.get f.type, ev ρ x with
      | some ti, some v => match cellsF v with
        | some vs => bif Nat.beq vs.length ti.size && Nat.ble (f.offset + vs.length) cs.length then (match fl (putAt cs f.offset vs) with
            | some cs' => fillF T ρ fs cs' r
            | none => none) else none
        | none => none
      | _, _ => none
    | none => none

/-- operations that only compute -/
def evalOp {P : Program} (T : Tab P) (ρ : Env) : Op → Option Value
  | .move x | .assign x => fo (ev ρ x)
  | .pick c a b => match ev ρ c with
    | some (.bool true) => fo (ev ρ a)
    | some (.bool false) => fo (ev ρ b)
    | _ => none
  | .nilCheck x => match ev ρ x with
    | some (.pointer (some a)) => some (.pointer (some a))
    | _ => none
  | .fieldAddr s x f => match ev ρ x, T.field s f with
    | some (.pointer (some ⟨b, o, none⟩)), some fl => match T.isAgg fl.type with
      | some (_, n + 1) => some (.pointer (some ⟨b, o + fl.offset, none⟩))
      | _ => none
    | _, _ => none
  | .field s x f => match ev ρ x, T.field s f with
    | some (.agg ⟨cs⟩), some fl => T.part fl.type cs fl.offset
    | _, _ => none
  | .extract t i => match ev ρ t with
    | some (.tuple ⟨vs⟩) => fo vs[i]?
    | _ => none
  | .binOp op _ x y _ => evalBin op (ev ρ x) (ev ρ y)
  | .unOp .not _ x => match ev ρ x with
    | some (.bool b) => some (.bool (!b))
    | _ => none
  | .build t ⟨ps⟩ => match T.get t with
    | some ⟨.struct fs, _, _, z⟩ => match cellsF z with
      | some zs => match fillF T ρ fs.toList zs ps with
        | some l => some (.agg ⟨l⟩)
        | none => none
      | none => none
    | _ => none
  | .makeFunc fn ⟨first⟩ ⟨cap⟩ => match evs ρ first, evs ρ cap with
    | some a, some b => some (.func fn ⟨a⟩ ⟨b⟩)
    | _, _ => none
  | .call ⟨.builtin .min, ⟨[x, y]⟩, _⟩ => match ev ρ x, ev ρ y with
    | some (.int k a), some (.int _ b) => some (.int k (if b < a then b else a))
    | _, _ => none
  | .call ⟨.builtin .len, ⟨[x]⟩, ⟨[t]⟩⟩ => match ev ρ x, T.get t with
    | some (.slice _ n _), some ⟨.slice _, _, _, _⟩ => some (.int .i64 (n : Int))
    | some (.string ⟨⟨s⟩⟩), some ⟨.string, _, _, _⟩ => some (.int .i64 (s.length : Int))
    | _, _ => none
  | _ => none

def Agree (a : Act) (ρ : Env) : Prop := ∀ i v, look ρ i = some v → a.tmps[i]? = some v

theorem Agree.eval {a : Act} {ρ : Env} (h : Agree a ρ) {x : Operand} {v : Value} (hx : ev ρ x = some v) : a.eval x = v := by
  cases x with
  | tmp t =>
    have := h t v hx
    simp [Act.eval, this]
  | const u => simpa [ev, Act.eval] using hx
  | global g => simpa [ev, Act.eval] using hx
  | func f => simpa [ev, Act.eval] using hx

theorem Agree.evals {a : Act} {ρ : Env} (h : Agree a ρ) : ∀ {xs : List Operand} {vs : List Value}, evs ρ xs = some vs → xs.map a.eval = vs
  | [], vs, hx => by simp [evs] at hx; simp [hx]
  | x :: xs, vs, hx => by
    simp only [evs, fo_eq] at hx
    split at hx
    · rename_i y ys h1 h2
      cases hx
      simp [h.eval h1, h.evals h2]
    · cases hx

theorem Agree.put {a : Act} {ρ : Env} (h : Agree a ρ) {d : Nat} (hd : d < a.tmps.size) (v : Value) : Agree (a.put (some d) v) ((d, v) :: ρ) := by
  intro i u hu
  simp only [look] at hu
  cases hb : Nat.beq d i with
  | true =>
    have : d = i := Nat.eq_of_beq_eq_true hb
    subst this
    simp only [hb, cond_true, Option.some.injEq] at hu
    subst hu
    simp [Act.put, hd]
  | false =>
    have hne : d ≠ i := Nat.ne_of_beq_eq_false hb
    simp only [hb, cond_false] at hu
    simp only [Act.put]
    rw [Array.getElem?_setIfInBounds_ne hne]
    exact h i u hu

@[simp] theorem put_size (a : Act) (d : Option Tmp) (v : Value) : (a.put d v).tmps.size = a.tmps.size := by cases d <;> simp [Act.put]
@[simp] theorem put_defers (a : Act) (d : Option Tmp) (v : Value) : (a.put d v).defers = a.defers := by cases d <;> rfl

section runs
variable {P : Program} (T : Tab P) (w : World)

theorem Tab.run_underlying {t : TypeId} {i : TI} (h : T.get t = some i) : (underlying t).run P w = .ok i.u w := by
  obtain ⟨info, _, h2, _⟩ := T.ok t i h
  simp [underlying, h2]
theorem Tab.run_sizeOf {t : TypeId} {i : TI} (h : T.get t = some i) : (sizeOf t).run P w = .ok i.size w := by
  obtain ⟨info, h1, _, h3, _⟩ := T.ok t i h
  simp [sizeOf, typeInfo, h1, h3]
theorem Tab.run_isAgg {t : TypeId} {i : TI} (h : T.get t = some i) : (Go.isAgg t).run P w = .ok (TypeDesc.isAgg i.u) w := by
  have hu := T.run_underlying w h
  simp only [Go.isAgg, Sem.run_bind, hu, Result.andThen_ok]
  cases i.u <;> rfl
theorem Tab.run_zero {t : TypeId} {i : TI} (h : T.get t = some i) : (zeroValue t).run P w = .ok i.zero w := by
  obtain ⟨info, h1, _, _, _, h5⟩ := T.ok t i h
  simp [zeroValue, typeInfo, h1, h5]

theorem Tab.run_part {t : TypeId} {cs : List Value} {off : Nat} {v : Value} (h : T.part t cs off = some v) : (Go.part t ⟨cs⟩ off).run P w = .ok v w := by
  unfold Tab.part Tab.isAgg at h
  split at h
  · rename_i n hi
    split at hi
    · rename_i i hg
      simp only [Option.some.injEq, Prod.mk.injEq] at hi
      obtain ⟨h1, h2⟩ := hi
      rw [fl_eq] at h
      simp only [Option.some.injEq] at h
      subst h
      simp only [Go.part, Sem.run_bind, T.run_isAgg w hg, T.run_sizeOf w hg, Result.andThen_ok, h1, if_true, h2, Sem.run_pure]
      congr 2
      apply Array.ext'
      rw [Array.toList_extract]
      simp [List.extract_eq_take_drop]
    · cases hi
  · rename_i n hi
    split at hi
    · rename_i i hg
      simp only [Option.some.injEq, Prod.mk.injEq] at hi
      rw [fo_eq] at h
      have hc : (⟨cs⟩ : Array Value)[off]? = some v := by simpa using h
      simp only [Go.part, Sem.run_bind, T.run_isAgg w hg, Result.andThen_ok, hi.1, Bool.false_eq_true, if_false, hc, Sem.run_pure]
    · cases hi
  · cases h

theorem beq_dec {α : Type} [BEq α] [LawfulBEq α] [DecidableEq α] (a b : α) : (a == b) = decide (a = b) := by rw [Bool.eq_iff_iff]; simp

theorem toList_mk (s : List UInt8) : (ByteArray.mk ⟨s⟩).toList = s := by
  rw [ByteArray.toList_eq]

theorem run_bin {op : BinOp} {x y v : Value} (t : TypeId) (X Y : Operand) (h : evalBin op (some x) (some y) = some v) :
    (do eqGuard op t X Y x y; binOp op t x y : Sem Value).run P w = .ok v w := by
  have hg : (eqGuard op t X Y x y).run P w = .ok () w := by
    unfold evalBin at h
    split at h <;> first | (cases h; done) | skip
    all_goals
      rename_i e1 e2
      simp only [Option.some.injEq] at e1 e2
      subst e1; subst e2
      cases op <;> simp [eqGuard]
  simp only [Sem.run_bind, hg, Result.andThen_ok]
  unfold evalBin at h
  split at h
  · rename_i k a k' b e1 e2
    simp only [Option.some.injEq] at e1 e2
    subst e1; subst e2
    cases hk : sameKind k k' with
    | false => simp [hk] at h
    | true =>
      have := sameKind_eq hk
      subst this
      simp only [hk, cond_true] at h
      cases op <;> simp only [cmpInt, Option.some.injEq] at h <;> first | (cases h; done) | (subst h; simp [binOp, Op.intCmp, bne]; try rw [beq_dec])
  · rename_i a b e1 e2
    simp only [Option.some.injEq] at e1 e2
    subst e1; subst e2
    cases op <;> simp only [cmpStr, Option.some.injEq] at h <;> first | (cases h; done) | (subst h; simp only [binOp, Op.stringOp, toList_mk, Sem.run_pure, beq_dec])
  · cases h

theorem foldl_putAt : ∀ (vs cs : List Value) (off k : Nat), ((vs.zipIdx k).foldl (fun (a : Array Value) (p : Value × Nat) => a.setIfInBounds (off + p.2) p.1) ⟨cs⟩) = ⟨putAt cs (off + k) vs⟩
  | [], cs, off, k => rfl
  | v :: vs, cs, off, k => by
    simp only [List.zipIdx_cons, List.foldl_cons, putAt]
    have e : (⟨cs⟩ : Array Value).setIfInBounds (off + k) v = ⟨cs.set (off + k) v⟩ := by apply Array.ext'; simp
    rw [e, foldl_putAt vs _ off (k + 1), Nat.add_assoc]

theorem run_fill {a : Act} {ρ : Env} (hA : Agree a ρ) (fs : List Field) (place : Nat → Option (Nat × Nat)) (hp : ∀ (i : Nat) (f : Field) (ti : TI), fs[i]? = some f → T.get f.type = some ti → place i = some (f.offset, ti.size)) :
    ∀ (ps : List (Nat × Operand)) (cs l : List Value), fillF T ρ fs cs ps = some l → Instr.fill place ⟨cs⟩ (ps.map fun p => (p.1, a.eval p.2)) = some ⟨l⟩
  | [], cs, l, h => by
    simp only [fillF, fl_eq, Option.some.injEq] at h; subst h; rfl
  | (i, x) :: r, cs, l, h => by
    unfold fillF at h
    split at h
    · rename_i f hf
      split at h
      · rename_i ti v ht hv
        split at h
        · rename_i vs hvs
          cases hb : (Nat.beq vs.length ti.size && Nat.ble (f.offset + vs.length) cs.length) with
          | false => simp [hb] at h
          | true =>
            simp only [hb, cond_true, fl_eq] at h
            simp only [Bool.and_eq_true] at hb
            have h1 := Nat.eq_of_beq_eq_true hb.1
            have h2 := Nat.le_of_ble_eq_true hb.2
            have ih := run_fill hA fs place hp r _ l h
            have hc := cellsF_eq hvs
            simp only [List.map_cons, Instr.fill, hp i f ti hf ht, hA.eval hv, hc]
            have hn : ¬ ((⟨vs⟩ : Array Value).size ≠ ti.size ∨ f.offset + (⟨vs⟩ : Array Value).size > (⟨cs⟩ : Array Value).size) := by
              simp; omega
            have e := foldl_putAt vs cs f.offset 0
            simp only [Nat.add_zero] at e
            have hz : (⟨vs⟩ : Array Value).zipIdx = ⟨vs.zipIdx⟩ := by apply Array.ext'; simp
            have e2 : Array.foldl (fun (a : Array Value) (p : Value × Nat) => a.setIfInBounds (f.offset + p.2) p.1) (⟨cs⟩ : Array Value) (⟨vs⟩ : Array Value).zipIdx = ⟨putAt cs f.offset vs⟩ := by
              rw [← Array.foldl_toList, hz]; exact e
            rw [if_neg (by simpa using hn)]
            exact (congrArg (fun z => Instr.fill place z (r.map fun p => (p.1, a.eval p.2))) e2).trans ih
        · cases h
      · cases h
    · cases h

theorem run_places (fs : List Field) (w : World) (hall : ∀ f ∈ fs, ∃ i, P.info? f.type = some i) :
    ∃ ps : List (Nat × Nat), (fs.mapM (m := Sem) fun (f : Field) => do pure (f.offset, ← sizeOf f.type)).run P w = .ok ps w ∧ ∀ (i : Nat) (f : Field) (ti : TI), fs[i]? = some f → T.get f.type = some ti → ps[i]? = some (f.offset, ti.size) := by
  induction fs with
  | nil => exact ⟨[], rfl, fun i f ti h => by simp at h⟩
  | cons f fs ih =>
    obtain ⟨ps, h1, h2⟩ := ih fun g hg => hall g (List.mem_cons_of_mem _ hg)
    obtain ⟨info, hi⟩ := hall f (List.mem_cons_self ..)
    refine ⟨(f.offset, info.size) :: ps, ?_, fun i g ti hg ht => ?_⟩
    · rw [List.mapM_cons]
      simp only [Sem.run_bind, sizeOf, typeInfo, run_program, Result.andThen_ok, hi, Sem.run_pure] at h1 ⊢
      rw [h1]
      rfl
    · cases i with
      | zero =>
        simp at hg; subst hg
        obtain ⟨info', k1, _, k3, _⟩ := T.ok _ _ ht
        rw [hi] at k1; cases k1
        simp [k3]
      | succ i =>
        rw [List.getElem?_cons_succ] at hg ⊢
        exact h2 i g ti hg ht

theorem run_fieldAddr {s : TypeId} {b o f n : Nat} {fd : Field} {g : Bool} (hf : T.field s f = some fd) (hn : T.isAgg fd.type = some (g, n + 1)) :
    (Instr.fieldAt s (.pointer (some ⟨b, o, none⟩)) f).run P w = .ok (.pointer (some ⟨b, o + fd.offset, none⟩)) w := by
  unfold Tab.field at hf
  split at hf
  · rename_i fs sz by_ z hg
    have hu := T.run_underlying w hg
    unfold Tab.isAgg at hn
    split at hn
    · rename_i i hi
      simp only [Option.some.injEq, Prod.mk.injEq] at hn
      have hf' : fs[f]? = some fd := by simpa using hf
      have hs := T.run_sizeOf w hi
      have hadd : (⟨b, o, none⟩ : Addr).add fd.offset = ⟨b, o + fd.offset, none⟩ := by
        unfold Addr.add; split <;> simp_all
      simp only [Instr.fieldAt, Sem.run_bind, hu, Result.andThen_ok, hf', Instr.sureAddr, Sem.run_pure, fieldPlace, hs, hn.2, hadd]
      simp
    · cases hn
  · cases hf

end runs

theorem evalOp_run {P : Program} (T : Tab P) {a : Act} {ρ : Env} (hA : Agree a ρ) {o : Oper} {v : Value} (h : evalOp T ρ o.op = some v) (w : World) :
    (execOp a.eval o).run P w = .ok (.value v) w := by
  obtain ⟨dst, op, ty, pos, after, guard⟩ := o
  simp only at h
  unfold evalOp at h
  split at h
  · rw [fo_eq] at h; simp [execOp, hA.eval h]
  · rw [fo_eq] at h; simp [execOp, hA.eval h]
  · split at h
    · rename_i hc; rw [fo_eq] at h; simp [execOp, hA.eval h, hA.eval hc, asBool]
    · rename_i hc; rw [fo_eq] at h; simp [execOp, hA.eval h, hA.eval hc, asBool]
    · cases h
  · split at h
    · rename_i hc; cases h; simp [execOp, hA.eval hc]
    · cases h
  · split at h
    · rename_i hx hf
      split at h
      · rename_i hn
        cases h
        simp only [execOp, hA.eval hx, Sem.run_bind, run_fieldAddr T w hf hn, Result.andThen_ok, Sem.run_pure]
      · cases h
    · cases h
  · split at h
    · rename_i cs fd hx hf
      have hp := T.run_part w h
      unfold Tab.field at hf
      split at hf
      · rename_i fs sz by_ z hg
        have hf' : ∀ k : Nat, fs.toList[k]? = some fd → fs[k]? = some fd := fun k hk => by simpa using hk
        have hf' := hf' _ hf
        simp only [execOp, hA.eval hx, Sem.run_bind, Instr.field, T.run_underlying w hg, Result.andThen_ok, hf', asAgg, Sem.run_pure, hp]
      · cases hf
    · cases h
  · split at h
    · rename_i vs hx
      rw [fo_eq] at h
      have h' : ∀ k : Nat, vs[k]? = some v → (⟨vs⟩ : Array Value)[k]? = some v := fun k hk => by simpa using hk
      have h' := h' _ h
      simp only [execOp, hA.eval hx, Sem.run_bind, Instr.extract, h', Sem.run_pure, Result.andThen_ok]
    · cases h
  · rename_i bop t x y u
    cases hx : ev ρ x with
    | none => simp [hx, evalBin] at h
    | some xv =>
      cases hy : ev ρ y with
      | none => simp [hx, hy, evalBin] at h
      | some yv =>
        rw [hx, hy] at h
        have := run_bin (P := P) w t x y h
        simp only [execOp, hA.eval hx, hA.eval hy, Sem.run_bind, Sem.run_pure] at this ⊢
        rw [this]; rfl
  · split at h
    · rename_i hx; cases h; simp [execOp, hA.eval hx, Op.unary]
    · cases h
  · rename_i t ps
    split at h
    · rename_i fs sz by_ z hg
      split at h
      · rename_i zs hz
        split at h
        · rename_i l hl
          simp only [Option.some.injEq] at h; subst h
          have hzv := T.run_zero w hg
          have hu := T.run_underlying w hg
          obtain ⟨pl, hp1, hp2⟩ := run_places T fs.toList w (T.fields _ _ hg fs rfl)
          have hfill := run_fill T hA fs.toList (fun i => (⟨pl⟩ : Array (Nat × Nat))[i]?) (fun i f ti h1 h2 => by simpa using hp2 i f ti h1 h2) ps zs l hl
          have hmap : (fs.mapM (m := Sem) fun (f : Field) => do pure (f.offset, ← sizeOf f.type)).run P w = .ok ⟨pl⟩ w := by
            rw [Array.mapM_eq_mapM_toList, Sem.run_map, hp1]; rfl
          have e3 : ((⟨ps⟩ : Array (Nat × Operand)).map fun (p : Nat × Operand) => (p.1, a.eval p.2)).toList = ps.map fun p => (p.1, a.eval p.2) := by simp
          simp only [execOp, Instr.build, Sem.run_bind, hzv, hu, Result.andThen_ok, hmap, cellsF_eq hz, e3]
          rw [hfill]
          rfl
        · cases h
      · cases h
    · cases h
  · split at h
    · rename_i h1 h2
      cases h
      have e1 := hA.evals h1
      have e2 := hA.evals h2
      simp [execOp, Instr.makeFunc, e1, e2]
    · cases h
  · split at h
    · rename_i hx hy
      cases h
      simp [execOp, resolve, invoke, builtin, Builtin.min_, Builtin.min2, hA.eval hx, hA.eval hy]
    · cases h
  · split at h
    · rename_i hx hg
      cases h
      simp [execOp, resolve, invoke, builtin, Builtin.len_, hA.eval hx, T.run_underlying w hg, goInt]
    · rename_i hx hg
      cases h
      simp [execOp, resolve, invoke, builtin, Builtin.len_, hA.eval hx, T.run_underlying w hg, goInt]
      rfl
    · cases h
  · cases h

end Go.Sep
