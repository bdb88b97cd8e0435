/-
  Bytes of strings, sums of strings, functions compared with nil.
-/
import Derived.Test.YtlpcakplpnpaeaaSepP
set_option linter.unusedVariables false
set_option linter.unusedSimpArgs false
namespace Go.Sep
theorem Item.Free.weaken {m m' : Mem} (h : m ≤ m') {x : Item} (hf : x.Free m') : x.Free m where
  pin := by rw [← h.pin]; exact hf.pin
  c := fun j hj => by
    have h1 := hf.c j hj
    cases hc : m.c x.blk (x.off + j) with
    | none => rfl
    | some v => rw [h.c _ _ _ hc] at h1; cases h1
  o := fun b o hx => by
    have h1 := hf.o b o hx
    cases hc : m.o b with
    | none => rfl
    | some v => rw [h.o _ _ hc] at h1; cases h1

theorem St.weaken {m m' : Mem} {w : World} {L : List Item} (h : St m' w L) (hm : m ≤ m') : St m w L where
  os := by rw [h.os, hm.pin]
  tape := by rw [h.tape, hm.pin]
  output := by rw [h.output, hm.pin]
  size := by rw [← hm.pin]; exact h.size
  pin := by rw [← hm.pin]; exact h.pin
  c := fun b i v hv => h.c b i v (hm.c b i v hv)
  o := fun b x hx => h.o b x (hm.o b x hx)
  items := h.items
  free := fun x hx => (h.free x hx).weaken hm
  disj := h.disj

/-- what was learned on the way is let go -/
theorem TCall.forget {P : Program} {f : FuncId} {args : Array Value} {m : Mem} {L : List Item} {v : Value} (h : TCall P f args m L (Made m L fun r _ => r = v)) : TCall P f args m L (Ret v m L) :=
  fun w hs => (h w hs).mono fun e w' he => by
    cases e with
    | returned v => obtain ⟨m', L', h1, h2, rfl, rfl⟩ := he; exact ⟨m, L, h1.weaken h2, rfl, rfl, rfl⟩
    | panicked ch => obtain ⟨_, _, _, hf⟩ := he; exact hf.elim
    | outgrown => exact he

section
variable {P : Program} {N : Nat} {ρ : Env} {D : List Deferred} {m : Mem} {L : List Item} {Q : EPost} {o : Oper} {K : Env → Mem → List Item → Prop}

@[reducible] def byteV (b : UInt8) : Value := .int .u8 (b.toNat : Int)

def Tab.isStr {P : Program} (T : Tab P) (t : TypeId) : Bool :=
  match T.get t with
  | some ⟨.string, _, _, _⟩ => true
  | _ => false

theorem isStr_get {T : Tab P} {t : TypeId} (h : T.isStr t = true) : ∃ i, T.get t = some i ∧ i.u = .string := by
  unfold Tab.isStr at h
  split at h
  · exact ⟨_, by assumption, rfl⟩
  · cases h

theorem getElem_data (s : Str) (k : Nat) {b : UInt8} (h : s[k]? = some b) : (⟨⟨s⟩⟩ : ByteArray)[k]? = some b := by
  obtain ⟨hk, he⟩ := List.getElem?_eq_some_iff.1 h
  have hs : k < (⟨⟨s⟩⟩ : ByteArray).size := hk
  rw [getElem?_pos _ k hs]
  exact congrArg some he

/-- s[k] of a string -/
theorem OT.sidx (T : Tab P) {t : TypeId} {x y : Operand} {s : Str} {i : Int} {b : UInt8} {d : Nat} (k : Nat) (ho : o.op = .index t x y) (hd : o.dst = some d) (hN : Nat.blt d N = true)
    (ht : T.isStr t = true) (hx : ev ρ x = some (strV s)) (hy : ev ρ y = some (.int .i64 i)) (hi : i = (k : Int)) (hb : s[k]? = some b) (hK : K ((d, byteV b) :: ρ) m L) : OT P N o ρ D m L Q K := by
  obtain ⟨ti, h1, h2⟩ := isStr_get ht
  subst hi
  refine OT.run hd hN (fun a w ha => ⟨w, ?_, ha.st⟩) hK
  have hu := T.run_underlying w h1
  rw [h2] at hu
  have hg := getElem_data s k hb
  simp only [execOp, ho, ha.env.eval hx, ha.env.eval hy, Instr.index, asIntOf, Sem.run_bind, Sem.run_pure, Result.andThen_ok, hu, Int.toNat_natCast, Int.natCast_nonneg, if_true, hg]

theorem u8_or (a b : Nat) (ha : a < 256) (hb : b < 256) : IntKind.wrap .u8 (((BitVec.ofInt 8 (a : Int)) ||| (BitVec.ofInt 8 (b : Int))).toNat : Int) = ((a ||| b : Nat) : Int) := by
  have h1 : ((BitVec.ofInt 8 (a : Int)) ||| (BitVec.ofInt 8 (b : Int))).toNat = a ||| b := by
    rw [BitVec.toNat_or]
    simp only [BitVec.ofInt_natCast, BitVec.toNat_ofNat]
    rw [Nat.mod_eq_of_lt (by omega), Nat.mod_eq_of_lt (by omega)]
  rw [h1]
  have h2 : a ||| b < 256 := Nat.or_lt_two_pow (n := 8) ha hb
  simp [IntKind.wrap, IntKind.signed, IntKind.bits]
  omega

/-- a | b of bytes -/
theorem OT.orU8 {t t' : TypeId} {x y : Operand} {a b : Nat} {d : Nat} (ho : o.op = .binOp .or t x y t') (hd : o.dst = some d) (hN : Nat.blt d N = true)
    (hx : ev ρ x = some (.int .u8 (a : Int))) (hy : ev ρ y = some (.int .u8 (b : Int))) (ha' : a < 256) (hb' : b < 256) (hK : K ((d, .int .u8 ((a ||| b : Nat) : Int)) :: ρ) m L) : OT P N o ρ D m L Q K := by
  refine OT.run hd hN (fun ac w ha => ⟨w, ?_, ha.st⟩) hK
  have hr := u8_or a b ha' hb'
  simp only [execOp, ho, ha.env.eval hx, ha.env.eval hy, Sem.run_bind, eqGuard, binOp, Op.intBits]
  simp [IntKind.bits] at hr ⊢
  exact hr

/-- s + t of strings -/
theorem OT.concat {t t' : TypeId} {x y : Operand} {s u : Str} {d : Nat} (ho : o.op = .binOp .add t x y t') (hd : o.dst = some d) (hN : Nat.blt d N = true)
    (hx : ev ρ x = some (strV s)) (hy : ev ρ y = some (strV u)) (hl : s.length + u.length ≤ 9223372036854775807) (hK : K ((d, strV (s ++ u)) :: ρ) m L) : OT P N o ρ D m L Q K := by
  refine OT.run hd hN (fun ac w ha => ⟨w, ?_, ha.st⟩) hK
  have h1 : ¬ (((⟨⟨s⟩⟩ : ByteArray).size + (⟨⟨u⟩⟩ : ByteArray).size : Nat) : Int) > IntKind.i64.max := by
    show ¬ ((s.length + u.length : Nat) : Int) > IntKind.i64.max
    have : IntKind.i64.max = 9223372036854775807 := by decide
    rw [this]; omega
  have h2 : (⟨⟨s⟩⟩ : ByteArray) ++ (⟨⟨u⟩⟩ : ByteArray) = ⟨⟨s ++ u⟩⟩ := by
    apply ByteArray.ext
    simp
  simp only [execOp, ho, ha.env.eval hx, ha.env.eval hy, Sem.run_bind, eqGuard, binOp, Op.stringOp]
  rw [if_neg h1, h2]
  simp

def Tab.isFunc {P : Program} (T : Tab P) (t : TypeId) : Bool :=
  match T.get t with
  | some ⟨.func _ _ _, _, _, _⟩ => true
  | _ => false
theorem isFunc_get {T : Tab P} {t : TypeId} (h : T.isFunc t = true) : ∃ i a b c, T.get t = some i ∧ i.u = .func a b c := by
  unfold Tab.isFunc at h
  split at h
  · exact ⟨_, _, _, _, by assumption, rfl⟩
  · cases h

theorem equalIn_nilFn {t : TypeId} {w : World} {a b c} (dd : Nat) (hu : (underlying t).run P w = .ok (.func a b c) w) :
    (Op.equalIn (dd + 1) t .nilFunc .nilFunc).run P w = .ok true w := by
  simp only [Op.equalIn, Sem.run_bind, hu, Result.andThen_ok, Sem.run_pure]
theorem OT.nilFn (T : Tab P) {t t' : TypeId} {x y : Operand} {d : Nat} (ho : o.op = .binOp .eql t x y t') (hd : o.dst = some d) (hN : Nat.blt d N = true)
    (hx : ev ρ x = some .nilFunc) (hy : ev ρ y = some .nilFunc) (ht : T.isFunc t = true) (hK : K ((d, .bool true) :: ρ) m L) : OT P N o ρ D m L Q K := by
  obtain ⟨ti, a, b, c, h1, h2⟩ := isFunc_get ht
  refine OT.run hd hN (fun ac w ha => ⟨w, ?_, ha.st⟩) hK
  have hu := T.run_underlying w h1
  rw [h2] at hu
  have e1 : binOp .eql t .nilFunc .nilFunc = (do pure (.bool (← Op.equalIn (9999 + 1) t .nilFunc .nilFunc)) : Sem Value) := rfl
  have e2 : (eqGuard .eql t x y .nilFunc .nilFunc).run P w = .ok () w := by simp [eqGuard]
  have h := equalIn_nilFn (P := P) 9999 hu
  simp only [execOp, ho, ha.env.eval hx, ha.env.eval hy, Sem.run_bind, e2, Result.andThen_ok, e1, h, Sem.run_pure]


/-- a result that lies in a cell -/
theorem retQ_ret_c1 (T : Tab P) (i : Nat) {fn : Func} {R : Value → Mem → List Item → Prop} {X : List PanicEntry → Mem → List Item → Prop} {t : Nat} {ty : TypeId} {b : Nat} {cs : List Value} {v : Value} {L' : List Item}
    (hres : fn.results = ⟨[.cell t ty]⟩) (ht : look ρ t = some (.pointer (some ⟨b, 0, none⟩))) (hi : L[i]? = some (.cells b 0 cs)) (hv : T.load ty cs 0 = some v) (hs : L'.Sublist L)
    (h : R v m L') : retQ P fn R X .ret ρ [] m L := by
  refine ⟨rfl, _, L', fun a w hA hst => ?_, hs, h⟩
  have h1 := run_loadVar (P := P) T (k := 0) (hst.cells hi) hv
  have h2 := hA t _ ht
  unfold results
  rw [hres, Array.mapM_eq_mapM_toList]
  simp [Sem.run_bind, Sem.run_map, h2, asAddr, h1]
end

/-! short names of the rules that are tried in turn -/
abbrev q1 := @TC.seq
abbrev q2 := @TC.block
abbrev q3 := @TC.region
abbrev q4 := @TO.pureP
abbrev q5 := @TO.nil
abbrev q6 := @thenQ_n
abbrev q7 := @blockQ_n
abbrev q8 := @thenQ_r
abbrev q9 := @blockQ_r
abbrev q10 := @thenQ_x
abbrev q11 := @blockQ_hit
abbrev q12 := @blockQ_miss
abbrev q13 := @TC.skip
abbrev q14 := @TC.exit
abbrev q15 := @TC.ret
abbrev q16 := @TC.cond_t
abbrev q17 := @TC.cond_f
abbrev qs := @TO.step
abbrev ql := @OT.loadL
abbrev qz := @OT.loadL0
end Go.Sep
