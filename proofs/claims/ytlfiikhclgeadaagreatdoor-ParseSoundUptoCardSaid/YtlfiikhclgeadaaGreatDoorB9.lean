/- SepPn -/
import Derived.Recover
import Derived.Test.YtlfiikhclgeadaaGreatDoorB8
set_option linter.unusedVariables false
set_option linter.unusedSimpArgs false
namespace Go.Sep
section
variable {P : Program} {N : Nat} {ρ : Env} {D : List Deferred} {m : Mem} {L : List Item} {Q : EPost} {full : List Oper} {o : Oper} {K : Env → Mem → List Item → Prop}
theorem OT.panic {x : Operand} {t : TypeId} {v : Value} (ho : o.op = .panic x) (hx : ev ρ x = some (.iface t v)) (hQ : Q (.panic [{ v := .iface t v, recovered := false }]) ρ D m L) : OT P N o ρ D m L Q K := by
 intro a w ha
 have hr : (execOp a.eval o).run P w = .halt (.panic (.iface t v)) w := by
  simp only [execOp, ho, ha.env.eval hx, Instr.panic, goPanic]
  rfl
 simp only [Oper.wp, hr, Oper.upon]
 exact ⟨ρ, D, m, L, ha, hQ⟩
theorem TO.defer {l : List Oper} {F : Operand} {args : List Operand} {ats : Array TypeId} {fn : Fn} {cap : List Value} {vs : List Value}
  (hg : gv full ρ o = some true) (ho : o.op = .defer ⟨.value F, ⟨args⟩, ats⟩) (hd : o.dst = none) (hF : ev ρ F = some (.func fn ⟨[]⟩ ⟨cap⟩)) (ha : evs ρ args = some vs)
  (hK : TO P N ⟨full⟩ l ρ ({ target := .fn fn ⟨cap⟩, args := ⟨vs⟩ } :: D) m L Q) : TO P N ⟨full⟩ (o :: l) ρ D m L Q := by
 intro a w hok
 have he : (execOp a.eval o).run P w = .ok (.defer { target := .fn fn ⟨cap⟩, args := ⟨vs⟩ }) w := by
  have e1 := hok.env.evals ha
  simp only [execOp, ho, resolve, hok.env.eval hF, Deferred.ofValue, Sem.run_bind, Sem.run_pure, Result.andThen_ok]
  congr 2
  simp [e1]
 refine wpList_yes (gv_wanted hg hok.env) ?_
 simp only [Oper.wp, he, Oper.upon, hd]
 exact hK { a with defers := { target := .fn fn ⟨cap⟩, args := ⟨vs⟩ } :: a.defers } w ⟨hok.size, hok.env, by rw [hok.defers], hok.st⟩
def retD (P : Program) (fn : Func) (R : Ending → World → Prop) : EPost
 | .normal, ρ, D, m, L | .ret, ρ, D, m, L => ∀ tmps w, (∀ i v, look ρ i = some v → tmps[i]? = some v) → St m w L → Leaves P fn tmps R D .returning w
 | .panic ch, ρ, D, m, L => ∀ tmps w, (∀ i v, look ρ i = some v → tmps[i]? = some v) → St m w L → Leaves P fn tmps R D (.panicking ch) w
 | _, _, _, _, _ => False
theorem calls_enterD {f : FuncId} {fn : Func} {c : Code} {vs : List Value} {w : World} {R : Ending → World → Prop}
  (hf : P.funcs[f]? = some fn) (hb : fn.body = some c) (N : Nat) (hN : Nat.ble N fn.ntmps = true) (hs : St m w L) (h : TC P N c (argEnv vs 0) [] m L (retD P fn R)) : Calls P f ⟨vs⟩ w R := by
 refine calls_of_wp_defers hf hb (wp_mono (h { tmps := ⟨vs⟩ ++ Array.replicate (fn.ntmps - (⟨vs⟩ : Array Value).size) undef, defers := [] } w ⟨?_, ?_, rfl, hs⟩) fun e a' w' hl => ?_)
 ·have := Nat.le_of_ble_eq_true hN
  simp
  omega
 ·intro i v hv
  have := (look_argEnv vs 0 i v hv).2
  simp only [Nat.sub_zero] at this
  have hi : i < vs.length := (List.getElem?_eq_some_iff.1 this).1
  simp [Array.getElem?_append, hi, this]
  have h2 := (List.getElem?_eq_some_iff.1 this).2
  exact h2
 ·obtain ⟨ρ', D', m', L', h1, h2⟩ := hl
  obtain ⟨k1, k2, k3, k4⟩ := h1
  cases e with
  | normal => subst k3; exact h2 _ _ k2 k4
  | ret => subst k3; exact h2 _ _ k2 k4
  | panic ch => subst k3; exact h2 _ _ k2 k4
  | exit i => exact h2.elim
  | goto l => exact h2.elim
  | outgrown => exact h2.elim
def recPair (cs : List Frame) : Value × List Frame :=
 match recoverD cs with
 | some x => x
 | none => (.nilIface, cs)
theorem wpS_rec {o0 o1 : Oper} {d0 d1 id : Nat} {QS : Exit → Act → List Frame → World → Prop} {a : Act} {cs : List Frame} {w : World} (h0 : o0.op = .call ⟨.builtin .recover, ⟨[]⟩, ⟨[]⟩⟩) (hd0 : o0.dst = some d0) (g0 : o0.guard = none) (h1 : o1.op = .assign (.tmp d0)) (hd1 : o1.dst = some d1) (g1 : o1.guard = none)
  (hsz : d0 < a.tmps.size) (hQ : QS .normal ((a.put (some d0) (recPair cs).1).put (some d1) (recPair cs).1) (recPair cs).2 w) : (Code.region id ⟨[o0, o1]⟩ false).wpS P QS a cs w := by
 apply wpS_region
 have hr : (execOp a.eval o0).run P w = .ok .recover w := by
  simp [execOp, h0, resolve, invoke, go_sem]
 have e : List.range (⟨[o0, o1]⟩ : Array Oper).size = [0, 1] := rfl
 have w0 : ∀ y, Region.wanted o0 y = true := fun y => by simp [Region.wanted, g0]
 have w1 : ∀ y, Region.wanted o1 y = true := fun y => by simp [Region.wanted, g1]
 rw [e]
 have i0 : (⟨[o0, o1]⟩ : Array Oper)[0]? = some o0 := rfl
 have i1 : (⟨[o0, o1]⟩ : Array Oper)[1]? = some o1 := rfl
 have step1 : ∀ (v : Value) (cs' : List Frame), QS .normal ((a.put (some d0) v).put (some d1) v) cs' w → wpOpsS P ⟨[o0, o1]⟩ QS [1] (a.put (some d0) v) cs' w := by
  intro v cs' hq
  have hv : (a.put (some d0) v).eval (.tmp d0) = v := by simp [Act.put, Act.eval, hsz]
  have hr1 : (execOp (a.put (some d0) v).eval o1).run P w = .ok (.value v) w := by simp [execOp, h1, hv]
  simp only [wpOpsS, i1, w1, if_true, hr1, Oper.upon, hd1]
  exact hq
 unfold recPair at hQ
 unfold wpOpsS
 simp only [i0, w0, if_true, hr, hd0]
 cases hc : recoverD cs with
 | none => rw [hc] at hQ; exact step1 _ _ hQ
 | some x => obtain ⟨v, cs'⟩ := x; rw [hc] at hQ; exact step1 _ _ hQ
theorem wpS_TC {c : Code} {fn : Func} {R : Value → Mem → List Item → Prop} {a : Act} {w : World} {c₀ : Frame} {cs : List Frame} {u : FrameMode} {RR : Ending → FrameMode → World → Prop} (h : TC P N c ρ [] m L (retQ P fn R fun _ _ _ => False)) (ha : Ok N ρ [] m L a w)
  (hR : ∀ v m' L' w', R v m' L' → St m' w' L' → RR (.returned v) u w') : c.wpS P (bodyPostS P fn c₀ cs RR) a ({ c₀ with mode := u } :: cs) w := by
 refine wpS_of_wp (wp_mono (h a w ha) fun e a' w' hl => ?_)
 obtain ⟨ρ', D', m', L', h1, h2⟩ := hl
 cases e with
 | normal =>
  obtain ⟨hD, v, L2, hv, hs2, hr⟩ := h2
  exact ⟨h1.defers.trans hD, u, rfl, v, hv _ _ h1.env h1.st, hR _ _ _ _ hr (h1.st.sub hs2)⟩
 | ret =>
  obtain ⟨hD, v, L2, hv, hs2, hr⟩ := h2
  exact ⟨h1.defers.trans hD, u, rfl, v, hv _ _ h1.env h1.st, hR _ _ _ _ hr (h1.st.sub hs2)⟩
 | panic ch => obtain ⟨_, _, _, hf⟩ := h2; exact hf.elim
 | exit i => exact h2.elim
 | goto i => exact h2.elim
 | outgrown => exact h2.elim
end
def quietQ (K : Env → List Deferred → Mem → List Item → Prop) : EPost
 | .normal, ρ, D, m, L => K ρ D m L
 | _, _, _, _, _ => False
theorem Calm.quiet {K : Env → List Deferred → Mem → List Item → Prop} : Calm (quietQ K) := fun _ _ _ _ _ h => h
theorem TC.quiet {P : Program} {N : Nat} {x y : Code} {ρ : Env} {D : List Deferred} {m : Mem} {L : List Item} {Q : EPost} (h : TC P N x ρ D m L (quietQ fun ρ D m L => TC P N y ρ D m L Q)) : TC P N (.seq x y) ρ D m L Q :=
 TC.seq (h.mono fun e ρ D m L hq => by
  cases e with
  | normal => exact thenQ_n hq
  | _ => exact hq.elim)
theorem invoke_goes {P : Program} {f : FuncId} {cap args : List Value} {w : World} (hg : Goes P f) : (invoke (.fn (.func f) ⟨cap⟩) ⟨args⟩).run P w = .ok (.enter f ⟨args ++ cap⟩) w := by
 simp only [invoke]
 rw [hg _ w]
 congr 2
 simp
end Go.Sep


/- SepZb -/
set_option linter.unusedVariables false
set_option linter.unusedSimpArgs false
namespace Go.Sep
section
variable {P : Program} {N : Nat} {ρ : Env} {D : List Deferred} {m : Mem} {L : List Item} {Q : EPost} {full : List Oper} {o : Oper} {K : Env → Mem → List Item → Prop}
theorem OT.freeze {b off : Nat} {vs : List Value} (h : ∀ m', m ≤ m' → At m' b off vs → OT P N o ρ D m' L Q K) : OT P N o ρ D m (.cells b off vs :: L) Q K := by
 intro a w ha
 obtain ⟨h1, h2, h3⟩ := ha.st.freeze
 exact h _ h1 h2 a w ⟨ha.size, ha.env, ha.defers, h3⟩
theorem SlRep.bytes {b : Nat} {bs : List UInt8} {n : Nat} (hA : At m b 0 (bs.map byteV)) (hn : bs.length = n) (hfit : n ≤ 140737488355328) : SlRep rByte m ⟨some ⟨b, 0, none⟩, n, n⟩ bs := by
 subst hn
 exact ⟨rfl, Nat.le_refl _, by show bs.length * 1 ≤ _; omega, bs, byte_refl bs, .inr ⟨b, 0, rfl, by rw [encs_byte]; exact hA⟩⟩
theorem TC.tokFull {c : Code} (b n : Nat) (h : TC P N c ρ D m (tok ⟨some ⟨b, 0, none⟩, n, n⟩ 1 :: L) Q) : TC P N c ρ D m L Q := by
 rw [tok_full] at h
 exact TC.room0 b n h
end
end Go.Sep


/- SepZc -/
set_option linter.unusedVariables false
set_option linter.unusedSimpArgs false
namespace Go.Sep
section
variable {P : Program} {N : Nat} {ρ : Env} {D : List Deferred} {m : Mem} {L Ls Lp : List Item} {Q : EPost} {ops : List Oper} {ts : List Nat} {fuel : Nat} {listed : List Bool}
theorem DO.sidx (T : Tab P) (i : Nat) {t : TypeId} {x y : Operand} {o : Oper} {s : Str} {iv : Int} {kd : IntKind} {b : UInt8} {d : Nat} (k : Nat) (hc : Calm Q) (hns : Region.noSelect ⟨ops⟩ = true) (hok : orderOkP ops ts [i] listed = true)
  (hi : ops[i]? = some o) (hg : gv ops ρ o = some true) (ho : o.op = .index t x y) (hd : o.dst = some d) (hN : Nat.blt d N = true)
  (ht : T.isStr t = true) (hx : ev ρ x = some (strV s)) (hy : ev ρ y = some (.int kd iv)) (hik : iv = (k : Int)) (hb : s[k]? = some b)
  (h : DO P N ops ts fuel (listed.set i true) ((d, byteV b) :: ρ) D m Ls Lp Q) : DO P N ops ts (fuel + 1) listed ρ D m Ls Lp Q := by
 simp only [orderOkP, Bool.and_eq_true] at hok
 obtain ⟨o1, o2, o3, _⟩ := hok
 obtain ⟨ti, h1, h2⟩ := isStr_get ht
 subst hik
 refine DO.takeP i hc hi hd hN hg hns o1 o2 (by simpa using o3) (fun ac w hA => ?_) h
 have hu := T.run_underlying w h1
 rw [h2] at hu
 have hg := getElem_data s k hb
 simp only [execOp, ho, hA.eval hx, hA.eval hy, Instr.index, asIntOf, Sem.run_bind, Sem.run_pure, Result.andThen_ok, hu, Int.toNat_natCast, Int.natCast_nonneg, if_true, hg]
theorem DO.conv (T : Tab P) (i : Nat) {s t : TypeId} {x : Operand} {o : Oper} {k ks kt : IntKind} {d : Nat} {a r : Int} (hc : Calm Q) (hns : Region.noSelect ⟨ops⟩ = true) (hok : orderOkP ops ts [i] listed = true)
  (hi : ops[i]? = some o) (hg : gv ops ρ o = some true) (ho : o.op = .convert s t x) (hd : o.dst = some d) (hN : Nat.blt d N = true)
  (hs : T.intK s = some ks) (ht : T.intK t = some kt) (hx : ev ρ x = some (.int k a)) (hr : kt.wrap a = r)
  (h : DO P N ops ts fuel (listed.set i true) ((d, .int kt r) :: ρ) D m Ls Lp Q) : DO P N ops ts (fuel + 1) listed ρ D m Ls Lp Q := by
 simp only [orderOkP, Bool.and_eq_true] at hok
 obtain ⟨o1, o2, o3, _⟩ := hok
 obtain ⟨si, s1, s2⟩ := intK_get hs
 obtain ⟨ti, t1, t2⟩ := intK_get ht
 refine DO.takeP i hc hi hd hN hg hns o1 o2 (by simpa using o3) (fun ac w hA => ?_) h
 have hus := T.run_underlying w s1
 have hut := T.run_underlying w t1
 rw [s2] at hus
 rw [t2] at hut
 simp only [execOp, ho, hA.eval hx, Go.convert, Sem.run_bind, hus, hut, Result.andThen_ok, Conv.intToInt, Sem.run_pure, hr]
end
section
variable {P : Program} {N : Nat} {ρ : Env} {D : List Deferred} {m : Mem} {L : List Item} {Q : EPost} {o : Oper} {K : Env → Mem → List Item → Prop}
end
end Go.Sep


/- SepZd -/
set_option linter.unusedVariables false
set_option linter.unusedSimpArgs false
namespace Go.Sep
structure ORow {H : Type} (s : Sl) (hs : List H) : Prop where
 len : s.len ≤ s.cap
 all : hs.length = s.cap
 adr : (s = ⟨none, 0, 0⟩) ∨ ∃ b, s.a = some ⟨b, 0, none⟩
theorem ORow.nil {H : Type} : ORow (H := H) ⟨none, 0, 0⟩ [] := ⟨Nat.le_refl _, rfl, .inl rfl⟩
theorem ORow.pos {H : Type} {s : Sl} {hs : List H} (h : ORow s hs) (hp : 0 < s.len) : ∃ b, s = ⟨some ⟨b, 0, none⟩, s.len, s.cap⟩ := by
 rcases h.adr with e | ⟨b, e⟩
 ·rw [e] at hp; simp at hp
 ·refine ⟨b, ?_⟩
  obtain ⟨a, n, c⟩ := s
  simp only at e
  rw [e]
section
variable {P : Program} {N : Nat} {ρ : Env} {D : List Deferred} {m : Mem} {L : List Item} {Q : EPost} {full : List Oper} {o : Oper} {K : Env → Mem → List Item → Prop}
end
end Go.Sep


/- SepHp -/
set_option linter.unusedVariables false
set_option linter.unusedSimpArgs false
set_option linter.unusedSectionVars false
namespace Go.Sep
section
variable {α : Type} [Inhabited α]
def gk (xs : List α) (k : Nat) : α := xs[k]?.getD default
def sw (xs : List α) (i j : Nat) : List α := (xs.set i (gk xs j)).set j (gk xs i)
theorem sw_length (xs : List α) (i j : Nat) : (sw xs i j).length = xs.length := by simp [sw]
theorem gk_get {xs : List α} {k : Nat} (h : k < xs.length) : xs[k]? = some (gk xs k) := by
 unfold gk
 rw [List.getElem?_eq_getElem h]
 rfl
theorem gk_set {xs : List α} {i k : Nat} {x : α} (h : i < xs.length) : gk (xs.set i x) k = if i = k then x else gk xs k := by
 unfold gk
 rw [List.getElem?_set]
 split
 ·simp [h]
 ·rfl
theorem gk_sw {xs : List α} {i j k : Nat} (hi : i < xs.length) (hj : j < xs.length) : gk (sw xs i j) k = if k = j then gk xs i else if k = i then gk xs j else gk xs k := by
 unfold sw
 rw [gk_set (by simpa using hj), gk_set hi]
 by_cases h1 : j = k
 ·simp [h1]
 ·by_cases h2 : i = k
  ·simp [h1, h2, Ne.symm h1]
  ·simp [h1, h2, Ne.symm h1, Ne.symm h2]
theorem gk_take {xs : List α} {n k : Nat} (h : k < n) : gk (xs.take n) k = gk xs k := by
 unfold gk
 rw [List.getElem?_take, if_pos h]
theorem set_perm {xs : List α} {i : Nat} (hi : i < xs.length) (x : α) : (gk xs i :: xs.set i x).Perm (x :: xs) := by
 induction xs generalizing i with
 | nil => simp at hi
 | cons y ys ih =>
  cases i with
  | zero => simp only [gk, List.getElem?_cons_zero, Option.getD_some, List.set_cons_zero]; exact List.Perm.swap _ _ _
  | succ i =>
   simp only [List.set_cons_succ]
   have := ih (i := i) (by simpa using hi)
   have e : gk (y :: ys) (i + 1) = gk ys i := by simp [gk]
   rw [e]
   exact (List.Perm.swap _ _ _).trans ((this.cons y).trans (List.Perm.swap _ _ _))
theorem sw_perm {xs : List α} {i j : Nat} (hi : i < xs.length) (hj : j < xs.length) : (sw xs i j).Perm xs := by
 by_cases e : i = j
 ·subst e
  unfold sw
  rw [List.set_set]
  have : xs.set i (gk xs i) = xs := by
   apply List.ext_getElem?
   intro k
   rw [List.getElem?_set]
   split
   ·rename_i h; subst h; exact (gk_get hi).symm
   ·rfl
  rw [this]
 ·have h1 := set_perm hi (gk xs j)
  have hj2 : j < (xs.set i (gk xs j)).length := by simpa using hj
  have h2 := set_perm hj2 (gk xs i)
  have e2 : gk (xs.set i (gk xs j)) j = gk xs j := by rw [gk_set hi]; simp [e]
  rw [e2] at h2
  have h3 : (gk xs j :: sw xs i j).Perm (gk xs j :: xs) := h2.trans h1
  exact (List.perm_cons _).1 h3
theorem sw_take {xs : List α} {i j n : Nat} (hi : i < n) (hj : j < n) : (sw xs i j).take n = sw (xs.take n) i j := by
 unfold sw
 rw [List.take_set, List.take_set, gk_take hi, gk_take hj]
theorem sw_drop {xs : List α} {i j n : Nat} (hi : i < n) (hj : j < n) : (sw xs i j).drop n = xs.drop n := by
 unfold sw
 rw [List.drop_set_of_lt hj, List.drop_set_of_lt hi]
structure Mix (n : Nat) (xs ys : List α) : Prop where
 len : ys.length = xs.length
 perm : (ys.take n).Perm (xs.take n)
 rest : ys.drop n = xs.drop n
theorem Mix.refl (n : Nat) (xs : List α) : Mix n xs xs := ⟨rfl, .refl _, rfl⟩
theorem Mix.trans {n : Nat} {xs ys zs : List α} (h : Mix n xs ys) (k : Mix n ys zs) : Mix n xs zs := ⟨k.len.trans h.len, k.perm.trans h.perm, k.rest.trans h.rest⟩
theorem Mix.sw {n i j : Nat} {xs : List α} (hi : i < n) (hj : j < n) (hn : n ≤ xs.length) : Mix n xs (sw xs i j) := by
 refine ⟨sw_length _ _ _, ?_, sw_drop hi hj⟩
 rw [sw_take hi hj]
 exact sw_perm (by simp; omega) (by simp; omega)
structure OrdK (lt : α → α → Bool) : Prop where
 asym : ∀ a b, lt a b = true → lt b a = false
 trans : ∀ a b c, lt b a = false → lt c b = false → lt c a = false
def par (k : Nat) : Nat := (k - 1) / 2
variable {lt : α → α → Bool}
def HF (lt : α → α → Bool) (xs : List α) (n lo : Nat) : Prop := ∀ k, 0 < k → k < n → lo ≤ par k → lt (gk xs k) (gk xs (par k)) = false
structure DI (lt : α → α → Bool) (xs : List α) (n lo i : Nat) : Prop where
 a : ∀ k, 0 < k → k < n → lo ≤ par k → par k ≠ i → lt (gk xs k) (gk xs (par k)) = false
 b : ∀ k, 0 < k → k < n → par k = i → 0 < i → lo ≤ par i → lt (gk xs k) (gk xs (par i)) = false
theorem HF.half {xs : List α} {n : Nat} : HF lt xs n (n / 2) := fun k h1 h2 h3 => by
 unfold par at h3
 omega
theorem DI.start {xs : List α} {n lo : Nat} (h : HF lt xs n (lo + 1)) : DI lt xs n lo lo :=
 ⟨fun k h1 h2 h3 h4 => h k h1 h2 (by omega), fun k h1 h2 h3 h4 h5 => by unfold par at h5; omega⟩
theorem DI.done {xs : List α} {n lo i j : Nat} (O : OrdK lt) (h : DI lt xs n lo i) (hj : ∀ k, 0 < k → k < n → par k = i → lt (gk xs k) (gk xs j) = false) (hl : lt (gk xs j) (gk xs i) = false) : HF lt xs n lo := fun k h1 h2 h3 => by
 by_cases e : par k = i
 ·rw [e]
  exact O.trans _ _ _ hl (hj k h1 h2 e)
 ·exact h.a k h1 h2 h3 e
theorem DI.step {xs : List α} {n lo i j : Nat} (O : OrdK lt) (h : DI lt xs n lo i) (hn : n ≤ xs.length) (hlo : lo ≤ i) (hjn : j < n) (hj0 : 0 < j) (hji : par j = i) (hj : ∀ k, 0 < k → k < n → par k = i → lt (gk xs k) (gk xs j) = false) (hl : lt (gk xs j) (gk xs i) = true) : DI lt (sw xs i j) n lo j := by
 have hij : i < j := by unfold par at hji; omega
 have hi' : i < xs.length := by omega
 have hj' : j < xs.length := by omega
 refine ⟨fun k h1 h2 h3 h4 => ?_, fun k h1 h2 h3 h4 h5 => ?_⟩
 ·rw [gk_sw hi' hj', gk_sw hi' hj']
  rw [if_neg h4]
  by_cases e1 : k = j
  ·rw [if_pos e1, e1, hji, if_pos rfl]
   exact O.asym _ _ hl
  ·rw [if_neg e1]
   by_cases e2 : k = i
   ·rw [if_pos e2]
    have e3 : par k ≠ i := by unfold par; omega
    rw [if_neg e3, e2]
    have := h.b j hj0 hjn hji (by omega) (by rw [← e2]; exact h3)
    exact this
   ·rw [if_neg e2]
    by_cases e3 : par k = i
    ·rw [if_pos e3]
     exact hj k h1 h2 e3
    ·rw [if_neg e3]
     exact h.a k h1 h2 h3 e3
 ·rw [hji, gk_sw hi' hj', gk_sw hi' hj', if_neg (show i ≠ j by omega), if_pos rfl]
  have e1 : k ≠ j := by unfold par at h3; omega
  have e2 : k ≠ i := by unfold par at h3; omega
  rw [if_neg e1, if_neg e2, ← h3]
  exact h.a k h1 h2 (by rw [h3]; omega) (by rw [h3]; omega)
theorem HF.min {xs : List α} {n : Nat} (O : OrdK lt) (h : HF lt xs n 0) (hirr : ∀ a, lt a a = false) : ∀ k, k < n → lt (gk xs k) (gk xs 0) = false := by
 intro k
 induction k using Nat.strongRecOn with
 | ind k ih =>
  intro hk
  by_cases e : k = 0
  ·rw [e]; exact hirr _
  ·have h1 : par k < k := by unfold par; omega
   exact O.trans _ _ _ (ih (par k) h1 (by omega)) (h k (by omega) hk (Nat.zero_le _))
structure UI (lt : α → α → Bool) (xs : List α) (n j : Nat) : Prop where
 a : ∀ k, 0 < k → k < n → k ≠ j → lt (gk xs k) (gk xs (par k)) = false
 b : ∀ k, 0 < k → k < n → par k = j → 0 < j → lt (gk xs k) (gk xs (par j)) = false
theorem UI.start {xs : List α} {n : Nat} (h : HF lt xs n 0) : UI lt xs (n + 1) n :=
 ⟨fun k h1 h2 h3 => h k h1 (by omega) (Nat.zero_le _), fun k h1 h2 h3 => by unfold par at h3; omega⟩
theorem UI.done {xs : List α} {n j : Nat} (h : UI lt xs n j) (hj : j = 0 ∨ lt (gk xs j) (gk xs (par j)) = false) : HF lt xs n 0 := fun k h1 h2 h3 => by
 by_cases e : k = j
 ·subst e
  rcases hj with e | e
  ·omega
  ·exact e
 ·exact h.a k h1 h2 e
theorem UI.step {xs : List α} {n j : Nat} (O : OrdK lt) (h : UI lt xs n j) (hn : n ≤ xs.length) (hjn : j < n) (h0 : 0 < j) (hl : lt (gk xs j) (gk xs (par j)) = true) : UI lt (sw xs (par j) j) n (par j) := by
 have hp : par j < j := by unfold par; omega
 refine ⟨fun k h1 h2 h3 => ?_, fun k h1 h2 h3 h4 => ?_⟩
 ·rw [gk_sw (by omega) (by omega), gk_sw (by omega) (by omega), if_neg h3]
  by_cases e1 : k = j
  ·subst e1
   rw [if_pos rfl, if_neg (by omega), if_pos rfl]
   exact O.asym _ _ hl
  ·rw [if_neg e1]
   by_cases e2 : par k = j
   ·rw [if_pos e2]
    exact h.b k h1 h2 e2 h0
   ·rw [if_neg e2]
    by_cases e3 : par k = par j
    ·rw [if_pos e3]
     have := h.a k h1 h2 e1
     rw [e3] at this
     exact O.trans _ _ _ (O.asym _ _ hl) this
    ·rw [if_neg e3]
     exact h.a k h1 h2 e1
 ·have hpp : par (par j) < par j := by unfold par at h4 ⊢; omega
  rw [gk_sw (by omega) (by omega), gk_sw (by omega) (by omega), if_neg (show par (par j) ≠ j by omega), if_neg (show par (par j) ≠ par j by omega)]
  have hup := h.a (par j) h4 (by omega) (by omega)
  by_cases e1 : k = j
  ·rw [if_pos e1]; exact hup
  ·have hk : k ≠ par j := by
    intro e; rw [e] at h3; omega
   rw [if_neg e1, if_neg hk]
   have := h.a k h1 h2 e1
   rw [h3] at this
   exact O.trans _ _ _ hup this
end
end Go.Sep


/- SepZe -/
set_option linter.unusedVariables false
set_option linter.unusedSimpArgs false
namespace Go.Sep
section
variable {P : Program} {N : Nat} {ρ : Env} {D : List Deferred} {m : Mem} {L : List Item} {Q : EPost} {full : List Oper} {o : Oper} {K : Env → Mem → List Item → Prop}
end
section
variable {P : Program} {N : Nat} {ρ : Env} {D : List Deferred} {m : Mem} {Q : EPost} {ops : List Oper} {ts : List Nat} {fuel : Nat} {listed : List Bool} {Ls Lp : List Item}
end
theorem encs_int (l : List Int) : encs rInt l = l.map (Value.int .i64) := by
 induction l with
 | nil => rfl
 | cons x xs ih => simpa [encs, rInt] using ih
structure IRow (s : Sl) (b : Nat) (n : Nat) : Prop where
 len : s.len = n
 cap : s.len ≤ s.cap
 pos : 0 < n → ∃ c, s = ⟨some ⟨b, 0, none⟩, n, c⟩
 nil : n = 0 → s.a = none → s.cap = 0
theorem IRow.rep {m : Mem} {s : Sl} {b : Nat} {l : List Int} (h : IRow s b l.length) (hA : At m b 0 (l.map (Value.int .i64))) (hn : l.length ≤ 1000000) : SlRep rInt m s l := by
 refine ⟨h.len, h.cap, by rw [h.len]; simp only [rInt]; omega, l, ?_, ?_⟩
 ·clear h hA hn
  induction l with
  | nil => trivial
  | cons x xs ih => exact ⟨rfl, ih⟩
 ·by_cases e : l = []
  ·exact .inl ⟨e, h.nil (by rw [e]; rfl)⟩
  ·obtain ⟨c, hc⟩ := h.pos (List.length_pos_iff.2 e)
   exact .inr ⟨b, 0, by rw [hc], by rw [encs_int]; exact hA⟩
section
variable {P : Program} {N : Nat} {ρ : Env} {D : List Deferred} {m : Mem} {L : List Item} {Q : EPost} {full : List Oper} {o : Oper} {K : Env → Mem → List Item → Prop}
end
section
variable {P : Program} {N : Nat} {ρ : Env} {D : List Deferred} {m : Mem} {L : List Item} {Q : EPost} {full : List Oper}
end
end Go.Sep


/- SepPo -/
set_option linter.unusedVariables false
set_option linter.unusedSimpArgs false
namespace Go.Sep
section
variable {P : Program} {N : Nat} {ρ : Env} {D : List Deferred} {m : Mem} {L : List Item} {Q : EPost} {full : List Oper} {o : Oper} {K : Env → Mem → List Item → Prop}
theorem OT.litR {H α : Type} (T : Tab P) (r : R H α) {hs : List H} {l : List α} {t : TypeId} {n d : Nat} {ps : List (Nat × Operand)} (h2 : All2 (r.rep m) hs l) (ho : o.op = .buildSlice t n ⟨ps⟩) (hd : o.dst = some d) (hN : Nat.blt d N = true)
  (hv : T.lit ρ t n ps = some (encs r hs)) (hn : l.length = n) (hfit : n * r.bytes ≤ 140737488355328)
  (hK : ∀ s m', m ≤ m' → SlRep r m' s l → Own s → s.cap = s.len → K ((d, s.v) :: ρ) m' L) : OT P N o ρ D m L Q K := by
 intro a w ha
 refine Oper.wp_mono (fun a' w' hl => ?_) (OT.lit (K := fun ρ' m' L' => ∃ b, ρ' = (d, .slice (some ⟨b, 0, none⟩) n n) :: ρ ∧ m' = m ∧ L' = .cells b 0 (encs r hs) :: L) T ho hd hN hv (fun b => ⟨b, rfl, rfl, rfl⟩) a w ha)
 obtain ⟨ρ', m', L', h1, b, rfl, rfl, rfl⟩ := hl
 obtain ⟨g1, g2, g3⟩ := h1.st.freeze
 exact ⟨_, _, _, ⟨h1.size, h1.env, h1.defers, g3⟩, hK ⟨some ⟨b, 0, none⟩, n, n⟩ _ g1 ⟨hn.symm, Nat.le_refl _, hfit, hs, h2.mono fun _ _ => r.mono g1, .inr ⟨b, 0, rfl, g2⟩⟩ (.inr ⟨b, 0, rfl⟩) rfl⟩
theorem tok_fullO {s : Sl} (h : s.cap = s.len) (ho : Own s) (size : Nat) : ∃ b off, tok s size = .room b off 0 := by
 rcases ho with rfl | ⟨b, o, ha⟩
 ·exact ⟨0, 0, rfl⟩
 ·exact ⟨b, o + s.len * size, by unfold tok; rw [ha, h]; simp⟩
theorem TO.tokFo {l : List Oper} {s : Sl} (h : s.cap = s.len) (ho : Own s) (size : Nat) (hK : TO P N ⟨full⟩ l ρ D m (tok s size :: L) Q) : TO P N ⟨full⟩ l ρ D m L Q := by
 obtain ⟨b, off, hb⟩ := tok_fullO h ho size
 rw [hb] at hK
 exact TO.room0 b off hK
theorem OT.tokFo {s : Sl} (h : s.cap = s.len) (ho : Own s) (size : Nat) (hK : OT P N o ρ D m (tok s size :: L) Q K) : OT P N o ρ D m L Q K := by
 obtain ⟨b, off, hb⟩ := tok_fullO h ho size
 rw [hb] at hK
 exact fun a w ha => hK a w ⟨ha.size, ha.env, ha.defers, ha.st.room0 b off⟩
theorem OT.assertOk (T : Tab P) {x : Operand} {xt t : TypeId} {v : Value} {d : Nat} (ho : o.op = .typeAssert x xt t true) (hd : o.dst = some d) (hN : Nat.blt d N = true) (hx : ev ρ x = some (.iface t v)) (ht : T.notIface t = true)
  (hK : K ((d, .tuple ⟨[v, .bool true]⟩) :: ρ) m L) : OT P N o ρ D m L Q K := by
 refine OT.run hd hN (fun ac w ha => ⟨w, ?_, ha.st⟩) hK
 unfold Tab.notIface at ht
 split at ht
 ·cases ht
 ·rename_i i hne hg
  have hu := T.run_underlying w hg
  simp only [execOp, ho, ha.env.eval hx, Instr.typeAssert, Sem.run_bind, hu, Result.andThen_ok]
  cases hi : i.u with
  | interface ms =>
   obtain ⟨u, a, b, c⟩ := i
   simp only at hi
   subst hi
   exact absurd rfl (hne ms a b c)
  | _ => simp
 ·cases ht
end
end Go.Sep


/- PsPlain -/
set_option linter.unusedVariables false
set_option linter.unusedSimpArgs false
namespace Go.Ps
open Go.Sep
structure Tk where
 kind : Int
 text : Str
 num : Int
inductive Res (α : Type) where
 | ok (a : α) (k : Nat)
 | bad (k : Nat)
 | out
@[reducible] def F : Type := Nat → Option Tk
@[reducible] def Pp (α : Type) : Type := F → Nat → Res α
def ret {α : Type} (a : α) : Pp α := fun _ k => .ok a k
def fail {α : Type} : Pp α := fun _ k => .bad k
def dry {α : Type} : Pp α := fun _ _ => .out
def bind {α β : Type} (p : Pp α) (g : α → Pp β) : Pp β := fun f k =>
 match p f k with
 | .ok a k' => g a f k'
 | .bad k' => .bad k'
 | .out => .out
def isM (s : Str) : F → Nat → Bool := fun f k =>
 match f k with
 | some t => (decide (t.kind = 4) || decide (t.kind = 5)) && decide (t.text = s)
 | none => false
def isK (c : Int) : F → Nat → Bool := fun f k =>
 match f k with
 | some t => decide (t.kind = c)
 | none => false
def tok {α : Type} (s : Str) (A B : Pp α) : Pp α := fun f k => bif isM s f k then A f (k + 1) else B f k
def need {α : Type} (s : Str) (A : Pp α) : Pp α := tok s A fail
def tkn {α : Type} (c : Int) (A : Tk → Pp α) (B : Pp α) : Pp α := fun f k =>
 match f k with
 | some t => bif decide (t.kind = c) then A t f (k + 1) else B f k
 | none => B f k
def name {α : Type} (A : Str → Pp α) : Pp α := tkn 1 (fun t => A t.text) fail
def peek {α : Type} (q : F → Nat → Bool) (A B : Pp α) : Pp α := fun f k => bif q f k then A f k else B f k
def oneOf {α : Type} (ops : List Str) (A : Str → Pp α) (B : Pp α) : Pp α := fun f k =>
 match ops.find? (fun s => isM s f k) with
 | some s => A s f (k + 1)
 | none => B f k
def commas {α : Type} : Nat → Pp α → Pp (List α)
 | 0, _ => dry
 | j + 1, X => bind X fun a => tok [44] (bind (commas j X) fun l => ret (a :: l)) (ret [a])
def upto {α : Type} : Nat → Str → Pp α → Pp (List α)
 | 0, _, _ => dry
 | j + 1, s, X => tok s (ret []) (bind X fun a => bind (upto j s X) fun l => ret (a :: l))
structure Gr where
 typ : Pp Tree
 block : Pp Tree
 stmt : Pp Tree
 branch : Pp Tree
 expr : Bool → Pp Tree
 unary : Bool → Pp Tree
def leaf (kind : Int) (s : Str) : Tree := .mk kind s 0 []
def begins : F → Nat → Bool := fun f k => isK 1 f k || (isM [42] f k || (isM [91] f k || isM [102, 117, 110, 99] f k))
section
variable (N : Nat)
def inP {α : Type} (s : Str) (X : Pp α) : Pp (List α) := tok s (ret []) (bind (commas N X) fun l => need s (ret l))
def resultsP (typ : Pp Tree) : Pp (List Tree) :=
 tok [40] (bind (commas N typ) fun l => need [41] (ret l)) (peek begins (bind typ fun t => ret [t]) (ret []))
def paramP (typ : Pp Tree) : Pp Tree := name fun s => bind typ fun t => ret (.mk 8 s 0 [t])
def sigLike (kind : Int) (X typ : Pp Tree) : Pp Tree :=
 need [40] (bind (inP N [41] X) fun ps => bind (resultsP N typ) fun rs => ret (.mk kind [] (ps.length : Int) (ps ++ rs)))
def sigP (typ : Pp Tree) : Pp Tree := sigLike N 7 (paramP typ) typ
def typP (typ : Pp Tree) : Pp Tree :=
 tok [42] (bind typ fun t => ret (.mk 11 [] 0 [t]))
  (tok [91] (need [93] (bind typ fun t => ret (.mk 12 [] 0 [t])))
   (tok [102, 117, 110, 99] (sigLike N 13 typ typ) (name fun s => ret (leaf 10 s))))
def fieldP (member : Pp Tree) : Pp Tree := name fun s => bind member fun t => need [59] (ret (.mk 6 s 0 [t]))
def bodyP (kind : Int) (nm : Str) (member : Pp Tree) : Pp Tree := need [123] (bind (upto N [125] (fieldP member)) fun l => ret (.mk kind nm 0 l))
def typeDeclP (typ : Pp Tree) : Pp Tree := name fun nm => tok [105, 110, 116, 101, 114, 102, 97, 99, 101] (bodyP N 3 nm (sigP N typ)) (need [115, 116, 114, 117, 99, 116] (bodyP N 2 nm typ))
def recvT (recv of : Str) : Tree := .mk 8 recv 0 [.mk 11 [] 0 [leaf 10 of]]
def declP (typ block : Pp Tree) : Pp Tree :=
 tok [116, 121, 112, 101] (typeDeclP N typ) (need [102, 117, 110, 99] (tok [40]
  (name fun recv => need [42] (name fun of => need [41] (name fun nm => bind (sigP N typ) fun s => bind block fun b => ret (.mk 5 nm 0 [recvT recv of, s, b]))))
  (name fun nm => bind (sigP N typ) fun s => bind block fun b => ret (.mk 4 nm 0 [s, b]))))
def blockP (stmt : Pp Tree) : Pp Tree := need [123] (bind (upto N [125] stmt) fun l => ret (.mk 20 [] 0 l))
def branchP (expr block branch : Pp Tree) : Pp Tree :=
 need [105, 102] (bind expr fun c => bind block fun b => tok [101, 108, 115, 101]
  (peek (isM [105, 102]) (bind branch fun e => ret (.mk 25 [] 0 [c, b, e])) (bind block fun e => ret (.mk 25 [] 0 [c, b, e])))
  (ret (.mk 25 [] 0 [c, b])))
def forP (expr block : Pp Tree) : Pp Tree :=
 peek (isM [123]) (bind block fun b => ret (.mk 26 [] 0 [b])) (bind expr fun c => bind block fun b => ret (.mk 26 [] 0 [c, b]))
def isNm (t : Tree) : Bool := decide (t.kind = 44)
def isPl (t : Tree) : Bool := decide (t.kind = 44) || (decide (t.kind = 48) || (decide (t.kind = 49) || (decide (t.kind = 52) && decide (t.name = [42]))))
def isC1 : List Tree → Bool
 | [t] => decide (t.kind = 51)
 | _ => false
def tokIf {α : Type} (c : Bool) (s : Str) (A B : Pp α) : Pp α := bif c then tok s A B else B
def assignP (expr : Pp Tree) (left : List Tree) : Pp Tree :=
 tokIf (left.all isNm) [58, 61] (bind (commas N expr) fun l => ret (.mk 22 [] (left.length : Int) (left ++ l)))
  (tokIf (left.all isPl) [61] (bind (commas N expr) fun l => ret (.mk 23 [] (left.length : Int) (left ++ l)))
   (bif isC1 left then peek (isM [59]) (ret (.mk 24 [] 0 left)) fail else fail))
def simpleP (typ expr : Pp Tree) : Pp Tree :=
 tok [118, 97, 114] (name fun s => bind typ fun t => tok [61] (bind expr fun e => ret (.mk 21 s 0 [t, e])) (ret (.mk 21 s 0 [t])))
  (tok [114, 101, 116, 117, 114, 110] (peek (isM [59]) (ret (leaf 27 [])) (bind (commas N expr) fun l => ret (.mk 27 [] 0 l)))
   (tok [98, 114, 101, 97, 107] (ret (leaf 28 [])) (tok [99, 111, 110, 116, 105, 110, 117, 101] (ret (leaf 29 [])) (bind (commas N expr) (assignP N expr)))))
def stmtP (g : Gr) : Pp Tree :=
 peek (isM [123]) g.block (peek (isM [105, 102]) g.branch (tok [102, 111, 114] (forP (g.expr true) g.block) (bind (simpleP N g.typ (g.expr false)) fun s => need [59] (ret s))))
def levels : List (List Str) := [[[124, 124]], [[38, 38]], [[61, 61], [33, 61], [60], [60, 61], [62], [62, 61]], [[43], [45]], [[42], [47], [37]]]
def binT (op : Str) (a b : Tree) : Tree := .mk 53 op 0 [a, b]
def loopB : Nat → List Str → Pp Tree → Tree → Pp Tree
 | 0, _, _, _ => dry
 | j + 1, ops, X, n => oneOf ops (fun op => bind X fun m => loopB j ops X (binT op n m)) (ret n)
def binL (U : Pp Tree) : List (List Str) → Pp Tree
 | [] => U
 | ops :: rest => bind (binL U rest) (loopB N ops (binL U rest))
def exprsP (s : Str) (expr : Pp Tree) : Pp (List Tree) := inP N s expr
def cutP (expr : Pp Tree) (num : Int) (ks : List Tree) : Pp Tree :=
 need [58] (tok [93] (ret (.mk 50 [] num ks)) (bind expr fun e => need [93] (ret (.mk 50 [] (num + 2) (ks ++ [e])))))
def indexP (expr : Pp Tree) (n : Tree) : Pp Tree :=
 peek (isM [58]) (cutP expr 0 [n]) (bind expr fun e => tok [93] (ret (.mk 49 [] 0 [n, e])) (cutP expr 1 [n, e]))
def postP (expr : Pp Tree) : Nat → Tree → Pp Tree
 | 0, _ => dry
 | j + 1, n => tok [46] (name fun s => postP expr j (.mk 48 s 0 [n]))
   (tok [91] (bind (indexP expr n) fun t => postP expr j t)
    (tok [40] (bind (exprsP N [41] expr) fun l => postP expr j (.mk 51 [] 0 (n :: l))) (ret n)))
def primP (typ block expr : Pp Tree) (h : Bool) : Pp Tree :=
 tkn 2 (fun t => ret (.mk 40 [] t.num [])) (tkn 3 (fun t => ret (leaf 41 t.text))
  (tok [116, 114, 117, 101] (ret (.mk 42 [] 1 [])) (tok [102, 97, 108, 115, 101] (ret (leaf 42 [])) (tok [110, 105, 108] (ret (leaf 43 []))
   (tok [40] (bind expr fun t => need [41] (ret t))
    (tok [91] (need [93] (bind typ fun t => need [123] (bind (exprsP N [125] expr) fun l => ret (.mk 46 [] 0 (t :: l)))))
     (tok [102, 117, 110, 99] (bind (sigP N typ) fun s => bind block fun b => ret (.mk 47 [] 0 [s, b]))
      (name fun s => bif h then ret (leaf 44 s) else tok [123] (bind (exprsP N [125] expr) fun l => ret (.mk 45 s 0 l)) (ret (leaf 44 s))))))))))
def unaryP (g : Gr) (h : Bool) : Pp Tree :=
 oneOf [[45], [33], [38], [42]] (fun op => bind (g.unary h) fun t => ret (.mk 52 op 0 [t])) (bind (primP N g.typ g.block (g.expr false) h) (postP N (g.expr false) N))
def Gr.step (g : Gr) : Gr where
 typ := typP N g.typ
 block := blockP N g.stmt
 stmt := stmtP N g
 branch := branchP (g.expr true) g.block g.branch
 expr h := binL N (g.unary h) levels
 unary h := unaryP N g h
def gr : Nat → Gr
 | 0 => ⟨dry, dry, dry, dry, fun _ => dry, fun _ => dry⟩
 | n + 1 => (gr n).step N
def progL (decl : Pp Tree) : Nat → Pp (List Tree)
 | 0 => dry
 | j + 1 => fun f k => bif (f k).isNone then .ok [] k else bind decl (fun a => bind (progL decl j) fun l => ret (a :: l)) f k
def declG (n : Nat) : Pp Tree := declP N (gr N n).typ (gr N n).block
end
def program (M : Nat) : Pp (List Tree) := progL (declG (M + 1) (3 * M + 4)) (M + 1)
end Go.Ps


/- PsPar -/
set_option linter.unusedVariables false
set_option linter.unusedSimpArgs false
namespace Go.Sep
attribute [local irreducible] TC TO OT TCallX TCall DO DOt thenQ blockQ retQ At
theorem pfr1 {α : Type} {a0 a1 : α} {l : List α} : (a0 :: a1 :: l).Perm (a1 :: a0 :: l) := List.Perm.swap _ _ _
theorem pfr2 {α : Type} {a0 a1 a2 : α} {l : List α} : (a0 :: a1 :: a2 :: l).Perm (a2 :: a0 :: a1 :: l) := List.Perm.trans (List.Perm.cons _ pfr1) (List.Perm.swap _ _ _)
theorem pfr3 {α : Type} {a0 a1 a2 a3 : α} {l : List α} : (a0 :: a1 :: a2 :: a3 :: l).Perm (a3 :: a0 :: a1 :: a2 :: l) := List.Perm.trans (List.Perm.cons _ pfr2) (List.Perm.swap _ _ _)
theorem pfr4 {α : Type} {a0 a1 a2 a3 a4 : α} {l : List α} : (a0 :: a1 :: a2 :: a3 :: a4 :: l).Perm (a4 :: a0 :: a1 :: a2 :: a3 :: l) := List.Perm.trans (List.Perm.cons _ pfr3) (List.Perm.swap _ _ _)
structure PE where
 src : Str
 list : Sl
 toks : List Tok
 p : Nat
 N : Nat
def PE.f (E : PE) : Ps.F := fun i => match E.toks[i]? with
 | some t => some ⟨t.kind, t.text, t.num⟩
 | none => none
structure PE.Ok (E : PE) (m : Mem) : Prop where
 rep : SlRep rTok m E.list E.toks
 few : E.toks.length ≤ 20000
 rows : E.N ≤ 20001
 pos : 1 ≤ E.N
theorem PE.Ok.mono {E : PE} {m m' : Mem} (h : E.Ok m) (hm : m ≤ m') : E.Ok m' := ⟨h.rep.mono hm, h.few, h.rows, h.pos⟩
@[reducible] def PE.I (E : PE) (k : Nat) (h : Int) : Item := .cells E.p 0 [strV E.src, E.list.v, .int .i64 (k : Int), .int .i64 h]
@[reducible] def PE.v (E : PE) : Value := .pointer (some ⟨E.p, 0, none⟩)
def PE.place (E : PE) (k : Nat) : Int := match E.toks[k]? with
 | some t => t.at_
 | none => (E.src.length : Int)
def PE.flt (E : PE) (k : Nat) : List PanicEntry := [{ v := .iface 45 (.agg ⟨[.int .i64 (E.place k)]⟩), recovered := false }]
abbrev RV (α : Type) := Mem → Value → List Item → α → Prop
def vTree : RV Tree := fun m v X t => ∃ h, v = treeV h ∧ X = [] ∧ TreeRep m h t
def vList : RV (List Tree) := fun m v X l => ∃ s, v = s.v ∧ X = [tok s 4] ∧ SlRep rTree m s l ∧ Own s ∧ l.length ≤ 20001
def vSl : RV (List Tree) := fun m v X l => ∃ s, v = s.v ∧ X = [] ∧ SlRep rTree m s l ∧ l.length ≤ 20001
def pR {α : Type} (E : PE) (V : RV α) (T : Ps.Res α) (m : Mem) (L : List Item) (h : Int) : Value → Mem → List Item → Prop :=
 fun v m' L' => ∃ a k' xs, T = .ok a k' ∧ m ≤ m' ∧ k' ≤ E.toks.length ∧ V m' v xs a ∧ L' = E.I k' h :: (xs ++ L)
def pX {α : Type} (E : PE) (T : Ps.Res α) (m : Mem) (L : List Item) : List PanicEntry → Mem → List Item → Prop :=
 fun ch m' L' => ∃ k' h', T = .bad k' ∧ m ≤ m' ∧ k' ≤ E.toks.length ∧ ch = E.flt k' ∧ L' = E.I k' h' :: L
def Par {α : Type} (P : Program) (mb : Mem) (E : PE) (V : RV α) (f : FuncId) (args : List Value) (h : Int) (X : Ps.Pp α) : Prop :=
 ∀ (m : Mem) (L : List Item) (k : Nat), mb ≤ m → E.Ok m → k ≤ E.toks.length → X E.f k ≠ .out → TCallX P f ⟨args⟩ m (E.I k h :: L) (pR E V (X E.f k) m L h) (pX E (X E.f k) m L)
theorem Par.enter {α : Type} {P : Program} {mb : Mem} {E : PE} {V : RV α} {f : FuncId} {args : List Value} {h : Int} {X : Ps.Pp α} {fn : Func} {c : Code} (hf : P.funcs[f]? = some fn) (hb : fn.body = some c) (N : Nat) (hN : Nat.ble N fn.ntmps = true)
  (hK : ∀ (m : Mem) (L : List Item) (k : Nat) (T : Ps.Res α), mb ≤ m → E.Ok m → k ≤ E.toks.length → T = X E.f k → T ≠ .out → TC P N c (argEnv args 0) [] m (E.I k h :: L) (retQ P fn (pR E V T m L h) (pX E T m L))) : Par P mb E V f args h X :=
 fun m L k h0 h1 h2 h3 => TCallX.enter hf hb N hN (hK m L k _ h0 h1 h2 rfl h3)
theorem Par.up {α : Type} {P : Program} {mb mb' : Mem} {E : PE} {V : RV α} {f : FuncId} {args : List Value} {h : Int} {X : Ps.Pp α} (hp : Par P mb E V f args h X) (hm : mb ≤ mb') : Par P mb' E V f args h X := fun m L k h0 => hp m L k (Mem.le_trans hm h0)
def Bad {β : Type} (Q : EPost) (E : PE) (T : Ps.Res β) (m : Mem) (L : List Item) : Prop := ∀ ρ m' k h L', m ≤ m' → k ≤ E.toks.length → T = .bad k → L.Sublist L' → Q (.panic (E.flt k)) ρ [] m' (E.I k h :: L')
theorem Bad.ret {β : Type} {P : Program} {fn : Func} {R : Value → Mem → List Item → Prop} {E : PE} {T : Ps.Res β} {m : Mem} {L : List Item} : Bad (retQ P fn R (pX E T m L)) E T m L :=
 fun ρ m' k h L' h1 h2 h3 h4 => retQ_p (L' := E.I k h :: L) (List.Sublist.cons_cons _ h4) ⟨k, h, h3, h1, h2, rfl, rfl⟩
theorem Bad.then {β : Type} {Q : EPost} {K : Env → List Deferred → Mem → List Item → Prop} {E : PE} {T : Ps.Res β} {m : Mem} {L : List Item} (h : Bad Q E T m L) : Bad (thenQ K Q) E T m L := fun ρ m' k hd L' h1 h2 h3 h4 => thenQ_p (h ρ m' k hd L' h1 h2 h3 h4)
theorem Bad.block {β : Type} {Q : EPost} {i : Nat} {E : PE} {T : Ps.Res β} {m : Mem} {L : List Item} (h : Bad Q E T m L) : Bad (blockQ i Q) E T m L := fun ρ m' k hd L' h1 h2 h3 h4 => blockQ_p (h ρ m' k hd L' h1 h2 h3 h4)
theorem Bad.le {β : Type} {Q : EPost} {E : PE} {T : Ps.Res β} {m m' : Mem} {L : List Item} (h : Bad Q E T m L) (hm : m ≤ m') : Bad Q E T m' L := fun ρ m2 k hd L' h1 h2 h3 h4 => h ρ m2 k hd L' (Mem.le_trans hm h1) h2 h3 h4
theorem bind_out' {α β : Type} {p : Ps.Pp α} {g : α → Ps.Pp β} {f : Ps.F} {k : Nat} {T : Ps.Res β} (hT : T = Ps.bind p g f k) (hn : T ≠ .out) : p f k ≠ .out := fun h => hn (by rw [hT]; unfold Ps.bind; rw [h])
section
variable {P : Program} {N : Nat} {ρ : Env} {m : Mem} {L : List Item} {Q : EPost} {o : Oper} {K : Env → Mem → List Item → Prop} {E : PE} {α β : Type}
theorem OT.parG {V : RV α} {FF : Operand} {args : List Operand} {ats : Array TypeId} {f : FuncId} {first cap vs all : List Value} {d : Nat} {h : Int} {p : Ps.Pp α} {g : α → Ps.Pp β} {T : Ps.Res β} {k : Nat} {m0 mb : Mem} {L0 : List Item}
  (ho : o.op = .call ⟨.value FF, ⟨args⟩, ats⟩) (hd : o.dst = some d) (hN : Nat.blt d N = true)
  (hF : ev ρ FF = some (.func (.func f) ⟨first⟩ ⟨cap⟩)) (ha : evs ρ args = some vs) (hall : fl (first ++ (vs ++ cap)) = some all) (hg : Goes P f)
  (hp : Par P mb E V f all h p) (hq : mb ≤ m) (hT : T = Ps.bind p g E.f k) (hn : T ≠ .out) (hE : E.Ok m) (hk : k ≤ E.toks.length) (hb : Bad Q E T m0 L0) (hm : m0 ≤ m) (hL : L0.Sublist L)
  (hK : ∀ v m' a k' xs, T = g a E.f k' → m ≤ m' → k' ≤ E.toks.length → V m' v xs a → K ((d, v) :: ρ) m' (E.I k' h :: (xs ++ L))) : OT P N o ρ [] m (E.I k h :: L) Q K := by
 refine OT.call ho hd hN hF ha hall hg (TCallX.mono (hp m L k hq hE hk (bind_out' hT hn)) ?_ ?_)
 ·rintro v m' L' ⟨a, k', xs, h1, h2, h3, h4, rfl⟩
  exact hK v m' a k' xs (by rw [hT]; unfold Ps.bind; rw [h1]) h2 h3 h4
 ·rintro ch m' L' ⟨k', h', h1, h2, h3, rfl, rfl⟩
  exact hb _ _ _ _ _ (Mem.le_trans hm h2) h3 (by rw [hT]; unfold Ps.bind; rw [h1]) hL
section
variable {FF : Operand} {args : List Operand} {ats : Array TypeId} {f : FuncId} {first cap vs all : List Value} {d : Nat} {h : Int} {T : Ps.Res β} {k : Nat} {m0 mb : Mem} {L0 : List Item}
theorem OT.parT {p : Ps.Pp Tree} {g : Tree → Ps.Pp β} (hp : Par P mb E vTree f all h p) (hq : mb ≤ m) (hT : T = Ps.bind p g E.f k) (hn : T ≠ .out) (hE : E.Ok m) (hk : k ≤ E.toks.length) (hb : Bad Q E T m0 L0) (hm : m0 ≤ m) (hL : L0.Sublist L)
  (ho : o.op = .call ⟨.value FF, ⟨args⟩, ats⟩) (hd : o.dst = some d) (hN : Nat.blt d N = true)
  (hF : ev ρ FF = some (.func (.func f) ⟨first⟩ ⟨cap⟩)) (ha : evs ρ args = some vs) (hall : fl (first ++ (vs ++ cap)) = some all) (hg : Goes P f)
  (hK : ∀ x m' a k', T = g a E.f k' → m0 ≤ m' → E.Ok m' → m ≤ m' → k' ≤ E.toks.length → TreeRep m' x a → K ((d, treeV x) :: ρ) m' (E.I k' h :: L)) : OT P N o ρ [] m (E.I k h :: L) Q K :=
 OT.parG ho hd hN hF ha hall hg hp hq hT hn hE hk hb hm hL fun v m' a k' xs h1 h2 h3 h4 => by
  obtain ⟨x, rfl, rfl, h5⟩ := h4
  exact hK x m' a k' h1 (Mem.le_trans hm h2) (hE.mono h2) h2 h3 h5
theorem OT.parL {p : Ps.Pp (List Tree)} {g : List Tree → Ps.Pp β} (hp : Par P mb E vList f all h p) (hq : mb ≤ m) (hT : T = Ps.bind p g E.f k) (hn : T ≠ .out) (hE : E.Ok m) (hk : k ≤ E.toks.length) (hb : Bad Q E T m0 L0) (hm : m0 ≤ m) (hL : L0.Sublist L)
  (ho : o.op = .call ⟨.value FF, ⟨args⟩, ats⟩) (hd : o.dst = some d) (hN : Nat.blt d N = true)
  (hF : ev ρ FF = some (.func (.func f) ⟨first⟩ ⟨cap⟩)) (ha : evs ρ args = some vs) (hall : fl (first ++ (vs ++ cap)) = some all) (hg : Goes P f)
  (hK : ∀ (x : Sl) m' a k', T = g a E.f k' → m0 ≤ m' → E.Ok m' → m ≤ m' → k' ≤ E.toks.length → SlRep rTree m' x a → Own x → a.length ≤ 20001 → K ((d, x.v) :: ρ) m' (E.I k' h :: tok x 4 :: L)) : OT P N o ρ [] m (E.I k h :: L) Q K :=
 OT.parG ho hd hN hF ha hall hg hp hq hT hn hE hk hb hm hL fun v m' a k' xs h1 h2 h3 h4 => by
  obtain ⟨x, rfl, rfl, h5, h6, h7⟩ := h4
  exact hK x m' a k' h1 (Mem.le_trans hm h2) (hE.mono h2) h2 h3 h5 h6 h7
theorem OT.parS {p : Ps.Pp (List Tree)} {g : List Tree → Ps.Pp β} (hp : Par P mb E vSl f all h p) (hq : mb ≤ m) (hT : T = Ps.bind p g E.f k) (hn : T ≠ .out) (hE : E.Ok m) (hk : k ≤ E.toks.length) (hb : Bad Q E T m0 L0) (hm : m0 ≤ m) (hL : L0.Sublist L)
  (ho : o.op = .call ⟨.value FF, ⟨args⟩, ats⟩) (hd : o.dst = some d) (hN : Nat.blt d N = true)
  (hF : ev ρ FF = some (.func (.func f) ⟨first⟩ ⟨cap⟩)) (ha : evs ρ args = some vs) (hall : fl (first ++ (vs ++ cap)) = some all) (hg : Goes P f)
  (hK : ∀ (x : Sl) m' a k', T = g a E.f k' → m0 ≤ m' → E.Ok m' → m ≤ m' → k' ≤ E.toks.length → SlRep rTree m' x a → a.length ≤ 20001 → K ((d, x.v) :: ρ) m' (E.I k' h :: L)) : OT P N o ρ [] m (E.I k h :: L) Q K :=
 OT.parG ho hd hN hF ha hall hg hp hq hT hn hE hk hb hm hL fun v m' a k' xs h1 h2 h3 h4 => by
  obtain ⟨x, rfl, rfl, h5, h6⟩ := h4
  exact hK x m' a k' h1 (Mem.le_trans hm h2) (hE.mono h2) h2 h3 h5 h6
end
theorem DOt.perm {ops : List Oper} {ts : List Nat} {fuel : Nat} {listed : List Bool} {D : List Deferred} {L' : List Item} (hp : L.Perm L') (h : DOt P N ops ts fuel listed ρ D m L' Q) : DOt P N ops ts fuel listed ρ D m L Q := by
 unfold DOt at h ⊢
 exact fun a w ha => h a w (ha.perm hp)
end
end Go.Sep


/- PsW1 -/
set_option linter.unusedVariables false
set_option linter.unusedSimpArgs false
namespace Go.Sep
open Go.Proofs
attribute [local irreducible] TC TO OT TCallX TCall DO DOt thenQ blockQ retQ At
theorem PE.f_some {E : PE} {k : Nat} (h : k < E.toks.length) : E.f k = some ⟨(E.toks[k]).kind, (E.toks[k]).text, (E.toks[k]).num⟩ := by
 unfold PE.f; rw [List.getElem?_eq_getElem h]
theorem PE.f_none {E : PE} {k : Nat} (h : E.toks.length ≤ k) : E.f k = none := by
 unfold PE.f; rw [List.getElem?_eq_none h]
theorem PE.isM {E : PE} {k : Nat} (h : k < E.toks.length) (s : Str) : Ps.isM s E.f k = ((decide ((E.toks[k]).kind = 4) || decide ((E.toks[k]).kind = 5)) && decide ((E.toks[k]).text = s)) := by
 unfold Ps.isM; rw [PE.f_some h]
theorem PE.isM_no {E : PE} {k : Nat} (h : E.toks.length ≤ k) (s : Str) : Ps.isM s E.f k = false := by
 unfold Ps.isM; rw [PE.f_none h]
theorem PE.isK {E : PE} {k : Nat} (h : k < E.toks.length) (c : Int) : Ps.isK c E.f k = decide ((E.toks[k]).kind = c) := by
 unfold Ps.isK; rw [PE.f_some h]
theorem PE.isK_no {E : PE} {k : Nat} (h : E.toks.length ≤ k) (c : Int) : Ps.isK c E.f k = false := by
 unfold Ps.isK; rw [PE.f_none h]
section
variable {E : PE} {m : Mem} {L : List Item} {k : Nat} {h : Int}
theorem peek_law (s : Str) (hE : E.Ok m) (hk : k ≤ E.toks.length) : TCall Tryz.prog 98 ⟨[E.v, strV s]⟩ m (E.I k h :: L) (Ret (.bool (Ps.isM s E.f k)) m (E.I k h :: L)) := by
 have hlen := hE.rep.len
 have hfew := hE.few
 unfold TCall
 refine TCallX.enter Tryz.func98 rfl 40 rfl ?_
 repeat (first|refine q1 ?_|refine q3 ?_|refine q4 tab rfl rfl ?_|refine q5 ?_|refine q6 ?_)
 refine TC.draw0 [] mixed 10 rfl ?_
 refine DO.pure tab (by repeat (first|exact Calm.ret|refine Calm.then ?_)) (by kernel_rfl) [0, 1, 2] (by kernel_rfl) rfl ?_
 (refine DO.loadL tab 3 0 (by repeat (first|exact Calm.ret|refine Calm.then ?_)) (by kernel_rfl) (by kernel_rfl) rfl rfl rfl rfl rfl rfl rfl rfl ?_)
 refine DO.pure tab (by repeat (first|exact Calm.ret|refine Calm.then ?_)) (by kernel_rfl) [4, 5, 6] (by kernel_rfl) rfl ?_
 (refine DO.loadL tab 7 0 (by repeat (first|exact Calm.ret|refine Calm.then ?_)) (by kernel_rfl) (by kernel_rfl) rfl rfl rfl rfl rfl rfl rfl rfl ?_)
 refine DO.pure tab (by repeat (first|exact Calm.ret|refine Calm.then ?_)) (by kernel_rfl) [8, 9] (by kernel_rfl) rfl ?_
 (refine DO.nil0 (by kernel_rfl) ?_)
 rotate_left 1
 repeat (refine q6 ?_)
 refine TC.condP rfl (fun c0 => ?_) (fun c0 => ?_)
 ·repeat (first|refine q1 ?_|refine q3 ?_|refine q4 tab rfl rfl ?_|refine q5 ?_|refine q6 ?_|refine q8 ?_|refine q15 ?_)
  refine retQ_ret rfl (by repeat (exact List.Sublist.refl _)) ⟨rfl, rfl, ?_⟩
  rw [PE.isM_no (by omega)]
 have hlt : k < E.toks.length := by omega
 have hx : E.toks[k]? = some E.toks[k] := List.getElem?_eq_getElem hlt
 repeat (first|refine q1 ?_|refine q6 ?_|refine q13 ?_)
 refine TC.draw [11] mixed 12 rfl [E.I k h] L (by first | exact List.Perm.refl _ | (rw [List.append_nil]; exact List.Perm.refl _)) ?_
 refine DO.pure tab (by repeat (first|exact Calm.ret|refine Calm.then ?_)) (by kernel_rfl) [0, 1, 2] (by kernel_rfl) rfl ?_
 (refine DO.loadL tab 3 0 (by repeat (first|exact Calm.ret|refine Calm.then ?_)) (by kernel_rfl) (by kernel_rfl) rfl rfl rfl rfl rfl rfl rfl rfl ?_)
 refine DO.pure tab (by repeat (first|exact Calm.ret|refine Calm.then ?_)) (by kernel_rfl) [4, 5, 6] (by kernel_rfl) rfl ?_
 (refine DO.loadL tab 7 0 (by repeat (first|exact Calm.ret|refine Calm.then ?_)) (by kernel_rfl) (by kernel_rfl) rfl rfl rfl rfl rfl rfl rfl rfl ?_)
 refine DO.index tab rTok 8 k hE.rep (by repeat (first|exact Calm.ret|refine Calm.then ?_)) (by kernel_rfl) (by kernel_rfl) rfl rfl rfl rfl rfl rfl rfl (by first | rfl | omega) rfl hx ?_
 rintro b i hd hr hA; obtain rfl := (show hd = E.toks[k] from hr)
 (refine DO.loadA (k := 0) tab 9 hA (by repeat (first|exact Calm.ret|refine Calm.then ?_)) (by kernel_rfl) (by kernel_rfl) rfl rfl rfl rfl rfl rfl rfl ?_)
 refine DO.run 10 rfl rfl (by kernel_rfl) rfl ?_
 refine OT.alloc tab rfl rfl rfl rfl (fun bx => ?_); refine ⟨Mem.le_refl _, .cells bx 0 [.int .i64 0, .string ⟨#[]⟩, .int .i64 0, .int .i64 0] :: L, List.Perm.swap _ _ _, ?_⟩
 refine DO.tail ?_
 refine DOt.run 11 rfl rfl (by kernel_rfl) rfl ?_
 refine OT.storeL0 tab 1 rfl rfl rfl rfl rfl rfl rfl rfl ?_
 refine DOt.nil (by kernel_rfl) ?_
 rotate_left 1
 repeat' (first|(first|refine q1 ?_|refine q3 ?_|refine q4 tab rfl rfl ?_|refine q5 ?_|refine q6 ?_|refine q15 ?_)|(refine qs rfl (ql tab 1 rfl rfl rfl rfl rfl rfl ?_))|(refine TO.splitP rfl rfl (fun hb => ?_) (fun hb => ?_)))
 all_goals
  refine retQ_ret rfl (by repeat (first|exact List.Sublist.refl _|refine List.Sublist.cons_cons _ ?_|refine List.Sublist.cons _ ?_)) ⟨rfl, rfl, ?_⟩
  rw [PE.isM hlt]
  simp_all [tokC]
@[reducible] def PE.step (E : PE) (s : Str) (k : Nat) : Nat := bif Ps.isM s E.f k then k + 1 else k
theorem PE.isM_lt {s : Str} (h : Ps.isM s E.f k = true) : k < E.toks.length := by
 rcases Nat.lt_or_ge k E.toks.length with hl | hl
 ·exact hl
 ·rw [PE.isM_no hl] at h; cases h
theorem PE.isK_lt {c : Int} (h : Ps.isK c E.f k = true) : k < E.toks.length := by
 rcases Nat.lt_or_ge k E.toks.length with hl | hl
 ·exact hl
 ·rw [PE.isK_no hl] at h; cases h
theorem take_law (s : Str) (hE : E.Ok m) (hk : k ≤ E.toks.length) : TCall Tryz.prog 65 ⟨[E.v, strV s]⟩ m (E.I k h :: L) (Ret (.bool (Ps.isM s E.f k)) m (E.I (E.step s k) h :: L)) := by
 have hfew := hE.few
 unfold TCall
 refine TCallX.enter Tryz.func65 rfl 15 rfl ?_
 repeat (first|refine q1 ?_|refine q3 ?_|refine q4 tab rfl rfl ?_|refine q5 ?_|refine q6 ?_)
 refine TO.step rfl (OT.call rfl rfl rfl rfl rfl rfl goes98 ((peek_law s hE hk).x ?_));
 rintro _ _ _ ⟨rfl, rfl, rfl⟩
 repeat (first|refine q5 ?_|refine q6 ?_)
 unfold PE.step
 cases hb : Ps.isM s E.f k with
 | true =>
  repeat (first|refine q1 ?_|refine q3 ?_|refine q4 tab rfl rfl ?_|refine q16 rfl ?_)
  (refine qs rfl (ql tab 0 rfl rfl rfl rfl rfl rfl ?_))
  refine TO.step rfl (OT.arith (r' := ((k + 1 : Nat) : Int)) rfl rfl rfl rfl rfl rfl rfl (by omega) ?_)
  repeat (refine q4 tab rfl rfl ?_)
  refine TO.step rfl (OT.storeL (k := 2) tab 0 rfl rfl rfl rfl rfl rfl rfl rfl ?_)
  repeat (first|refine q1 ?_|refine q3 ?_|refine q4 tab rfl rfl ?_|refine q5 ?_|refine q6 ?_|refine q8 ?_|refine q15 ?_)
  refine retQ_ret rfl (L' := E.I (k + 1) h :: L) (by repeat (exact List.Sublist.refl _)) ⟨rfl, rfl, rfl⟩
 | false =>
  repeat (first|refine q1 ?_|refine q3 ?_|refine q4 tab rfl rfl ?_|refine q5 ?_|refine q6 ?_|refine q13 ?_|refine q15 ?_|refine q17 rfl ?_)
  refine retQ_ret rfl (L' := E.I k h :: L) (by repeat (exact List.Sublist.refl _)) ⟨rfl, rfl, rfl⟩
theorem place_law (hE : E.Ok m) (hk : k ≤ E.toks.length) : TCall Tryz.prog 122 ⟨[E.v]⟩ m (E.I k h :: L) (Ret (.int .i64 (E.place k)) m (E.I k h :: L)) := by
 have hlen := hE.rep.len
 have hfew := hE.few
 unfold TCall
 refine TCallX.enter Tryz.func122 rfl 29 rfl ?_
 repeat (first|refine q1 ?_|refine q3 ?_|refine q4 tab rfl rfl ?_|refine q5 ?_|refine q6 ?_)
 refine TC.draw0 [] mixed 10 rfl ?_
 refine DO.pure tab (by repeat (first|exact Calm.ret|refine Calm.then ?_)) (by kernel_rfl) [0, 1, 2] (by kernel_rfl) rfl ?_
 (refine DO.loadL tab 3 0 (by repeat (first|exact Calm.ret|refine Calm.then ?_)) (by kernel_rfl) (by kernel_rfl) rfl rfl rfl rfl rfl rfl rfl rfl ?_)
 refine DO.pure tab (by repeat (first|exact Calm.ret|refine Calm.then ?_)) (by kernel_rfl) [4, 5, 6] (by kernel_rfl) rfl ?_
 (refine DO.loadL tab 7 0 (by repeat (first|exact Calm.ret|refine Calm.then ?_)) (by kernel_rfl) (by kernel_rfl) rfl rfl rfl rfl rfl rfl rfl rfl ?_)
 refine DO.pure tab (by repeat (first|exact Calm.ret|refine Calm.then ?_)) (by kernel_rfl) [8, 9] (by kernel_rfl) rfl ?_
 (refine DO.nil0 (by kernel_rfl) ?_)
 rotate_left 1
 repeat (refine q6 ?_)
 refine TC.condP rfl (fun c0 => ?_) (fun c0 => ?_)
 ·have hlt : k < E.toks.length := by omega
  have hx : E.toks[k]? = some E.toks[k] := List.getElem?_eq_getElem hlt
  repeat (refine q1 ?_)
  refine TC.draw0 [] mixed 12 rfl ?_
  refine DO.pure tab (by repeat (first|exact Calm.ret|refine Calm.then ?_)) (by kernel_rfl) [0, 1, 2] (by kernel_rfl) rfl ?_
  (refine DO.loadL tab 3 0 (by repeat (first|exact Calm.ret|refine Calm.then ?_)) (by kernel_rfl) (by kernel_rfl) rfl rfl rfl rfl rfl rfl rfl rfl ?_)
  refine DO.pure tab (by repeat (first|exact Calm.ret|refine Calm.then ?_)) (by kernel_rfl) [4, 5, 6] (by kernel_rfl) rfl ?_
  (refine DO.loadL tab 7 0 (by repeat (first|exact Calm.ret|refine Calm.then ?_)) (by kernel_rfl) (by kernel_rfl) rfl rfl rfl rfl rfl rfl rfl rfl ?_)
  refine DO.index tab rTok 8 k hE.rep (by repeat (first|exact Calm.ret|refine Calm.then ?_)) (by kernel_rfl) (by kernel_rfl) rfl rfl rfl rfl rfl rfl rfl (by first | rfl | omega) rfl hx ?_
  rintro b i hd hr hA; obtain rfl := (show hd = E.toks[k] from hr)
  refine DO.pure tab (by repeat (first|exact Calm.ret|refine Calm.then ?_)) (by kernel_rfl) [9] (by kernel_rfl) rfl ?_
  (refine DO.loadA tab 10 hA (by repeat (first|exact Calm.ret|refine Calm.then ?_)) (by kernel_rfl) (by kernel_rfl) rfl rfl rfl rfl rfl rfl rfl ?_)
  refine DO.pure tab (by repeat (first|exact Calm.ret|refine Calm.then ?_)) (by kernel_rfl) [11] (by kernel_rfl) rfl ?_
  (refine DO.nil0 (by kernel_rfl) ?_)
  rotate_left 1
  repeat (first|refine q6 ?_|refine q8 ?_|refine q15 ?_)
  refine retQ_ret rfl (by repeat (exact List.Sublist.refl _)) ⟨rfl, rfl, ?_⟩
  unfold PE.place; rw [hx]
 ·repeat (first|refine q1 ?_|refine q3 ?_|refine q4 tab rfl rfl ?_|refine q6 ?_|refine q13 ?_)
  (refine qs rfl (ql tab 0 rfl rfl rfl rfl rfl rfl ?_))
  repeat (first|refine q4 tab rfl rfl ?_|refine q5 ?_|refine q6 ?_|refine q15 ?_)
  refine retQ_ret rfl (by repeat (exact List.Sublist.refl _)) ⟨rfl, rfl, ?_⟩
  unfold PE.place; rw [List.getElem?_eq_none (by omega)]
theorem stop_law (hE : E.Ok m) (hk : k ≤ E.toks.length) : TCallX Tryz.prog 100 ⟨[E.v]⟩ m (E.I k h :: L) (fun _ _ _ => False) (fun ch m' L' => m' = m ∧ ch = E.flt k ∧ L' = E.I k h :: L) := by
 refine TCallX.enter Tryz.func100 rfl 6 rfl ?_
 repeat (first|refine q3 ?_|refine q4 tab rfl rfl ?_)
 refine TO.step rfl (OT.call rfl rfl rfl rfl rfl rfl goes122 ((place_law hE hk).x ?_));
 rintro _ _ _ ⟨rfl, rfl, rfl⟩
 repeat (refine q4 tab rfl rfl ?_)
 refine TO.step rfl (OT.mkIface tab rfl rfl rfl rfl rfl ?_)
 skip
 refine TO.step rfl (OT.panic rfl rfl ?_)
 exact retQ_p (L' := E.I k h :: L) (by repeat (exact List.Sublist.refl _)) ⟨rfl, rfl, rfl⟩
theorem is_law (c : Int) (hE : E.Ok m) (hk : k ≤ E.toks.length) : TCall Tryz.prog 101 ⟨[E.v, .int .i64 c]⟩ m (E.I k h :: L) (Ret (.bool (Ps.isK c E.f k)) m (E.I k h :: L)) := by
 have hlen := hE.rep.len
 have hfew := hE.few
 unfold TCall
 refine TCallX.enter Tryz.func101 rfl 30 rfl ?_
 repeat (first|refine q1 ?_|refine q3 ?_|refine q4 tab rfl rfl ?_|refine q5 ?_|refine q6 ?_)
 rcases Nat.lt_or_ge k E.toks.length with hlt | hge
 ·have hx : E.toks[k]? = some E.toks[k] := List.getElem?_eq_getElem hlt
  refine TC.draw0 [] mixed 26 rfl ?_
  refine DO.pure tab (by repeat (first|exact Calm.ret|refine Calm.then ?_)) (by kernel_rfl) [0, 1, 2] (by kernel_rfl) rfl ?_
  (refine DO.loadL tab 3 0 (by repeat (first|exact Calm.ret|refine Calm.then ?_)) (by kernel_rfl) (by kernel_rfl) rfl rfl rfl rfl rfl rfl rfl rfl ?_)
  refine DO.pure tab (by repeat (first|exact Calm.ret|refine Calm.then ?_)) (by kernel_rfl) [4, 5, 6] (by kernel_rfl) rfl ?_
  (refine DO.loadL tab 7 0 (by repeat (first|exact Calm.ret|refine Calm.then ?_)) (by kernel_rfl) (by kernel_rfl) rfl rfl rfl rfl rfl rfl rfl rfl ?_)
  refine DO.pure tab (by repeat (first|exact Calm.ret|refine Calm.then ?_)) (by kernel_rfl) [8, 9, 10] (by kernel_rfl) rfl ?_
  (refine DO.splitP (d := 15) rfl (fun hg10 => ?_) (fun hg10 => ?_))
  refine DO.pure tab (by repeat (first|exact Calm.ret|refine Calm.then ?_)) (by kernel_rfl) [11, 12, 13] (by kernel_rfl) rfl ?_
  (refine DO.loadL tab 14 0 (by repeat (first|exact Calm.ret|refine Calm.then ?_)) (by kernel_rfl) (by kernel_rfl) rfl rfl rfl rfl rfl rfl rfl rfl ?_)
  refine DO.pure tab (by repeat (first|exact Calm.ret|refine Calm.then ?_)) (by kernel_rfl) [15, 16, 17] (by kernel_rfl) rfl ?_
  (refine DO.loadL tab 18 0 (by repeat (first|exact Calm.ret|refine Calm.then ?_)) (by kernel_rfl) (by kernel_rfl) rfl rfl rfl rfl rfl rfl rfl rfl ?_)
  refine DO.index tab rTok 19 k hE.rep (by repeat (first|exact Calm.ret|refine Calm.then ?_)) (by kernel_rfl) (by kernel_rfl) rfl rfl rfl rfl rfl rfl rfl (by first | rfl | omega) rfl hx ?_
  rintro b i hd hr hA; obtain rfl := (show hd = E.toks[k] from hr)
  refine DO.pure tab (by repeat (first|exact Calm.ret|refine Calm.then ?_)) (by kernel_rfl) [20] (by kernel_rfl) rfl ?_
  (refine DO.loadA tab 21 hA (by repeat (first|exact Calm.ret|refine Calm.then ?_)) (by kernel_rfl) (by kernel_rfl) rfl rfl rfl rfl rfl rfl rfl ?_)
  refine DO.pure tab (by repeat (first|exact Calm.ret|refine Calm.then ?_)) (by kernel_rfl) [22, 23, 24, 25] (by kernel_rfl) rfl ?_
  (refine DO.nil0 (by kernel_rfl) ?_)
  rotate_left 1
  ·first | (exfalso; omega) | exact absurd rfl hg10 | exact absurd (by assumption) hg10 | contradiction
  repeat (first|refine q6 ?_|refine q15 ?_)
  refine retQ_ret rfl (by repeat (exact List.Sublist.refl _)) ⟨rfl, rfl, ?_⟩
  rw [PE.isK hlt]
 ·refine TC.draw0 [] mixed 26 rfl ?_
  refine DO.pure tab (by repeat (first|exact Calm.ret|refine Calm.then ?_)) (by kernel_rfl) [0, 1, 2] (by kernel_rfl) rfl ?_
  (refine DO.loadL tab 3 0 (by repeat (first|exact Calm.ret|refine Calm.then ?_)) (by kernel_rfl) (by kernel_rfl) rfl rfl rfl rfl rfl rfl rfl rfl ?_)
  refine DO.pure tab (by repeat (first|exact Calm.ret|refine Calm.then ?_)) (by kernel_rfl) [4, 5, 6] (by kernel_rfl) rfl ?_
  (refine DO.loadL tab 7 0 (by repeat (first|exact Calm.ret|refine Calm.then ?_)) (by kernel_rfl) (by kernel_rfl) rfl rfl rfl rfl rfl rfl rfl rfl ?_)
  refine DO.pure tab (by repeat (first|exact Calm.ret|refine Calm.then ?_)) (by kernel_rfl) [8, 9, 10] (by kernel_rfl) rfl ?_
  (refine DO.splitP (d := 15) rfl (fun hg10 => ?_) (fun hg10 => ?_))
  ·first | (exfalso; omega) | exact absurd rfl hg10 | exact absurd (by assumption) hg10 | contradiction
  refine DO.pure tab (by repeat (first|exact Calm.ret|refine Calm.then ?_)) (by kernel_rfl) [11, 12, 13, 14, 15, 16, 17, 18, 19, 20, 21, 22, 23, 24, 25] (by kernel_rfl) rfl ?_
  (refine DO.nil0 (by kernel_rfl) ?_)
  rotate_left 1
  repeat (first|refine q6 ?_|refine q15 ?_)
  refine retQ_ret rfl (by repeat (exact List.Sublist.refl _)) ⟨rfl, rfl, ?_⟩
  rw [PE.isK_no hge]
end
end Go.Sep


/- PsW2 -/
set_option linter.unusedVariables false
set_option linter.unusedSimpArgs false
namespace Go.Ps
variable {α β : Type}
theorem tok_t {s : Sep.Str} {A B : Pp α} {f : F} {k : Nat} (h : isM s f k = true) : tok s A B f k = A f (k + 1) := by unfold tok; rw [h]; rfl
theorem tok_f {s : Sep.Str} {A B : Pp α} {f : F} {k : Nat} (h : isM s f k = false) : tok s A B f k = B f k := by unfold tok; rw [h]; rfl
theorem peek_t' {q : F → Nat → Bool} {A B : Pp α} {f : F} {k : Nat} (h : q f k = true) : peek q A B f k = A f k := by unfold peek; rw [h]; rfl
theorem peek_f' {q : F → Nat → Bool} {A B : Pp α} {f : F} {k : Nat} (h : q f k = false) : peek q A B f k = B f k := by unfold peek; rw [h]; rfl
theorem name_t {A : Sep.Str → Pp α} {f : F} {k : Nat} {t : Tk} (h : f k = some t) (hk : t.kind = 1) : name A f k = A t.text f (k + 1) := by
 unfold name tkn; rw [h]; simp only [hk]; rfl
theorem name_f {A : Sep.Str → Pp α} {f : F} {k : Nat} (h : isK 1 f k = false) : name A f k = .bad k := by
 unfold isK at h
 unfold name tkn
 cases hf : f k with
 | none => rfl
 | some t => rw [hf] at h; simp only at h; simp only [h]; rfl
end Go.Ps
namespace Go.Sep
open Go.Proofs
attribute [local irreducible] TC TO OT TCallX TCall DO DOt thenQ blockQ retQ At
section
variable {E : PE} {m : Mem} {L : List Item} {k : Nat} {h : Int}
theorem need_law (s : Str) (hE : E.Ok m) (hk : k ≤ E.toks.length) : TCallX Tryz.prog 67 ⟨[E.v, strV s]⟩ m (E.I k h :: L)
  (fun v m' L' => m' = m ∧ v = .tuple ⟨[]⟩ ∧ Ps.isM s E.f k = true ∧ L' = E.I (k + 1) h :: L) (fun ch m' L' => m' = m ∧ Ps.isM s E.f k = false ∧ ch = E.flt k ∧ L' = E.I k h :: L) := by
 refine TCallX.enter Tryz.func67 rfl 10 rfl ?_
 repeat (first|refine q1 ?_|refine q3 ?_|refine q4 tab rfl rfl ?_)
 refine TO.step rfl (OT.call rfl rfl rfl rfl rfl rfl goes65 ((take_law s hE hk).x ?_));
 rintro _ _ _ ⟨rfl, rfl, rfl⟩
 repeat (first|refine q4 tab rfl rfl ?_|refine q5 ?_|refine q6 ?_)
 unfold PE.step
 cases hb : Ps.isM s E.f k with
 | true =>
  repeat (first|refine q13 ?_|refine q17 rfl ?_)
  refine retQ_n rfl (L' := E.I (k + 1) h :: L) (by repeat (exact List.Sublist.refl _)) ⟨rfl, rfl, rfl, rfl⟩
 | false =>
  repeat (first|refine q3 ?_|refine q4 tab rfl rfl ?_|refine q16 rfl ?_)
  refine TO.step rfl (OT.call rfl rfl rfl rfl rfl rfl goes100 (TCallX.mono (stop_law hE hk) (fun _ _ _ hf => hf.elim) ?_))
  rintro _ _ _ ⟨rfl, rfl, rfl⟩
  skip
  exact retQ_p (L' := E.I k h :: L) (by repeat (exact List.Sublist.refl _)) ⟨rfl, rfl, rfl, rfl⟩
theorem pname_law (hE : E.Ok m) (hk : k ≤ E.toks.length) : TCallX Tryz.prog 68 ⟨[E.v]⟩ m (E.I k h :: L)
  (fun v m' L' => m' = m ∧ ∃ t, E.f k = some t ∧ t.kind = 1 ∧ v = strV t.text ∧ k + 1 ≤ E.toks.length ∧ L' = E.I (k + 1) h :: L) (fun ch m' L' => m' = m ∧ Ps.isK 1 E.f k = false ∧ ch = E.flt k ∧ L' = E.I k h :: L) := by
 refine TCallX.enter Tryz.func68 rfl 27 rfl ?_
 have hlen := hE.rep.len
 have hfew := hE.few
 repeat (first|refine q1 ?_|refine q3 ?_|refine q4 tab rfl rfl ?_|refine q5 ?_|refine q6 ?_)
 refine TO.step rfl (OT.call rfl rfl rfl rfl rfl rfl goes101 ((is_law 1 hE hk).x ?_));
 rintro _ _ _ ⟨rfl, rfl, rfl⟩
 repeat (first|refine q4 tab rfl rfl ?_|refine q5 ?_|refine q6 ?_)
 cases hb : Ps.isK 1 E.f k with
 | true =>
  have hlt := PE.isK_lt hb
  have hx : E.toks[k]? = some E.toks[k] := List.getElem?_eq_getElem hlt
  have hkind : E.toks[k].kind = 1 := by rw [PE.isK hlt] at hb; simpa using hb
  repeat (first|refine q1 ?_|refine q3 ?_|refine q4 tab rfl rfl ?_|refine q6 ?_|refine q13 ?_|refine q17 rfl ?_)
  (refine qs rfl (ql tab 0 rfl rfl rfl rfl rfl rfl ?_))
  refine TO.step rfl (OT.arith (r' := ((k + 1 : Nat) : Int)) rfl rfl rfl rfl rfl rfl rfl (by omega) ?_)
  repeat (refine q4 tab rfl rfl ?_)
  refine TO.step rfl (OT.storeL (k := 2) tab 0 rfl rfl rfl rfl rfl rfl rfl rfl ?_)
  repeat (first|refine q1 ?_|refine q5 ?_|refine q6 ?_)
  refine TC.draw0 [] mixed 13 rfl ?_
  refine DO.pure tab (by repeat (first|exact Calm.ret|refine Calm.then ?_)) (by kernel_rfl) [0, 1, 2] (by kernel_rfl) rfl ?_
  (refine DO.loadL tab 3 0 (by repeat (first|exact Calm.ret|refine Calm.then ?_)) (by kernel_rfl) (by kernel_rfl) rfl rfl rfl rfl rfl rfl rfl rfl ?_)
  refine DO.pure tab (by repeat (first|exact Calm.ret|refine Calm.then ?_)) (by kernel_rfl) [4, 5, 6] (by kernel_rfl) rfl ?_
  (refine DO.loadL tab 7 0 (by repeat (first|exact Calm.ret|refine Calm.then ?_)) (by kernel_rfl) (by kernel_rfl) rfl rfl rfl rfl rfl rfl rfl rfl ?_)
  refine DO.arith 8 (r' := ((k : Nat) : Int)) (by repeat (first|exact Calm.ret|refine Calm.then ?_)) (by kernel_rfl) (by kernel_rfl) rfl rfl rfl rfl rfl rfl rfl rfl (by first | rfl | omega | (simp only; omega)) (by omega) ?_
  refine DO.index tab rTok 9 k hE.rep (by repeat (first|exact Calm.ret|refine Calm.then ?_)) (by kernel_rfl) (by kernel_rfl) rfl rfl rfl rfl rfl rfl rfl (by first | rfl | omega) rfl hx ?_
  rintro b i hd hr hA; obtain rfl := (show hd = E.toks[k] from hr)
  refine DO.pure tab (by repeat (first|exact Calm.ret|refine Calm.then ?_)) (by kernel_rfl) [10] (by kernel_rfl) rfl ?_
  (refine DO.loadA tab 11 hA (by repeat (first|exact Calm.ret|refine Calm.then ?_)) (by kernel_rfl) (by kernel_rfl) rfl rfl rfl rfl rfl rfl rfl ?_)
  refine DO.pure tab (by repeat (first|exact Calm.ret|refine Calm.then ?_)) (by kernel_rfl) [12] (by kernel_rfl) rfl ?_
  (refine DO.nil0 (by kernel_rfl) ?_)
  rotate_left 1
  repeat (first|refine q6 ?_|refine q15 ?_)
  refine retQ_ret rfl (L' := E.I (k + 1) h :: L) (by repeat (exact List.Sublist.refl _)) ⟨rfl, _, PE.f_some hlt, hkind, rfl, hlt, rfl⟩
 | false =>
  repeat (first|refine q3 ?_|refine q4 tab rfl rfl ?_|refine q16 rfl ?_)
  refine TO.step rfl (OT.call rfl rfl rfl rfl rfl rfl goes100 (TCallX.mono (stop_law hE hk) (fun _ _ _ hf => hf.elim) ?_))
  rintro _ _ _ ⟨rfl, rfl, rfl⟩
  repeat (refine thenQ_p ?_)
  exact retQ_p (L' := E.I k h :: L) (by repeat (exact List.Sublist.refl _)) ⟨rfl, rfl, rfl, rfl⟩
end
section
variable {P : Program} {N : Nat} {ρ : Env} {m : Mem} {L : List Item} {Q : EPost} {o : Oper} {K : Env → Mem → List Item → Prop} {E : PE} {α β : Type}
 {FF : Operand} {args : List Operand} {ats : Array TypeId} {first cap vs : List Value} {d : Nat} {h : Int} {T : Ps.Res β} {k : Nat} {m0 : Mem} {L0 : List Item} {s : Str} {A B : Ps.Pp β}
theorem OT.takeP {D : List Deferred} (hT : T = Ps.tok s A B E.f k) (hE : E.Ok m) (hk : k ≤ E.toks.length)
  (ho : o.op = .call ⟨.value FF, ⟨args⟩, ats⟩) (hd : o.dst = some d) (hN : Nat.blt d N = true)
  (hF : ev ρ FF = some (.func (.func 65) ⟨first⟩ ⟨cap⟩)) (ha : evs ρ args = some vs) (hall : fl (first ++ (vs ++ cap)) = some [E.v, strV s])
  (h1 : T = A E.f (k + 1) → k + 1 ≤ E.toks.length → K ((d, .bool true) :: ρ) m (E.I (k + 1) h :: L)) (h2 : T = B E.f k → K ((d, .bool false) :: ρ) m (E.I k h :: L)) : OT Tryz.prog N o ρ D m (E.I k h :: L) Q K := by
 refine OT.call ho hd hN hF ha hall goes65 ((take_law s hE hk).x ?_)
 rintro _ _ _ ⟨rfl, rfl, rfl⟩
 unfold PE.step
 cases hb : Ps.isM s E.f k with
 | true => exact h1 (hT.trans (Ps.tok_t hb)) (PE.isM_lt hb)
 | false => exact h2 (hT.trans (Ps.tok_f hb))
theorem OT.peekP {D : List Deferred} (hT : T = Ps.peek (Ps.isM s) A B E.f k) (hE : E.Ok m) (hk : k ≤ E.toks.length)
  (ho : o.op = .call ⟨.value FF, ⟨args⟩, ats⟩) (hd : o.dst = some d) (hN : Nat.blt d N = true)
  (hF : ev ρ FF = some (.func (.func 98) ⟨first⟩ ⟨cap⟩)) (ha : evs ρ args = some vs) (hall : fl (first ++ (vs ++ cap)) = some [E.v, strV s])
  (h1 : T = A E.f k → K ((d, .bool true) :: ρ) m (E.I k h :: L)) (h2 : T = B E.f k → K ((d, .bool false) :: ρ) m (E.I k h :: L)) : OT Tryz.prog N o ρ D m (E.I k h :: L) Q K := by
 refine OT.call ho hd hN hF ha hall goes98 ((peek_law s hE hk).x ?_)
 rintro _ _ _ ⟨rfl, rfl, rfl⟩
 cases hb : Ps.isM s E.f k with
 | true => exact h1 (hT.trans (Ps.peek_t' hb))
 | false => exact h2 (hT.trans (Ps.peek_f' hb))
theorem OT.needP (hT : T = Ps.need s A E.f k) (hE : E.Ok m) (hk : k ≤ E.toks.length) (hb : Bad Q E T m0 L0) (hm : m0 ≤ m) (hL : L0.Sublist L)
  (ho : o.op = .call ⟨.value FF, ⟨args⟩, ats⟩) (hd : o.dst = some d) (hN : Nat.blt d N = true)
  (hF : ev ρ FF = some (.func (.func 67) ⟨first⟩ ⟨cap⟩)) (ha : evs ρ args = some vs) (hall : fl (first ++ (vs ++ cap)) = some [E.v, strV s])
  (hK : T = A E.f (k + 1) → k + 1 ≤ E.toks.length → K ((d, .tuple ⟨[]⟩) :: ρ) m (E.I (k + 1) h :: L)) : OT Tryz.prog N o ρ [] m (E.I k h :: L) Q K := by
 refine OT.call ho hd hN hF ha hall goes67 (TCallX.mono (need_law s hE hk) ?_ ?_)
 ·rintro _ _ _ ⟨rfl, rfl, h1, rfl⟩
  exact hK (hT.trans (Ps.tok_t h1)) (PE.isM_lt h1)
 ·rintro _ _ _ ⟨rfl, h1, rfl, rfl⟩
  exact hb _ _ _ _ _ hm hk (hT.trans (Ps.tok_f h1)) hL
theorem OT.stopP (hT : T = .bad k) (hE : E.Ok m) (hk : k ≤ E.toks.length) (hb : Bad Q E T m0 L0) (hm : m0 ≤ m) (hL : L0.Sublist L)
  (ho : o.op = .call ⟨.value FF, ⟨args⟩, ats⟩) (hd : o.dst = some d) (hN : Nat.blt d N = true)
  (hF : ev ρ FF = some (.func (.func 100) ⟨first⟩ ⟨cap⟩)) (ha : evs ρ args = some vs) (hall : fl (first ++ (vs ++ cap)) = some [E.v]) : OT Tryz.prog N o ρ [] m (E.I k h :: L) Q K := by
 refine OT.call ho hd hN hF ha hall goes100 (TCallX.mono (stop_law hE hk) (fun _ _ _ hf => hf.elim) ?_)
 rintro _ _ _ ⟨rfl, rfl, rfl⟩
 exact hb _ _ _ _ _ hm hk hT hL
theorem OT.nameP {A : Str → Ps.Pp β} (hT : T = Ps.name A E.f k) (hE : E.Ok m) (hk : k ≤ E.toks.length) (hb : Bad Q E T m0 L0) (hm : m0 ≤ m) (hL : L0.Sublist L)
  (ho : o.op = .call ⟨.value FF, ⟨args⟩, ats⟩) (hd : o.dst = some d) (hN : Nat.blt d N = true)
  (hF : ev ρ FF = some (.func (.func 68) ⟨first⟩ ⟨cap⟩)) (ha : evs ρ args = some vs) (hall : fl (first ++ (vs ++ cap)) = some [E.v])
  (hK : ∀ t : Str, T = A t E.f (k + 1) → k + 1 ≤ E.toks.length → K ((d, strV t) :: ρ) m (E.I (k + 1) h :: L)) : OT Tryz.prog N o ρ [] m (E.I k h :: L) Q K := by
 refine OT.call ho hd hN hF ha hall goes68 (TCallX.mono (pname_law hE hk) ?_ ?_)
 ·rintro _ _ _ ⟨rfl, t, h1, h2, rfl, h3, rfl⟩
  exact hK _ (hT.trans (Ps.name_t h1 h2)) h3
 ·rintro _ _ _ ⟨rfl, h1, rfl, rfl⟩
  exact hb _ _ _ _ _ hm hk (hT.trans (Ps.name_f h1)) hL
end
end Go.Sep


/- PsRun -/
set_option linter.unusedVariables false
set_option linter.unusedSimpArgs false
namespace Go.Ps
open Go.Sep (Tree Str)
variable {α β γ : Type}
theorem bind_assoc (p : Pp α) (g : α → Pp β) (h : β → Pp γ) : bind (bind p g) h = bind p fun a => bind (g a) h := by
 funext f k; unfold bind
 cases p f k <;> rfl
theorem ret_bind (a : α) (g : α → Pp β) : bind (ret a) g = g a := rfl
theorem bind_ret (p : Pp α) : bind p ret = p := by
 funext f k; unfold bind
 cases p f k <;> rfl
theorem dry_bind (g : α → Pp β) : bind dry g = dry := rfl
theorem tok_bind (s : Str) (A B : Pp α) (g : α → Pp β) : bind (tok s A B) g = tok s (bind A g) (bind B g) := by
 funext f k; unfold tok bind
 cases h : isM s f k <;> simp only [h, cond_true, cond_false]
theorem need_bind (s : Str) (A : Pp α) (g : α → Pp β) : bind (need s A) g = need s (bind A g) := by
 unfold need; rw [tok_bind]; rfl
theorem tkn_bind (c : Int) (A : Tk → Pp α) (B : Pp α) (g : α → Pp β) : bind (tkn c A B) g = tkn c (fun t => bind (A t) g) (bind B g) := by
 funext f k; unfold tkn bind; simp only []
 cases f k with
 | none => rfl
 | some t => cases h : decide (t.kind = c) <;> simp only [h, cond_true, cond_false]
theorem name_bind (A : Str → Pp α) (g : α → Pp β) : bind (name A) g = name fun s => bind (A s) g := by
 unfold name; rw [tkn_bind]; rfl
def more (j : Nat) (X : Pp α) (acc : List α) : Pp (List α) := tok [44] (bind (commas j X) fun l => ret (acc ++ l)) (ret acc)
theorem commas_acc (j : Nat) (X : Pp α) (acc : List α) : (bind (commas (j + 1) X) fun l => ret (acc ++ l)) = bind X fun a => more j X (acc ++ [a]) := by
 show bind (bind X _) _ = _
 rw [bind_assoc]
 congr 1; funext a
 rw [tok_bind, bind_assoc]
 unfold more
 congr 1
 congr 1; funext l
 show ret (acc ++ (a :: l)) = ret (acc ++ [a] ++ l)
 rw [List.append_assoc]; rfl
theorem commas_start (j : Nat) (X : Pp α) : commas (j + 1) X = bind X fun a => more j X [a] := by
 have h := commas_acc j X ([] : List α)
 simp only [List.nil_append] at h
 rw [← h, bind_ret]
theorem more_zero (X : Pp α) (acc : List α) : more 0 X acc = tok [44] dry (ret acc) := rfl
theorem more_succ (j : Nat) (X : Pp α) (acc : List α) : more (j + 1) X acc = tok [44] (bind X fun a => more j X (acc ++ [a])) (ret acc) := by
 rw [← commas_acc]; rfl
def rest (j : Nat) (s : Str) (X : Pp α) (acc : List α) : Pp (List α) := bind (upto j s X) fun l => ret (acc ++ l)
theorem rest_start (j : Nat) (s : Str) (X : Pp α) : upto j s X = rest j s X [] := by unfold rest; exact (bind_ret _).symm
theorem rest_zero (s : Str) (X : Pp α) (acc : List α) : rest 0 s X acc = dry := rfl
theorem rest_succ (j : Nat) (s : Str) (X : Pp α) (acc : List α) : rest (j + 1) s X acc = tok s (ret acc) (bind X fun a => rest j s X (acc ++ [a])) := by
 unfold rest
 show bind (tok s (ret []) _) _ = _
 rw [tok_bind, bind_assoc, ret_bind, List.append_nil]
 congr 1
 congr 1; funext a
 rw [bind_assoc]
 congr 1; funext l
 show ret (acc ++ (a :: l)) = ret (acc ++ [a] ++ l)
 rw [List.append_assoc]; rfl
def decls (decl : Pp Tree) (j : Nat) (acc : List Tree) : Pp (List Tree) := bind (progL decl j) fun l => ret (acc ++ l)
theorem decls_start (decl : Pp Tree) (j : Nat) : progL decl j = decls decl j [] := by unfold decls; exact (bind_ret _).symm
theorem decls_none {decl : Pp Tree} {j : Nat} {acc : List Tree} {f : F} {k : Nat} (h : f k = none) : decls decl (j + 1) acc f k = .ok acc k := by
 have : progL decl (j + 1) f k = .ok [] k := by unfold progL; rw [h]; rfl
 unfold decls bind
 rw [this]
 show Res.ok (acc ++ []) k = _
 rw [List.append_nil]
theorem decls_some {decl : Pp Tree} {j : Nat} {acc : List Tree} {f : F} {k : Nat} (h : f k ≠ none) : decls decl (j + 1) acc f k = (bind decl fun a => decls decl j (acc ++ [a])) f k := by
 have : progL decl (j + 1) f k = (bind decl fun a => bind (progL decl j) fun l => ret (a :: l)) f k := by
  show (bif (f k).isNone then _ else _) = _
  cases hf : f k with
  | none => exact absurd hf h
  | some t => rfl
 have e : decls decl (j + 1) acc f k = bind (bind decl fun a => bind (progL decl j) fun l => ret (a :: l)) (fun l => ret (acc ++ l)) f k := by
  unfold decls
  unfold bind at this ⊢
  simp only [] at this ⊢
  rw [this]
 rw [e, bind_assoc]
 congr 1; congr 1; funext a
 rw [bind_assoc]
 unfold decls
 congr 1; funext l
 show ret (acc ++ (a :: l)) = ret (acc ++ [a] ++ l)
 rw [List.append_assoc]; rfl
end Go.Ps


/- PsW3 -/
set_option linter.unusedVariables false
set_option linter.unusedSimpArgs false
namespace Go.Sep
open Go.Proofs
attribute [local irreducible] TC TO OT TCallX TCall DO DOt thenQ blockQ retQ At
section
variable {mb : Mem} {E : PE} {h : Int}
set_option maxHeartbeats 1000000 in
theorem list1_par {f : FuncId} {first cap all : List Value} {X : Ps.Pp Tree} (hall : fl (first ++ ([] ++ cap)) = some all) (hg : Goes Tryz.prog f) (hX : Par Tryz.prog mb E vTree f all h X) :
  Par Tryz.prog mb E vList 102 [E.v, .func (.func f) ⟨first⟩ ⟨cap⟩] h (Ps.commas E.N X) := by
 refine Par.enter Tryz.func102 rfl 17 rfl fun m L k T hm0 hE hk hT hn => ?_
 replace hX := hX.up hm0
 have hrows := hE.rows
 have hm : m ≤ m := Mem.le_refl _
 obtain ⟨j, hj⟩ : ∃ j, E.N = j + 1 := by
  cases hN : E.N with
  | zero => rw [hN] at hT; exact absurd hT hn
  | succ j => exact ⟨j, rfl⟩
 rw [hj, Ps.commas_start] at hT
 repeat (first|refine q1 ?_|refine q3 ?_|refine q4 tab rfl rfl ?_|refine q5 ?_|refine q6 ?_)
 refine TO.step rfl (OT.parT (L0 := L) hX hm hT hn hE hk (by repeat (first|exact Bad.ret|refine Bad.then ?_)) hm (by repeat (exact List.Sublist.refl _)) rfl rfl rfl rfl rfl hall hg (fun x m2 a k2 hT hm hE hle hk hr => ?_))
 skip
 refine TO.step rfl (OT.litR tab rTree (hs := [x]) (l := [a]) ⟨rTree_iff.2 hr, trivial⟩ rfl rfl rfl rfl rfl (by decide) (fun s m3 hle3 hs ho hc => ?_))
 refine TO.tokFo hc ho 4 ?_
 refine TO.perm (List.Perm.swap _ _ _) ?_
 repeat (first|refine q1 ?_|refine q2 ?_|refine q4 tab rfl rfl ?_|refine q5 ?_|refine q6 ?_)
 refine TC.loopK (ι := Sl × Mem × List Tree × Nat × Nat) [0, 1] rfl (fun x => [(5, x.1.v)]) (fun x => x.2.1) (fun x => E.I x.2.2.2.1 h :: tok x.1 4 :: L) (fun x => m ≤ x.2.1 ∧ E.Ok x.2.1 ∧ x.2.2.2.1 ≤ E.toks.length ∧ SlRep rTree x.2.1 x.1 x.2.2.1 ∧ Own x.1 ∧ x.2.2.1.length + x.2.2.2.2 = j + 1 ∧ T = Ps.more x.2.2.2.2 X x.2.2.1 E.f x.2.2.2.1) (fun x => x.2.2.2.2) (s, m3, [a], k2, j) (by repeat (first|exact trivial|refine And.intro rfl ?_)) rfl (by repeat (exact List.Sublist.refl _)) ⟨Mem.le_trans hm hle3, hE.mono hle3, hk, hs, ho, by simp only [List.length_cons, List.length_nil]; omega, hT⟩ ?_
 rintro ⟨s, m3, acc, k, j2⟩ ⟨hm, hE, hk, hs, ho, hlen, hT⟩
 simp only at hm hE hk hs ho hlen hT
 cases j2 with
 | zero =>
  rw [Ps.more_zero] at hT
  repeat (first|refine q1 ?_|refine q3 ?_|refine q4 tab rfl rfl ?_)
  refine TO.step rfl (OT.takeP hT hE hk rfl rfl rfl rfl rfl rfl (fun hT hk => ?_) (fun hT => ?_))
  ·exact absurd hT hn
  ·repeat (first|refine q1 ?_|refine q3 ?_|refine q4 tab rfl rfl ?_|refine q5 ?_|refine q6 ?_|refine q10 ?_|refine q11 ?_|refine q14 ?_|refine q15 ?_|refine q17 rfl ?_)
   refine retQ_ret rfl (L' := E.I k h :: tok s 4 :: L) (by repeat (exact List.Sublist.refl _)) ⟨acc, k, [tok s 4], hT, hm, hk, ⟨s, rfl, rfl, hs, ho, by omega⟩, rfl⟩
 | succ j2 =>
  rw [Ps.more_succ] at hT
  repeat (first|refine q1 ?_|refine q3 ?_|refine q4 tab rfl rfl ?_)
  refine TO.step rfl (OT.takeP hT hE hk rfl rfl rfl rfl rfl rfl (fun hT hk => ?_) (fun hT => ?_))
  ·repeat (first|refine q2 ?_|refine q3 ?_|refine q4 tab rfl rfl ?_|refine q5 ?_|refine q6 ?_|refine q13 ?_|refine q16 rfl ?_)
   refine TO.step rfl (OT.parT (L0 := L) hX hm hT hn hE hk (by repeat (first|exact Bad.ret|refine Bad.then ?_|refine Bad.block ?_)) hm (by repeat (first|exact List.Sublist.refl _|refine List.Sublist.cons _ ?_)) rfl rfl rfl rfl rfl hall hg (fun x m2 a k2 hT hm hE hle hk hr => ?_))
   skip
   refine TO.step rfl (OT.litR tab rTree (hs := [x]) (l := [a]) ⟨rTree_iff.2 hr, trivial⟩ rfl rfl rfl rfl rfl (by decide) (fun s2 m3 hle3 hs2 ho2 hc2 => ?_))
   refine TO.step rfl (OT.append tab rTree 1 (hs.mono (Mem.le_trans hle hle3)) ho hs2 rfl rfl rfl rfl rfl rfl rfl (by simp only [List.length_cons, List.length_nil, rTree, mkR]; omega) (fun s3 m4 hle4 hs3 ho3 => ?_))
   repeat (first|refine q4 tab rfl rfl ?_|refine q5 ?_|refine q6 ?_|refine q7 ?_)
   exact ⟨(s3, m4, acc ++ [a], k2, j2), (by repeat (first|exact trivial|refine And.intro rfl ?_)), (by repeat (first|exact trivial|refine And.intro rfl ?_)), rfl, rfl, (by repeat (exact List.Sublist.refl _)), ⟨Mem.le_trans hm (Mem.le_trans hle3 hle4), hE.mono (Mem.le_trans hle3 hle4), hk, hs3, ho3, by simp only [List.length_append, List.length_cons, List.length_nil]; omega, hT⟩, by simp only; omega⟩
  ·repeat (first|refine q1 ?_|refine q3 ?_|refine q4 tab rfl rfl ?_|refine q5 ?_|refine q6 ?_|refine q10 ?_|refine q11 ?_|refine q14 ?_|refine q15 ?_|refine q17 rfl ?_)
   refine retQ_ret rfl (L' := E.I k h :: tok s 4 :: L) (by repeat (exact List.Sublist.refl _)) ⟨acc, k, [tok s 4], hT, hm, hk, ⟨s, rfl, rfl, hs, ho, by omega⟩, rfl⟩
theorem begins_law {m : Mem} {L : List Item} {k : Nat} (hE : E.Ok m) (hk : k ≤ E.toks.length) : TCall Tryz.prog 123 ⟨[E.v]⟩ m (E.I k h :: L) (Ret (.bool (Ps.begins E.f k)) m (E.I k h :: L)) := by
 unfold TCall Ps.begins
 refine TCallX.enter Tryz.func123 rfl 17 rfl ?_
 repeat (first|refine q1 ?_|refine q3 ?_|refine q4 tab rfl rfl ?_|refine q5 ?_|refine q6 ?_)
 refine TO.step rfl (OT.call rfl rfl rfl rfl rfl rfl goes101 ((is_law 1 hE hk).x ?_));
 rintro _ _ _ ⟨rfl, rfl, rfl⟩
 repeat (refine q4 tab rfl rfl ?_)
 cases h1 : Ps.isK 1 E.f k with
 | true => 
  repeat (first|refine q4 tab rfl rfl ?_|refine q5 ?_|refine q6 ?_|refine q15 ?_)
  refine retQ_ret rfl (by repeat (exact List.Sublist.refl _)) ⟨rfl, rfl, ?_⟩
  rfl
 | false =>
  repeat (refine q4 tab rfl rfl ?_)
  refine TO.step rfl (OT.call rfl rfl rfl rfl rfl rfl goes98 ((peek_law [42] hE hk).x ?_));
  rintro _ _ _ ⟨rfl, rfl, rfl⟩
  repeat (refine q4 tab rfl rfl ?_)
  cases h2 : Ps.isM [42] E.f k with
  | true => 
   repeat (first|refine q4 tab rfl rfl ?_|refine q5 ?_|refine q6 ?_|refine q15 ?_)
   refine retQ_ret rfl (by repeat (exact List.Sublist.refl _)) ⟨rfl, rfl, ?_⟩
   rfl
  | false =>
   repeat (refine q4 tab rfl rfl ?_)
   refine TO.step rfl (OT.call rfl rfl rfl rfl rfl rfl goes98 ((peek_law [91] hE hk).x ?_));
   rintro _ _ _ ⟨rfl, rfl, rfl⟩
   repeat (refine q4 tab rfl rfl ?_)
   cases h3 : Ps.isM [91] E.f k with
   | true => 
    repeat (first|refine q4 tab rfl rfl ?_|refine q5 ?_|refine q6 ?_|refine q15 ?_)
    refine retQ_ret rfl (by repeat (exact List.Sublist.refl _)) ⟨rfl, rfl, ?_⟩
    rfl
   | false =>
    repeat (refine q4 tab rfl rfl ?_)
    refine TO.step rfl (OT.call rfl rfl rfl rfl rfl rfl goes98 ((peek_law [102, 117, 110, 99] hE hk).x ?_));
    rintro _ _ _ ⟨rfl, rfl, rfl⟩
    repeat (first|refine q4 tab rfl rfl ?_|refine q5 ?_|refine q6 ?_|refine q15 ?_)
    refine retQ_ret rfl (by repeat (exact List.Sublist.refl _)) ⟨rfl, rfl, ?_⟩
    cases Ps.isM [102, 117, 110, 99] E.f k <;> rfl
theorem results_par {X : Ps.Pp Tree} (hX : Par Tryz.prog mb E vTree 99 [E.v] h X) :
  Par Tryz.prog mb E vSl 104 [E.v] h (Ps.resultsP E.N X) := by
 refine Par.enter Tryz.func104 rfl 18 rfl fun m L k T hm0 hE hk hT hn => ?_
 replace hX := hX.up hm0
 have hm : m ≤ m := Mem.le_refl _
 unfold Ps.resultsP at hT
 repeat (first|refine q1 ?_|refine q3 ?_|refine q4 tab rfl rfl ?_|refine q5 ?_|refine q6 ?_)
 refine TO.step rfl (OT.takeP hT hE hk rfl rfl rfl rfl rfl rfl (fun hT hk => ?_) (fun hT => ?_))
 ·repeat (first|refine q1 ?_|refine q3 ?_|refine q4 tab rfl rfl ?_|refine q5 ?_|refine q6 ?_|refine q16 rfl ?_)
  refine TO.step rfl (OT.parL (L0 := L) (list1_par (first := [E.v]) (cap := []) rfl goes99 hX) hm hT hn hE hk (by repeat (first|exact Bad.ret|refine Bad.then ?_)) hm (by repeat (exact List.Sublist.refl _)) rfl rfl rfl rfl rfl rfl goes102 (fun x m2 a k2 hT hm hE hlex hk hrx hox hlx => ?_))
  repeat (first|refine q1 ?_|refine q3 ?_|refine q4 tab rfl rfl ?_|refine q5 ?_|refine q6 ?_)
  refine TO.step rfl (OT.needP (L0 := L) hT hE hk (by repeat (first|exact Bad.ret|refine Bad.then ?_)) hm (by repeat (first|exact List.Sublist.refl _|refine List.Sublist.cons _ ?_)) rfl rfl rfl rfl rfl rfl (fun hT hk => ?_))
  repeat (first|refine q1 ?_|refine q3 ?_|refine q4 tab rfl rfl ?_|refine q5 ?_|refine q6 ?_|refine q8 ?_|refine q15 ?_)
  refine retQ_ret rfl (L' := E.I (k2 + 1) h :: L) (by repeat (first|exact List.Sublist.refl _|refine List.Sublist.cons_cons _ ?_|refine List.Sublist.cons _ ?_)) ⟨a, k2 + 1, [], hT, hm, hk, ⟨x, rfl, rfl, hrx, hlx⟩, rfl⟩
 ·repeat (first|refine q1 ?_|refine q3 ?_|refine q4 tab rfl rfl ?_|refine q5 ?_|refine q6 ?_|refine q13 ?_|refine q17 rfl ?_)
  refine TO.step rfl (OT.call rfl rfl rfl rfl rfl rfl goes123 ((begins_law hE hk).x ?_));
  rintro _ _ _ ⟨rfl, rfl, rfl⟩
  repeat (first|refine q5 ?_|refine q6 ?_)
  cases hb : Ps.begins E.f k with
  | true =>
   rw [Ps.peek_t' hb] at hT
   repeat (first|refine q1 ?_|refine q3 ?_|refine q4 tab rfl rfl ?_|refine q16 rfl ?_)
   refine TO.step rfl (OT.parT (L0 := L) (hX) hm hT hn hE hk (by repeat (first|exact Bad.ret|refine Bad.then ?_)) hm (by repeat (exact List.Sublist.refl _)) rfl rfl rfl rfl rfl rfl goes99 (fun x m2 a k2 hT hm hE hlex hk hrx => ?_))
   skip
   refine TO.step rfl (OT.litR tab rTree (hs := [x]) (l := [a]) ⟨rTree_iff.2 hrx, trivial⟩ rfl rfl rfl rfl rfl (by decide) (fun s m3 hle3 hs ho hc => ?_))
   repeat (first|refine q4 tab rfl rfl ?_|refine q5 ?_|refine q6 ?_|refine q8 ?_|refine q15 ?_)
   refine retQ_ret rfl (L' := E.I k2 h :: L) (by repeat (exact List.Sublist.refl _)) ⟨[a], k2, [], hT, Mem.le_trans hm hle3, hk, ⟨s, rfl, rfl, hs, by simp⟩, rfl⟩
  | false =>
   rw [Ps.peek_f' hb] at hT
   repeat (first|refine q1 ?_|refine q3 ?_|refine q4 tab rfl rfl ?_|refine q5 ?_|refine q6 ?_|refine q13 ?_|refine q15 ?_|refine q17 rfl ?_)
   refine retQ_ret rfl (L' := E.I k h :: L) (by repeat (exact List.Sublist.refl _)) ⟨[], k, [], hT, hm, hk, ⟨⟨none, 0, 0⟩, rfl, rfl, SlRep.nil _ _, by simp⟩, rfl⟩
end
end Go.Sep


/- PsW4 -/
set_option linter.unusedVariables false
set_option linter.unusedSimpArgs false
namespace Go.Sep
open Go.Proofs
attribute [local irreducible] TC TO OT TCallX TCall DO DOt thenQ blockQ retQ At
section
variable {mb : Mem} {E : PE} {h : Int}
set_option maxHeartbeats 1000000 in
theorem typ_par {X : Ps.Pp Tree} (hX : Par Tryz.prog mb E vTree 99 [E.v] h X) :
  Par Tryz.prog mb E vTree 99 [E.v] h (Ps.typP E.N X) := by
 refine Par.enter Tryz.func99 rfl 50 rfl fun m L k T hm0 hE hk hT hn => ?_
 replace hX := hX.up hm0
 have hm : m ≤ m := Mem.le_refl _
 have hrows := hE.rows
 unfold Ps.typP at hT
 repeat (first|refine q1 ?_|refine q3 ?_)
 refine TO.step rfl (OT.alloc tab rfl rfl rfl rfl (fun b2 => ?_)); refine TO.perm (List.Perm.swap _ _ _) ?_
 repeat (first|refine q1 ?_|refine q2 ?_|refine q3 ?_|refine q4 tab rfl rfl ?_|refine q5 ?_|refine q6 ?_)
 refine TO.step rfl (OT.takeP hT hE hk rfl rfl rfl rfl rfl rfl (fun hT hk => ?_) (fun hT => ?_))
 ·repeat (first|refine q1 ?_|refine q3 ?_|refine q4 tab rfl rfl ?_|refine q5 ?_|refine q6 ?_|refine q16 rfl ?_)
  refine TO.step rfl (OT.parT (L0 := L) (hX) hm hT hn hE hk (by repeat (first|exact Bad.ret|refine Bad.then ?_|refine Bad.block ?_)) hm (by repeat (first|exact List.Sublist.refl _|refine List.Sublist.cons _ ?_)) rfl rfl rfl rfl rfl rfl goes99 (fun x m2 a k2 hT hm hE hlex hk hrx => ?_))
  skip
  refine TO.step rfl (OT.litR tab rTree (hs := [x]) (l := [a]) ⟨rTree_iff.2 hrx, trivial⟩ rfl rfl rfl rfl rfl (by decide) (fun s m3 hle3 hs ho hc => ?_))
  repeat (refine q4 tab rfl rfl ?_)
  (refine TO.step rfl (OT.storeL0 tab 1 rfl rfl rfl rfl rfl rfl rfl rfl ?_))
  repeat (first|refine q5 ?_|refine q6 ?_|refine q8 ?_|refine q9 ?_|refine q15 ?_)
  refine retQ_ret_c1 tab 1 rfl rfl rfl rfl (L' := E.I k2 h :: L) (by repeat (first|exact List.Sublist.refl _|refine List.Sublist.cons_cons _ ?_|refine List.Sublist.cons _ ?_)) ⟨_, k2, [], hT, Mem.le_trans hm hle3, hk, ⟨⟨11, [], 0, s⟩, rfl, rfl, ⟨rfl, rfl, rfl, hs⟩⟩, rfl⟩
 repeat (first|refine q1 ?_|refine q3 ?_|refine q4 tab rfl rfl ?_|refine q5 ?_|refine q6 ?_|refine q17 rfl ?_)
 refine TO.step rfl (OT.takeP hT hE hk rfl rfl rfl rfl rfl rfl (fun hT hk => ?_) (fun hT => ?_))
 ·repeat (first|refine q1 ?_|refine q3 ?_|refine q4 tab rfl rfl ?_|refine q5 ?_|refine q6 ?_|refine q16 rfl ?_)
  refine TO.step rfl (OT.needP (L0 := L) hT hE hk (by repeat (first|exact Bad.ret|refine Bad.then ?_|refine Bad.block ?_)) hm (by repeat (first|exact List.Sublist.refl _|refine List.Sublist.cons _ ?_)) rfl rfl rfl rfl rfl rfl (fun hT hk => ?_))
  repeat (first|refine q1 ?_|refine q3 ?_|refine q4 tab rfl rfl ?_|refine q5 ?_|refine q6 ?_)
  refine TO.step rfl (OT.parT (L0 := L) (hX) hm hT hn hE hk (by repeat (first|exact Bad.ret|refine Bad.then ?_|refine Bad.block ?_)) hm (by repeat (first|exact List.Sublist.refl _|refine List.Sublist.cons _ ?_)) rfl rfl rfl rfl rfl rfl goes99 (fun x m2 a k2 hT hm hE hlex hk hrx => ?_))
  skip
  refine TO.step rfl (OT.litR tab rTree (hs := [x]) (l := [a]) ⟨rTree_iff.2 hrx, trivial⟩ rfl rfl rfl rfl rfl (by decide) (fun s m3 hle3 hs ho hc => ?_))
  repeat (refine q4 tab rfl rfl ?_)
  (refine TO.step rfl (OT.storeL0 tab 1 rfl rfl rfl rfl rfl rfl rfl rfl ?_))
  repeat (first|refine q5 ?_|refine q6 ?_|refine q8 ?_|refine q9 ?_|refine q15 ?_)
  refine retQ_ret_c1 tab 1 rfl rfl rfl rfl (L' := E.I k2 h :: L) (by repeat (first|exact List.Sublist.refl _|refine List.Sublist.cons_cons _ ?_|refine List.Sublist.cons _ ?_)) ⟨_, k2, [], hT, Mem.le_trans hm hle3, hk, ⟨⟨12, [], 0, s⟩, rfl, rfl, ⟨rfl, rfl, rfl, hs⟩⟩, rfl⟩
 repeat (first|refine q1 ?_|refine q3 ?_|refine q4 tab rfl rfl ?_|refine q5 ?_|refine q6 ?_|refine q17 rfl ?_)
 refine TO.step rfl (OT.takeP hT hE hk rfl rfl rfl rfl rfl rfl (fun hT hk => ?_) (fun hT => ?_))
 ·repeat (first|refine q1 ?_|refine q3 ?_|refine q4 tab rfl rfl ?_|refine q5 ?_|refine q6 ?_|refine q16 rfl ?_)
  refine TO.step rfl (OT.alloc tab rfl rfl rfl rfl (fun b3 => ?_)); refine TO.perm (List.Perm.swap _ _ _) ?_
  skip
  (refine TO.step rfl (OT.storeL0 tab 1 rfl rfl rfl rfl rfl rfl rfl rfl ?_))
  repeat (first|refine q1 ?_|refine q3 ?_|refine q4 tab rfl rfl ?_|refine q5 ?_|refine q6 ?_)
  refine TO.step rfl (OT.needP (L0 := L) hT hE hk (by repeat (first|exact Bad.ret|refine Bad.then ?_|refine Bad.block ?_)) hm (by repeat (first|exact List.Sublist.refl _|refine List.Sublist.cons _ ?_)) rfl rfl rfl rfl rfl rfl (fun hT hk => ?_))
  unfold Ps.inP at hT
  simp only [Ps.tok_bind, Ps.ret_bind, Ps.bind_assoc, Ps.need_bind] at hT
  refine TO.nil ?_
  refine thenQ_n ?_
  refine TC.cut (ι := Sl × Mem × List Tree × Nat) [0, 2, 3] rfl (fun _ => []) (fun i => i.2.1) (fun i => E.I i.2.2.2 h :: .cells b3 0 [.int .i64 13, strV [], .int .i64 0, i.1.v] :: tok i.1 4 :: .cells b2 0 [.int .i64 0, strV [], .int .i64 0, .slice none 0 0] :: L) (fun i => m ≤ i.2.1 ∧ E.Ok i.2.1 ∧ i.2.2.2 ≤ E.toks.length ∧ SlRep rTree i.2.1 i.1 i.2.2.1 ∧ Own i.1 ∧ i.2.2.1.length ≤ 20001 ∧ T = (Ps.bind (Ps.resultsP E.N X) fun rs => Ps.ret (Tree.mk 13 [] (i.2.2.1.length : Int) (i.2.2.1 ++ rs))) E.f i.2.2.2) ?_ ?_
  ·repeat (first|refine q1 ?_|refine q3 ?_|refine q4 tab rfl rfl ?_)
   refine TO.step rfl (OT.takeP hT hE hk rfl rfl rfl rfl rfl rfl (fun hT hk => ?_) (fun hT => ?_))
   ·refine TO.grow0 (size := 4) ?_
    refine TO.perm (L' := E.I (k + 1 + 1 + 1) h :: .cells b3 0 [.int .i64 13, strV [], .int .i64 0, .slice none 0 0] :: tok ⟨none, 0, 0⟩ 4 :: .cells b2 0 [.int .i64 0, strV [], .int .i64 0, .slice none 0 0] :: L) (List.Perm.trans (List.Perm.swap _ _ _) (List.Perm.cons _ (List.Perm.swap _ _ _))) ?_
    repeat (first|refine q4 tab rfl rfl ?_|refine q5 ?_|refine q6 ?_|refine q13 ?_|refine q17 rfl ?_)
    exact ⟨(⟨none, 0, 0⟩, m, [], k + 1 + 1 + 1), (by repeat (exact trivial)), (by repeat (first|exact trivial|refine And.intro rfl ?_)), rfl, rfl, (by repeat (exact List.Sublist.refl _)), hm, hE, hk, SlRep.nil _ _, Own.nil, by simp, hT⟩
   ·repeat (first|refine q1 ?_|refine q3 ?_|refine q4 tab rfl rfl ?_|refine q5 ?_|refine q6 ?_|refine q16 rfl ?_)
    refine TO.step rfl (OT.parL (L0 := L) (list1_par (first := [E.v]) (cap := []) rfl goes99 hX) hm hT hn hE hk (by repeat (first|exact Bad.ret|refine Bad.then ?_|refine Bad.block ?_)) hm (by repeat (first|exact List.Sublist.refl _|refine List.Sublist.cons _ ?_)) rfl rfl rfl rfl rfl rfl goes102 (fun x m2 a k2 hT hm hE hlex hk hrx hox hlx => ?_))
    refine TO.perm (L' := E.I k2 h :: .cells b3 0 [.int .i64 13, strV [], .int .i64 0, .slice none 0 0] :: tok x 4 :: .cells b2 0 [.int .i64 0, strV [], .int .i64 0, .slice none 0 0] :: L) (List.Perm.cons _ (List.Perm.swap _ _ _)) ?_
    repeat (refine q4 tab rfl rfl ?_)
    refine TO.step rfl (OT.storeL (k := 3) tab 1 rfl rfl rfl rfl rfl rfl rfl rfl ?_)
    repeat (first|refine q3 ?_|refine q4 tab rfl rfl ?_|refine q5 ?_|refine q6 ?_)
    refine TO.step rfl (OT.needP (L0 := L) hT hE hk (by repeat (first|exact Bad.ret|refine Bad.then ?_|refine Bad.block ?_)) hm (by repeat (first|exact List.Sublist.refl _|refine List.Sublist.cons _ ?_)) rfl rfl rfl rfl rfl rfl (fun hT hk => ?_))
    repeat (first|refine q5 ?_|refine q6 ?_)
    exact ⟨(x, m2, a, k2 + 1), (by repeat (exact trivial)), (by repeat (first|exact trivial|refine And.intro rfl ?_)), rfl, rfl, (by repeat (exact List.Sublist.refl _)), hm, hE, hk, hrx, hox, hlx, hT⟩
  ·rintro ⟨s, m1, l, k1⟩ ⟨hm, hE, hk, hs, ho, hl, hT⟩
   simp only at hm hE hk hs ho hl hT
   have hsl := hs.len
   repeat (first|refine q1 ?_|refine q3 ?_|refine q4 tab rfl rfl ?_)
   (refine qs rfl (ql tab 1 rfl rfl rfl rfl rfl rfl ?_))
   repeat (refine q4 tab rfl rfl ?_)
   refine TO.step rfl (OT.storeL (k := 2) tab 1 rfl rfl rfl rfl rfl rfl rfl rfl ?_)
   repeat (first|refine q1 ?_|refine q5 ?_|refine q6 ?_)
   refine TC.draw [6] mixed 7 rfl [.cells b3 0 [.int .i64 13, strV [], .int .i64 (s.len : Int), s.v]] (E.I k1 h :: tok s 4 :: .cells b2 0 [.int .i64 0, strV [], .int .i64 0, .slice none 0 0] :: L) (List.Perm.swap _ _ _) ?_
   refine DO.pure tab (by repeat (first|exact Calm.ret|refine Calm.then ?_|refine Calm.block ?_)) (by kernel_rfl) [0] (by kernel_rfl) rfl ?_
   (refine DO.loadL tab 1 0 (by repeat (first|exact Calm.ret|refine Calm.then ?_|refine Calm.block ?_)) (by kernel_rfl) (by kernel_rfl) rfl rfl rfl rfl rfl rfl rfl rfl ?_)
   refine DO.pure tab (by repeat (first|exact Calm.ret|refine Calm.then ?_|refine Calm.block ?_)) (by kernel_rfl) [2] (by kernel_rfl) rfl ?_
   refine DO.run 3 rfl rfl (by kernel_rfl) rfl ?_
   refine OT.perm (List.Perm.swap _ _ _) (OT.parS (L0 := L) (results_par hX) hm hT hn hE hk (by repeat (first|exact Bad.ret|refine Bad.then ?_|refine Bad.block ?_)) hm (by repeat (first|exact List.Sublist.refl _|refine List.Sublist.cons _ ?_)) rfl rfl rfl rfl rfl rfl goes104 (fun x m2 a k2 hT hm hE hle hk hr hla => ?_)); refine ⟨hle, E.I k2 h :: tok s 4 :: .cells b2 0 [.int .i64 0, strV [], .int .i64 0, .slice none 0 0] :: L, List.Perm.swap _ _ _, ?_⟩
   refine DO.run 4 rfl rfl (by kernel_rfl) rfl ?_
   refine OT.append tab rTree 2 (hs.mono hle) ho hr rfl rfl rfl rfl rfl rfl rfl (by simp only [rTree, mkR]; omega) (fun s3 m4 hle4 hs3 ho3 => ?_); refine ⟨hle4, E.I k2 h :: tok s3 4 :: .cells b2 0 [.int .i64 0, strV [], .int .i64 0, .slice none 0 0] :: L, List.Perm.refl _, ?_⟩
   refine DO.pure tab (by repeat (first|exact Calm.ret|refine Calm.then ?_|refine Calm.block ?_)) (by kernel_rfl) [5] (by kernel_rfl) rfl ?_
   refine DO.tail ?_
   refine DOt.run 6 rfl rfl (by kernel_rfl) rfl ?_
   refine OT.storeL (k := 3) tab 0 rfl rfl rfl rfl rfl rfl rfl rfl ?_
   refine DOt.nil (by kernel_rfl) ?_
   rotate_left 1
   repeat (first|refine q1 ?_|refine q3 ?_|refine q6 ?_)
   (refine qs rfl (qz tab 0 rfl rfl rfl rfl rfl rfl ?_))
   skip
   refine TO.step rfl (OT.storeL0 tab 3 rfl rfl rfl rfl rfl rfl rfl rfl ?_)
   repeat (first|refine q5 ?_|refine q6 ?_|refine q8 ?_|refine q9 ?_|refine q15 ?_)
   refine retQ_ret_c1 tab 3 rfl rfl rfl rfl (L' := E.I k2 h :: L) (by repeat (first|exact List.Sublist.refl _|refine List.Sublist.cons_cons _ ?_|refine List.Sublist.cons _ ?_)) ⟨_, k2, [], hT, Mem.le_trans hm hle4, hk, ⟨⟨13, [], (s.len : Int), s3⟩, rfl, rfl, ⟨rfl, rfl, by show (s.len : Int) = _; rw [hsl]; rfl, hs3⟩⟩, rfl⟩
 ·repeat (first|refine q1 ?_|refine q3 ?_|refine q4 tab rfl rfl ?_|refine q5 ?_|refine q6 ?_|refine q7 ?_|refine q13 ?_|refine q17 rfl ?_)
  refine TO.step rfl (OT.nameP (L0 := L) hT hE hk (by repeat (first|exact Bad.ret|refine Bad.then ?_)) hm (by repeat (first|exact List.Sublist.refl _|refine List.Sublist.cons _ ?_)) rfl rfl rfl rfl rfl rfl (fun t hT hk => ?_))
  repeat (refine q4 tab rfl rfl ?_)
  (refine TO.step rfl (OT.storeL0 tab 1 rfl rfl rfl rfl rfl rfl rfl rfl ?_))
  repeat (first|refine q5 ?_|refine q6 ?_|refine q15 ?_)
  refine retQ_ret_c1 tab 1 rfl rfl rfl rfl (L' := E.I (k + 1) h :: L) (by repeat (first|exact List.Sublist.refl _|refine List.Sublist.cons_cons _ ?_|refine List.Sublist.cons _ ?_)) ⟨_, k + 1, [], hT, hm, hk, ⟨⟨10, t, 0, ⟨none, 0, 0⟩⟩, rfl, rfl, ⟨rfl, rfl, rfl, SlRep.nil _ _⟩⟩, rfl⟩
end
end Go.Sep


/- PsW5 -/
set_option linter.unusedVariables false
set_option linter.unusedSimpArgs false
namespace Go.Sep
open Go.Proofs
attribute [local irreducible] TC TO OT TCallX TCall DO DOt thenQ blockQ retQ At
section
variable {mb : Mem} {E : PE} {h : Int}
theorem param_par {X : Ps.Pp Tree} (hX : Par Tryz.prog mb E vTree 99 [E.v] h X) (b1 : Nat) (hA : At mb b1 0 [E.v]) :
  Par Tryz.prog mb E vTree 103 [.pointer (some ⟨b1, 0, none⟩)] h (Ps.paramP X) := by
 refine Par.enter Tryz.func103 rfl 10 rfl fun m L k T hm0 hE hk hT hn => ?_
 replace hX := hX.up hm0
 replace hA := hA.mono hm0
 have hm : m ≤ m := Mem.le_refl _
 unfold Ps.paramP at hT
 repeat (first|refine q1 ?_|refine q3 ?_)
 refine TO.step rfl (OT.alloc tab rfl rfl rfl rfl (fun b2 => ?_)); refine TO.perm (List.Perm.swap _ _ _) ?_
 repeat (first|refine q1 ?_|refine q3 ?_|refine q5 ?_|refine q6 ?_)
 (refine TO.step rfl (OT.loadA0 tab hA rfl rfl rfl rfl rfl ?_))
 skip
 refine TO.step rfl (OT.nameP (L0 := L) hT hE hk (by repeat (first|exact Bad.ret|refine Bad.then ?_)) hm (by repeat (first|exact List.Sublist.refl _|refine List.Sublist.cons _ ?_)) rfl rfl rfl rfl rfl rfl (fun t hT hk => ?_))
 repeat (first|refine q1 ?_|refine q3 ?_|refine q4 tab rfl rfl ?_|refine q5 ?_|refine q6 ?_)
 (refine TO.step rfl (OT.loadA0 tab hA rfl rfl rfl rfl rfl ?_))
 skip
 refine TO.step rfl (OT.parT (L0 := L) (hX) hm hT hn hE hk (by repeat (first|exact Bad.ret|refine Bad.then ?_)) hm (by repeat (first|exact List.Sublist.refl _|refine List.Sublist.cons _ ?_)) rfl rfl rfl rfl rfl rfl goes99 (fun x m2 a k2 hT hm hE hlex hk hrx => ?_))
 skip
 refine TO.step rfl (OT.litR tab rTree (hs := [x]) (l := [a]) ⟨rTree_iff.2 hrx, trivial⟩ rfl rfl rfl rfl rfl (by decide) (fun s m3 hle3 hs ho hc => ?_))
 repeat (refine q4 tab rfl rfl ?_)
 (refine TO.step rfl (OT.storeL0 tab 1 rfl rfl rfl rfl rfl rfl rfl rfl ?_))
 repeat (first|refine q5 ?_|refine q6 ?_|refine q15 ?_)
 refine retQ_ret_c1 tab 1 rfl rfl rfl rfl (L' := E.I k2 h :: L) (by repeat (first|exact List.Sublist.refl _|refine List.Sublist.cons_cons _ ?_|refine List.Sublist.cons _ ?_)) ⟨_, k2, [], hT, Mem.le_trans hm hle3, hk, ⟨⟨8, t, 0, s⟩, rfl, rfl, ⟨rfl, rfl, rfl, hs⟩⟩, rfl⟩
set_option maxHeartbeats 1000000 in
theorem psig_par {X : Ps.Pp Tree} (hX : Par Tryz.prog mb E vTree 99 [E.v] h X) :
  Par Tryz.prog mb E vTree 69 [E.v] h (Ps.sigP E.N X) := by
 refine Par.enter Tryz.func69 rfl 27 rfl fun m L k T hm0 hE hk hT hn => ?_
 have hm : m ≤ m := Mem.le_refl _
 have hrows := hE.rows
 unfold Ps.sigP Ps.sigLike at hT
 repeat (first|refine q1 ?_|refine q3 ?_)
 refine TO.step rfl (OT.box rfl rfl rfl rfl rfl (fun b1 => ?_))
 refine TO.freeze fun m1 hle1 hA => ?_
 replace hm : m ≤ m1 := hle1
 replace hE := hE.mono hle1
 replace hX := hX.up (Mem.le_trans hm0 hle1)
 skip
 refine TO.step rfl (OT.alloc tab rfl rfl rfl rfl (fun b2 => ?_)); refine TO.perm (List.Perm.swap _ _ _) ?_
 repeat (first|refine q1 ?_|refine q3 ?_|refine q4 tab rfl rfl ?_|refine q5 ?_|refine q6 ?_)
 refine TO.step rfl (OT.alloc tab rfl rfl rfl rfl (fun b3 => ?_)); refine TO.perm (List.Perm.swap _ _ _) ?_
 skip
 (refine TO.step rfl (OT.storeL0 tab 1 rfl rfl rfl rfl rfl rfl rfl rfl ?_))
 repeat (first|refine q1 ?_|refine q3 ?_|refine q5 ?_|refine q6 ?_)
 (refine TO.step rfl (OT.loadA0 tab hA rfl rfl rfl rfl rfl ?_))
 skip
 refine TO.step rfl (OT.needP (L0 := L) hT hE hk (by repeat (first|exact Bad.ret|refine Bad.then ?_)) hm (by repeat (first|exact List.Sublist.refl _|refine List.Sublist.cons _ ?_)) rfl rfl rfl rfl rfl rfl (fun hT hk => ?_))
 unfold Ps.inP at hT
 simp only [Ps.tok_bind, Ps.ret_bind, Ps.bind_assoc, Ps.need_bind] at hT
 refine TO.nil ?_
 refine thenQ_n ?_
 refine TC.cut (ι := Sl × Mem × List Tree × Nat) [1, 2, 3] rfl (fun _ => []) (fun i => i.2.1) (fun i => E.I i.2.2.2 h :: .cells b3 0 [.int .i64 7, strV [], .int .i64 0, i.1.v] :: tok i.1 4 :: .cells b2 0 [.int .i64 0, strV [], .int .i64 0, .slice none 0 0] :: L) (fun i => m1 ≤ i.2.1 ∧ E.Ok i.2.1 ∧ i.2.2.2 ≤ E.toks.length ∧ SlRep rTree i.2.1 i.1 i.2.2.1 ∧ Own i.1 ∧ i.2.2.1.length ≤ 20001 ∧ T = (Ps.bind (Ps.resultsP E.N X) fun rs => Ps.ret (Tree.mk 7 [] (i.2.2.1.length : Int) (i.2.2.1 ++ rs))) E.f i.2.2.2) ?_ ?_
 ·repeat (first|refine q1 ?_|refine q3 ?_)
  (refine TO.step rfl (OT.loadA0 tab hA rfl rfl rfl rfl rfl ?_))
  skip
  refine TO.step rfl (OT.takeP hT hE hk rfl rfl rfl rfl rfl rfl (fun hT hk => ?_) (fun hT => ?_))
  ·refine TO.grow0 (size := 4) ?_
   refine TO.perm (L' := E.I (k + 1 + 1) h :: .cells b3 0 [.int .i64 7, strV [], .int .i64 0, .slice none 0 0] :: tok ⟨none, 0, 0⟩ 4 :: .cells b2 0 [.int .i64 0, strV [], .int .i64 0, .slice none 0 0] :: L) (List.Perm.trans (List.Perm.swap _ _ _) (List.Perm.cons _ (List.Perm.swap _ _ _))) ?_
   repeat (first|refine q4 tab rfl rfl ?_|refine q5 ?_|refine q6 ?_|refine q13 ?_|refine q17 rfl ?_)
   exact ⟨(⟨none, 0, 0⟩, m1, [], k + 1 + 1), (by repeat (exact trivial)), (by repeat (first|exact trivial|refine And.intro rfl ?_)), rfl, rfl, (by repeat (exact List.Sublist.refl _)), Mem.le_refl _, hE, hk, SlRep.nil _ _, Own.nil, by simp, hT⟩
  ·repeat (first|refine q1 ?_|refine q3 ?_|refine q4 tab rfl rfl ?_|refine q5 ?_|refine q6 ?_|refine q16 rfl ?_)
   (refine TO.step rfl (OT.loadA0 tab hA rfl rfl rfl rfl rfl ?_))
   repeat (refine q4 tab rfl rfl ?_)
   refine TO.step rfl (OT.parL (L0 := L) (list1_par (first := []) (cap := [.pointer (some ⟨b1, 0, none⟩)]) rfl goes103 (param_par hX b1 hA)) (Mem.le_refl _) hT hn hE hk (by repeat (first|exact Bad.ret|refine Bad.then ?_)) hm (by repeat (first|exact List.Sublist.refl _|refine List.Sublist.cons _ ?_)) rfl rfl rfl rfl rfl rfl goes102 (fun x m2 a k2 hT hm hE hle2 hk hrx hox hlx => ?_))
   refine TO.perm (L' := E.I k2 h :: .cells b3 0 [.int .i64 7, strV [], .int .i64 0, .slice none 0 0] :: tok x 4 :: .cells b2 0 [.int .i64 0, strV [], .int .i64 0, .slice none 0 0] :: L) (List.Perm.cons _ (List.Perm.swap _ _ _)) ?_
   repeat (refine q4 tab rfl rfl ?_)
   refine TO.step rfl (OT.storeL (k := 3) tab 1 rfl rfl rfl rfl rfl rfl rfl rfl ?_)
   repeat (first|refine q3 ?_|refine q5 ?_|refine q6 ?_)
   have hA2 := hA.mono hle2
   (refine TO.step rfl (OT.loadA0 tab hA2 rfl rfl rfl rfl rfl ?_))
   skip
   refine TO.step rfl (OT.needP (L0 := L) hT hE hk (by repeat (first|exact Bad.ret|refine Bad.then ?_)) hm (by repeat (first|exact List.Sublist.refl _|refine List.Sublist.cons _ ?_)) rfl rfl rfl rfl rfl rfl (fun hT hk => ?_))
   repeat (first|refine q5 ?_|refine q6 ?_)
   exact ⟨(x, m2, a, k2 + 1), (by repeat (exact trivial)), (by repeat (first|exact trivial|refine And.intro rfl ?_)), rfl, rfl, (by repeat (exact List.Sublist.refl _)), hle2, hE, hk, hrx, hox, hlx, hT⟩
 ·rintro ⟨s, m2, l, k1⟩ ⟨hm12, hE, hk, hs, ho, hl, hT⟩
  simp only at hm12 hE hk hs ho hl hT
  have hsl := hs.len
  replace hA := hA.mono hm12
  replace hX := hX.up hm12
  replace hm : m ≤ m2 := Mem.le_trans hm hm12
  repeat (first|refine q1 ?_|refine q3 ?_|refine q4 tab rfl rfl ?_)
  (refine qs rfl (ql tab 1 rfl rfl rfl rfl rfl rfl ?_))
  repeat (refine q4 tab rfl rfl ?_)
  refine TO.step rfl (OT.storeL (k := 2) tab 1 rfl rfl rfl rfl rfl rfl rfl rfl ?_)
  repeat (first|refine q1 ?_|refine q5 ?_|refine q6 ?_)
  refine TC.draw [6] mixed 7 rfl [.cells b3 0 [.int .i64 7, strV [], .int .i64 (s.len : Int), s.v]] (E.I k1 h :: tok s 4 :: .cells b2 0 [.int .i64 0, strV [], .int .i64 0, .slice none 0 0] :: L) (List.Perm.swap _ _ _) ?_
  refine DO.pure tab (by repeat (first|exact Calm.ret|refine Calm.then ?_)) (by kernel_rfl) [0] (by kernel_rfl) rfl ?_
  (refine DO.loadL tab 1 0 (by repeat (first|exact Calm.ret|refine Calm.then ?_)) (by kernel_rfl) (by kernel_rfl) rfl rfl rfl rfl rfl rfl rfl rfl ?_)
  (refine DO.loadA (k := 0) tab 2 hA (by repeat (first|exact Calm.ret|refine Calm.then ?_)) (by kernel_rfl) (by kernel_rfl) rfl rfl rfl rfl rfl rfl rfl ?_)
  refine DO.run 3 rfl rfl (by kernel_rfl) rfl ?_
  refine OT.perm (List.Perm.swap _ _ _) (OT.parS (L0 := L) (results_par hX) (Mem.le_refl _) hT hn hE hk (by repeat (first|exact Bad.ret|refine Bad.then ?_)) hm (by repeat (first|exact List.Sublist.refl _|refine List.Sublist.cons _ ?_)) rfl rfl rfl rfl rfl rfl goes104 (fun x m3 a k2 hT hm hE hle hk hr hla => ?_)); refine ⟨hle, E.I k2 h :: tok s 4 :: .cells b2 0 [.int .i64 0, strV [], .int .i64 0, .slice none 0 0] :: L, List.Perm.swap _ _ _, ?_⟩
  refine DO.run 4 rfl rfl (by kernel_rfl) rfl ?_
  refine OT.append tab rTree 2 (hs.mono hle) ho hr rfl rfl rfl rfl rfl rfl rfl (by simp only [rTree, mkR]; omega) (fun s3 m4 hle4 hs3 ho3 => ?_); refine ⟨hle4, E.I k2 h :: tok s3 4 :: .cells b2 0 [.int .i64 0, strV [], .int .i64 0, .slice none 0 0] :: L, List.Perm.refl _, ?_⟩
  refine DO.pure tab (by repeat (first|exact Calm.ret|refine Calm.then ?_)) (by kernel_rfl) [5] (by kernel_rfl) rfl ?_
  refine DO.tail ?_
  refine DOt.run 6 rfl rfl (by kernel_rfl) rfl ?_
  refine OT.storeL (k := 3) tab 0 rfl rfl rfl rfl rfl rfl rfl rfl ?_
  refine DOt.nil (by kernel_rfl) ?_
  rotate_left 1
  repeat (first|refine q1 ?_|refine q3 ?_|refine q6 ?_)
  (refine qs rfl (qz tab 0 rfl rfl rfl rfl rfl rfl ?_))
  skip
  refine TO.step rfl (OT.storeL0 tab 3 rfl rfl rfl rfl rfl rfl rfl rfl ?_)
  repeat (first|refine q5 ?_|refine q6 ?_|refine q15 ?_)
  refine retQ_ret_c1 tab 3 rfl rfl rfl rfl (L' := E.I k2 h :: L) (by repeat (first|exact List.Sublist.refl _|refine List.Sublist.cons_cons _ ?_|refine List.Sublist.cons _ ?_)) ⟨_, k2, [], hT, Mem.le_trans hm hle4, hk, ⟨⟨7, [], (s.len : Int), s3⟩, rfl, rfl, ⟨rfl, rfl, by show (s.len : Int) = _; rw [hsl]; rfl, hs3⟩⟩, rfl⟩
end
end Go.Sep


/- PsW6 -/
set_option linter.unusedVariables false
set_option linter.unusedSimpArgs false
namespace Go.Sep
open Go.Proofs
attribute [local irreducible] TC TO OT TCallX TCall DO DOt thenQ blockQ retQ At
section
variable {mb : Mem} {E : PE} {h : Int}
set_option maxHeartbeats 1000000 in
theorem block_par {X : Ps.Pp Tree} (hX : Par Tryz.prog mb E vTree 105 [E.v] 0 X) :
  Par Tryz.prog mb E vTree 70 [E.v] h (Ps.blockP E.N X) := by
 refine Par.enter Tryz.func70 rfl 30 rfl fun m L k T hm0 hE hk hT hn => ?_
 replace hX := hX.up hm0
 have hm : m ≤ m := Mem.le_refl _
 have hrows := hE.rows
 unfold Ps.blockP at hT
 rw [Ps.rest_start] at hT
 repeat (first|refine q1 ?_|refine q3 ?_)
 refine TO.step rfl (OT.alloc tab rfl rfl rfl rfl (fun b2 => ?_)); refine TO.perm (List.Perm.swap _ _ _) ?_
 repeat (first|refine q1 ?_|refine q3 ?_|refine q4 tab rfl rfl ?_|refine q5 ?_|refine q6 ?_)
 (refine qs rfl (ql tab 0 rfl rfl rfl rfl rfl rfl ?_))
 repeat (first|refine q1 ?_|refine q3 ?_|refine q4 tab rfl rfl ?_|refine q5 ?_|refine q6 ?_)
 refine TO.step rfl (OT.storeL (k := 3) tab 0 rfl rfl rfl rfl rfl rfl rfl rfl ?_)
 repeat (first|refine q1 ?_|refine q3 ?_|refine q4 tab rfl rfl ?_|refine q5 ?_|refine q6 ?_)
 refine TO.step rfl (OT.needP (L0 := L) hT hE hk (by repeat (first|exact Bad.ret|refine Bad.then ?_)) hm (by repeat (first|exact List.Sublist.refl _|refine List.Sublist.cons _ ?_)) rfl rfl rfl rfl rfl rfl (fun hT hk => ?_))
 repeat (first|refine q1 ?_|refine q3 ?_|refine q4 tab rfl rfl ?_|refine q5 ?_|refine q6 ?_)
 refine TO.step rfl (OT.alloc tab rfl rfl rfl rfl (fun b4 => ?_)); refine TO.perm (List.Perm.swap _ _ _) ?_
 skip
 (refine TO.step rfl (OT.storeL0 tab 1 rfl rfl rfl rfl rfl rfl rfl rfl ?_))
 refine TO.grow0 (size := 4) ?_
 refine TO.perm (L' := E.I (k + 1) 0 :: .cells b4 0 [.int .i64 20, strV [], .int .i64 0, .slice none 0 0] :: tok ⟨none, 0, 0⟩ 4 :: .cells b2 0 [.int .i64 0, strV [], .int .i64 0, .slice none 0 0] :: L) (List.Perm.trans (List.Perm.swap _ _ _) (List.Perm.cons _ (List.Perm.swap _ _ _))) ?_
 repeat (first|refine q1 ?_|refine q2 ?_|refine q5 ?_|refine q6 ?_)
 refine TC.loopK (ι := Sl × Mem × List Tree × Nat × Nat) [0, 2, 3, 4] rfl (fun x => []) (fun x => x.2.1) (fun x => E.I x.2.2.2.1 0 :: .cells b4 0 [.int .i64 20, strV [], .int .i64 0, x.1.v] :: tok x.1 4 :: .cells b2 0 [.int .i64 0, strV [], .int .i64 0, .slice none 0 0] :: L) (fun x => m ≤ x.2.1 ∧ E.Ok x.2.1 ∧ x.2.2.2.1 ≤ E.toks.length ∧ SlRep rTree x.2.1 x.1 x.2.2.1 ∧ Own x.1 ∧ x.2.2.1.length + x.2.2.2.2 = E.N ∧ T = Ps.bind (Ps.rest x.2.2.2.2 [125] X x.2.2.1) (fun l => Ps.ret (.mk 20 [] 0 l)) E.f x.2.2.2.1) (fun x => x.2.2.2.2) (⟨none, 0, 0⟩, m, [], k + 1, E.N) (by repeat (exact trivial)) rfl (by repeat (exact List.Sublist.refl _)) ⟨hm, hE, hk, SlRep.nil _ _, Own.nil, by simp, hT⟩ ?_
 rintro ⟨s, m1, acc, k, j⟩ ⟨hm, hE, hk, hs, ho, hlen, hT⟩
 simp only at hm hE hk hs ho hlen hT
 cases j with
 | zero => rw [Ps.rest_zero, Ps.dry_bind] at hT; exact absurd hT hn
 | succ j =>
  rw [Ps.rest_succ, Ps.tok_bind, Ps.bind_assoc, Ps.ret_bind] at hT
  repeat (first|refine q1 ?_|refine q3 ?_|refine q4 tab rfl rfl ?_)
  refine TO.step rfl (OT.takeP hT hE hk rfl rfl rfl rfl rfl rfl (fun hT hk => ?_) (fun hT => ?_))
  ·repeat (first|refine q1 ?_|refine q3 ?_|refine q4 tab rfl rfl ?_|refine q5 ?_|refine q6 ?_|refine q10 ?_|refine q11 ?_|refine q14 ?_|refine q17 rfl ?_)
   refine TO.step rfl (OT.storeL (k := 3) tab 0 rfl rfl rfl rfl rfl rfl rfl rfl ?_)
   repeat (first|refine q1 ?_|refine q3 ?_|refine q5 ?_|refine q6 ?_)
   (refine qs rfl (qz tab 1 rfl rfl rfl rfl rfl rfl ?_))
   skip
   refine TO.step rfl (OT.storeL0 tab 3 rfl rfl rfl rfl rfl rfl rfl rfl ?_)
   repeat (first|refine q5 ?_|refine q6 ?_|refine q15 ?_)
   refine retQ_ret_c1 tab 3 rfl rfl rfl rfl (L' := E.I (k + 1) h :: L) (by repeat (first|exact List.Sublist.refl _|refine List.Sublist.cons_cons _ ?_|refine List.Sublist.cons _ ?_)) ⟨_, k + 1, [], hT, hm, hk, ⟨⟨20, [], 0, s⟩, rfl, rfl, ⟨rfl, rfl, rfl, hs⟩⟩, rfl⟩
  ·repeat (first|refine q2 ?_|refine q4 tab rfl rfl ?_|refine q5 ?_|refine q6 ?_|refine q13 ?_|refine q16 rfl ?_)
   refine TC.draw [7] mixed 8 rfl [.cells b4 0 [.int .i64 20, strV [], .int .i64 0, s.v]] (E.I k 0 :: tok s 4 :: .cells b2 0 [.int .i64 0, strV [], .int .i64 0, .slice none 0 0] :: L) (List.Perm.swap _ _ _) ?_
   refine DO.pure tab (by repeat (first|exact Calm.ret|refine Calm.then ?_|refine Calm.block ?_)) (by kernel_rfl) [0] (by kernel_rfl) rfl ?_
   (refine DO.loadL tab 1 0 (by repeat (first|exact Calm.ret|refine Calm.then ?_|refine Calm.block ?_)) (by kernel_rfl) (by kernel_rfl) rfl rfl rfl rfl rfl rfl rfl rfl ?_)
   refine DO.pure tab (by repeat (first|exact Calm.ret|refine Calm.then ?_|refine Calm.block ?_)) (by kernel_rfl) [2] (by kernel_rfl) rfl ?_
   refine DO.run 3 rfl rfl (by kernel_rfl) rfl ?_
   refine OT.perm (List.Perm.swap _ _ _) (OT.parT (L0 := L) (hX) hm hT hn hE hk (by repeat (first|exact Bad.ret|refine Bad.then ?_|refine Bad.block ?_)) hm (by repeat (first|exact List.Sublist.refl _|refine List.Sublist.cons _ ?_)) rfl rfl rfl rfl rfl rfl goes105 (fun x mA a k2 hT hm hE hleA hk hr => ?_)); refine ⟨hleA, E.I k2 0 :: tok s 4 :: .cells b2 0 [.int .i64 0, strV [], .int .i64 0, .slice none 0 0] :: L, List.Perm.swap _ _ _, ?_⟩
   refine DO.run 4 rfl rfl (by kernel_rfl) rfl ?_
   refine OT.litR tab rTree (hs := [x]) (l := [a]) ⟨rTree_iff.2 hr, trivial⟩ rfl rfl rfl rfl rfl (by decide) (fun sB mB hleB hsB hoB hcB => ?_); refine ⟨hleB, _, List.Perm.refl _, ?_⟩
   refine DO.run 5 rfl rfl (by kernel_rfl) rfl ?_
   refine OT.append tab rTree 2 (hs.mono (Mem.le_trans hleA hleB)) ho hsB rfl rfl rfl rfl rfl rfl rfl (by simp only [List.length_append, List.length_cons, List.length_nil, rTree, mkR]; omega) (fun s3 mC hleC hs3 ho3 => ?_); refine ⟨hleC, E.I k2 0 :: tok s3 4 :: .cells b2 0 [.int .i64 0, strV [], .int .i64 0, .slice none 0 0] :: L, List.Perm.refl _, ?_⟩
   refine DO.pure tab (by repeat (first|exact Calm.ret|refine Calm.then ?_|refine Calm.block ?_)) (by kernel_rfl) [6] (by kernel_rfl) rfl ?_
   refine DO.tail ?_
   refine DOt.run 7 rfl rfl (by kernel_rfl) rfl ?_
   refine OT.storeL (k := 3) tab 0 rfl rfl rfl rfl rfl rfl rfl rfl ?_; refine DOt.perm (List.Perm.swap _ _ _) ?_
   refine DOt.nil (by kernel_rfl) ?_
   rotate_left 1
   replace hm := Mem.le_trans hm (Mem.le_trans hleB hleC)
   replace hE := hE.mono (Mem.le_trans hleB hleC)
   repeat (first|refine q6 ?_|refine q7 ?_)
   exact ⟨(s3, mC, acc ++ [a], k2, j), (by repeat (exact trivial)), (by repeat (first|exact trivial|refine And.intro rfl ?_)), rfl, rfl, (by repeat (exact List.Sublist.refl _)), ⟨hm, hE, hk, hs3, ho3, by simp only [List.length_append, List.length_cons, List.length_nil]; omega, hT⟩, by simp only; omega⟩
end
end Go.Sep


/- PsW7 -/
set_option linter.unusedVariables false
set_option linter.unusedSimpArgs false
namespace Go.Sep
open Go.Proofs
attribute [local irreducible] TC TO OT TCallX TCall DO DOt thenQ blockQ retQ At
section
variable {mb : Mem} {E : PE} {h : Int}
set_option maxHeartbeats 1600000 in
theorem typeDecl_par {X : Ps.Pp Tree} (hX : Par Tryz.prog mb E vTree 99 [E.v] h X) :
  Par Tryz.prog mb E vTree 66 [E.v] h (Ps.typeDeclP E.N X) := by
 refine Par.enter Tryz.func66 rfl 38 rfl fun m L k T hm0 hE hk hT hn => ?_
 replace hX := hX.up hm0
 have hm : m ≤ m := Mem.le_refl _
 have hrows := hE.rows
 unfold Ps.typeDeclP at hT
 repeat (first|refine q1 ?_|refine q3 ?_)
 refine TO.step rfl (OT.alloc tab rfl rfl rfl rfl (fun b2 => ?_)); refine TO.perm (List.Perm.swap _ _ _) ?_
 repeat (first|refine q1 ?_|refine q3 ?_|refine q4 tab rfl rfl ?_|refine q5 ?_|refine q6 ?_)
 refine TO.step rfl (OT.nameP (L0 := L) hT hE hk (by repeat (first|exact Bad.ret|refine Bad.then ?_)) hm (by repeat (first|exact List.Sublist.refl _|refine List.Sublist.cons _ ?_)) rfl rfl rfl rfl rfl rfl (fun nm hT hk => ?_))
 repeat (refine q4 tab rfl rfl ?_)
 refine TO.step rfl (OT.alloc tab rfl rfl rfl rfl (fun b3 => ?_)); refine TO.perm (List.Perm.swap _ _ _) ?_
 skip
 (refine TO.step rfl (OT.storeL0 tab 1 rfl rfl rfl rfl rfl rfl rfl rfl ?_))
 refine TO.nil ?_
 refine thenQ_n ?_
 refine TC.seq ?_
 refine TC.region ?_
 repeat (refine TO.pureP tab rfl rfl ?_)
 refine TO.nil ?_
 refine thenQ_n ?_
 refine TC.cut (ι := Int × FuncId × Ps.Pp Tree × Nat) [0, 2, 3] rfl (fun i => [(4, .func (.func i.2.1) ⟨[E.v]⟩ ⟨[]⟩)]) (fun i => m) (fun i => E.I i.2.2.2 h :: .cells b3 0 [.int .i64 i.1, strV nm, .int .i64 0, .slice none 0 0] :: .cells b2 0 [.int .i64 0, strV [], .int .i64 0, .slice none 0 0] :: L) (fun i => i.2.2.2 ≤ E.toks.length ∧ Goes Tryz.prog i.2.1 ∧ Par Tryz.prog m E vTree i.2.1 [E.v] h i.2.2.1 ∧ T = Ps.bodyP E.N i.1 nm i.2.2.1 E.f i.2.2.2) ?_ ?_
 ·repeat (first|refine q1 ?_|refine q3 ?_|refine q4 tab rfl rfl ?_)
  refine TO.step rfl (OT.takeP hT hE hk rfl rfl rfl rfl rfl rfl (fun hT hk => ?_) (fun hT => ?_))
  ·repeat (first|refine q3 ?_|refine q4 tab rfl rfl ?_|refine q5 ?_|refine q6 ?_|refine q16 rfl ?_)
   refine TO.step rfl (OT.storeL0 tab 1 rfl rfl rfl rfl rfl rfl rfl rfl ?_)
   repeat (first|refine q4 tab rfl rfl ?_|refine q5 ?_|refine q6 ?_)
   exact ⟨(3, 69, Ps.sigP E.N X, k + 1 + 1), (by repeat (first|exact trivial|refine And.intro rfl ?_)), (by repeat (first|exact trivial|refine And.intro rfl ?_)), rfl, rfl, (by repeat (exact List.Sublist.refl _)), hk, goes69, psig_par hX, hT⟩
  ·repeat (first|refine q3 ?_|refine q4 tab rfl rfl ?_|refine q5 ?_|refine q6 ?_|refine q17 rfl ?_)
   refine TO.step rfl (OT.needP (L0 := L) hT hE hk (by repeat (first|exact Bad.ret|refine Bad.then ?_)) hm (by repeat (first|exact List.Sublist.refl _|refine List.Sublist.cons _ ?_)) rfl rfl rfl rfl rfl rfl (fun hT hk => ?_))
   repeat (first|refine q5 ?_|refine q6 ?_)
   exact ⟨(2, 99, X, k + 1 + 1), (by repeat (first|exact trivial|refine And.intro rfl ?_)), (by repeat (first|exact trivial|refine And.intro rfl ?_)), rfl, rfl, (by repeat (exact List.Sublist.refl _)), hk, goes99, hX, hT⟩
 rintro ⟨kd, ff, Y, k⟩ ⟨hk, hgo, hY, hT⟩
 simp only at hk hgo hY hT
 unfold Ps.bodyP at hT
 rw [Ps.rest_start] at hT
 repeat (first|refine q1 ?_|refine q3 ?_|refine q4 tab rfl rfl ?_)
 refine TO.step rfl (OT.needP (L0 := L) hT hE hk (by repeat (first|exact Bad.ret|refine Bad.then ?_)) hm (by repeat (first|exact List.Sublist.refl _|refine List.Sublist.cons _ ?_)) rfl rfl rfl rfl rfl rfl (fun hT hk => ?_))
 refine TO.grow0 (size := 4) ?_
 refine TO.perm (L' := E.I (k + 1) h :: .cells b3 0 [.int .i64 kd, strV nm, .int .i64 0, .slice none 0 0] :: tok ⟨none, 0, 0⟩ 4 :: .cells b2 0 [.int .i64 0, strV [], .int .i64 0, .slice none 0 0] :: L) (List.Perm.trans (List.Perm.swap _ _ _) (List.Perm.cons _ (List.Perm.swap _ _ _))) ?_
 repeat (first|refine q1 ?_|refine q2 ?_|refine q5 ?_|refine q6 ?_)
 refine TC.loopK (ι := Sl × Mem × List Tree × Nat × Nat) [0, 2, 3, 4] rfl (fun x => []) (fun x => x.2.1) (fun x => E.I x.2.2.2.1 h :: .cells b3 0 [.int .i64 kd, strV nm, .int .i64 0, x.1.v] :: tok x.1 4 :: .cells b2 0 [.int .i64 0, strV [], .int .i64 0, .slice none 0 0] :: L) (fun x => m ≤ x.2.1 ∧ E.Ok x.2.1 ∧ x.2.2.2.1 ≤ E.toks.length ∧ SlRep rTree x.2.1 x.1 x.2.2.1 ∧ Own x.1 ∧ x.2.2.1.length + x.2.2.2.2 = E.N ∧ T = Ps.bind (Ps.rest x.2.2.2.2 [125] (Ps.fieldP Y) x.2.2.1) (fun l => Ps.ret (.mk kd nm 0 l)) E.f x.2.2.2.1) (fun x => x.2.2.2.2) (⟨none, 0, 0⟩, m, [], k + 1, E.N) (by repeat (exact trivial)) rfl (by repeat (exact List.Sublist.refl _)) ⟨hm, hE, hk, SlRep.nil _ _, Own.nil, by simp, hT⟩ ?_
 rintro ⟨s, m1, acc, k, j⟩ ⟨hm, hE, hk, hs, ho, hlen, hT⟩
 simp only at hm hE hk hs ho hlen hT
 cases j with
 | zero => rw [Ps.rest_zero, Ps.dry_bind] at hT; exact absurd hT hn
 | succ j =>
  rw [Ps.rest_succ, Ps.tok_bind, Ps.bind_assoc, Ps.ret_bind] at hT
  repeat (first|refine q1 ?_|refine q3 ?_|refine q4 tab rfl rfl ?_)
  refine TO.step rfl (OT.takeP hT hE hk rfl rfl rfl rfl rfl rfl (fun hT hk => ?_) (fun hT => ?_))
  ·repeat (first|refine q1 ?_|refine q3 ?_|refine q4 tab rfl rfl ?_|refine q5 ?_|refine q6 ?_|refine q10 ?_|refine q11 ?_|refine q14 ?_|refine q17 rfl ?_)
   (refine qs rfl (qz tab 1 rfl rfl rfl rfl rfl rfl ?_))
   skip
   refine TO.step rfl (OT.storeL0 tab 3 rfl rfl rfl rfl rfl rfl rfl rfl ?_)
   repeat (first|refine q5 ?_|refine q6 ?_|refine q15 ?_)
   refine retQ_ret_c1 tab 3 rfl rfl rfl rfl (L' := E.I (k + 1) h :: L) (by repeat (first|exact List.Sublist.refl _|refine List.Sublist.cons_cons _ ?_|refine List.Sublist.cons _ ?_)) ⟨_, k + 1, [], hT, hm, hk, ⟨⟨kd, nm, 0, s⟩, rfl, rfl, ⟨rfl, rfl, rfl, hs⟩⟩, rfl⟩
  ·unfold Ps.fieldP at hT
   simp only [Ps.name_bind, Ps.bind_assoc, Ps.need_bind, Ps.ret_bind] at hT
   repeat (first|refine q1 ?_|refine q2 ?_|refine q3 ?_|refine q4 tab rfl rfl ?_|refine q5 ?_|refine q6 ?_|refine q13 ?_|refine q16 rfl ?_)
   refine TO.step rfl (OT.nameP (L0 := L) hT hE hk (by repeat (first|exact Bad.ret|refine Bad.then ?_|refine Bad.block ?_)) hm (by repeat (first|exact List.Sublist.refl _|refine List.Sublist.cons _ ?_)) rfl rfl rfl rfl rfl rfl (fun t hT hk => ?_))
   repeat (first|refine q1 ?_|refine q4 tab rfl rfl ?_|refine q5 ?_|refine q6 ?_)
   refine TC.draw [10] mixed 11 rfl [.cells b3 0 [.int .i64 kd, strV nm, .int .i64 0, s.v]] (E.I (k + 1) h :: tok s 4 :: .cells b2 0 [.int .i64 0, strV [], .int .i64 0, .slice none 0 0] :: L) (List.Perm.swap _ _ _) ?_
   refine DO.pure tab (by repeat (first|exact Calm.ret|refine Calm.then ?_|refine Calm.block ?_)) (by kernel_rfl) [0] (by kernel_rfl) rfl ?_
   (refine DO.loadL tab 1 0 (by repeat (first|exact Calm.ret|refine Calm.then ?_|refine Calm.block ?_)) (by kernel_rfl) (by kernel_rfl) rfl rfl rfl rfl rfl rfl rfl rfl ?_)
   refine DO.pure tab (by repeat (first|exact Calm.ret|refine Calm.then ?_|refine Calm.block ?_)) (by kernel_rfl) [2, 3] (by kernel_rfl) rfl ?_
   refine DO.run 4 rfl rfl (by kernel_rfl) rfl ?_
   refine OT.perm (List.Perm.swap _ _ _) (OT.parT (L0 := L) hY hm hT hn hE hk (by repeat (first|exact Bad.ret|refine Bad.then ?_|refine Bad.block ?_)) hm (by repeat (first|exact List.Sublist.refl _|refine List.Sublist.cons _ ?_)) rfl rfl rfl rfl rfl rfl hgo (fun x m3 a k2 hT hm hE hle hk hr => ?_)); refine ⟨hle, E.I k2 h :: tok s 4 :: .cells b2 0 [.int .i64 0, strV [], .int .i64 0, .slice none 0 0] :: L, List.Perm.swap _ _ _, ?_⟩
   refine DO.run 5 rfl rfl (by kernel_rfl) rfl ?_
   refine OT.litR tab rTree (hs := [x]) (l := [a]) ⟨rTree_iff.2 hr, trivial⟩ rfl rfl rfl rfl rfl (by decide) (fun s2 m4 hle2 hs2 ho2 hc2 => ?_); refine ⟨hle2, _, List.Perm.refl _, ?_⟩
   refine DO.pure tab (by repeat (first|exact Calm.ret|refine Calm.then ?_|refine Calm.block ?_)) (by kernel_rfl) [6] (by kernel_rfl) rfl ?_
   refine DO.run 7 rfl rfl (by kernel_rfl) rfl ?_
   refine OT.litR tab rTree (hs := [⟨6, t, 0, s2⟩]) (l := [.mk 6 t 0 [a]]) ⟨rTree_iff.2 ⟨rfl, rfl, rfl, hs2⟩, trivial⟩ rfl rfl rfl rfl rfl (by decide) (fun s3 m5 hle3 hs3 ho3 hc3 => ?_); refine ⟨hle3, _, List.Perm.refl _, ?_⟩
   refine DO.run 8 rfl rfl (by kernel_rfl) rfl ?_
   refine OT.append tab rTree 2 (hs.mono (Mem.le_trans hle (Mem.le_trans hle2 hle3))) ho hs3 rfl rfl rfl rfl rfl rfl rfl (by simp only [List.length_append, List.length_cons, List.length_nil, rTree, mkR]; omega) (fun s4 m6 hle6 hs4 ho4 => ?_); refine ⟨hle6, E.I k2 h :: tok s4 4 :: .cells b2 0 [.int .i64 0, strV [], .int .i64 0, .slice none 0 0] :: L, List.Perm.refl _, ?_⟩
   refine DO.pure tab (by repeat (first|exact Calm.ret|refine Calm.then ?_|refine Calm.block ?_)) (by kernel_rfl) [9] (by kernel_rfl) rfl ?_
   refine DO.tail ?_
   refine DOt.run 10 rfl rfl (by kernel_rfl) rfl ?_
   refine OT.storeL (k := 3) tab 0 rfl rfl rfl rfl rfl rfl rfl rfl ?_; refine DOt.perm (List.Perm.swap _ _ _) ?_
   refine DOt.nil (by kernel_rfl) ?_
   rotate_left 1
   replace hm := Mem.le_trans hm (Mem.le_trans hle2 (Mem.le_trans hle3 hle6))
   replace hE := hE.mono (Mem.le_trans hle2 (Mem.le_trans hle3 hle6))
   repeat (first|refine q3 ?_|refine q4 tab rfl rfl ?_|refine q6 ?_)
   refine TO.step rfl (OT.needP (L0 := L) hT hE hk (by repeat (first|exact Bad.ret|refine Bad.then ?_|refine Bad.block ?_)) hm (by repeat (first|exact List.Sublist.refl _|refine List.Sublist.cons _ ?_)) rfl rfl rfl rfl rfl rfl (fun hT hk => ?_))
   repeat (first|refine q5 ?_|refine q6 ?_|refine q7 ?_)
   exact ⟨(s4, m6, acc ++ [Tree.mk 6 t 0 [a]], k2 + 1, j), (by repeat (exact trivial)), (by repeat (first|exact trivial|refine And.intro rfl ?_)), rfl, rfl, (by repeat (exact List.Sublist.refl _)), ⟨hm, hE, hk, hs4, ho4, by simp only [List.length_append, List.length_cons, List.length_nil]; omega, hT⟩, by simp only; omega⟩
set_option maxHeartbeats 1600000 in
theorem decl_par {X Y : Ps.Pp Tree} (hX : Par Tryz.prog mb E vTree 99 [E.v] h X) (hY : Par Tryz.prog mb E vTree 70 [E.v] h Y) :
  Par Tryz.prog mb E vTree 32 [E.v] h (Ps.declP E.N X Y) := by
 refine Par.enter Tryz.func32 rfl 49 rfl fun m L k T hm0 hE hk hT hn => ?_
 replace hX := hX.up hm0
 replace hY := hY.up hm0
 have hm : m ≤ m := Mem.le_refl _
 unfold Ps.declP at hT
 repeat (first|refine q1 ?_|refine q3 ?_)
 refine TO.step rfl (OT.alloc tab rfl rfl rfl rfl (fun b2 => ?_)); refine TO.perm (List.Perm.swap _ _ _) ?_
 repeat (first|refine q1 ?_|refine q3 ?_|refine q4 tab rfl rfl ?_|refine q5 ?_|refine q6 ?_)
 refine TO.step rfl (OT.takeP hT hE hk rfl rfl rfl rfl rfl rfl (fun hT hk => ?_) (fun hT => ?_))
 ·repeat (first|refine q1 ?_|refine q3 ?_|refine q4 tab rfl rfl ?_|refine q5 ?_|refine q6 ?_|refine q16 rfl ?_)
  rw [← Ps.bind_ret (Ps.typeDeclP E.N X)] at hT
  refine TO.step rfl (OT.parT (L0 := L) (typeDecl_par hX) hm hT hn hE hk (by repeat (first|exact Bad.ret|refine Bad.then ?_)) hm (by repeat (first|exact List.Sublist.refl _|refine List.Sublist.cons _ ?_)) rfl rfl rfl rfl rfl rfl goes66 (fun x m2 a k2 hT hm hE hlex hk hrx => ?_))
  skip
  (refine TO.step rfl (OT.storeL0 tab 1 rfl rfl rfl rfl rfl rfl rfl rfl ?_))
  repeat (first|refine q5 ?_|refine q6 ?_|refine q8 ?_|refine q15 ?_)
  refine retQ_ret_c1 tab 1 rfl rfl rfl rfl (L' := E.I k2 h :: L) (by repeat (first|exact List.Sublist.refl _|refine List.Sublist.cons_cons _ ?_|refine List.Sublist.cons _ ?_)) ⟨_, k2, [], hT, hm, hk, ⟨x, rfl, rfl, hrx⟩, rfl⟩
 repeat (first|refine q1 ?_|refine q3 ?_|refine q4 tab rfl rfl ?_|refine q5 ?_|refine q6 ?_|refine q13 ?_|refine q17 rfl ?_)
 refine TO.step rfl (OT.needP (L0 := L) hT hE hk (by repeat (first|exact Bad.ret|refine Bad.then ?_)) hm (by repeat (first|exact List.Sublist.refl _|refine List.Sublist.cons _ ?_)) rfl rfl rfl rfl rfl rfl (fun hT hk => ?_))
 repeat (first|refine q1 ?_|refine q3 ?_|refine q4 tab rfl rfl ?_|refine q5 ?_|refine q6 ?_)
 refine TO.step rfl (OT.takeP hT hE hk rfl rfl rfl rfl rfl rfl (fun hT hk => ?_) (fun hT => ?_))
 ·repeat (first|refine q1 ?_|refine q3 ?_|refine q4 tab rfl rfl ?_|refine q5 ?_|refine q6 ?_|refine q13 ?_|refine q17 rfl ?_)
  refine TO.step rfl (OT.nameP (L0 := L) hT hE hk (by repeat (first|exact Bad.ret|refine Bad.then ?_)) hm (by repeat (first|exact List.Sublist.refl _|refine List.Sublist.cons _ ?_)) rfl rfl rfl rfl rfl rfl (fun recv hT hk => ?_))
  repeat (first|refine q1 ?_|refine q3 ?_|refine q4 tab rfl rfl ?_|refine q5 ?_|refine q6 ?_)
  refine TO.step rfl (OT.needP (L0 := L) hT hE hk (by repeat (first|exact Bad.ret|refine Bad.then ?_)) hm (by repeat (first|exact List.Sublist.refl _|refine List.Sublist.cons _ ?_)) rfl rfl rfl rfl rfl rfl (fun hT hk => ?_))
  repeat (first|refine q1 ?_|refine q3 ?_|refine q4 tab rfl rfl ?_|refine q5 ?_|refine q6 ?_)
  refine TO.step rfl (OT.nameP (L0 := L) hT hE hk (by repeat (first|exact Bad.ret|refine Bad.then ?_)) hm (by repeat (first|exact List.Sublist.refl _|refine List.Sublist.cons _ ?_)) rfl rfl rfl rfl rfl rfl (fun of hT hk => ?_))
  repeat (refine q4 tab rfl rfl ?_)
  refine TO.step rfl (OT.litR tab rTree (hs := [⟨10, of, 0, ⟨none, 0, 0⟩⟩]) (l := [Ps.leaf 10 of]) ⟨rTree_iff.2 ⟨rfl, rfl, rfl, SlRep.nil _ _⟩, trivial⟩ rfl rfl rfl rfl rfl (by decide) (fun s m2 hle hs ho hc => ?_))
  replace hm := hle
  replace hE := hE.mono hle
  repeat (refine q4 tab rfl rfl ?_)
  refine TO.step rfl (OT.alloc tab rfl rfl rfl rfl (fun b5 => ?_)); refine TO.perm (List.Perm.swap _ _ _) ?_
  skip
  (refine TO.step rfl (OT.storeL0 tab 1 rfl rfl rfl rfl rfl rfl rfl rfl ?_))
  repeat (first|refine q1 ?_|refine q3 ?_|refine q4 tab rfl rfl ?_|refine q5 ?_|refine q6 ?_)
  refine TO.step rfl (OT.needP (L0 := L) hT hE hk (by repeat (first|exact Bad.ret|refine Bad.then ?_)) hm (by repeat (first|exact List.Sublist.refl _|refine List.Sublist.cons _ ?_)) rfl rfl rfl rfl rfl rfl (fun hT hk => ?_))
  repeat (first|refine q1 ?_|refine q3 ?_|refine q4 tab rfl rfl ?_|refine q5 ?_|refine q6 ?_)
  refine TO.step rfl (OT.nameP (L0 := L) hT hE hk (by repeat (first|exact Bad.ret|refine Bad.then ?_)) hm (by repeat (first|exact List.Sublist.refl _|refine List.Sublist.cons _ ?_)) rfl rfl rfl rfl rfl rfl (fun nm hT hk => ?_))
  repeat (first|refine q1 ?_|refine q4 tab rfl rfl ?_|refine q5 ?_|refine q6 ?_)
  have hs0 := hs
  refine TC.draw [11] mixed 12 rfl [.cells b5 0 [.int .i64 11, strV [], .int .i64 0, s.v], .cells b2 0 [.int .i64 0, strV [], .int .i64 0, .slice none 0 0]] (E.I (k + 1 + 1 + 1 + 1 + 1 + 1 + 1) h :: L) (List.Perm.trans (List.Perm.swap _ _ _) (List.Perm.cons _ (List.Perm.swap _ _ _))) ?_
  refine DO.pure tab (by repeat (first|exact Calm.ret|refine Calm.then ?_)) (by kernel_rfl) [0, 1, 5, 7] (by kernel_rfl) rfl ?_
  refine DO.loadL (k := 0) tab 2 0 (by repeat (first|exact Calm.ret|refine Calm.then ?_)) (by kernel_rfl) (by kernel_rfl) rfl rfl rfl rfl rfl rfl rfl rfl ?_
  refine DO.fork 3 [6] (by kernel_rfl) ⟨⟨_, rfl, rfl, rfl, ?_⟩, ⟨_, rfl, rfl, rfl, ?_⟩, trivial⟩
  ·skip
   refine OT.litR tab rTree (hs := [⟨11, [], 0, s⟩]) (l := [.mk 11 [] 0 [Ps.leaf 10 of]]) ⟨rTree_iff.2 ⟨rfl, rfl, rfl, hs⟩, trivial⟩ rfl rfl rfl rfl rfl (by decide) (fun s1 m1 hle1 hs1 ho1 hc1 => ?_)
   replace hm := Mem.le_trans hm hle1
   replace hE := hE.mono hle1
   refine ⟨hle1, _, List.Perm.refl _, ?_⟩
   refine DO.pure tab (by repeat (first|exact Calm.ret|refine Calm.then ?_)) (by kernel_rfl) [4] (by kernel_rfl) rfl ?_
   refine DO.run 6 rfl rfl (by kernel_rfl) rfl ?_
   refine OT.perm List.perm_middle (OT.parT (L0 := L) (psig_par hX) hm hT hn hE hk (by repeat (first|exact Bad.ret|refine Bad.then ?_)) hm (by repeat (first|exact List.Sublist.refl _|refine List.Sublist.cons _ ?_)) rfl rfl rfl rfl rfl rfl goes69 (fun x m3 a k2 hT hm hE hle2 hk hrx => ?_))
   refine ⟨hle2, E.I k2 h :: L, perm_mid (l := [_, _]), ?_⟩
   refine DO.run 8 rfl rfl (by kernel_rfl) rfl ?_
   refine OT.perm List.perm_middle (OT.parT (L0 := L) hY hm hT hn hE hk (by repeat (first|exact Bad.ret|refine Bad.then ?_)) hm (by repeat (first|exact List.Sublist.refl _|refine List.Sublist.cons _ ?_)) rfl rfl rfl rfl rfl rfl goes70 (fun y m4 b k3 hT hm hE hle3 hk hry => ?_))
   refine ⟨hle3, E.I k3 h :: L, perm_mid (l := [_, _]), ?_⟩
   have hz1 := hrx.mono hle3
   have hz2 := hry
   have hz3 := hs1.mono (Mem.le_trans hle2 hle3)
   refine DO.run 9 rfl rfl (by kernel_rfl) rfl ?_
   refine OT.litR tab rTree (hs := [⟨8, recv, 0, s1⟩, x, y]) (l := [.mk 8 recv 0 [.mk 11 [] 0 [Ps.leaf 10 of]], a, b]) ⟨rTree_iff.2 ⟨rfl, rfl, rfl, hz3⟩, rTree_iff.2 hz1, rTree_iff.2 hz2, trivial⟩ rfl rfl rfl rfl rfl (by decide) (fun s9 m9 hle9 hs9 ho9 hc9 => ?_)
   refine ⟨hle9, _, List.Perm.refl _, ?_⟩
   refine DO.pure tab (by repeat (first|exact Calm.ret|refine Calm.then ?_)) (by kernel_rfl) [10] (by kernel_rfl) rfl ?_
   refine DO.tail ?_
   refine DOt.run 11 rfl rfl (by kernel_rfl) rfl ?_
   refine OT.storeL0 tab 1 rfl rfl rfl rfl rfl rfl rfl rfl ?_
   refine DOt.nil (by kernel_rfl) ?_
   repeat (first|refine q6 ?_|refine q15 ?_)
   refine retQ_ret_c1 tab 1 rfl rfl rfl rfl (L' := E.I k3 h :: L) (by repeat (first|exact List.Sublist.refl _|refine List.Sublist.cons _ ?_)) ⟨_, k3, [], hT, Mem.le_trans hm hle9, hk, ⟨⟨5, nm, 0, s9⟩, rfl, rfl, ⟨rfl, rfl, rfl, hs9⟩⟩, rfl⟩
  ·skip
   refine OT.perm List.perm_middle (OT.parT (L0 := L) (psig_par hX) hm hT hn hE hk (by repeat (first|exact Bad.ret|refine Bad.then ?_)) hm (by repeat (first|exact List.Sublist.refl _|refine List.Sublist.cons _ ?_)) rfl rfl rfl rfl rfl rfl goes69 (fun x m3 a k2 hT hm hE hle2 hk hrx => ?_))
   refine ⟨hle2, E.I k2 h :: L, perm_mid (l := [_, _]), ?_⟩
   refine DO.fork 3 [8] (by kernel_rfl) ⟨⟨_, rfl, rfl, rfl, ?_⟩, ⟨_, rfl, rfl, rfl, ?_⟩, trivial⟩
   ·skip
    refine OT.litR tab rTree (hs := [⟨11, [], 0, s⟩]) (l := [.mk 11 [] 0 [Ps.leaf 10 of]]) ⟨rTree_iff.2 ⟨rfl, rfl, rfl, (hs.mono hle2)⟩, trivial⟩ rfl rfl rfl rfl rfl (by decide) (fun s1 m1 hle1 hs1 ho1 hc1 => ?_)
    replace hm := Mem.le_trans hm hle1
    replace hE := hE.mono hle1
    refine ⟨hle1, _, List.Perm.refl _, ?_⟩
    refine DO.pure tab (by repeat (first|exact Calm.ret|refine Calm.then ?_)) (by kernel_rfl) [4] (by kernel_rfl) rfl ?_
    refine DO.run 8 rfl rfl (by kernel_rfl) rfl ?_
    refine OT.perm List.perm_middle (OT.parT (L0 := L) hY hm hT hn hE hk (by repeat (first|exact Bad.ret|refine Bad.then ?_)) hm (by repeat (first|exact List.Sublist.refl _|refine List.Sublist.cons _ ?_)) rfl rfl rfl rfl rfl rfl goes70 (fun y m4 b k3 hT hm hE hle3 hk hry => ?_))
    refine ⟨hle3, E.I k3 h :: L, perm_mid (l := [_, _]), ?_⟩
    have hz1 := hrx.mono (Mem.le_trans hle1 hle3)
    have hz2 := hry
    have hz3 := hs1.mono hle3
    refine DO.run 9 rfl rfl (by kernel_rfl) rfl ?_
    refine OT.litR tab rTree (hs := [⟨8, recv, 0, s1⟩, x, y]) (l := [.mk 8 recv 0 [.mk 11 [] 0 [Ps.leaf 10 of]], a, b]) ⟨rTree_iff.2 ⟨rfl, rfl, rfl, hz3⟩, rTree_iff.2 hz1, rTree_iff.2 hz2, trivial⟩ rfl rfl rfl rfl rfl (by decide) (fun s9 m9 hle9 hs9 ho9 hc9 => ?_)
    refine ⟨hle9, _, List.Perm.refl _, ?_⟩
    refine DO.pure tab (by repeat (first|exact Calm.ret|refine Calm.then ?_)) (by kernel_rfl) [10] (by kernel_rfl) rfl ?_
    refine DO.tail ?_
    refine DOt.run 11 rfl rfl (by kernel_rfl) rfl ?_
    refine OT.storeL0 tab 1 rfl rfl rfl rfl rfl rfl rfl rfl ?_
    refine DOt.nil (by kernel_rfl) ?_
    repeat (first|refine q6 ?_|refine q15 ?_)
    refine retQ_ret_c1 tab 1 rfl rfl rfl rfl (L' := E.I k3 h :: L) (by repeat (first|exact List.Sublist.refl _|refine List.Sublist.cons _ ?_)) ⟨_, k3, [], hT, Mem.le_trans hm hle9, hk, ⟨⟨5, nm, 0, s9⟩, rfl, rfl, ⟨rfl, rfl, rfl, hs9⟩⟩, rfl⟩
   ·skip
    refine OT.perm List.perm_middle (OT.parT (L0 := L) hY hm hT hn hE hk (by repeat (first|exact Bad.ret|refine Bad.then ?_)) hm (by repeat (first|exact List.Sublist.refl _|refine List.Sublist.cons _ ?_)) rfl rfl rfl rfl rfl rfl goes70 (fun y m4 b k3 hT hm hE hle3 hk hry => ?_))
    refine ⟨hle3, E.I k3 h :: L, perm_mid (l := [_, _]), ?_⟩
    refine DO.run 3 rfl rfl (by kernel_rfl) rfl ?_
    refine OT.litR tab rTree (hs := [⟨11, [], 0, s⟩]) (l := [.mk 11 [] 0 [Ps.leaf 10 of]]) ⟨rTree_iff.2 ⟨rfl, rfl, rfl, (hs.mono (Mem.le_trans hle2 hle3))⟩, trivial⟩ rfl rfl rfl rfl rfl (by decide) (fun s1 m1 hle1 hs1 ho1 hc1 => ?_)
    replace hm := Mem.le_trans hm hle1
    replace hE := hE.mono hle1
    refine ⟨hle1, _, List.Perm.refl _, ?_⟩
    refine DO.pure tab (by repeat (first|exact Calm.ret|refine Calm.then ?_)) (by kernel_rfl) [4] (by kernel_rfl) rfl ?_
    have hz1 := hrx.mono (Mem.le_trans hle3 hle1)
    have hz2 := hry.mono hle1
    have hz3 := hs1
    refine DO.run 9 rfl rfl (by kernel_rfl) rfl ?_
    refine OT.litR tab rTree (hs := [⟨8, recv, 0, s1⟩, x, y]) (l := [.mk 8 recv 0 [.mk 11 [] 0 [Ps.leaf 10 of]], a, b]) ⟨rTree_iff.2 ⟨rfl, rfl, rfl, hz3⟩, rTree_iff.2 hz1, rTree_iff.2 hz2, trivial⟩ rfl rfl rfl rfl rfl (by decide) (fun s9 m9 hle9 hs9 ho9 hc9 => ?_)
    refine ⟨hle9, _, List.Perm.refl _, ?_⟩
    refine DO.pure tab (by repeat (first|exact Calm.ret|refine Calm.then ?_)) (by kernel_rfl) [10] (by kernel_rfl) rfl ?_
    refine DO.tail ?_
    refine DOt.run 11 rfl rfl (by kernel_rfl) rfl ?_
    refine OT.storeL0 tab 1 rfl rfl rfl rfl rfl rfl rfl rfl ?_
    refine DOt.nil (by kernel_rfl) ?_
    repeat (first|refine q6 ?_|refine q15 ?_)
    refine retQ_ret_c1 tab 1 rfl rfl rfl rfl (L' := E.I k3 h :: L) (by repeat (first|exact List.Sublist.refl _|refine List.Sublist.cons _ ?_)) ⟨_, k3, [], hT, Mem.le_trans hm hle9, hk, ⟨⟨5, nm, 0, s9⟩, rfl, rfl, ⟨rfl, rfl, rfl, hs9⟩⟩, rfl⟩
 ·repeat (first|refine q1 ?_|refine q3 ?_|refine q4 tab rfl rfl ?_|refine q5 ?_|refine q6 ?_|refine q16 rfl ?_)
  refine TO.step rfl (OT.nameP (L0 := L) hT hE hk (by repeat (first|exact Bad.ret|refine Bad.then ?_)) hm (by repeat (first|exact List.Sublist.refl _|refine List.Sublist.cons _ ?_)) rfl rfl rfl rfl rfl rfl (fun nm hT hk => ?_))
  repeat (first|refine q1 ?_|refine q3 ?_|refine q4 tab rfl rfl ?_|refine q5 ?_|refine q6 ?_)
  refine TO.step rfl (OT.parT (L0 := L) (psig_par hX) hm hT hn hE hk (by repeat (first|exact Bad.ret|refine Bad.then ?_)) hm (by repeat (first|exact List.Sublist.refl _|refine List.Sublist.cons _ ?_)) rfl rfl rfl rfl rfl rfl goes69 (fun x m2 a k2 hT hm hE hlex hk hrx => ?_))
  repeat (refine q4 tab rfl rfl ?_)
  refine TO.step rfl (OT.parT (L0 := L) (hY) hm hT hn hE hk (by repeat (first|exact Bad.ret|refine Bad.then ?_)) hm (by repeat (first|exact List.Sublist.refl _|refine List.Sublist.cons _ ?_)) rfl rfl rfl rfl rfl rfl goes70 (fun y m3 b k3 hT hm hE hley hk hry => ?_))
  skip
  refine TO.step rfl (OT.litR tab rTree (hs := [x, y]) (l := [a, b]) ⟨rTree_iff.2 (hrx.mono hley), rTree_iff.2 hry, trivial⟩ rfl rfl rfl rfl rfl (by decide) (fun s m4 hle hs ho hc => ?_))
  repeat (refine q4 tab rfl rfl ?_)
  (refine TO.step rfl (OT.storeL0 tab 1 rfl rfl rfl rfl rfl rfl rfl rfl ?_))
  repeat (first|refine q5 ?_|refine q6 ?_|refine q8 ?_|refine q15 ?_)
  refine retQ_ret_c1 tab 1 rfl rfl rfl rfl (L' := E.I k3 h :: L) (by repeat (first|exact List.Sublist.refl _|refine List.Sublist.cons_cons _ ?_|refine List.Sublist.cons _ ?_)) ⟨_, k3, [], hT, Mem.le_trans hm hle, hk, ⟨⟨4, nm, 0, s⟩, rfl, rfl, ⟨rfl, rfl, rfl, hs⟩⟩, rfl⟩
end
end Go.Sep


/- PsW8 -/
set_option linter.unusedVariables false
set_option linter.unusedSimpArgs false
namespace Go.Sep
open Go.Proofs
attribute [local irreducible] TC TO OT TCallX TCall DO DOt thenQ blockQ retQ At
section
variable {mb : Mem} {E : PE}
theorem cond_par {X : Ps.Pp Tree} (hX : Par Tryz.prog mb E vTree 138 [E.v] 1 X) :
  Par Tryz.prog mb E vTree 125 [E.v] 0 X := by
 refine Par.enter Tryz.func125 rfl 13 rfl fun m L k T hm0 hE hk hT hn => ?_
 replace hX := hX.up hm0
 have hm : m ≤ m := Mem.le_refl _
 rw [← Ps.bind_ret X] at hT
 repeat (first|refine q1 ?_|refine q3 ?_)
 refine TO.step rfl (OT.alloc tab rfl rfl rfl rfl (fun b2 => ?_)); refine TO.perm (List.Perm.swap _ _ _) ?_
 repeat (first|refine q1 ?_|refine q3 ?_|refine q4 tab rfl rfl ?_|refine q5 ?_|refine q6 ?_)
 refine TO.step rfl (OT.storeL (k := 3) tab 0 rfl rfl rfl rfl rfl rfl rfl rfl ?_)
 repeat (first|refine q1 ?_|refine q3 ?_|refine q4 tab rfl rfl ?_|refine q5 ?_|refine q6 ?_)
 refine TO.step rfl (OT.parT (L0 := L) (hX) hm hT hn hE hk (by repeat (first|exact Bad.ret|refine Bad.then ?_)) hm (by repeat (first|exact List.Sublist.refl _|refine List.Sublist.cons _ ?_)) rfl rfl rfl rfl rfl rfl goes138 (fun x m2 a k2 hT hm hE hlex hk hrx => ?_))
 skip
 refine TO.step rfl (OT.alloc tab rfl rfl rfl rfl (fun b3 => ?_)); refine TO.perm (List.Perm.swap _ _ _) ?_
 skip
 (refine TO.step rfl (OT.storeL0 tab 1 rfl rfl rfl rfl rfl rfl rfl rfl ?_))
 repeat (first|refine q1 ?_|refine q3 ?_|refine q4 tab rfl rfl ?_|refine q5 ?_|refine q6 ?_)
 refine TO.step rfl (OT.storeL (k := 3) tab 0 rfl rfl rfl rfl rfl rfl rfl rfl ?_)
 repeat (first|refine q1 ?_|refine q3 ?_|refine q5 ?_|refine q6 ?_)
 (refine qs rfl (qz tab 1 rfl rfl rfl rfl rfl rfl ?_))
 skip
 refine TO.step rfl (OT.storeL0 tab 2 rfl rfl rfl rfl rfl rfl rfl rfl ?_)
 repeat (first|refine q5 ?_|refine q6 ?_|refine q15 ?_)
 refine retQ_ret_c1 tab 2 rfl rfl rfl rfl (L' := E.I k2 0 :: L) (by repeat (first|exact List.Sublist.refl _|refine List.Sublist.cons_cons _ ?_|refine List.Sublist.cons _ ?_)) ⟨_, k2, [], hT, hm, hk, ⟨x, rfl, rfl, hrx⟩, rfl⟩
set_option maxHeartbeats 1600000 in
theorem branch_par {X Y Z : Ps.Pp Tree} (hX : Par Tryz.prog mb E vTree 138 [E.v] 1 X) (hY : Par Tryz.prog mb E vTree 70 [E.v] 0 Y) (hZ : Par Tryz.prog mb E vTree 124 [E.v] 0 Z) :
  Par Tryz.prog mb E vTree 124 [E.v] 0 (Ps.branchP X Y Z) := by
 refine Par.enter Tryz.func124 rfl 36 rfl fun m L k T hm0 hE hk hT hn => ?_
 replace hX := hX.up hm0
 replace hY := hY.up hm0
 replace hZ := hZ.up hm0
 have hm : m ≤ m := Mem.le_refl _
 unfold Ps.branchP at hT
 repeat (first|refine q1 ?_|refine q3 ?_)
 refine TO.step rfl (OT.alloc tab rfl rfl rfl rfl (fun b2 => ?_)); refine TO.perm (List.Perm.swap _ _ _) ?_
 repeat (first|refine q1 ?_|refine q3 ?_|refine q4 tab rfl rfl ?_|refine q5 ?_|refine q6 ?_)
 refine TO.step rfl (OT.needP (L0 := L) hT hE hk (by repeat (first|exact Bad.ret|refine Bad.then ?_)) hm (by repeat (first|exact List.Sublist.refl _|refine List.Sublist.cons _ ?_)) rfl rfl rfl rfl rfl rfl (fun hT hk => ?_))
 repeat (first|refine q1 ?_|refine q3 ?_|refine q4 tab rfl rfl ?_|refine q5 ?_|refine q6 ?_)
 refine TO.step rfl (OT.parT (L0 := L) (cond_par hX) hm hT hn hE hk (by repeat (first|exact Bad.ret|refine Bad.then ?_)) hm (by repeat (first|exact List.Sublist.refl _|refine List.Sublist.cons _ ?_)) rfl rfl rfl rfl rfl rfl goes125 (fun x m2 c k2 hT hm hE hlex hk hrx => ?_))
 skip
 refine TO.step rfl (OT.litR tab rTree (hs := [x]) (l := [c]) ⟨rTree_iff.2 hrx, trivial⟩ rfl rfl rfl rfl rfl (by decide) (fun s m3 hle3 hs ho hc => ?_))
 replace hm := Mem.le_trans hm hle3
 replace hE := hE.mono hle3
 refine TO.tokFo hc ho 4 ?_
 refine TO.perm (List.Perm.swap _ _ _) ?_
 repeat (refine q4 tab rfl rfl ?_)
 refine TO.step rfl (OT.alloc tab rfl rfl rfl rfl (fun b3 => ?_)); refine TO.perm (List.Perm.swap _ _ _) ?_
 skip
 (refine TO.step rfl (OT.storeL0 tab 1 rfl rfl rfl rfl rfl rfl rfl rfl ?_))
 repeat (first|refine q1 ?_|refine q5 ?_|refine q6 ?_)
 refine TC.draw [7] mixed 8 rfl [.cells b3 0 [.int .i64 25, strV [], .int .i64 0, s.v]] (E.I k2 0 :: tok s 4 :: .cells b2 0 [.int .i64 0, strV [], .int .i64 0, .slice none 0 0] :: L) (List.Perm.swap _ _ _) ?_
 refine DO.pure tab (by repeat (first|exact Calm.ret|refine Calm.then ?_)) (by kernel_rfl) [0] (by kernel_rfl) rfl ?_
 (refine DO.loadL tab 1 0 (by repeat (first|exact Calm.ret|refine Calm.then ?_)) (by kernel_rfl) (by kernel_rfl) rfl rfl rfl rfl rfl rfl rfl rfl ?_)
 refine DO.pure tab (by repeat (first|exact Calm.ret|refine Calm.then ?_)) (by kernel_rfl) [2] (by kernel_rfl) rfl ?_
 refine DO.run 3 rfl rfl (by kernel_rfl) rfl ?_
 refine OT.perm (List.Perm.swap _ _ _) (OT.parT (L0 := L) (hY) hm hT hn hE hk (by repeat (first|exact Bad.ret|refine Bad.then ?_)) hm (by repeat (first|exact List.Sublist.refl _|refine List.Sublist.cons _ ?_)) rfl rfl rfl rfl rfl rfl goes70 (fun x3 mA a3 k3 hT hm hE hleA hk hr3 => ?_)); refine ⟨hleA, E.I k3 0 :: tok s 4 :: .cells b2 0 [.int .i64 0, strV [], .int .i64 0, .slice none 0 0] :: L, List.Perm.swap _ _ _, ?_⟩
 refine DO.run 4 rfl rfl (by kernel_rfl) rfl ?_
 refine OT.litR tab rTree (hs := [x3]) (l := [a3]) ⟨rTree_iff.2 hr3, trivial⟩ rfl rfl rfl rfl rfl (by decide) (fun sB mB hleB hsB hoB hcB => ?_); refine ⟨hleB, _, List.Perm.refl _, ?_⟩
 refine DO.run 5 rfl rfl (by kernel_rfl) rfl ?_
 refine OT.append tab rTree 2 (hs.mono (Mem.le_trans hleA hleB)) ho hsB rfl rfl rfl rfl rfl rfl rfl (by simp only [List.length_append, List.length_cons, List.length_nil, rTree, mkR]; omega) (fun s3 mC hleC hs3 ho3 => ?_); refine ⟨hleC, E.I k3 0 :: tok s3 4 :: .cells b2 0 [.int .i64 0, strV [], .int .i64 0, .slice none 0 0] :: L, List.Perm.refl _, ?_⟩
 refine DO.pure tab (by repeat (first|exact Calm.ret|refine Calm.then ?_)) (by kernel_rfl) [6] (by kernel_rfl) rfl ?_
 refine DO.tail ?_
 refine DOt.run 7 rfl rfl (by kernel_rfl) rfl ?_
 refine OT.storeL (k := 3) tab 0 rfl rfl rfl rfl rfl rfl rfl rfl ?_; refine DOt.perm (List.Perm.swap _ _ _) ?_
 refine DOt.nil (by kernel_rfl) ?_
 rotate_left 1
 replace hm := Mem.le_trans hm (Mem.le_trans hleB hleC)
 replace hE := hE.mono (Mem.le_trans hleB hleC)
 repeat (first|refine q1 ?_|refine q3 ?_|refine q4 tab rfl rfl ?_|refine q6 ?_)
 refine TO.step rfl (OT.takeP hT hE hk rfl rfl rfl rfl rfl rfl (fun hT hk => ?_) (fun hT => ?_))
 ·repeat (first|refine q1 ?_|refine q3 ?_|refine q4 tab rfl rfl ?_|refine q5 ?_|refine q6 ?_|refine q16 rfl ?_)
  refine TO.step rfl (OT.peekP hT hE hk rfl rfl rfl rfl rfl rfl (fun hT => ?_) (fun hT => ?_))
  ·repeat (first|refine q5 ?_|refine q6 ?_|refine q16 rfl ?_)
   refine TC.draw [7] mixed 8 rfl [.cells b3 0 [.int .i64 25, strV [], .int .i64 0, s3.v]] (E.I (k3+1) 0 :: tok s3 4 :: .cells b2 0 [.int .i64 0, strV [], .int .i64 0, .slice none 0 0] :: L) (List.Perm.swap _ _ _) ?_
   refine DO.pure tab (by repeat (first|exact Calm.ret|refine Calm.then ?_)) (by kernel_rfl) [0] (by kernel_rfl) rfl ?_
   (refine DO.loadL tab 1 0 (by repeat (first|exact Calm.ret|refine Calm.then ?_)) (by kernel_rfl) (by kernel_rfl) rfl rfl rfl rfl rfl rfl rfl rfl ?_)
   refine DO.pure tab (by repeat (first|exact Calm.ret|refine Calm.then ?_)) (by kernel_rfl) [2] (by kernel_rfl) rfl ?_
   refine DO.run 3 rfl rfl (by kernel_rfl) rfl ?_
   refine OT.perm (List.Perm.swap _ _ _) (OT.parT (L0 := L) (hZ) hm hT hn hE hk (by repeat (first|exact Bad.ret|refine Bad.then ?_)) hm (by repeat (first|exact List.Sublist.refl _|refine List.Sublist.cons _ ?_)) rfl rfl rfl rfl rfl rfl goes124 (fun x4 mA a4 k4 hT hm hE hleA hk hr4 => ?_)); refine ⟨hleA, E.I k4 0 :: tok s3 4 :: .cells b2 0 [.int .i64 0, strV [], .int .i64 0, .slice none 0 0] :: L, List.Perm.swap _ _ _, ?_⟩
   refine DO.run 4 rfl rfl (by kernel_rfl) rfl ?_
   refine OT.litR tab rTree (hs := [x4]) (l := [a4]) ⟨rTree_iff.2 hr4, trivial⟩ rfl rfl rfl rfl rfl (by decide) (fun sB mB hleB hsB hoB hcB => ?_); refine ⟨hleB, _, List.Perm.refl _, ?_⟩
   refine DO.run 5 rfl rfl (by kernel_rfl) rfl ?_
   refine OT.append tab rTree 2 (hs3.mono (Mem.le_trans hleA hleB)) ho3 hsB rfl rfl rfl rfl rfl rfl rfl (by simp only [List.length_append, List.length_cons, List.length_nil, rTree, mkR]; omega) (fun s4 mC hleC hs4 ho4 => ?_); refine ⟨hleC, E.I k4 0 :: tok s4 4 :: .cells b2 0 [.int .i64 0, strV [], .int .i64 0, .slice none 0 0] :: L, List.Perm.refl _, ?_⟩
   refine DO.pure tab (by repeat (first|exact Calm.ret|refine Calm.then ?_)) (by kernel_rfl) [6] (by kernel_rfl) rfl ?_
   refine DO.tail ?_
   refine DOt.run 7 rfl rfl (by kernel_rfl) rfl ?_
   refine OT.storeL (k := 3) tab 0 rfl rfl rfl rfl rfl rfl rfl rfl ?_; refine DOt.perm (List.Perm.swap _ _ _) ?_
   refine DOt.nil (by kernel_rfl) ?_
   rotate_left 1
   replace hm := Mem.le_trans hm (Mem.le_trans hleB hleC)
   replace hE := hE.mono (Mem.le_trans hleB hleC)
   repeat (first|refine q1 ?_|refine q3 ?_|refine q6 ?_)
   (refine qs rfl (qz tab 1 rfl rfl rfl rfl rfl rfl ?_))
   skip
   refine TO.step rfl (OT.storeL0 tab 3 rfl rfl rfl rfl rfl rfl rfl rfl ?_)
   repeat (first|refine q5 ?_|refine q6 ?_|refine q15 ?_)
   refine retQ_ret_c1 tab 3 rfl rfl rfl rfl (L' := E.I k4 0 :: L) (by repeat (first|exact List.Sublist.refl _|refine List.Sublist.cons_cons _ ?_|refine List.Sublist.cons _ ?_)) ⟨_, k4, [], hT, hm, hk, ⟨⟨25, [], 0, s4⟩, rfl, rfl, ⟨rfl, rfl, rfl, hs4⟩⟩, rfl⟩
  ·repeat (first|refine q5 ?_|refine q6 ?_|refine q17 rfl ?_)
   refine TC.draw [7] mixed 8 rfl [.cells b3 0 [.int .i64 25, strV [], .int .i64 0, s3.v]] (E.I (k3+1) 0 :: tok s3 4 :: .cells b2 0 [.int .i64 0, strV [], .int .i64 0, .slice none 0 0] :: L) (List.Perm.swap _ _ _) ?_
   refine DO.pure tab (by repeat (first|exact Calm.ret|refine Calm.then ?_)) (by kernel_rfl) [0] (by kernel_rfl) rfl ?_
   (refine DO.loadL tab 1 0 (by repeat (first|exact Calm.ret|refine Calm.then ?_)) (by kernel_rfl) (by kernel_rfl) rfl rfl rfl rfl rfl rfl rfl rfl ?_)
   refine DO.pure tab (by repeat (first|exact Calm.ret|refine Calm.then ?_)) (by kernel_rfl) [2] (by kernel_rfl) rfl ?_
   refine DO.run 3 rfl rfl (by kernel_rfl) rfl ?_
   refine OT.perm (List.Perm.swap _ _ _) (OT.parT (L0 := L) (hY) hm hT hn hE hk (by repeat (first|exact Bad.ret|refine Bad.then ?_)) hm (by repeat (first|exact List.Sublist.refl _|refine List.Sublist.cons _ ?_)) rfl rfl rfl rfl rfl rfl goes70 (fun x4 mA a4 k4 hT hm hE hleA hk hr4 => ?_)); refine ⟨hleA, E.I k4 0 :: tok s3 4 :: .cells b2 0 [.int .i64 0, strV [], .int .i64 0, .slice none 0 0] :: L, List.Perm.swap _ _ _, ?_⟩
   refine DO.run 4 rfl rfl (by kernel_rfl) rfl ?_
   refine OT.litR tab rTree (hs := [x4]) (l := [a4]) ⟨rTree_iff.2 hr4, trivial⟩ rfl rfl rfl rfl rfl (by decide) (fun sB mB hleB hsB hoB hcB => ?_); refine ⟨hleB, _, List.Perm.refl _, ?_⟩
   refine DO.run 5 rfl rfl (by kernel_rfl) rfl ?_
   refine OT.append tab rTree 2 (hs3.mono (Mem.le_trans hleA hleB)) ho3 hsB rfl rfl rfl rfl rfl rfl rfl (by simp only [List.length_append, List.length_cons, List.length_nil, rTree, mkR]; omega) (fun s4 mC hleC hs4 ho4 => ?_); refine ⟨hleC, E.I k4 0 :: tok s4 4 :: .cells b2 0 [.int .i64 0, strV [], .int .i64 0, .slice none 0 0] :: L, List.Perm.refl _, ?_⟩
   refine DO.pure tab (by repeat (first|exact Calm.ret|refine Calm.then ?_)) (by kernel_rfl) [6] (by kernel_rfl) rfl ?_
   refine DO.tail ?_
   refine DOt.run 7 rfl rfl (by kernel_rfl) rfl ?_
   refine OT.storeL (k := 3) tab 0 rfl rfl rfl rfl rfl rfl rfl rfl ?_; refine DOt.perm (List.Perm.swap _ _ _) ?_
   refine DOt.nil (by kernel_rfl) ?_
   rotate_left 1
   replace hm := Mem.le_trans hm (Mem.le_trans hleB hleC)
   replace hE := hE.mono (Mem.le_trans hleB hleC)
   repeat (first|refine q1 ?_|refine q3 ?_|refine q6 ?_)
   (refine qs rfl (qz tab 1 rfl rfl rfl rfl rfl rfl ?_))
   skip
   refine TO.step rfl (OT.storeL0 tab 3 rfl rfl rfl rfl rfl rfl rfl rfl ?_)
   repeat (first|refine q5 ?_|refine q6 ?_|refine q15 ?_)
   refine retQ_ret_c1 tab 3 rfl rfl rfl rfl (L' := E.I k4 0 :: L) (by repeat (first|exact List.Sublist.refl _|refine List.Sublist.cons_cons _ ?_|refine List.Sublist.cons _ ?_)) ⟨_, k4, [], hT, hm, hk, ⟨⟨25, [], 0, s4⟩, rfl, rfl, ⟨rfl, rfl, rfl, hs4⟩⟩, rfl⟩
 ·repeat (first|refine q1 ?_|refine q3 ?_|refine q5 ?_|refine q6 ?_|refine q13 ?_|refine q17 rfl ?_)
  (refine qs rfl (qz tab 1 rfl rfl rfl rfl rfl rfl ?_))
  skip
  refine TO.step rfl (OT.storeL0 tab 3 rfl rfl rfl rfl rfl rfl rfl rfl ?_)
  repeat (first|refine q5 ?_|refine q6 ?_|refine q15 ?_)
  refine retQ_ret_c1 tab 3 rfl rfl rfl rfl (L' := E.I k3 0 :: L) (by repeat (first|exact List.Sublist.refl _|refine List.Sublist.cons_cons _ ?_|refine List.Sublist.cons _ ?_)) ⟨_, k3, [], hT, hm, hk, ⟨⟨25, [], 0, s3⟩, rfl, rfl, ⟨rfl, rfl, rfl, hs3⟩⟩, rfl⟩
set_option maxHeartbeats 1600000 in
theorem stmt_par {X Y Z S : Ps.Pp Tree} (hX : Par Tryz.prog mb E vTree 138 [E.v] 1 X) (hY : Par Tryz.prog mb E vTree 70 [E.v] 0 Y) (hZ : Par Tryz.prog mb E vTree 124 [E.v] 0 Z)
  (hS : Par Tryz.prog mb E vTree 126 [E.v] 0 S) :
  Par Tryz.prog mb E vTree 105 [E.v] 0 (Ps.peek (Ps.isM [123]) Y (Ps.peek (Ps.isM [105, 102]) Z (Ps.tok [102, 111, 114] (Ps.forP X Y) (Ps.bind S fun s => Ps.need [59] (Ps.ret s))))) := by
 refine Par.enter Tryz.func105 rfl 42 rfl fun m L k T hm0 hE hk hT hn => ?_
 replace hX := hX.up hm0
 replace hY := hY.up hm0
 replace hZ := hZ.up hm0
 replace hS := hS.up hm0
 have hm : m ≤ m := Mem.le_refl _
 repeat (first|refine q1 ?_|refine q3 ?_)
 refine TO.step rfl (OT.alloc tab rfl rfl rfl rfl (fun b2 => ?_)); refine TO.perm (List.Perm.swap _ _ _) ?_
 repeat (first|refine q1 ?_|refine q2 ?_|refine q3 ?_|refine q4 tab rfl rfl ?_|refine q5 ?_|refine q6 ?_)
 refine TO.step rfl (OT.peekP hT hE hk rfl rfl rfl rfl rfl rfl (fun hT => ?_) (fun hT => ?_))
 ·rw [← Ps.bind_ret Y] at hT
  repeat (first|refine q1 ?_|refine q3 ?_|refine q4 tab rfl rfl ?_|refine q5 ?_|refine q6 ?_|refine q16 rfl ?_)
  refine TO.step rfl (OT.parT (L0 := L) (hY) hm hT hn hE hk (by repeat (first|exact Bad.ret|refine Bad.then ?_|refine Bad.block ?_)) hm (by repeat (first|exact List.Sublist.refl _|refine List.Sublist.cons _ ?_)) rfl rfl rfl rfl rfl rfl goes70 (fun x m2 a k2 hT hm hE hlex hk hrx => ?_))
  skip
  (refine TO.step rfl (OT.storeL0 tab 1 rfl rfl rfl rfl rfl rfl rfl rfl ?_))
  repeat (first|refine q5 ?_|refine q6 ?_|refine q8 ?_|refine q9 ?_|refine q15 ?_)
  refine retQ_ret_c1 tab 1 rfl rfl rfl rfl (L' := E.I k2 0 :: L) (by repeat (first|exact List.Sublist.refl _|refine List.Sublist.cons_cons _ ?_|refine List.Sublist.cons _ ?_)) ⟨_, k2, [], hT, hm, hk, ⟨x, rfl, rfl, hrx⟩, rfl⟩
 repeat (first|refine q1 ?_|refine q3 ?_|refine q4 tab rfl rfl ?_|refine q5 ?_|refine q6 ?_|refine q17 rfl ?_)
 refine TO.step rfl (OT.peekP hT hE hk rfl rfl rfl rfl rfl rfl (fun hT => ?_) (fun hT => ?_))
 ·rw [← Ps.bind_ret Z] at hT
  repeat (first|refine q1 ?_|refine q3 ?_|refine q4 tab rfl rfl ?_|refine q5 ?_|refine q6 ?_|refine q16 rfl ?_)
  refine TO.step rfl (OT.parT (L0 := L) (hZ) hm hT hn hE hk (by repeat (first|exact Bad.ret|refine Bad.then ?_|refine Bad.block ?_)) hm (by repeat (first|exact List.Sublist.refl _|refine List.Sublist.cons _ ?_)) rfl rfl rfl rfl rfl rfl goes124 (fun x m2 a k2 hT hm hE hlex hk hrx => ?_))
  skip
  (refine TO.step rfl (OT.storeL0 tab 1 rfl rfl rfl rfl rfl rfl rfl rfl ?_))
  repeat (first|refine q5 ?_|refine q6 ?_|refine q8 ?_|refine q9 ?_|refine q15 ?_)
  refine retQ_ret_c1 tab 1 rfl rfl rfl rfl (L' := E.I k2 0 :: L) (by repeat (first|exact List.Sublist.refl _|refine List.Sublist.cons_cons _ ?_|refine List.Sublist.cons _ ?_)) ⟨_, k2, [], hT, hm, hk, ⟨x, rfl, rfl, hrx⟩, rfl⟩
 repeat (first|refine q1 ?_|refine q3 ?_|refine q4 tab rfl rfl ?_|refine q5 ?_|refine q6 ?_|refine q17 rfl ?_)
 refine TO.step rfl (OT.takeP hT hE hk rfl rfl rfl rfl rfl rfl (fun hT hk => ?_) (fun hT => ?_))
 ·unfold Ps.forP at hT
  repeat (first|refine q1 ?_|refine q3 ?_|refine q4 tab rfl rfl ?_|refine q5 ?_|refine q6 ?_|refine q16 rfl ?_)
  refine TO.step rfl (OT.alloc tab rfl rfl rfl rfl (fun b3 => ?_)); refine TO.perm (List.Perm.swap _ _ _) ?_
  skip
  (refine TO.step rfl (OT.storeL0 tab 1 rfl rfl rfl rfl rfl rfl rfl rfl ?_))
  refine TO.grow0 (size := 4) ?_
  refine TO.perm (L' := E.I (k + 1) 0 :: .cells b3 0 [.int .i64 26, strV [], .int .i64 0, .slice none 0 0] :: tok ⟨none, 0, 0⟩ 4 :: .cells b2 0 [.int .i64 0, strV [], .int .i64 0, .slice none 0 0] :: L) (List.Perm.trans (List.Perm.swap _ _ _) (List.Perm.cons _ (List.Perm.swap _ _ _))) ?_
  obtain ⟨s, hse⟩ : ∃ s : Sl, s = ⟨none, 0, 0⟩ := ⟨_, rfl⟩
  have hs : SlRep rTree m s [] := by rw [hse]; exact SlRep.nil _ _
  have ho : Own s := by rw [hse]; exact Own.nil
  rw [show Value.slice none 0 0 = (⟨none, 0, 0⟩ : Sl).v from rfl, ← hse]
  repeat (first|refine q1 ?_|refine q3 ?_|refine q4 tab rfl rfl ?_|refine q5 ?_|refine q6 ?_)
  refine TO.step rfl (OT.peekP hT hE hk rfl rfl rfl rfl rfl rfl (fun hT => ?_) (fun hT => ?_))
  ·repeat (first|refine q1 ?_|refine q4 tab rfl rfl ?_|refine q5 ?_|refine q6 ?_|refine q13 ?_|refine q17 rfl ?_)
   refine TC.draw [7] mixed 8 rfl [.cells b3 0 [.int .i64 26, strV [], .int .i64 0, s.v]] (E.I (k+1) 0 :: tok s 4 :: .cells b2 0 [.int .i64 0, strV [], .int .i64 0, s.v] :: L) (List.Perm.swap _ _ _) ?_
   refine DO.pure tab (by repeat (first|exact Calm.ret|refine Calm.then ?_|refine Calm.block ?_)) (by kernel_rfl) [0] (by kernel_rfl) rfl ?_
   (refine DO.loadL tab 1 0 (by repeat (first|exact Calm.ret|refine Calm.then ?_|refine Calm.block ?_)) (by kernel_rfl) (by kernel_rfl) rfl rfl rfl rfl rfl rfl rfl rfl ?_)
   refine DO.pure tab (by repeat (first|exact Calm.ret|refine Calm.then ?_|refine Calm.block ?_)) (by kernel_rfl) [2] (by kernel_rfl) rfl ?_
   refine DO.run 3 rfl rfl (by kernel_rfl) rfl ?_
   refine OT.perm (List.Perm.swap _ _ _) (OT.parT (L0 := L) (hY) hm hT hn hE hk (by repeat (first|exact Bad.ret|refine Bad.then ?_|refine Bad.block ?_)) hm (by repeat (first|exact List.Sublist.refl _|refine List.Sublist.cons _ ?_)) rfl rfl rfl rfl rfl rfl goes70 (fun x4 mA a4 k4 hT hm hE hleA hk hr4 => ?_)); refine ⟨hleA, E.I k4 0 :: tok s 4 :: .cells b2 0 [.int .i64 0, strV [], .int .i64 0, s.v] :: L, List.Perm.swap _ _ _, ?_⟩
   refine DO.run 4 rfl rfl (by kernel_rfl) rfl ?_
   refine OT.litR tab rTree (hs := [x4]) (l := [a4]) ⟨rTree_iff.2 hr4, trivial⟩ rfl rfl rfl rfl rfl (by decide) (fun sB mB hleB hsB hoB hcB => ?_); refine ⟨hleB, _, List.Perm.refl _, ?_⟩
   refine DO.run 5 rfl rfl (by kernel_rfl) rfl ?_
   refine OT.append tab rTree 2 (hs.mono (Mem.le_trans hleA hleB)) ho hsB rfl rfl rfl rfl rfl rfl rfl (by simp only [List.length_append, List.length_cons, List.length_nil, rTree, mkR]; omega) (fun s4 mC hleC hs4 ho4 => ?_); refine ⟨hleC, E.I k4 0 :: tok s4 4 :: .cells b2 0 [.int .i64 0, strV [], .int .i64 0, s.v] :: L, List.Perm.refl _, ?_⟩
   refine DO.pure tab (by repeat (first|exact Calm.ret|refine Calm.then ?_|refine Calm.block ?_)) (by kernel_rfl) [6] (by kernel_rfl) rfl ?_
   refine DO.tail ?_
   refine DOt.run 7 rfl rfl (by kernel_rfl) rfl ?_
   refine OT.storeL (k := 3) tab 0 rfl rfl rfl rfl rfl rfl rfl rfl ?_; refine DOt.perm (List.Perm.swap _ _ _) ?_
   refine DOt.nil (by kernel_rfl) ?_
   rotate_left 1
   replace hm := Mem.le_trans hm (Mem.le_trans hleB hleC)
   replace hE := hE.mono (Mem.le_trans hleB hleC)
   repeat (first|refine q1 ?_|refine q3 ?_|refine q6 ?_)
   (refine qs rfl (qz tab 1 rfl rfl rfl rfl rfl rfl ?_))
   skip
   refine TO.step rfl (OT.storeL0 tab 3 rfl rfl rfl rfl rfl rfl rfl rfl ?_)
   repeat (first|refine q5 ?_|refine q6 ?_|refine q8 ?_|refine q9 ?_|refine q15 ?_)
   refine retQ_ret_c1 tab 3 rfl rfl rfl rfl (L' := E.I k4 0 :: L) (by repeat (first|exact List.Sublist.refl _|refine List.Sublist.cons_cons _ ?_|refine List.Sublist.cons _ ?_)) ⟨_, k4, [], hT, hm, hk, ⟨⟨26, [], 0, s4⟩, rfl, rfl, ⟨rfl, rfl, rfl, hs4⟩⟩, rfl⟩
  ·repeat (first|refine q4 tab rfl rfl ?_|refine q5 ?_|refine q6 ?_|refine q16 rfl ?_)
   refine TC.draw [7] mixed 8 rfl [.cells b3 0 [.int .i64 26, strV [], .int .i64 0, s.v]] (E.I (k+1) 0 :: tok s 4 :: .cells b2 0 [.int .i64 0, strV [], .int .i64 0, s.v] :: L) (List.Perm.swap _ _ _) ?_
   refine DO.pure tab (by repeat (first|exact Calm.ret|refine Calm.then ?_|refine Calm.block ?_)) (by kernel_rfl) [0] (by kernel_rfl) rfl ?_
   (refine DO.loadL tab 1 0 (by repeat (first|exact Calm.ret|refine Calm.then ?_|refine Calm.block ?_)) (by kernel_rfl) (by kernel_rfl) rfl rfl rfl rfl rfl rfl rfl rfl ?_)
   refine DO.pure tab (by repeat (first|exact Calm.ret|refine Calm.then ?_|refine Calm.block ?_)) (by kernel_rfl) [2] (by kernel_rfl) rfl ?_
   refine DO.run 3 rfl rfl (by kernel_rfl) rfl ?_
   refine OT.perm (List.Perm.swap _ _ _) (OT.parT (L0 := L) (cond_par hX) hm hT hn hE hk (by repeat (first|exact Bad.ret|refine Bad.then ?_|refine Bad.block ?_)) hm (by repeat (first|exact List.Sublist.refl _|refine List.Sublist.cons _ ?_)) rfl rfl rfl rfl rfl rfl goes125 (fun x3 mA a3 k3 hT hm hE hleA hk hr3 => ?_)); refine ⟨hleA, E.I k3 0 :: tok s 4 :: .cells b2 0 [.int .i64 0, strV [], .int .i64 0, s.v] :: L, List.Perm.swap _ _ _, ?_⟩
   refine DO.run 4 rfl rfl (by kernel_rfl) rfl ?_
   refine OT.litR tab rTree (hs := [x3]) (l := [a3]) ⟨rTree_iff.2 hr3, trivial⟩ rfl rfl rfl rfl rfl (by decide) (fun sB mB hleB hsB hoB hcB => ?_); refine ⟨hleB, _, List.Perm.refl _, ?_⟩
   refine DO.run 5 rfl rfl (by kernel_rfl) rfl ?_
   refine OT.append tab rTree 2 (hs.mono (Mem.le_trans hleA hleB)) ho hsB rfl rfl rfl rfl rfl rfl rfl (by simp only [List.length_append, List.length_cons, List.length_nil, rTree, mkR]; omega) (fun s3 mC hleC hs3 ho3 => ?_); refine ⟨hleC, E.I k3 0 :: tok s3 4 :: .cells b2 0 [.int .i64 0, strV [], .int .i64 0, s.v] :: L, List.Perm.refl _, ?_⟩
   refine DO.pure tab (by repeat (first|exact Calm.ret|refine Calm.then ?_|refine Calm.block ?_)) (by kernel_rfl) [6] (by kernel_rfl) rfl ?_
   refine DO.tail ?_
   refine DOt.run 7 rfl rfl (by kernel_rfl) rfl ?_
   refine OT.storeL (k := 3) tab 0 rfl rfl rfl rfl rfl rfl rfl rfl ?_; refine DOt.perm (List.Perm.swap _ _ _) ?_
   refine DOt.nil (by kernel_rfl) ?_
   rotate_left 1
   replace hm := Mem.le_trans hm (Mem.le_trans hleB hleC)
   replace hE := hE.mono (Mem.le_trans hleB hleC)
   repeat (first|refine q1 ?_|refine q6 ?_)
   refine TC.draw [7] mixed 8 rfl [.cells b3 0 [.int .i64 26, strV [], .int .i64 0, s3.v]] (E.I k3 0 :: tok s3 4 :: .cells b2 0 [.int .i64 0, strV [], .int .i64 0, s.v] :: L) (List.Perm.swap _ _ _) ?_
   refine DO.pure tab (by repeat (first|exact Calm.ret|refine Calm.then ?_|refine Calm.block ?_)) (by kernel_rfl) [0] (by kernel_rfl) rfl ?_
   (refine DO.loadL tab 1 0 (by repeat (first|exact Calm.ret|refine Calm.then ?_|refine Calm.block ?_)) (by kernel_rfl) (by kernel_rfl) rfl rfl rfl rfl rfl rfl rfl rfl ?_)
   refine DO.pure tab (by repeat (first|exact Calm.ret|refine Calm.then ?_|refine Calm.block ?_)) (by kernel_rfl) [2] (by kernel_rfl) rfl ?_
   refine DO.run 3 rfl rfl (by kernel_rfl) rfl ?_
   refine OT.perm (List.Perm.swap _ _ _) (OT.parT (L0 := L) (hY) hm hT hn hE hk (by repeat (first|exact Bad.ret|refine Bad.then ?_|refine Bad.block ?_)) hm (by repeat (first|exact List.Sublist.refl _|refine List.Sublist.cons _ ?_)) rfl rfl rfl rfl rfl rfl goes70 (fun x4 mA a4 k4 hT hm hE hleA hk hr4 => ?_)); refine ⟨hleA, E.I k4 0 :: tok s3 4 :: .cells b2 0 [.int .i64 0, strV [], .int .i64 0, s.v] :: L, List.Perm.swap _ _ _, ?_⟩
   refine DO.run 4 rfl rfl (by kernel_rfl) rfl ?_
   refine OT.litR tab rTree (hs := [x4]) (l := [a4]) ⟨rTree_iff.2 hr4, trivial⟩ rfl rfl rfl rfl rfl (by decide) (fun sB mB hleB hsB hoB hcB => ?_); refine ⟨hleB, _, List.Perm.refl _, ?_⟩
   refine DO.run 5 rfl rfl (by kernel_rfl) rfl ?_
   refine OT.append tab rTree 2 (hs3.mono (Mem.le_trans hleA hleB)) ho3 hsB rfl rfl rfl rfl rfl rfl rfl (by simp only [List.length_append, List.length_cons, List.length_nil, rTree, mkR]; omega) (fun s4 mC hleC hs4 ho4 => ?_); refine ⟨hleC, E.I k4 0 :: tok s4 4 :: .cells b2 0 [.int .i64 0, strV [], .int .i64 0, s.v] :: L, List.Perm.refl _, ?_⟩
   refine DO.pure tab (by repeat (first|exact Calm.ret|refine Calm.then ?_|refine Calm.block ?_)) (by kernel_rfl) [6] (by kernel_rfl) rfl ?_
   refine DO.tail ?_
   refine DOt.run 7 rfl rfl (by kernel_rfl) rfl ?_
   refine OT.storeL (k := 3) tab 0 rfl rfl rfl rfl rfl rfl rfl rfl ?_; refine DOt.perm (List.Perm.swap _ _ _) ?_
   refine DOt.nil (by kernel_rfl) ?_
   rotate_left 1
   replace hm := Mem.le_trans hm (Mem.le_trans hleB hleC)
   replace hE := hE.mono (Mem.le_trans hleB hleC)
   repeat (first|refine q1 ?_|refine q3 ?_|refine q6 ?_)
   (refine qs rfl (qz tab 1 rfl rfl rfl rfl rfl rfl ?_))
   skip
   refine TO.step rfl (OT.storeL0 tab 3 rfl rfl rfl rfl rfl rfl rfl rfl ?_)
   repeat (first|refine q5 ?_|refine q6 ?_|refine q8 ?_|refine q9 ?_|refine q15 ?_)
   refine retQ_ret_c1 tab 3 rfl rfl rfl rfl (L' := E.I k4 0 :: L) (by repeat (first|exact List.Sublist.refl _|refine List.Sublist.cons_cons _ ?_|refine List.Sublist.cons _ ?_)) ⟨_, k4, [], hT, hm, hk, ⟨⟨26, [], 0, s4⟩, rfl, rfl, ⟨rfl, rfl, rfl, hs4⟩⟩, rfl⟩
 repeat (first|refine q1 ?_|refine q3 ?_|refine q4 tab rfl rfl ?_|refine q5 ?_|refine q6 ?_|refine q7 ?_|refine q13 ?_|refine q17 rfl ?_)
 refine TO.step rfl (OT.parT (L0 := L) (hS) hm hT hn hE hk (by repeat (first|exact Bad.ret|refine Bad.then ?_)) hm (by repeat (first|exact List.Sublist.refl _|refine List.Sublist.cons _ ?_)) rfl rfl rfl rfl rfl rfl goes126 (fun x m2 a k2 hT hm hE hlex hk hrx => ?_))
 skip
 refine TO.step rfl (OT.alloc tab rfl rfl rfl rfl (fun b4 => ?_)); refine TO.perm (List.Perm.swap _ _ _) ?_
 skip
 (refine TO.step rfl (OT.storeL0 tab 1 rfl rfl rfl rfl rfl rfl rfl rfl ?_))
 repeat (first|refine q1 ?_|refine q3 ?_|refine q4 tab rfl rfl ?_|refine q5 ?_|refine q6 ?_)
 refine TO.step rfl (OT.needP (L0 := L) hT hE hk (by repeat (first|exact Bad.ret|refine Bad.then ?_)) hm (by repeat (first|exact List.Sublist.refl _|refine List.Sublist.cons _ ?_)) rfl rfl rfl rfl rfl rfl (fun hT hk => ?_))
 repeat (first|refine q1 ?_|refine q3 ?_|refine q5 ?_|refine q6 ?_)
 (refine qs rfl (qz tab 1 rfl rfl rfl rfl rfl rfl ?_))
 skip
 refine TO.step rfl (OT.storeL0 tab 2 rfl rfl rfl rfl rfl rfl rfl rfl ?_)
 repeat (first|refine q5 ?_|refine q6 ?_|refine q15 ?_)
 refine retQ_ret_c1 tab 2 rfl rfl rfl rfl (L' := E.I (k2 + 1) 0 :: L) (by repeat (first|exact List.Sublist.refl _|refine List.Sublist.cons_cons _ ?_|refine List.Sublist.cons _ ?_)) ⟨_, k2 + 1, [], hT, hm, hk, ⟨x, rfl, rfl, hrx⟩, rfl⟩
end
end Go.Sep

