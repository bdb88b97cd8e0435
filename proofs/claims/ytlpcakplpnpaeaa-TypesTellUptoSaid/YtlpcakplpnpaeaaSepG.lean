/-
  Regions that draw their order.
-/
import Derived.Test.YtlpcakplpnpaeaaSepF
import Derived.OrdersHeld
set_option linter.unusedVariables false
set_option linter.unusedSimpArgs false
namespace Go.Sep

section any
variable {P : Program} {ops : Array Oper} {Q : Exit → Act → World → Prop} {md : Region.Mode} {S : World → Prop} {T : Nat → Bool}

/-- no tail operation has come up -/
def Untouched (T : Nat → Bool) (listed : Array Bool) : Prop := ∀ t, T t = true → listed.getD t true = false

theorem Untouched.unset {T : Nat → Bool} {listed : Array Bool} {i : Nat} (hi : T i = false) (h : Untouched T (listed.setIfInBounds i true)) : Untouched T listed := fun t ht => by
  have hne : i ≠ t := fun e => by subst e; rw [hi] at ht; cases ht
  have := h t ht
  rwa [getD_set_ne true hne] at this
theorem Untouched.set {T : Nat → Bool} {listed : Array Bool} {i : Nat} (hi : T i = false) (h : Untouched T listed) : Untouched T (listed.setIfInBounds i true) := fun t ht => by
  have hne : i ≠ t := fun e => by subst e; rw [hi] at ht; cases ht
  rw [getD_set_ne true hne]
  exact h t ht

/-- whatever order is picked: behind each operation, as long as no tail operation has come up, S holds -/
def wpAnyT (P : Program) (md : Region.Mode) (ops : Array Oper) (Q : Exit → Act → World → Prop) (T : Nat → Bool) (S : World → Prop) : Nat → Array Bool → Act → World → Prop
  | 0, listed, a, w => Region.ready md ops listed = [] ∧ Q .normal a w
  | fuel + 1, listed, a, w =>
    (Region.ready md ops listed = [] → Q .normal a w) ∧
    ∀ i ∈ Region.ready md ops listed, wpOp P ops Q i (fun a' w' => (Untouched T (listed.setIfInBounds i true) → S w') ∧ wpAnyT P md ops Q T S fuel (listed.setIfInBounds i true) a' w') a w

theorem wpAny_of_T : ∀ (fuel : Nat) (listed : Array Bool) (a : Act) (w : World), wpAnyT P md ops Q T S fuel listed a w → wpAny P md ops Q fuel listed a w
  | 0, _, _, _, h => h
  | fuel + 1, _, _, _, h => ⟨h.1, fun i hi => wpOp_mono (fun a' w' h' => wpAny_of_T fuel _ a' w' h'.2) (h.2 i hi)⟩

theorem wpAnyT_strong {S' : World → Prop} (hS : ∀ w, S' w → S w) : ∀ (fuel : Nat) (listed : Array Bool) (a : Act) (w : World), wpAnyT P md ops Q T S' fuel listed a w → wpAnyT P md ops Q T S fuel listed a w
  | 0, _, _, _, h => h
  | fuel + 1, _, _, _, h => ⟨h.1, fun i hi => wpOp_mono (fun a' w' h' => ⟨fun ht => hS _ (h'.1 ht), wpAnyT_strong hS fuel _ a' w' h'.2⟩) (h.2 i hi)⟩

theorem wpAnyT_first {i : Nat} {oi : Oper} {v : Value} (hi : ops[i]? = some oi) (hsel : ∀ (j : Nat) (o : Oper) cs b, ops[j]? = some o → o.op ≠ .select cs b)
    (hQ : ∀ c a w, Q (.panic c) (a.put oi.dst v) w → Q (.panic c) a w) (hT : ∀ j oj, ops[j]? = some oj → T j = true → ∃ e ∈ oj.after, Region.binds md e = true ∧ e.on = i) (hTi : T i = false) :
    ∀ (fuel : Nat) (listed : Array Bool) (a : Act) (w : World),
      (∀ j oj, ops[j]? = some oj → j ≠ i → listed.getD j true = false → (∀ e ∈ oj.after, Region.binds md e = true → e.on ≠ i) → oi.apart ops oj = true) →
      i ∈ Region.ready md ops listed → YieldsIf P ops S oi v a → Untouched T listed → S w →
      wpAnyT P md ops Q T S fuel (listed.setIfInBounds i true) (a.put oi.dst v) w → wpAnyT P md ops Q T S (fuel + 1) listed a w := by
  intro fuel
  induction fuel with
  | zero =>
    intro listed a w _ hr hy hU hS H
    refine ⟨fun h => (by rw [h] at hr; cases hr), fun j hj => ?_⟩
    by_cases hji : j = i
    · subst hji; exact hy.wpOp hi hS ⟨fun _ => hS, H⟩
    · have := ready_mono hj hji
      rw [H.1] at this
      cases this
  | succ fuel ih =>
    intro listed a w hfree hr hy hU hS H
    refine ⟨fun h => (by rw [h] at hr; cases hr), fun j hj => ?_⟩
    by_cases hji : j = i
    · subst hji; exact hy.wpOp hi hS ⟨fun _ => hS, H⟩
    · have h1 := H.2 j (ready_mono hj hji)
      obtain ⟨hjun, oj, hoj, hall⟩ := mem_ready.1 hj
      have hnot : ∀ e ∈ oj.after, Region.binds md e = true → e.on ≠ i := fun e he hb heq => by
        have h1 := hall e he hb
        have h0 := (mem_ready.1 hr).1
        rw [heq] at h1
        rcases Nat.lt_or_ge i listed.size with h' | h'
        · simp [h'] at h0 h1; rw [h0] at h1; cases h1
        · simp [Array.getElem?_eq_none h'] at h1
      have hTj : T j = false := by
        cases ht : T j with
        | false => rfl
        | true => obtain ⟨e, he, hb, hon⟩ := hT j oj hoj ht; exact absurd hon (hnot e he hb)
      have h2 := wpOp_putIf hoj (hfree j oj hoj hji hjun hnot) (fun cs b => hsel i oi cs b hi) (fun cs b => hsel j oj cs b hoj) hQ hy h1
      have hfree' : ∀ k ok, ops[k]? = some ok → k ≠ i → (listed.setIfInBounds j true).getD k true = false →
          (∀ e ∈ ok.after, Region.binds md e = true → e.on ≠ i) → oi.apart ops ok = true := fun k ok hk hki hun hno => by
        refine hfree k ok hk hki ?_ hno
        by_cases hjk : j = k
        · subst hjk; exact hjun
        · rw [getD_set_ne true hjk] at hun; exact hun
      have hU2 := (hU.set hTi).set hTj
      refine wpOp_mono (fun a' w' h3 => ⟨fun _ => h3.2.1 hU2, ih (listed.setIfInBounds j true) a' w' hfree' (ready_mono hr (Ne.symm hji)) h3.1 (hU.set hTj) (h3.2.1 hU2) ?_⟩) h2
      rw [Array.setIfInBounds_comm _ _ hji]
      exact h3.2.2

/-- an operation that only computes may be taken first whatever the others do -/
theorem wpAnyT_firstP {i : Nat} {oi : Oper} {v : Value} (hi : ops[i]? = some oi) (hsel : ∀ (j : Nat) (o : Oper) cs b, ops[j]? = some o → o.op ≠ .select cs b)
    (hQ : ∀ c a w, Q (.panic c) (a.put oi.dst v) w → Q (.panic c) a w) (hTi : T i = false) :
    ∀ (fuel : Nat) (listed : Array Bool) (a : Act) (w : World),
      (∀ j oj, ops[j]? = some oj → j ≠ i → listed.getD j true = false → (∀ e ∈ oj.after, Region.binds md e = true → e.on ≠ i) → oi.apart ops oj = true) →
      i ∈ Region.ready md ops listed → YieldsIf P ops (fun _ => True) oi v a → (Untouched T listed → S w) →
      wpAnyT P md ops Q T S fuel (listed.setIfInBounds i true) (a.put oi.dst v) w → wpAnyT P md ops Q T S (fuel + 1) listed a w := by
  intro fuel
  induction fuel with
  | zero =>
    intro listed a w _ hr hy hS H
    refine ⟨fun h => (by rw [h] at hr; cases hr), fun j hj => ?_⟩
    by_cases hji : j = i
    · subst hji; exact hy.wpOp hi trivial ⟨fun hu => hS (hu.unset hTi), H⟩
    · have := ready_mono hj hji
      rw [H.1] at this
      cases this
  | succ fuel ih =>
    intro listed a w hfree hr hy hS H
    refine ⟨fun h => (by rw [h] at hr; cases hr), fun j hj => ?_⟩
    by_cases hji : j = i
    · subst hji; exact hy.wpOp hi trivial ⟨fun hu => hS (hu.unset hTi), H⟩
    · have h1 := H.2 j (ready_mono hj hji)
      obtain ⟨hjun, oj, hoj, hall⟩ := mem_ready.1 hj
      have hnot : ∀ e ∈ oj.after, Region.binds md e = true → e.on ≠ i := fun e he hb heq => by
        have h1 := hall e he hb
        have h0 := (mem_ready.1 hr).1
        rw [heq] at h1
        rcases Nat.lt_or_ge i listed.size with h' | h'
        · simp [h'] at h0 h1; rw [h0] at h1; cases h1
        · simp [Array.getElem?_eq_none h'] at h1
      have h2 := wpOp_putIf hoj (hfree j oj hoj hji hjun hnot) (fun cs b => hsel i oi cs b hi) (fun cs b => hsel j oj cs b hoj) hQ hy h1
      have hfree' : ∀ k ok, ops[k]? = some ok → k ≠ i → (listed.setIfInBounds j true).getD k true = false →
          (∀ e ∈ ok.after, Region.binds md e = true → e.on ≠ i) → oi.apart ops ok = true := fun k ok hk hki hun hno => by
        refine hfree k ok hk hki ?_ hno
        by_cases hjk : j = k
        · subst hjk; exact hjun
        · rw [getD_set_ne true hjk] at hun; exact hun
      have hU2 : Untouched T (listed.setIfInBounds j true) → Untouched T ((listed.setIfInBounds i true).setIfInBounds j true) := fun hu => by
        rw [Array.setIfInBounds_comm _ _ (Ne.symm hji)]; exact hu.set hTi
      refine wpOp_mono (fun a' w' h3 => ⟨fun hu => h3.2.1 (hU2 hu), ih (listed.setIfInBounds j true) a' w' hfree' (ready_mono hr (Ne.symm hji)) h3.1 (fun hu => h3.2.1 (hU2 hu)) ?_⟩) h2
      rw [Array.setIfInBounds_comm _ _ hji]
      exact h3.2.2

/-- every tail operation waits for number i directly -/
def tailB (ops : List Oper) (ts : List Nat) (i : Nat) : Bool :=
  ts.all fun t => match ops[t]? with
    | some o => o.after.any fun e => Region.binds .any e && e.on == i
    | none => false

def untouchedB (ts : List Nat) (l : List Bool) : Bool := ts.all fun t => !(l[t]?.getD true)

theorem untouchedB_spec {ts : List Nat} {l : List Bool} (h : untouchedB ts l = true) : Untouched (fun i => ts.contains i) ⟨l⟩ := fun t ht => by
  have h1 := List.all_eq_true.1 h t (by simpa using ht)
  simp only [Bool.not_eq_true'] at h1
  simpa using h1

theorem tailB_spec {ops : List Oper} {ts : List Nat} {i : Nat} (h : tailB ops ts i = true) (j : Nat) (oj : Oper) (hj : (⟨ops⟩ : Array Oper)[j]? = some oj) (ht : ts.contains j = true) : ∃ e ∈ oj.after, Region.binds .any e = true ∧ e.on = i := by
  have h1 := List.all_eq_true.1 h j (by simpa using ht)
  have hj' : ops[j]? = some oj := by simpa using hj
  rw [hj'] at h1
  simp only at h1
  obtain ⟨e, he, hb⟩ := Array.any_eq_true'.1 h1
  simp only [Bool.and_eq_true, beq_iff_eq] at hb
  exact ⟨e, he, hb.1, hb.2⟩
end any

/-- the part of the state that stays while the head of a region that draws is carried out: memory at least m, the items Ls in front -/
def Stays (m : Mem) (Ls : List Item) (w : World) : Prop := ∃ m' L', m ≤ m' ∧ St m' w (Ls ++ L')

/-- a region that draws, from a state on: 'listed' has come up -/
def DO (P : Program) (N : Nat) (ops : List Oper) (ts : List Nat) (fuel : Nat) (listed : List Bool) (ρ : Env) (D : List Deferred) (m : Mem) (Ls Lp : List Item) (Q : EPost) : Prop :=
  ∀ a w, Ok N ρ D m (Ls ++ Lp) a w → wpAnyT P .any ⟨ops⟩ (Lift N Q) (fun i => ts.contains i) (Stays m Ls) fuel ⟨listed⟩ a w

section
variable {P : Program} {N : Nat} {ρ : Env} {D : List Deferred} {m : Mem} {L Ls Lp : List Item} {Q : EPost} {ops : List Oper} {ts : List Nat} {fuel : Nat} {listed : List Bool}

theorem TC.draw {id : Nat} (ts : List Nat) (hm : P.follows .mixedOrders = true) (n : Nat) (hn : ops.length = n) (Ls Lp : List Item) (hL : L.Perm (Ls ++ Lp))
    (h : DO P N ops ts n (List.replicate n false) ρ D m Ls Lp Q) : TC P N (.region id ⟨ops⟩ true) ρ D m L Q := by
  subst hn
  intro a w ha
  refine wp_region_any hm ?_
  have ha' : Ok N ρ D m (Ls ++ Lp) a w.drew := ⟨ha.size, ha.env, ha.defers, (ha.st.perm hL).drew⟩
  have := wpAny_of_T _ _ _ _ (h a _ ha')
  have e : (Array.replicate (⟨ops⟩ : Array Oper).size false) = ⟨List.replicate ops.length false⟩ := by
    apply Array.ext'; simp
  rw [e]
  exact this

theorem TC.draw0 {id : Nat} (ts : List Nat) (hm : P.follows .mixedOrders = true) (n : Nat) (hn : ops.length = n)
    (h : DO P N ops ts n (List.replicate n false) ρ D m L [] Q) : TC P N (.region id ⟨ops⟩ true) ρ D m L Q :=
  TC.draw ts hm n hn L [] (by rw [List.append_nil]) h

/-- does the post at a panic not look at the slots? (it doesn't, if nothing panics) -/
def Calm (Q : EPost) : Prop := ∀ ch ρ D m L, ¬ Q (.panic ch) ρ D m L

theorem Calm.then {K : Env → List Deferred → Mem → List Item → Prop} (h : Calm Q) : Calm (thenQ K Q) := h
theorem Calm.block {id : Nat} (h : Calm Q) : Calm (blockQ id Q) := h
theorem Calm.ret {P : Program} {fn : Func} {R : Value → Mem → List Item → Prop} : Calm (retQ P fn R fun _ _ _ => False) := fun _ _ _ _ _ h => by obtain ⟨_, _, _, h⟩ := h; exact h

theorem DO.take {o : Oper} (i : Nat) {d : Nat} {v : Value} (hc : Calm Q) (hi : ops[i]? = some o) (hd : o.dst = some d) (hN : Nat.blt d N = true) (hg : gv ops ρ o = some true)
    (hns : Region.noSelect ⟨ops⟩ = true) (hf : Region.free .any ⟨ops⟩ ⟨listed⟩ i = true) (hr : (Region.ready .any ⟨ops⟩ ⟨listed⟩).contains i = true) (ht : tailB ops ts i = true ∧ ts.contains i = false ∧ untouchedB ts listed = true)
    (hrun : ∀ a w, Agree a ρ → Stays m Ls w → (execOp a.eval o).run P w = .ok (.value v) w)
    (h : DO P N ops ts fuel (listed.set i true) ((d, v) :: ρ) D m Ls Lp Q) : DO P N ops ts (fuel + 1) listed ρ D m Ls Lp Q := by
  intro a w ha
  have hi' : (⟨ops⟩ : Array Oper)[i]? = some o := by simpa using hi
  refine wpAnyT_first (v := v) hi' (Region.noSelect_spec hns) ?_ (fun j oj hj htj => tailB_spec ht.1 j oj hj htj) ht.2.1 fuel ⟨listed⟩ a w (Region.free_spec hi' hf) (by simpa using hr) ?_ (untouchedB_spec ht.2.2) ⟨m, Lp, m.le_refl, ha.st⟩ ?_
  · rintro c a' w' ⟨ρ', D', m', L', h1, h2⟩
    exact (hc _ _ _ _ _ h2).elim
  · exact .inl ⟨gv_wanted hg ha.env, fun w' hw' => hrun a w' ha.env hw'⟩
  · have e : (⟨listed⟩ : Array Bool).setIfInBounds i true = ⟨listed.set i true⟩ := by
      apply Array.ext'; simp
    rw [e, hd]
    exact h _ _ (ha.put hN v)

/-- one that only computes -/
theorem DO.takeP {o : Oper} (i : Nat) {d : Nat} {v : Value} (hc : Calm Q) (hi : ops[i]? = some o) (hd : o.dst = some d) (hN : Nat.blt d N = true) (hg : gv ops ρ o = some true)
    (hns : Region.noSelect ⟨ops⟩ = true) (hf : Region.free .any ⟨ops⟩ ⟨listed⟩ i = true) (hr : (Region.ready .any ⟨ops⟩ ⟨listed⟩).contains i = true) (ht : ts.contains i = false)
    (hrun : ∀ a w, Agree a ρ → (execOp a.eval o).run P w = .ok (.value v) w)
    (h : DO P N ops ts fuel (listed.set i true) ((d, v) :: ρ) D m Ls Lp Q) : DO P N ops ts (fuel + 1) listed ρ D m Ls Lp Q := by
  intro a w ha
  have hi' : (⟨ops⟩ : Array Oper)[i]? = some o := by simpa using hi
  refine wpAnyT_firstP (v := v) hi' (Region.noSelect_spec hns) ?_ ht fuel ⟨listed⟩ a w (Region.free_spec hi' hf) (by simpa using hr) ?_ (fun _ => ⟨m, Lp, m.le_refl, ha.st⟩) ?_
  · rintro c a' w' ⟨ρ', D', m', L', h1, h2⟩
    exact (hc _ _ _ _ _ h2).elim
  · exact .inl ⟨gv_wanted hg ha.env, fun w' hw' => hrun a w' ha.env⟩
  · have e : (⟨listed⟩ : Array Bool).setIfInBounds i true = ⟨listed.set i true⟩ := by
      apply Array.ext'; simp
    rw [e, hd]
    exact h _ _ (ha.put hN v)

/-- an operation that is passed over -/
theorem DO.skip {o : Oper} (i : Nat) {d : Nat} (hc : Calm Q) (hi : ops[i]? = some o) (hd : o.dst = some d) (hN : Nat.blt d N = true) (hg : gv ops ρ o = some false)
    (hns : Region.noSelect ⟨ops⟩ = true) (hf : Region.free .any ⟨ops⟩ ⟨listed⟩ i = true) (hr : (Region.ready .any ⟨ops⟩ ⟨listed⟩).contains i = true) (ht : ts.contains i = false)
    (h : DO P N ops ts fuel (listed.set i true) ((d, undef) :: ρ) D m Ls Lp Q) : DO P N ops ts (fuel + 1) listed ρ D m Ls Lp Q := by
  intro a w ha
  have hi' : (⟨ops⟩ : Array Oper)[i]? = some o := by simpa using hi
  refine wpAnyT_firstP (v := undef) hi' (Region.noSelect_spec hns) ?_ ht fuel ⟨listed⟩ a w (Region.free_spec hi' hf) (by simpa using hr) ?_ (fun _ => ⟨m, Lp, m.le_refl, ha.st⟩) ?_
  · rintro c a' w' ⟨ρ', D', m', L', h1, h2⟩
    exact (hc _ _ _ _ _ h2).elim
  · exact .inr ⟨gv_wanted hg ha.env, rfl⟩
  · have e : (⟨listed⟩ : Array Bool).setIfInBounds i true = ⟨listed.set i true⟩ := by
      apply Array.ext'; simp
    rw [e, hd]
    exact h _ _ (ha.put hN undef)

/-! many at once: operations that only compute, or are passed over -/
def orderOkP (ops : List Oper) (ts : List Nat) : List Nat → List Bool → Bool
  | [], _ => true
  | i :: is, l => Region.free .any ⟨ops⟩ ⟨l⟩ i && ((Region.ready .any ⟨ops⟩ ⟨l⟩).contains i && (!ts.contains i && orderOkP ops ts is (l.set i true)))

def orderOk (ops : List Oper) (ts : List Nat) : List Nat → List Bool → Bool
  | [], _ => true
  | i :: is, l => Region.free .any ⟨ops⟩ ⟨l⟩ i && ((Region.ready .any ⟨ops⟩ ⟨l⟩).contains i && ((tailB ops ts i && (!ts.contains i && untouchedB ts l)) && orderOk ops ts is (l.set i true)))

def listAll : List Nat → List Bool → List Bool
  | [], l => l
  | i :: is, l => listAll is (l.set i true)

def evalAll {P : Program} (T : Tab P) (N : Nat) (ops : List Oper) : List Nat → Env → Option Env
  | [], ρ => some ρ
  | i :: is, ρ => match ops[i]? with
    | some o => match gv ops ρ o, o.dst with
      | some true, some d => match evalOp T ρ o.op with
        | some v => bif Nat.blt d N then evalAll T N ops is ((d, v) :: ρ) else none
        | none => none
      | some false, some d => bif Nat.blt d N then evalAll T N ops is ((d, undef) :: ρ) else none
      | _, _ => none
    | none => none

theorem DO.pure (T : Tab P) (hc : Calm Q) (hns : Region.noSelect ⟨ops⟩ = true) : ∀ (is : List Nat) {listed : List Bool} {ρ ρ' : Env}, orderOkP ops ts is listed = true → evalAll T N ops is ρ = some ρ' →
    DO P N ops ts fuel (listAll is listed) ρ' D m Ls Lp Q → DO P N ops ts (fuel + is.length) listed ρ D m Ls Lp Q
  | [], listed, ρ, ρ', _, he, h => by
    simp only [evalAll, Option.some.injEq] at he; subst he; exact h
  | i :: is, listed, ρ, ρ', ho, he, h => by
    simp only [orderOkP, Bool.and_eq_true] at ho
    obtain ⟨o1, o2, o3, o4⟩ := ho
    unfold evalAll at he
    rw [List.length_cons, ← Nat.add_assoc]
    split at he
    · rename_i o hi
      split at he
      · rename_i d hg hd
        split at he
        · rename_i v hv
          cases hb : Nat.blt d N with
          | false => simp [hb] at he
          | true =>
            simp only [hb, cond_true] at he
            exact DO.takeP i hc hi hd hb hg hns o1 o2 (by simpa using o3) (fun a w hA => evalOp_run T hA hv w) (DO.pure T hc hns is o4 he h)
        · cases he
      · rename_i d hg hd
        cases hb : Nat.blt d N with
        | false => simp [hb] at he
        | true =>
          simp only [hb, cond_true] at he
          exact DO.skip i hc hi hd hb hg hns o1 o2 (by simpa using o3) (DO.pure T hc hns is o4 he h)
      · cases he
    · cases he

/-- loads, taken first: of an item that stays, of what is known for ever -/
theorem DO.loadL (T : Tab P) (i : Nat) (j : Nat) {x : Operand} {t : TypeId} {o : Oper} {b off k d : Nat} {cs : List Value} {v : Value} (hc : Calm Q) (hns : Region.noSelect ⟨ops⟩ = true) (hok : orderOk ops ts [i] listed = true)
    (hi : ops[i]? = some o) (hg : gv ops ρ o = some true) (ho : o.op = .load t x) (hd : o.dst = some d) (hN : Nat.blt d N = true)
    (hx : ev ρ x = some (.pointer (some ⟨b, off + k, none⟩))) (hj : Ls[j]? = some (.cells b off cs)) (hv : T.load t cs k = some v)
    (h : DO P N ops ts fuel (listed.set i true) ((d, v) :: ρ) D m Ls Lp Q) : DO P N ops ts (fuel + 1) listed ρ D m Ls Lp Q := by
  simp only [orderOk, Bool.and_eq_true] at hok
  obtain ⟨o1, o2, o3, _⟩ := hok
  refine DO.take i hc hi hd hN hg hns o1 o2 (by simpa [and_assoc] using o3) (fun a w hA hs => ?_) h
  obtain ⟨m', L', h1, h2⟩ := hs
  have hj' : (Ls ++ L')[j]? = some (.cells b off cs) := by
    rw [List.getElem?_append_left (List.getElem?_eq_some_iff.1 hj).1]; exact hj
  have := run_loadVar T (h2.cells hj') hv
  simp only [execOp, ho, hA.eval hx, Sem.run_bind, Instr.loadAt, Instr.sureAddr, Sem.run_pure, Result.andThen_ok, this]

theorem DO.loadA (T : Tab P) (i : Nat) {x : Operand} {t : TypeId} {o : Oper} {b off k d : Nat} {cs : List Value} {v : Value} (hA : At m b off cs) (hc : Calm Q) (hns : Region.noSelect ⟨ops⟩ = true) (hok : orderOk ops ts [i] listed = true)
    (hi : ops[i]? = some o) (hg : gv ops ρ o = some true) (ho : o.op = .load t x) (hd : o.dst = some d) (hN : Nat.blt d N = true)
    (hx : ev ρ x = some (.pointer (some ⟨b, off + k, none⟩))) (hv : T.load t cs k = some v)
    (h : DO P N ops ts fuel (listed.set i true) ((d, v) :: ρ) D m Ls Lp Q) : DO P N ops ts (fuel + 1) listed ρ D m Ls Lp Q := by
  simp only [orderOk, Bool.and_eq_true] at hok
  obtain ⟨o1, o2, o3, _⟩ := hok
  refine DO.take i hc hi hd hN hg hns o1 o2 (by simpa [and_assoc] using o3) (fun a w hAg hs => ?_) h
  obtain ⟨m', L', h1, h2⟩ := hs
  have := run_loadVar T (h2.at_cells (hA.mono h1)) hv
  simp only [execOp, ho, hAg.eval hx, Sem.run_bind, Instr.loadAt, Instr.sureAddr, Sem.run_pure, Result.andThen_ok, this]

/-- an index, taken first -/
theorem DO.index {H α : Type} (T : Tab P) (r : R H α) (i : Nat) {s : Sl} {l : List α} (k : Nat) {x y : Operand} {t : TypeId} {o : Oper} {d : Nat} {a : α} (hs : SlRep r m s l) (hc : Calm Q) (hns : Region.noSelect ⟨ops⟩ = true) (hok : orderOkP ops ts [i] listed = true)
    (hi : ops[i]? = some o) (hg : gv ops ρ o = some true) (ho : o.op = .indexAddr t x y) (hd : o.dst = some d) (hN : Nat.blt d N = true) (hx : ev ρ x = some s.v) {iv : Int} (hy : ev ρ y = some (.int .i64 iv)) (hik : iv = (k : Int)) (hsz : T.esize t = some r.size) (hk : l[k]? = some a)
    (h : ∀ b j hd', r.rep m hd' a → At m b j (r.enc hd') → DO P N ops ts fuel (listed.set i true) ((d, .pointer (some ⟨b, j, none⟩)) :: ρ) D m Ls Lp Q) : DO P N ops ts (fuel + 1) listed ρ D m Ls Lp Q := by
  simp only [orderOkP, Bool.and_eq_true] at hok
  obtain ⟨o1, o2, o3, _⟩ := hok
  subst hik
  obtain ⟨b, j, hd', h1, h2, h3⟩ := hs.elem hk
  have hlt : k < s.len := by rw [hs.len]; exact (List.getElem?_eq_some_iff.1 hk).1
  refine DO.takeP i hc hi hd hN hg hns o1 o2 (by simpa using o3) (fun ac w hA => ?_) (h b (j + k * r.size) hd' h2 h3)
  have hx' := hA.eval hx
  simp only [Sl.v, h1] at hx'
  have := run_indexAddr (P := P) T (n := 0) (len := s.len) (cap := s.cap) (ad := ⟨b, j, none⟩) (k := .i64) (w := w) hsz (Int.natCast_nonneg k) (by omega : (k : Int) < s.len)
  rw [addr_add, Int.toNat_natCast] at this
  simp only [execOp, ho, hx', hA.eval hy, Sem.run_bind, this, Result.andThen_ok, Sem.run_pure]

theorem DO.indexP (T : Tab P) (i : Nat) (k : Nat) {x y : Operand} {t : TypeId} {o : Oper} {d b j n c sz : Nat} (hc : Calm Q) (hns : Region.noSelect ⟨ops⟩ = true) (hok : orderOkP ops ts [i] listed = true)
    (hi : ops[i]? = some o) (hg : gv ops ρ o = some true) (ho : o.op = .indexAddr t x y) (hd : o.dst = some d) (hN : Nat.blt d N = true) (hx : ev ρ x = some (.slice (some ⟨b, j, none⟩) n c)) {iv : Int} (hy : ev ρ y = some (.int .i64 iv)) (hik : iv = (k : Int)) (hsz : T.esize t = some sz) (hk : k < n)
    (h : DO P N ops ts fuel (listed.set i true) ((d, .pointer (some ⟨b, j + k * sz, none⟩)) :: ρ) D m Ls Lp Q) : DO P N ops ts (fuel + 1) listed ρ D m Ls Lp Q := by
  simp only [orderOkP, Bool.and_eq_true] at hok
  obtain ⟨o1, o2, o3, _⟩ := hok
  subst hik
  refine DO.takeP i hc hi hd hN hg hns o1 o2 (by simpa using o3) (fun ac w hA => ?_) h
  have := run_indexAddr (P := P) T (n := 0) (cap := c) (ad := ⟨b, j, none⟩) (k := .i64) (w := w) hsz (Int.natCast_nonneg k) (by omega : (k : Int) < n)
  rw [addr_add, Int.toNat_natCast] at this
  simp only [execOp, ho, hA.eval hx, hA.eval hy, Sem.run_bind, this, Result.andThen_ok, Sem.run_pure]

theorem DO.arith (i : Nat) {op : BinOp} {t t' : TypeId} {x y : Operand} {o : Oper} {d : Nat} {a b r r' : Int} (hc : Calm Q) (hns : Region.noSelect ⟨ops⟩ = true) (hok : orderOkP ops ts [i] listed = true)
    (hi : ops[i]? = some o) (hg : gv ops ρ o = some true) (ho : o.op = .binOp op t x y t') (hd : o.dst = some d) (hN : Nat.blt d N = true)
    (hx : ev ρ x = some (.int .i64 a)) (hy : ev ρ y = some (.int .i64 b)) (hr : Sep.arith op a b = some r) (he : r = r') (h1 : -9223372036854775808 ≤ r' ∧ r' ≤ 9223372036854775807)
    (h : DO P N ops ts fuel (listed.set i true) ((d, .int .i64 r') :: ρ) D m Ls Lp Q) : DO P N ops ts (fuel + 1) listed ρ D m Ls Lp Q := by
  simp only [orderOkP, Bool.and_eq_true] at hok
  obtain ⟨o1, o2, o3, _⟩ := hok
  subst he
  refine DO.takeP i hc hi hd hN hg hns o1 o2 (by simpa using o3) (fun ac w hA => ?_) h
  have hw := wrap64_in h1.1 h1.2
  cases op <;> simp only [Sep.arith, Option.some.injEq] at hr <;> first | (cases hr; done) | (subst hr; simp [execOp, ho, hA.eval hx, hA.eval hy, eqGuard, binOp, Op.intArith, hw])

/-- the cases of a guard that is not known -/
theorem DO.split {d : Nat} {b : Bool} (hl : look ρ d = some (.bool b))
    (h1 : b = true → DO P N ops ts fuel listed ((d, .bool true) :: ρ) D m Ls Lp Q) (h2 : b = false → DO P N ops ts fuel listed ((d, .bool false) :: ρ) D m Ls Lp Q) : DO P N ops ts fuel listed ρ D m Ls Lp Q := by
  intro a w ha
  cases b with
  | true => exact h1 rfl a w (ha.setKnown hl)
  | false => exact h2 rfl a w (ha.setKnown hl)
theorem DO.splitP {d : Nat} {p : Prop} [Decidable p] (hl : look ρ d = some (.bool (decide p)))
    (h1 : p → DO P N ops ts fuel listed ((d, .bool true) :: ρ) D m Ls Lp Q) (h2 : ¬ p → DO P N ops ts fuel listed ((d, .bool false) :: ρ) D m Ls Lp Q) : DO P N ops ts fuel listed ρ D m Ls Lp Q :=
  DO.split hl (fun h => h1 (of_decide_eq_true h)) (fun h => h2 (of_decide_eq_false h))
theorem DO.splitN {d : Nat} {p : Prop} [Decidable p] (hl : look ρ d = some (.bool (!decide p)))
    (h1 : ¬ p → DO P N ops ts fuel listed ((d, .bool true) :: ρ) D m Ls Lp Q) (h2 : p → DO P N ops ts fuel listed ((d, .bool false) :: ρ) D m Ls Lp Q) : DO P N ops ts fuel listed ρ D m Ls Lp Q :=
  DO.split hl (fun h => h1 (by simpa using h)) (fun h => h2 (by simpa using h))

/-- an operation that does something, the only one that may come up -/
theorem DO.run {o : Oper} (i : Nat) (hi : ops[i]? = some o) (hg : gv ops ρ o = some true) (hr : Region.ready .any ⟨ops⟩ ⟨listed⟩ = [i]) (ht : ts.contains i = false)
    (h : OT P N o ρ D m (Ls ++ Lp) Q (fun ρ' m' L' => m ≤ m' ∧ ∃ Lp', L'.Perm (Ls ++ Lp') ∧ DO P N ops ts fuel (listed.set i true) ρ' D m' Ls Lp' Q)) : DO P N ops ts (fuel + 1) listed ρ D m Ls Lp Q := by
  intro a w ha
  refine ⟨fun h0 => (by rw [hr] at h0; cases h0), fun j hj => ?_⟩
  rw [hr, List.mem_singleton] at hj
  subst hj
  have hi' : (⟨ops⟩ : Array Oper)[j]? = some o := by simpa using hi
  have e : (⟨listed⟩ : Array Bool).setIfInBounds j true = ⟨listed.set j true⟩ := by
    apply Array.ext'; simp
  unfold wpOp
  simp only [hi', gv_wanted hg ha.env, if_true]
  refine .inl (Oper.wp_mono ?_ (h a w ha))
  rintro a' w' ⟨ρ', m', L', h1, h2, Lp', h3, h4⟩
  have h5 : Ok N ρ' D m' (Ls ++ Lp') a' w' := h1.perm h3
  refine ⟨fun _ => ⟨m', Lp', h2, h5.st⟩, ?_⟩
  rw [e]
  refine wpAnyT_strong ?_ _ _ _ _ (h4 a' w' h5)
  rintro w2 ⟨m2, L2, g1, g2⟩
  exact ⟨m2, L2, Mem.le_trans h2 g1, g2⟩

/-- the tail: its operations come up one by one -/
def DOt (P : Program) (N : Nat) (ops : List Oper) (ts : List Nat) (fuel : Nat) (listed : List Bool) (ρ : Env) (D : List Deferred) (m : Mem) (L : List Item) (Q : EPost) : Prop :=
  ∀ a w, Ok N ρ D m L a w → wpAnyT P .any ⟨ops⟩ (Lift N Q) (fun i => ts.contains i) (fun _ => False) fuel ⟨listed⟩ a w

theorem DOt.run {o : Oper} (i : Nat) (hi : ops[i]? = some o) (hg : gv ops ρ o = some true) (hr : Region.ready .any ⟨ops⟩ ⟨listed⟩ = [i]) (ht : ts.contains i = true)
    (h : OT P N o ρ D m L Q (fun ρ' m' L' => DOt P N ops ts fuel (listed.set i true) ρ' D m' L' Q)) : DOt P N ops ts (fuel + 1) listed ρ D m L Q := by
  intro a w ha
  refine ⟨fun h0 => (by rw [hr] at h0; cases h0), fun j hj => ?_⟩
  rw [hr, List.mem_singleton] at hj
  subst hj
  have hi' : (⟨ops⟩ : Array Oper)[j]? = some o := by simpa using hi
  have e : (⟨listed⟩ : Array Bool).setIfInBounds j true = ⟨listed.set j true⟩ := by
    apply Array.ext'; simp
  unfold wpOp
  simp only [hi', gv_wanted hg ha.env, if_true]
  refine .inl (Oper.wp_mono ?_ (h a w ha))
  rintro a' w' ⟨ρ', m', L', h1, h2⟩
  refine ⟨fun hf => ?_, (by rw [e]; exact h2 a' w' h1)⟩
  have h3 := hf j ht
  rw [e] at h3
  have hlt : j < (listed.set j true).length ∨ ¬ j < (listed.set j true).length := Decidable.em _
  rcases hlt with hlt | hlt
  · have hlt' : j < listed.length := by simpa using hlt
    simp [hlt'] at h3
  · have hlt' : ¬ j < listed.length := by simpa using hlt
    simp [hlt'] at h3

theorem DOt.nil (hr : Region.ready .any ⟨ops⟩ ⟨listed⟩ = []) (h : Q .normal ρ D m L) : DOt P N ops ts fuel listed ρ D m L Q := by
  intro a w ha
  have hq : Lift N Q .normal a w := ⟨ρ, D, m, L, ha, h⟩
  cases fuel with
  | zero => exact ⟨hr, hq⟩
  | succ n => exact ⟨fun _ => hq, by rw [hr]; simp⟩

theorem DO.tail (h : DOt P N ops ts fuel listed ρ D m (Ls ++ Lp) Q) : DO P N ops ts fuel listed ρ D m Ls Lp Q := fun a w ha =>
  wpAnyT_strong (fun _ hf => hf.elim) _ _ _ _ (h a w ha)

theorem DO.nil0 (hr : Region.ready .any ⟨ops⟩ ⟨listed⟩ = []) (h : Q .normal ρ D m Ls) : DO P N ops ts fuel listed ρ D m Ls [] Q := by
  intro a w ha
  rw [List.append_nil] at ha
  have hq : Lift N Q .normal a w := ⟨ρ, D, m, Ls, ha, h⟩
  cases fuel with
  | zero => exact ⟨hr, hq⟩
  | succ n => exact ⟨fun _ => hq, by rw [hr]; simp⟩

theorem DO.nil (hr : Region.ready .any ⟨ops⟩ ⟨listed⟩ = []) (h : Q .normal ρ D m (Ls ++ Lp)) : DO P N ops ts fuel listed ρ D m Ls Lp Q := by
  intro a w ha
  have hq : Lift N Q .normal a w := ⟨ρ, D, m, Ls ++ Lp, ha, h⟩
  cases fuel with
  | zero => exact ⟨hr, hq⟩
  | succ n => exact ⟨fun _ => hq, by rw [hr]; simp⟩
end
end Go.Sep
