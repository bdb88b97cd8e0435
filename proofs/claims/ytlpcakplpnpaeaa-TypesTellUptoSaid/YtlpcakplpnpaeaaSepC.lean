/-
  The judgements: TC (code), TO (a region in the text's order), OT (one operation), TCallX (calls), and their rules.
-/
import Derived.Test.YtlpcakplpnpaeaaSepB
set_option linter.unusedVariables false
set_option linter.unusedSimpArgs false
namespace Go.Sep

abbrev EPost := Exit → Env → List Deferred → Mem → List Item → Prop

structure Ok (N : Nat) (ρ : Env) (D : List Deferred) (m : Mem) (L : List Item) (a : Act) (w : World) : Prop where
  size : N ≤ a.tmps.size
  env : Agree a ρ
  defers : a.defers = D
  st : St m w L

def Lift (N : Nat) (Q : EPost) : Exit → Act → World → Prop := fun e a w => ∃ ρ D m L, Ok N ρ D m L a w ∧ Q e ρ D m L

def TC (P : Program) (N : Nat) (c : Code) (ρ : Env) (D : List Deferred) (m : Mem) (L : List Item) (Q : EPost) : Prop :=
  ∀ a w, Ok N ρ D m L a w → c.wp P (Lift N Q) a w

def TO (P : Program) (N : Nat) (ops : Array Oper) (l : List Oper) (ρ : Env) (D : List Deferred) (m : Mem) (L : List Item) (Q : EPost) : Prop :=
  ∀ a w, Ok N ρ D m L a w → wpList P ops (Lift N Q) l a w

/-- one operation: K of what comes of it; Q at a panic -/
def OT (P : Program) (N : Nat) (o : Oper) (ρ : Env) (D : List Deferred) (m : Mem) (L : List Item) (Q : EPost) (K : Env → Mem → List Item → Prop) : Prop :=
  ∀ a w, Ok N ρ D m L a w → o.wp P a w (fun a' w' => ∃ ρ' m' L', Ok N ρ' D m' L' a' w' ∧ K ρ' m' L') (Lift N Q)

def TCallX (P : Program) (f : FuncId) (args : Array Value) (m : Mem) (L : List Item) (R : Value → Mem → List Item → Prop) (X : List PanicEntry → Mem → List Item → Prop) : Prop :=
  ∀ w, St m w L → Calls P f args w fun
    | .returned v, w' => ∃ m' L', St m' w' L' ∧ R v m' L'
    | .panicked ch, w' => ∃ m' L', St m' w' L' ∧ X ch m' L'
    | .outgrown, _ => False

def TCall (P : Program) (f : FuncId) (args : Array Value) (m : Mem) (L : List Item) (R : Value → Mem → List Item → Prop) : Prop :=
  TCallX P f args m L R fun _ _ _ => False

@[reducible] def Ret (v : Value) (m : Mem) (L : List Item) : Value → Mem → List Item → Prop := fun r m' L' => m = m' ∧ L = L' ∧ r = v

theorem TCallX.mono {P : Program} {f : FuncId} {args : Array Value} {m : Mem} {L : List Item} {R R' : Value → Mem → List Item → Prop} {X X' : List PanicEntry → Mem → List Item → Prop}
    (h : TCallX P f args m L R X) (hr : ∀ v m' L', R v m' L' → R' v m' L') (hx : ∀ ch m' L', X ch m' L' → X' ch m' L') : TCallX P f args m L R' X' :=
  fun w hs => (h w hs).mono fun e w' he => by
    cases e with
    | returned v => obtain ⟨m', L', h1, h2⟩ := he; exact ⟨m', L', h1, hr _ _ _ h2⟩
    | panicked ch => obtain ⟨m', L', h1, h2⟩ := he; exact ⟨m', L', h1, hx _ _ _ h2⟩
    | outgrown => exact he

theorem TCall.mono {P : Program} {f : FuncId} {args : Array Value} {m : Mem} {L : List Item} {R R' : Value → Mem → List Item → Prop}
    (h : TCall P f args m L R) (hr : ∀ v m' L', R v m' L' → R' v m' L') : TCall P f args m L R' := TCallX.mono h hr fun _ _ _ h => h

theorem TCall.x {P : Program} {f : FuncId} {args : Array Value} {m : Mem} {L : List Item} {R R' : Value → Mem → List Item → Prop} {X : List PanicEntry → Mem → List Item → Prop}
    (h : TCall P f args m L R) (hr : ∀ v m' L', R v m' L' → R' v m' L') : TCallX P f args m L R' X := TCallX.mono h hr fun _ _ _ h => h.elim

/-! ### code -/
section code
variable {P : Program} {N : Nat} {ρ : Env} {D : List Deferred} {m : Mem} {L : List Item} {Q : EPost}

theorem Lift.mono {Q Q' : EPost} (h : ∀ e ρ D m L, Q e ρ D m L → Q' e ρ D m L) {e : Exit} {a : Act} {w : World} (hl : Lift N Q e a w) : Lift N Q' e a w := by
  obtain ⟨ρ, D, m, L, h1, h2⟩ := hl
  exact ⟨ρ, D, m, L, h1, h _ _ _ _ _ h2⟩

theorem TC.mono {c : Code} {Q' : EPost} (h : TC P N c ρ D m L Q') (hq : ∀ e ρ D m L, Q' e ρ D m L → Q e ρ D m L) : TC P N c ρ D m L Q :=
  fun a w ha => wp_mono (h a w ha) fun _ _ _ => Lift.mono hq

def thenQ (K : Env → List Deferred → Mem → List Item → Prop) (Q : EPost) : EPost
  | .normal, ρ, D, m, L => K ρ D m L
  | e, ρ, D, m, L => Q e ρ D m L

def blockQ (id : Nat) (Q : EPost) : EPost
  | .exit i, ρ, D, m, L => if i = id then Q .normal ρ D m L else Q (.exit i) ρ D m L
  | e, ρ, D, m, L => Q e ρ D m L

theorem thenQ_n {K : Env → List Deferred → Mem → List Item → Prop} (h : K ρ D m L) : thenQ K Q .normal ρ D m L := h
theorem thenQ_x {K : Env → List Deferred → Mem → List Item → Prop} {i : Nat} (h : Q (.exit i) ρ D m L) : thenQ K Q (.exit i) ρ D m L := h
theorem thenQ_r {K : Env → List Deferred → Mem → List Item → Prop} (h : Q .ret ρ D m L) : thenQ K Q .ret ρ D m L := h
theorem thenQ_g {K : Env → List Deferred → Mem → List Item → Prop} {i : Nat} (h : Q (.goto i) ρ D m L) : thenQ K Q (.goto i) ρ D m L := h
theorem thenQ_p {K : Env → List Deferred → Mem → List Item → Prop} {ch : List PanicEntry} (h : Q (.panic ch) ρ D m L) : thenQ K Q (.panic ch) ρ D m L := h
theorem blockQ_n {id : Nat} (h : Q .normal ρ D m L) : blockQ id Q .normal ρ D m L := h
theorem blockQ_r {id : Nat} (h : Q .ret ρ D m L) : blockQ id Q .ret ρ D m L := h
theorem blockQ_g {id i : Nat} (h : Q (.goto i) ρ D m L) : blockQ id Q (.goto i) ρ D m L := h
theorem blockQ_p {id : Nat} {ch : List PanicEntry} (h : Q (.panic ch) ρ D m L) : blockQ id Q (.panic ch) ρ D m L := h
theorem blockQ_hit {id : Nat} (h : Q .normal ρ D m L) : blockQ id Q (.exit id) ρ D m L := by simpa [blockQ] using h
theorem blockQ_miss {id i : Nat} (hi : Nat.beq i id = false) (h : Q (.exit i) ρ D m L) : blockQ id Q (.exit i) ρ D m L := by
  have := Nat.ne_of_beq_eq_false hi
  simpa [blockQ, this] using h

theorem TC.skip (h : Q .normal ρ D m L) : TC P N .skip ρ D m L Q := fun _ _ ha => wp_skip ⟨ρ, D, m, L, ha, h⟩
theorem TC.label {l : Nat} (h : Q .normal ρ D m L) : TC P N (.label l) ρ D m L Q := fun _ _ ha => wp_label ⟨ρ, D, m, L, ha, h⟩
theorem TC.exit {id : Nat} (h : Q (.exit id) ρ D m L) : TC P N (.exit id) ρ D m L Q := fun _ _ ha => wp_exit ⟨ρ, D, m, L, ha, h⟩
theorem TC.goto {l : Nat} (h : Q (.goto l) ρ D m L) : TC P N (.goto l) ρ D m L Q := fun _ _ ha => wp_goto ⟨ρ, D, m, L, ha, h⟩
theorem TC.ret (h : Q .ret ρ D m L) : TC P N .ret ρ D m L Q := fun _ _ ha => wp_ret ⟨ρ, D, m, L, ha, h⟩

theorem TC.seq {x y : Code} (h : TC P N x ρ D m L (thenQ (fun ρ D m L => TC P N y ρ D m L Q) Q)) : TC P N (.seq x y) ρ D m L Q :=
  fun a w ha => wp_seq (wp_mono (h a w ha) fun e a' w' hl => by
    obtain ⟨ρ', D', m', L', h1, h2⟩ := hl
    cases e with
    | normal => exact (show TC P N y ρ' D' m' L' Q from h2) _ _ h1
    | _ => exact ⟨ρ', D', m', L', h1, h2⟩)

theorem TC.block {id : Nat} {c : Code} (h : TC P N c ρ D m L (blockQ id Q)) : TC P N (.block id c) ρ D m L Q :=
  fun a w ha => wp_block (wp_mono (h a w ha) fun e a' w' hl => by
    obtain ⟨ρ', D', m', L', h1, h2⟩ := hl
    cases e with
    | exit i =>
      simp only [Exit.inBlock]
      split
      · rename_i hi; subst hi
        exact ⟨ρ', D', m', L', h1, by simpa [blockQ] using h2⟩
      · rename_i hi
        exact ⟨ρ', D', m', L', h1, by simpa [blockQ, hi] using h2⟩
    | _ => exact ⟨ρ', D', m', L', h1, h2⟩)

theorem TC.cond {c : Operand} {x y : Code} {t : Bool} (hc : ev ρ c = some (.bool t)) (h1 : t = true → TC P N x ρ D m L Q) (h2 : t = false → TC P N y ρ D m L Q) : TC P N (.cond c x y) ρ D m L Q :=
  fun a w ha => wp_cond_split (ha.env.eval hc) (fun h => h1 h a w ha) (fun h => h2 h a w ha)
theorem TC.cond_t {c : Operand} {x y : Code} (hc : ev ρ c = some (.bool true)) (h1 : TC P N x ρ D m L Q) : TC P N (.cond c x y) ρ D m L Q := TC.cond hc (fun _ => h1) (fun h => by cases h)
theorem TC.cond_f {c : Operand} {x y : Code} (hc : ev ρ c = some (.bool false)) (h2 : TC P N y ρ D m L Q) : TC P N (.cond c x y) ρ D m L Q := TC.cond hc (fun h => by cases h) (fun _ => h2)

theorem TC.condP {c : Operand} {x y : Code} {p : Prop} [Decidable p] (hc : ev ρ c = some (.bool (decide p))) (h1 : p → TC P N x ρ D m L Q) (h2 : ¬ p → TC P N y ρ D m L Q) : TC P N (.cond c x y) ρ D m L Q :=
  TC.cond hc (fun h => h1 (of_decide_eq_true h)) (fun h => h2 (of_decide_eq_false h))
theorem TC.condN {c : Operand} {x y : Code} {p : Prop} [Decidable p] (hc : ev ρ c = some (.bool (!decide p))) (h1 : ¬ p → TC P N x ρ D m L Q) (h2 : p → TC P N y ρ D m L Q) : TC P N (.cond c x y) ρ D m L Q :=
  TC.cond hc (fun h => h1 (by simpa using h)) (fun h => h2 (by simpa using h))

theorem TC.region {id : Nat} {l : List Oper} (h : TO P N ⟨l⟩ l ρ D m L Q) : TC P N (.region id ⟨l⟩ false) ρ D m L Q :=
  fun a w ha => wp_region_lit (l := l) (h a w ha)

def Sub (ρ ρ' : Env) : Prop := ∀ i v, look ρ' i = some v → look ρ i = some v
theorem Ok.sub {ρ' : Env} {a : Act} {w : World} (h : Ok N ρ D m L a w) (hs : Sub ρ ρ') : Ok N ρ' D m L a w := ⟨h.size, fun i v hv => h.env i v (hs i v hv), h.defers, h.st⟩
theorem Ok.sublist {L' : List Item} {a : Act} {w : World} (h : Ok N ρ D m L a w) (hs : L'.Sublist L) : Ok N ρ D m L' a w := ⟨h.size, h.env, h.defers, h.st.sub hs⟩
theorem Ok.perm {L' : List Item} {a : Act} {w : World} (h : Ok N ρ D m L a w) (hs : L.Perm L') : Ok N ρ D m L' a w := ⟨h.size, h.env, h.defers, h.st.perm hs⟩

def pickEnv (ρ : Env) : List Nat → Option Env
  | [] => some []
  | k :: ks => match fo (look ρ k), pickEnv ρ ks with
    | some v, some r => some ((k, v) :: r)
    | _, _ => none

theorem pickEnv_sub {ρ : Env} : ∀ {ks : List Nat} {ρ' : Env}, pickEnv ρ ks = some ρ' → Sub ρ ρ'
  | [], ρ', h => by simp only [pickEnv, Option.some.injEq] at h; subst h; intro i v hv; cases hv
  | k :: ks, ρ', h => by
    simp only [pickEnv, fo_eq] at h
    split at h
    · rename_i v r h1 h2
      simp only [Option.some.injEq] at h
      subst h
      intro i u hu
      simp only [look] at hu
      cases hb : Nat.beq k i with
      | true =>
        have : k = i := Nat.eq_of_beq_eq_true hb
        subst this
        simp only [hb, cond_true] at hu
        rw [h1]; exact hu
      | false =>
        simp only [hb, cond_false] at hu
        exact pickEnv_sub h2 i u hu
    · cases h

theorem TC.keep (ks : List Nat) {c : Code} {ρ' : Env} (hk : pickEnv ρ ks = some ρ') (h : TC P N c ρ' D m L Q) : TC P N c ρ D m L Q :=
  fun a w ha => h a w (ha.sub (pickEnv_sub hk))
theorem TC.drop {c : Code} {L' : List Item} (hs : L'.Sublist L) (h : TC P N c ρ D m L' Q) : TC P N c ρ D m L Q := fun a w ha => h a w (ha.sublist hs)
theorem TC.perm {c : Code} {L' : List Item} (hs : L.Perm L') (h : TC P N c ρ D m L' Q) : TC P N c ρ D m L Q := fun a w ha => h a w (ha.perm hs)

/-- a state's slots hold what a list says -/
def Has (ρ : Env) : Env → Prop
  | [] => True
  | (i, v) :: r => look ρ i = some v ∧ Has ρ r

theorem Has.sub {ρ : Env} : ∀ {ρ' : Env}, Has ρ ρ' → Sub ρ ρ'
  | [], _ => fun i v hv => by cases hv
  | (k, u) :: r, h => fun i v hv => by
    simp only [look] at hv
    cases hb : Nat.beq k i with
    | true =>
      have : k = i := Nat.eq_of_beq_eq_true hb
      subst this
      simp only [hb, cond_true] at hv
      rw [h.1]; exact hv
    | false =>
      simp only [hb, cond_false] at hv
      exact h.2.sub i v hv

theorem wp_loop_n {c : Code} {Q : Exit → Act → World → Prop} (I : Nat → Act → World → Prop)
    (round : ∀ n a w, I n a w → c.wp P (Exit.then (fun a' w' => ∃ n', n' < n ∧ I n' a' w') Q) a w) {n : Nat} {a : Act} {w : World} (h₀ : I n a w) : (Code.loop c).wp P Q a w := by
  intro b k cs
  have key : ∀ n a w, I n a w →
      ∃ e a' w', Q e a' w' ∧ Arrives P (lone (b.at a (.code c :: .inLoop c :: k)) cs w) b k cs e a' w' := by
    intro n
    induction n using Nat.strongRecOn with
    | _ n ih =>
      intro a w hI
      obtain ⟨e, a₁, w₁, hq, harr⟩ := round n a w hI b (.inLoop c :: k) cs
      cases e with
      | normal =>
        obtain ⟨n', hlt, hI₁⟩ := hq
        obtain ⟨e₂, a₂, w₂, hq₂, harr₂⟩ := ih n' hlt a₁ w₁ hI₁
        exact ⟨e₂, a₂, w₂, hq₂, .of_steps (Steps.trans harr (.one step_inLoop)) harr₂⟩
      | exit id => exact ⟨_, a₁, w₁, hq, .pass (x := .inLoop c) rfl (fun _ _ => .inl (by simp)) harr⟩
      | goto l => exact ⟨_, a₁, w₁, hq, .pass (x := .inLoop c) rfl (fun _ _ => .inl (by simp)) harr⟩
      | ret => exact ⟨_, a₁, w₁, hq, .pass (x := .inLoop c) rfl (fun _ _ => .inl (by simp)) harr⟩
      | panic ch => exact ⟨_, a₁, w₁, hq, .pass (x := .inLoop c) rfl (fun _ _ => .inl (by simp)) harr⟩
      | outgrown => exact ⟨_, a₁, w₁, hq, .pass (x := .inLoop c) rfl (fun _ _ => .inl (by simp)) harr⟩
  obtain ⟨e, a', w', hq, harr⟩ := key _ a w h₀
  exact ⟨e, a', w', hq, .of_steps (.one step_loop) harr⟩

/-- A LOOP: a family of states (slots, memory, items), a condition on the family's index, a measure. -/
theorem TC.loop {ι : Type} {body : Code} (sρ : ι → Env) (sm : ι → Mem) (sL : ι → List Item) (I : ι → Prop) (μ : ι → Nat) (x0 : ι)
    (h0 : Has ρ (sρ x0)) (hm0 : m = sm x0) (hL0 : (sL x0).Sublist L) (hI0 : I x0)
    (round : ∀ x, I x → TC P N body (sρ x) D (sm x) (sL x) (thenQ (fun ρ' D' m' L' => ∃ x', Has ρ' (sρ x') ∧ D' = D ∧ m' = sm x' ∧ (sL x').Sublist L' ∧ I x' ∧ μ x' < μ x) Q)) :
    TC P N (.loop body) ρ D m L Q := by
  intro a w ha
  refine wp_loop_n (fun n a w => ∃ x, Ok N (sρ x) D (sm x) (sL x) a w ∧ I x ∧ μ x = n) ?_ (n := μ x0) ⟨x0, ?_, hI0, rfl⟩
  · rintro n a w ⟨x, hx, hI, rfl⟩
    refine wp_mono (round x hI a w hx) fun e a' w' hl => ?_
    obtain ⟨ρ', D', m', L', h1, h2⟩ := hl
    cases e with
    | normal =>
      obtain ⟨x', k1, k2, k3, k4, k5, k6⟩ := h2
      subst k2; subst k3
      exact ⟨μ x', k6, x', (h1.sub k1.sub).sublist k4, k5, rfl⟩
    | _ => exact ⟨ρ', D', m', L', h1, h2⟩
  · subst hm0
    exact (ha.sub h0.sub).sublist hL0

theorem Has.append {ρ : Env} : ∀ {a b : Env}, Has ρ a → Has ρ b → Has ρ (a ++ b)
  | [], _, _, h => h
  | (_, _) :: _, _, h1, h2 => ⟨h1.1, Has.append h1.2 h2⟩
theorem pickEnv_has {ρ : Env} : ∀ {ks : List Nat} {ρ' : Env}, pickEnv ρ ks = some ρ' → Has ρ ρ'
  | [], ρ', h => by simp only [pickEnv, Option.some.injEq] at h; subst h; trivial
  | k :: ks, ρ', h => by
    simp only [pickEnv, fo_eq] at h
    split at h
    · rename_i v r h1 h2
      simp only [Option.some.injEq] at h
      subst h
      exact ⟨h1, pickEnv_has h2⟩
    · cases h

/-- a loop; the slots 'ks' stay as they are -/
theorem TC.loopK {ι : Type} {body : Code} (ks : List Nat) {ρc : Env} (hk : pickEnv ρ ks = some ρc) (sρ : ι → Env) (sm : ι → Mem) (sL : ι → List Item) (I : ι → Prop) (μ : ι → Nat) (x0 : ι)
    (h0 : Has ρ (sρ x0)) (hm0 : m = sm x0) (hL0 : (sL x0).Sublist L) (hI0 : I x0)
    (round : ∀ x, I x → TC P N body (sρ x ++ ρc) D (sm x) (sL x) (thenQ (fun ρ' D' m' L' => ∃ x', Has ρ' (sρ x') ∧ Has ρ' ρc ∧ D' = D ∧ m' = sm x' ∧ (sL x').Sublist L' ∧ I x' ∧ μ x' < μ x) Q)) :
    TC P N (.loop body) ρ D m L Q :=
  TC.loop (fun x => sρ x ++ ρc) sm sL I μ x0 (h0.append (pickEnv_has hk)) hm0 hL0 hI0 fun x hx => (round x hx).mono fun e ρ' D' m' L' h => by
    cases e with
    | normal =>
      obtain ⟨x', h1, h2, h3⟩ := (show ∃ x', Has ρ' (sρ x') ∧ Has ρ' ρc ∧ _ from h)
      exact (show ∃ x', _ from ⟨x', h1.append h2, h3⟩)
    | _ => exact h

/-- a cut: what the first part comes to, as a family of states -/
theorem TC.cut {ι : Type} {x y : Code} (ks : List Nat) {ρc : Env} (hk : pickEnv ρ ks = some ρc) (sρ : ι → Env) (sm : ι → Mem) (sL : ι → List Item) (I : ι → Prop)
    (hx : TC P N x ρ D m L (thenQ (fun ρ' D' m' L' => ∃ i, Has ρ' (sρ i) ∧ Has ρ' ρc ∧ D' = D ∧ m' = sm i ∧ (sL i).Sublist L' ∧ I i) Q))
    (hy : ∀ i, I i → TC P N y (sρ i ++ ρc) D (sm i) (sL i) Q) : TC P N (.seq x y) ρ D m L Q :=
  TC.seq (hx.mono fun e ρ' D' m' L' h => by
    cases e with
    | normal =>
      obtain ⟨i, h1, h2, h3, h4, h5, h6⟩ := (show ∃ i, Has ρ' (sρ i) ∧ Has ρ' ρc ∧ _ from h)
      subst h3; subst h4
      exact (show TC P N y ρ' D' (sm i) L' Q from fun a w ha => hy i h6 a w ((ha.sub (h1.append h2).sub).sublist h5))
    | _ => exact h)

/-! ### entering and leaving a function -/
def argEnv : List Value → Nat → Env
  | [], _ => []
  | v :: vs, i => (i, v) :: argEnv vs (i + 1)

theorem look_argEnv : ∀ (vs : List Value) (i j : Nat) (v : Value), look (argEnv vs i) j = some v → i ≤ j ∧ vs[j - i]? = some v
  | [], i, j, v, h => by cases h
  | u :: us, i, j, v, h => by
    simp only [argEnv, look] at h
    cases hb : Nat.beq i j with
    | true =>
      have : i = j := Nat.eq_of_beq_eq_true hb
      subst this
      simp only [hb, cond_true, Option.some.injEq] at h
      subst h
      simp
    | false =>
      have hne : i ≠ j := Nat.ne_of_beq_eq_false hb
      simp only [hb, cond_false] at h
      obtain ⟨h1, h2⟩ := look_argEnv us (i + 1) j v h
      refine ⟨by omega, ?_⟩
      rw [show j - i = (j - (i + 1)) + 1 by omega, List.getElem?_cons_succ]
      exact h2

def resEnv (ρ : Env) : List ResultVar → Option (List Value)
  | [] => some []
  | .tmp t :: r => match fo (look ρ t), resEnv ρ r with
    | some v, some vs => some (v :: vs)
    | _, _ => none
  | .cell _ _ :: _ => none

def resVal (ρ : Env) (rs : Array ResultVar) : Option Value :=
  match rs with
  | ⟨l⟩ => match resEnv ρ l with
    | some [v] => some v
    | some vs => some (.tuple ⟨vs⟩)
    | none => none

theorem resEnv_run {P : Program} {a : Act} {ρ : Env} (hA : Agree a ρ) (w : World) (f : ResultVar → Sem Value) (hf : ∀ t, f (.tmp t) = pure (a.tmps.getD t undef)) :
    ∀ {l : List ResultVar} {vs : List Value}, resEnv ρ l = some vs → (l.mapM f).run P w = .ok vs w
  | [], vs, h => by simp only [resEnv, Option.some.injEq] at h; subst h; rfl
  | .tmp t :: r, vs, h => by
    simp only [resEnv, fo_eq] at h
    split at h
    · rename_i v us h1 h2
      simp only [Option.some.injEq] at h
      subst h
      have h3 := resEnv_run (P := P) hA w f hf h2
      have h4 := hA t v h1
      rw [List.mapM_cons]
      simp only [Sem.run_bind, hf, Sem.run_pure, Result.andThen_ok, h3]
      simp [h4]
    · cases h
  | .cell _ _ :: _, vs, h => by simp [resEnv] at h

theorem resVal_run {P : Program} {a : Act} {ρ : Env} (hA : Agree a ρ) (w : World) {fn : Func} {v : Value} (h : resVal ρ fn.results = some v) : (results fn a.tmps).run P w = .ok v w := by
  unfold resVal at h
  split at h
  rename_i l hl
  have key : ∀ vs, resEnv ρ l = some vs → (results fn a.tmps).run P w = .ok (if h : (⟨vs⟩ : Array Value).size = 1 then (⟨vs⟩ : Array Value)[0] else .tuple ⟨vs⟩) w := fun vs hv => by
    unfold results
    rw [hl, Array.mapM_eq_mapM_toList]
    simp only [Sem.run_bind, Sem.run_map, Sem.run_pure]
    rw [resEnv_run (P := P) hA w _ (fun _ => rfl) hv]
    rfl
  split at h
  · rename_i u hr
    simp only [Option.some.injEq] at h; subst h
    have := key _ hr
    simpa using this
  · rename_i vs hne hr
    simp only [Option.some.injEq] at h; subst h
    rw [key _ hr, dif_neg]
    intro hs
    match vs, hs with
    | [u], _ => exact hne u rfl
  · cases h

/-- what a function's result variables hold -/
def ResIs (P : Program) (fn : Func) (ρ : Env) (m : Mem) (L : List Item) (v : Value) : Prop := ∀ (a : Act) (w : World), Agree a ρ → St m w L → (results fn a.tmps).run P w = .ok v w

/-- what a function's body must come to -/
def retQ (P : Program) (fn : Func) (R : Value → Mem → List Item → Prop) (X : List PanicEntry → Mem → List Item → Prop) : EPost
  | .normal, ρ, D, m, L | .ret, ρ, D, m, L => D = [] ∧ ∃ v L', ResIs P fn ρ m L v ∧ L'.Sublist L ∧ R v m L'
  | .panic ch, _, D, m, L => D = [] ∧ ∃ L', L'.Sublist L ∧ X ch m L'
  | _, _, _, _, _ => False

theorem retQ_ret {P : Program} {fn : Func} {R : Value → Mem → List Item → Prop} {X : List PanicEntry → Mem → List Item → Prop} {v : Value} {L' : List Item} (hv : resVal ρ fn.results = some v) (hs : L'.Sublist L) (h : R v m L') : retQ P fn R X .ret ρ [] m L := ⟨rfl, v, L', fun _ w hA _ => resVal_run hA w hv, hs, h⟩
theorem retQ_n {P : Program} {fn : Func} {R : Value → Mem → List Item → Prop} {X : List PanicEntry → Mem → List Item → Prop} {v : Value} {L' : List Item} (hv : resVal ρ fn.results = some v) (hs : L'.Sublist L) (h : R v m L') : retQ P fn R X .normal ρ [] m L := ⟨rfl, v, L', fun _ w hA _ => resVal_run hA w hv, hs, h⟩
theorem retQ_p {P : Program} {fn : Func} {R : Value → Mem → List Item → Prop} {X : List PanicEntry → Mem → List Item → Prop} {ch : List PanicEntry} {L' : List Item} (hs : L'.Sublist L) (h : X ch m L') : retQ P fn R X (.panic ch) ρ [] m L := ⟨rfl, L', hs, h⟩

theorem TCallX.enter {P : Program} {f : FuncId} {fn : Func} {c : Code} {vs : List Value} {m : Mem} {L : List Item} {R : Value → Mem → List Item → Prop} {X : List PanicEntry → Mem → List Item → Prop}
    (hf : P.funcs[f]? = some fn) (hb : fn.body = some c) (N : Nat) (hN : Nat.ble N fn.ntmps = true) (h : TC P N c (argEnv vs 0) [] m L (retQ P fn R X)) : TCallX P f ⟨vs⟩ m L R X := by
  intro w hs
  refine calls_of_wp hf hb (wp_mono (h { tmps := ⟨vs⟩ ++ Array.replicate (fn.ntmps - (⟨vs⟩ : Array Value).size) undef, defers := [] } w ⟨?_, ?_, rfl, hs⟩) fun e a' w' hl => ?_)
  · have := Nat.le_of_ble_eq_true hN
    simp
    omega
  · intro i v hv
    have := (look_argEnv vs 0 i v hv).2
    have hi : i < vs.length := by have := (List.getElem?_eq_some_iff.1 this).1; simpa using this
    have h2 : vs[i]? = some v := by simpa using this
    rw [Array.getElem?_append_left (by simpa using hi)]
    simpa using h2
  · obtain ⟨ρ', D', m', L', h1, h2⟩ := hl
    cases e with
    | normal =>
      obtain ⟨hD, v, L2, hv, hs2, hR⟩ := h2
      exact ⟨h1.defers.trans hD, v, hv _ _ h1.env h1.st, m', L2, h1.st.sub hs2, hR⟩
    | ret =>
      obtain ⟨hD, v, L2, hv, hs2, hR⟩ := h2
      exact ⟨h1.defers.trans hD, v, hv _ _ h1.env h1.st, m', L2, h1.st.sub hs2, hR⟩
    | panic ch =>
      obtain ⟨hD, L2, hs2, hX⟩ := h2
      exact ⟨h1.defers.trans hD, m', L2, h1.st.sub hs2, hX⟩
    | exit i => exact h2.elim
    | goto i => exact h2.elim
    | outgrown => exact h2.elim

end code
end Go.Sep
