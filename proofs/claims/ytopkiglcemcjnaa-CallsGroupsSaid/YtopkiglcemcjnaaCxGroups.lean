/-
  The order of the groups, in plain terms: the members, who waits for whom, the order in which they come.
-/
import Derived.Test.YtopkiglcemcjnaaCxTarjan3
set_option linter.unusedVariables false
set_option linter.unusedSimpArgs false
namespace Go.Sep

def row (l : List (List Int)) (k : Nat) : List Int := l[k]?.getD []
def pushAt (l : List (List Int)) (k : Nat) (x : Int) : List (List Int) := l.set k (row l k ++ [x])

theorem row_set {l : List (List Int)} {k i : Nat} {r : List Int} : row (l.set k r) i = if k = i ∧ k < l.length then r else row l i := by
  unfold row
  rw [List.getElem?_set]
  by_cases e : k = i
  · subst e
    by_cases h : k < l.length <;> simp [h]
  · simp [e]
theorem row_get {l : List (List Int)} {k : Nat} (h : k < l.length) : l[k]? = some (row l k) := by simp [row, h]
theorem row_mem {l : List (List Int)} {k : Nat} (h : k < l.length) : row l k ∈ l := List.mem_of_getElem? (row_get h)
theorem row_push {l : List (List Int)} {k i : Nat} {x : Int} : row (pushAt l k x) i = if k = i ∧ k < l.length then row l k ++ [x] else row l i := row_set
theorem row_empty (n k : Nat) : row (List.replicate n []) k = [] := by
  unfold row
  rw [List.getElem?_replicate]
  split <;> rfl

/-! ### members -/
def membersM (grp : List Int) (ng k : Nat) : List (List Int) := (List.range k).foldl (fun ms f => pushAt ms (at0 grp f).toNat f) (List.replicate ng [])
theorem membersM_succ (grp : List Int) (ng k : Nat) : membersM grp ng (k + 1) = pushAt (membersM grp ng k) (at0 grp k).toNat k := by
  rw [membersM, List.range_succ, List.foldl_append]; rfl
/-- the functions of a group -/
def cls (grp : List Int) (n : Nat) (i : Int) : List Int := ((List.range n).filter fun v => decide (at0 grp v = i)).map fun v : Nat => (v : Int)
theorem cls_mem {grp : List Int} {n : Nat} {i x : Int} : x ∈ cls grp n i ↔ ∃ v : Nat, v < n ∧ at0 grp v = i ∧ (v : Int) = x := by
  simp only [cls, List.mem_map, List.mem_filter, List.mem_range, decide_eq_true_eq, and_assoc]
theorem membersM_len (grp : List Int) (ng : Nat) : ∀ k, (membersM grp ng k).length = ng
  | 0 => by simp [membersM]
  | k + 1 => by rw [membersM_succ]; simp [pushAt, membersM_len grp ng k]
theorem membersM_row {grp : List Int} {ng n : Nat} (h : ∀ v, v < n → 0 ≤ at0 grp v ∧ at0 grp v < ng) : ∀ k, k ≤ n → ∀ i : Nat, i < ng → row (membersM grp ng k) i = cls grp k i
  | 0, _, i, _ => by simp [membersM, row_empty, cls]
  | k + 1, hk, i, hi => by
    have ih := membersM_row h k (by omega) i hi
    have hv := h k (by omega)
    rw [membersM_succ, row_push, membersM_len]
    simp only [cls, List.range_succ, List.filter_append, List.map_append]
    by_cases e : (at0 grp k).toNat = i
    · rw [if_pos ⟨e, by omega⟩]
      have e2 : at0 grp k = (i : Int) := by omega
      rw [e, ih]
      simp [cls, e2]
    · rw [if_neg (fun hh => e hh.1), ih]
      have e2 : ¬ at0 grp k = (i : Int) := by omega
      simp [cls, e2]

/-! ### who waits for whom -/
structure WA where
  w : List (List Int)
  a : List (List Int)

def askStep (grp : List Int) (f : Nat) (st : WA) (t : Int) : WA :=
  if at0 grp f = at0 grp t.toNat then st
  else if at0 grp t.toNat ∈ row st.w (at0 grp f).toNat then st
  else ⟨pushAt st.w (at0 grp f).toNat (at0 grp t.toNat), pushAt st.a (at0 grp t.toNat).toNat (at0 grp f)⟩

def askAll (g : List (List Int)) (grp : List Int) (ng k : Nat) : WA := (List.range k).foldl (fun st f => (row g f).foldl (askStep grp f) st) ⟨List.replicate ng [], List.replicate ng []⟩
theorem askAll_succ (g : List (List Int)) (grp : List Int) (ng k : Nat) : askAll g grp ng (k + 1) = (row g k).foldl (askStep grp k) (askAll g grp ng k) := by
  rw [askAll, List.range_succ, List.foldl_append]; rfl

/-- E: the pairs of groups seen so far -/
structure AskI (ng : Nat) (E : Int → Int → Prop) (st : WA) : Prop where
  lw : st.w.length = ng
  la : st.a.length = ng
  okw : RowsOk ng st.w
  oka : RowsOk ng st.a
  mem : ∀ (a : Nat) (b : Int), a < ng → (b ∈ row st.w a ↔ E a b)
  ask : ∀ (a : Int) (b : Nat), b < ng → (a ∈ row st.a b ↔ E a b)

theorem RowsOk.push {n : Nat} {g : List (List Int)} (h : RowsOk n g) (i : Nat) {t : Int} (ht : 0 ≤ t ∧ t < (n : Int)) (hi : i < g.length) (hn : t ∉ row g i) : RowsOk n (pushAt g i t) := by
  have hm := row_mem hi
  refine ⟨fun r hr => ?_, fun r hr x hx => ?_⟩
  · rcases List.mem_or_eq_of_mem_set hr with hr | hr
    · exact h.nodup r hr
    · rw [hr]
      refine List.nodup_append.2 ⟨h.nodup _ hm, by simp, fun a ha b hb => ?_⟩
      simp only [List.mem_singleton] at hb
      subst hb
      exact fun e => hn (e ▸ ha)
  · rcases List.mem_or_eq_of_mem_set hr with hr | hr
    · exact h.lt r hr x hx
    · rw [hr] at hx
      rcases List.mem_append.1 hx with hx | hx
      · exact h.lt _ hm x hx
      · simp only [List.mem_singleton] at hx
        rw [hx]; exact ht

theorem AskI.step {ng n : Nat} {grp : List Int} (hlt : ∀ v, v < n → 0 ≤ at0 grp v ∧ at0 grp v < ng) {E : Int → Int → Prop} {st : WA} (h : AskI ng E st) {f : Nat} {t : Int} (hf : f < n) (ht : t.toNat < n) :
    AskI ng (fun a b => E a b ∨ (at0 grp f ≠ at0 grp t.toNat ∧ a = at0 grp f ∧ b = at0 grp t.toNat)) (askStep grp f st t) := by
  have h1 := hlt f hf
  have h2 := hlt _ ht
  generalize hA : at0 grp f = A at *
  generalize hB : at0 grp t.toNat = B at *
  have hlw := h.lw
  have hla := h.la
  have eA : ((A.toNat : Nat) : Int) = A := by omega
  have eB : ((B.toNat : Nat) : Int) = B := by omega
  unfold askStep
  rw [hA, hB]
  by_cases e : A = B
  · rw [if_pos e]
    refine ⟨h.lw, h.la, h.okw, h.oka, fun a b ha => ?_, fun a b hb => ?_⟩
    · rw [h.mem a b ha]; simp [e]
    · rw [h.ask a b hb]; simp [e]
  · rw [if_neg e]
    by_cases hin : B ∈ row st.w A.toNat
    · rw [if_pos hin]
      have hE : E A B := by
        have := (h.mem A.toNat B (by omega)).1 hin
        rwa [eA] at this
      refine ⟨h.lw, h.la, h.okw, h.oka, fun a b ha => ?_, fun a b hb => ?_⟩
      · rw [h.mem a b ha]
        refine ⟨.inl, fun hh => hh.elim id fun hh => ?_⟩
        rw [hh.2.1, hh.2.2]; exact hE
      · rw [h.ask a b hb]
        refine ⟨.inl, fun hh => hh.elim id fun hh => ?_⟩
        rw [hh.2.1, hh.2.2]; exact hE
    · rw [if_neg hin]
      have hE : ¬ E A B := fun hh => hin ((h.mem A.toNat B (by omega)).2 (by rw [eA]; exact hh))
      have hin2 : A ∉ row st.a B.toNat := fun hh => hE (by
        have := (h.ask A B.toNat (by omega)).1 hh
        rwa [eB] at this)
      refine ⟨by simp [pushAt, hlw], by simp [pushAt, hla], h.okw.push _ (by omega) (by omega) hin, h.oka.push _ (by omega) (by omega) hin2, fun a b ha => ?_, fun a b hb => ?_⟩
      · simp only
        rw [row_push]
        split
        · rename_i hh
          rw [List.mem_append, h.mem _ _ (by omega), List.mem_singleton]
          have : (a : Int) = A := by omega
          rw [eA, this]; simp [e]
        · rename_i hh
          rw [h.mem a b ha]
          refine ⟨.inl, fun hh' => hh'.elim id fun hh' => ?_⟩
          exact absurd ⟨by omega, by omega⟩ hh
      · simp only
        rw [row_push]
        split
        · rename_i hh
          rw [List.mem_append, h.ask _ _ (by omega), List.mem_singleton]
          have : (b : Int) = B := by omega
          rw [eB, this]; simp [e]
        · rename_i hh
          rw [h.ask a b hb]
          refine ⟨.inl, fun hh' => hh'.elim id fun hh' => ?_⟩
          exact absurd ⟨by omega, by omega⟩ hh

theorem AskI.mono {ng : Nat} {E E' : Int → Int → Prop} {st : WA} (h : AskI ng E st) (he : ∀ a b, E a b ↔ E' a b) : AskI ng E' st :=
  ⟨h.lw, h.la, h.okw, h.oka, fun a b ha => (h.mem a b ha).trans (he _ _), fun a b hb => (h.ask a b hb).trans (he _ _)⟩

theorem AskI.row {ng n : Nat} {grp : List Int} (hlt : ∀ v, v < n → 0 ≤ at0 grp v ∧ at0 grp v < ng) {f : Nat} (hf : f < n) : ∀ (l : List Int) {E : Int → Int → Prop} {st : WA}, AskI ng E st → (∀ t ∈ l, t.toNat < n) →
    AskI ng (fun a b => E a b ∨ ∃ t ∈ l, at0 grp f ≠ at0 grp t.toNat ∧ a = at0 grp f ∧ b = at0 grp t.toNat) (l.foldl (askStep grp f) st)
  | [], E, st, h, _ => h.mono fun a b => by simp
  | t :: l, E, st, h, hl => by
    have h1 := h.step hlt hf (hl t (List.mem_cons_self ..))
    have h2 := AskI.row hlt hf l h1 (fun x hx => hl x (List.mem_cons_of_mem _ hx))
    exact h2.mono fun a b => by simp [or_assoc]

theorem askAll_inv {g : List (List Int)} {ng n : Nat} {grp : List Int} (hg : RowsOk n g) (hgl : g.length = n) (hlt : ∀ v, v < n → 0 ≤ at0 grp v ∧ at0 grp v < ng) : ∀ k, k ≤ n →
    AskI ng (fun a b => ∃ f : Nat, f < k ∧ ∃ t ∈ row g f, at0 grp f ≠ at0 grp t.toNat ∧ a = at0 grp f ∧ b = at0 grp t.toNat) (askAll g grp ng k)
  | 0, _ => ⟨by simp [askAll], by simp [askAll], RowsOk.empty _ _, RowsOk.empty _ _, fun a b _ => by simp [askAll, row_empty], fun a b _ => by simp [askAll, row_empty]⟩
  | k + 1, hk => by
    have ih := askAll_inv hg hgl hlt k (by omega)
    rw [askAll_succ]
    have := ih.row hlt (show k < n by omega) (Go.Sep.row g k) (fun t ht => by
      have := hg.lt _ (row_mem (by omega)) t ht
      omega)
    refine this.mono fun a b => ?_
    constructor
    · rintro (⟨f, hf, t, ht⟩ | ⟨t, ht⟩)
      · exact ⟨f, by omega, t, ht⟩
      · exact ⟨k, by omega, t, ht⟩
    · rintro ⟨f, hf, t, ht⟩
      by_cases e : f = k
      · subst e; exact .inr ⟨t, ht⟩
      · exact .inl ⟨f, by omega, t, ht⟩

/-! ### the order -/
def addL (key : Int → Int) (xs : List Int) (g : Int) : List Int := (xs.filter fun x => decide (key x < key g)) ++ g :: xs.filter fun x => !decide (key x < key g)

theorem addL_mem {key : Int → Int} {xs : List Int} {g x : Int} : x ∈ addL key xs g ↔ x = g ∨ x ∈ xs := by
  simp only [addL, List.mem_append, List.mem_cons, List.mem_filter]
  by_cases h : key x < key g <;> simp [h] <;> constructor <;> rintro (h1 | h1) <;> simp [h1]
theorem addL_perm (key : Int → Int) (xs : List Int) (g : Int) : (addL key xs g).Perm (g :: xs) := by
  unfold addL
  refine List.perm_middle.trans (List.Perm.cons _ ?_)
  exact List.filter_append_perm _ _
theorem addL_sorted {key : Int → Int} {xs : List Int} {g : Int} (h : xs.Pairwise fun a b => key a ≤ key b) : (addL key xs g).Pairwise fun a b => key a ≤ key b := by
  unfold addL
  refine List.pairwise_append.2 ⟨h.filter _, List.pairwise_cons.2 ⟨fun x hx => ?_, h.filter _⟩, fun x hx y hy => ?_⟩
  · simp only [List.mem_filter, Bool.not_eq_true', decide_eq_false_iff_not] at hx; omega
  · simp only [List.mem_filter, decide_eq_true_eq] at hx
    rcases List.mem_cons.1 hy with rfl | hy
    · omega
    · simp only [List.mem_filter, Bool.not_eq_true', decide_eq_false_iff_not] at hy; omega

structure OP (ng : Nat) (w0 sk : List (List Int)) : Prop where
  lw : w0.length = ng
  la : sk.length = ng
  okw : RowsOk ng w0
  oka : RowsOk ng sk
  ask : ∀ a b : Nat, a < ng → b < ng → ((a : Int) ∈ row sk b ↔ (b : Int) ∈ row w0 a)

structure IOS where
  ready : List Int
  waits : List (List Int)
  done : List Int

open Classical in
structure IOI (ng : Nat) (key : Int → Int) (w0 : List (List Int)) (st : IOS) (g : Int) (rest : List Int) : Prop where
  sorted : st.ready.Pairwise fun a b => key a ≤ key b
  nodup : (st.ready ++ st.done).Nodup
  rng : ∀ x ∈ st.ready ++ st.done, 0 ≤ x ∧ x < (ng : Int)
  lw : st.waits.length = ng
  w : ∀ a : Nat, a < ng → row st.waits a = (row w0 a).filter fun x => decide (x ∉ st.done ∨ (x = g ∧ (a : Int) ∈ rest))
  r : ∀ a : Nat, a < ng → ((a : Int) ∈ st.ready ∨ (a : Int) ∈ st.done ↔ row st.waits a = [])
  ord : ∀ d1 x d2, st.done = d1 ++ x :: d2 → (∀ y ∈ row w0 x.toNat, y ∈ d1) ∧ ∀ a : Nat, a < ng → (a : Int) ∉ d1 → (∀ y ∈ row w0 a, y ∈ d1) → key x ≤ key a

theorem IOI.len {ng : Nat} {key : Int → Int} {w0 : List (List Int)} {st : IOS} {g : Int} {rest : List Int} (h : IOI ng key w0 st g rest) : st.ready.length + st.done.length ≤ ng := by
  have := nodup_len (st.ready ++ st.done) ng h.nodup h.rng
  simpa using this

theorem IOI.pop {ng : Nat} {key : Int → Int} {w0 sk : List (List Int)} (hp : OP ng w0 sk) {r d : List Int} {waits : List (List Int)} {g g' : Int} (h : IOI ng key w0 ⟨g :: r, waits, d⟩ g' []) : IOI ng key w0 ⟨r, waits, d ++ [g]⟩ g (row sk g.toNat) := by
  have hg := h.rng g (by simp)
  have hnd := h.nodup
  simp only [List.cons_append, List.nodup_cons] at hnd
  have hgd : g ∉ d := fun hh => hnd.1 (List.mem_append_right _ hh)
  have hgw : ∀ a : Nat, a < ng → (g ∈ row w0 a ↔ (a : Int) ∈ row sk g.toNat) := fun a ha => by
    have := hp.ask a g.toNat ha (by omega)
    rw [show ((g.toNat : Nat) : Int) = g by omega] at this
    exact this.symm
  refine ⟨(List.pairwise_cons.1 h.sorted).2, ?_, fun x hx => h.rng x ?_, h.lw, fun a ha => ?_, fun a ha => ?_, fun d1 x d2 e => ?_⟩
  · simp only
    rw [← List.append_assoc]
    refine List.nodup_append.2 ⟨hnd.2, by simp, fun a ha b hb => ?_⟩
    simp only [List.mem_singleton] at hb
    subst hb
    exact fun e => hnd.1 (e ▸ ha)
  · simp only [List.mem_append, List.mem_cons, List.mem_singleton] at hx ⊢
    rcases hx with hx | hx | hx
    · exact .inl (.inr hx)
    · exact .inr hx
    · exact .inl (.inl (by simpa using hx))
  · have := h.w a ha
    simp only at this ⊢
    rw [this]
    apply List.filter_congr
    intro x hx
    simp only [List.not_mem_nil, and_false, or_false, List.mem_append, List.mem_singleton, not_or, decide_eq_decide]
    constructor
    · intro hn
      by_cases e : x = g
      · subst e; exact .inr ⟨rfl, (hgw a ha).1 hx⟩
      · exact .inl ⟨hn, e⟩
    · rintro (hn | hn)
      · exact hn.1
      · rw [hn.1]; exact hgd
  · have := h.r a ha
    simp only [List.mem_cons, List.mem_append, List.mem_singleton] at this ⊢
    rw [← this]
    constructor
    · rintro (h1 | h1 | h1)
      · exact .inl (.inr h1)
      · exact .inr h1
      · exact .inl (.inl (by simpa using h1))
    · rintro ((h1 | h1) | h1)
      · exact .inr (.inr (by simpa using h1))
      · exact .inl h1
      · exact .inr (.inl h1)
  · simp only at e
    rcases List.eq_nil_or_concat d2 with h2 | ⟨d2', z, h2⟩
    · subst h2
      have e1 : d1 = d ∧ x = g := by
        have := List.append_inj' e rfl
        exact ⟨this.1.symm, by simpa using this.2.symm⟩
      obtain ⟨rfl, rfl⟩ := e1
      constructor
      · intro y hy
        have h0 : row waits x.toNat = [] := (h.r x.toNat (by omega)).1 (.inl (by rw [show ((x.toNat : Nat) : Int) = x by omega]; simp))
        have := h.w x.toNat (by omega)
        simp only at this h0
        rw [h0] at this
        have := List.filter_eq_nil_iff.1 this.symm y hy
        simpa using this
      · intro a ha had hall
        have h0 : row waits a = [] := by
          have := h.w a ha
          simp only at this
          rw [this, List.filter_eq_nil_iff]
          intro y hy
          simpa using hall y hy
        rcases (h.r a ha).2 h0 with h3 | h3
        · simp only [List.mem_cons] at h3
          rcases h3 with h3 | h3
          · rw [← h3]; exact Int.le_refl _
          · exact (List.pairwise_cons.1 h.sorted).1 _ h3
        · exact absurd h3 had
    · have e2 : d = d1 ++ x :: d2' := by
        rw [h2] at e
        have : d ++ [g] = (d1 ++ x :: d2') ++ [z] := by rw [e]; simp
        exact (List.append_inj' this rfl).1
      exact h.ord d1 x d2' e2

theorem IOI.has {ng : Nat} {key : Int → Int} {w0 sk : List (List Int)} (hp : OP ng w0 sk) {st : IOS} {g a : Int} {rest : List Int} (h : IOI ng key w0 st g (a :: rest)) (hg : 0 ≤ g ∧ g < (ng : Int)) (ha : a ∈ row sk g.toNat) : 0 ≤ a ∧ a < (ng : Int) ∧ g ∈ row st.waits a.toNat := by
  have hla := hp.la
  have hr := hp.oka.lt _ (row_mem (show g.toNat < sk.length by omega)) a ha
  have hea : ((a.toNat : Nat) : Int) = a := by omega
  have heg : ((g.toNat : Nat) : Int) = g := by omega
  have h1 := (hp.ask a.toNat g.toNat (by omega) (by omega)).1 (by rw [hea]; exact ha)
  rw [heg] at h1
  refine ⟨hr.1, hr.2, ?_⟩
  rw [h.w a.toNat (by omega), List.mem_filter]
  refine ⟨h1, ?_⟩
  simp [hea]

open Classical in
theorem IOI.ask {ng : Nat} {key : Int → Int} {w0 sk : List (List Int)} (hp : OP ng w0 sk) {r d : List Int} {waits : List (List Int)} {g a : Int} {rest : List Int} (h : IOI ng key w0 ⟨r, waits, d⟩ g (a :: rest)) (hg : 0 ≤ g ∧ g < (ng : Int)) (hgd : g ∈ d) (ha : a ∈ row sk g.toNat) (hna : a ∉ rest) :
    ((row waits a.toNat).filter fun x => decide (x ≠ g)) = [] ∧ IOI ng key w0 ⟨addL key r a, waits.set a.toNat [], d⟩ g rest ∨
    ((row waits a.toNat).filter fun x => decide (x ≠ g)) ≠ [] ∧ IOI ng key w0 ⟨r, waits.set a.toNat ((row waits a.toNat).filter fun x => decide (x ≠ g)), d⟩ g rest := by
  obtain ⟨h1, h2, h3⟩ := h.has hp hg ha
  simp only at h3
  have hlw := h.lw
  simp only at hlw
  have hea : ((a.toNat : Nat) : Int) = a := by omega
  have hne : row waits a.toNat ≠ [] := fun e => by rw [e] at h3; cases h3
  have hnr : ¬ (a ∈ r ∨ a ∈ d) := fun hh => hne ((h.r a.toNat (by omega)).1 (by rw [hea]; exact hh))
  have hw : ∀ b : Nat, b < ng → row (waits.set a.toNat ((row waits a.toNat).filter fun x => decide (x ≠ g))) b = (row w0 b).filter fun x => decide (x ∉ d ∨ (x = g ∧ (b : Int) ∈ rest)) := fun b hb => by
    have hb' := h.w b hb
    simp only at hb'
    rw [row_set]
    split
    · rename_i hh
      obtain ⟨e, _⟩ := hh
      subst e
      rw [hb', List.filter_filter]
      apply List.filter_congr
      intro x _
      rw [hea]
      simp only [List.mem_cons, true_or, and_true, hna, and_false, or_false]
      by_cases e : x = g
      · subst e; simp [hgd]
      · simp [e]
    · rename_i hh
      rw [hb']
      apply List.filter_congr
      intro x _
      have : ¬ (b : Int) = a := fun e => hh ⟨by omega, by omega⟩
      simp [this]
  have hr : ∀ b : Nat, b ≠ a.toNat → b < ng → ((b : Int) ∈ r ∨ (b : Int) ∈ d ↔ row (waits.set a.toNat ((row waits a.toNat).filter fun x => decide (x ≠ g))) b = []) := fun b hb hbn => by
    rw [row_set, if_neg (fun hh => hb hh.1.symm)]
    exact h.r b hbn
  have hsa : row (waits.set a.toNat ((row waits a.toNat).filter fun x => decide (x ≠ g))) a.toNat = (row waits a.toNat).filter fun x => decide (x ≠ g) := by
    rw [row_set, if_pos ⟨rfl, by omega⟩]
  by_cases he : ((row waits a.toNat).filter fun x => decide (x ≠ g)) = []
  · left
    refine ⟨he, ?_⟩
    rw [he] at hw hr hsa
    refine ⟨addL_sorted h.sorted, ?_, fun x hx => ?_, by simp [hlw], hw, fun b hb => ?_, h.ord⟩
    · have hperm : (addL key r a ++ d).Perm (a :: (r ++ d)) := (addL_perm key r a).append_right d
      refine hperm.nodup_iff.2 (List.nodup_cons.2 ⟨fun hh => hnr (List.mem_append.1 hh), h.nodup⟩)
    · rcases List.mem_append.1 hx with hx | hx
      · rcases addL_mem.1 hx with rfl | hx
        · exact ⟨h1, h2⟩
        · exact h.rng x (List.mem_append_left _ hx)
      · exact h.rng x (List.mem_append_right _ hx)
    · simp only
      by_cases e : b = a.toNat
      · subst e
        rw [hsa]
        simp only [addL_mem, hea, true_or]
      · rw [← hr b e hb, addL_mem]
        have : ¬ (b : Int) = a := by omega
        simp [this]
  · right
    refine ⟨he, h.sorted, h.nodup, h.rng, by simp [hlw], hw, fun b hb => ?_, h.ord⟩
    simp only
    by_cases e : b = a.toNat
    · subst e
      rw [hsa, hea]
      exact ⟨fun hh => absurd hh hnr, fun hh => absurd hh he⟩
    · exact hr b e hb

/-- the first round: who waits for nobody -/
structure II (ng : Nat) (key : Int → Int) (w0 : List (List Int)) (k : Nat) (ready : List Int) : Prop where
  sorted : ready.Pairwise fun a b => key a ≤ key b
  nodup : ready.Nodup
  rng : ∀ x ∈ ready, 0 ≤ x ∧ x < (k : Int)
  r : ∀ a : Nat, a < k → ((a : Int) ∈ ready ↔ row w0 a = [])

theorem II.zero (ng : Nat) (key : Int → Int) (w0 : List (List Int)) : II ng key w0 0 [] := ⟨List.Pairwise.nil, List.nodup_nil, fun x hx => (by cases hx), fun a ha => (by omega)⟩
theorem II.add {ng : Nat} {key : Int → Int} {w0 : List (List Int)} {k : Nat} {ready : List Int} (h : II ng key w0 k ready) (he : row w0 k = []) : II ng key w0 (k + 1) (addL key ready k) := by
  have hn : (k : Int) ∉ ready := fun hh => by have := (h.rng _ hh).2; omega
  refine ⟨addL_sorted h.sorted, (addL_perm key ready k).nodup_iff.2 (List.nodup_cons.2 ⟨hn, h.nodup⟩), fun x hx => ?_, fun a ha => ?_⟩
  · rcases addL_mem.1 hx with rfl | hx
    · omega
    · have := h.rng x hx; omega
  · by_cases e : a = k
    · subst e; simp [addL_mem, he]
    · rw [addL_mem, ← h.r a (by omega)]
      have : ¬ (a : Int) = (k : Int) := by omega
      simp [this]
theorem II.skip {ng : Nat} {key : Int → Int} {w0 : List (List Int)} {k : Nat} {ready : List Int} (h : II ng key w0 k ready) (he : row w0 k ≠ []) : II ng key w0 (k + 1) ready := by
  refine ⟨h.sorted, h.nodup, fun x hx => by have := h.rng x hx; omega, fun a ha => ?_⟩
  by_cases e : a = k
  · subst e
    exact ⟨fun hh => by have := (h.rng _ hh).2; omega, fun hh => absurd hh he⟩
  · exact h.r a (by omega)
theorem II.start {ng : Nat} {key : Int → Int} {w0 sk : List (List Int)} (hp : OP ng w0 sk) {ready : List Int} (h : II ng key w0 ng ready) : IOI ng key w0 ⟨ready, w0, []⟩ 0 [] := by
  refine ⟨h.sorted, by simpa using h.nodup, by simpa using h.rng, hp.lw, fun a ha => (List.filter_eq_self.2 fun x _ => by simp).symm, fun a ha => by simpa using h.r a ha, fun d1 x d2 e => by simp at e⟩

/-- what comes out -/
structure OrdOut (ng : Nat) (key : Int → Int) (w0 : List (List Int)) (done : List Int) : Prop where
  nodup : done.Nodup
  rng : ∀ x ∈ done, 0 ≤ x ∧ x < (ng : Int)
  ord : ∀ d1 x d2, done = d1 ++ x :: d2 → (∀ y ∈ row w0 x.toNat, y ∈ d1) ∧ ∀ a : Nat, a < ng → (a : Int) ∉ d1 → (∀ y ∈ row w0 a, y ∈ d1) → key x ≤ key a
  fin : ∀ a : Nat, a < ng → (∀ y ∈ row w0 a, y ∈ done) → (a : Int) ∈ done

theorem IOI.out {ng : Nat} {key : Int → Int} {w0 : List (List Int)} {waits : List (List Int)} {d : List Int} {g : Int} (h : IOI ng key w0 ⟨[], waits, d⟩ g []) : OrdOut ng key w0 d := by
  refine ⟨by simpa using h.nodup, by simpa using h.rng, h.ord, fun a ha hall => ?_⟩
  have h0 : row waits a = [] := by
    have := h.w a ha
    simp only at this
    rw [this, List.filter_eq_nil_iff]
    intro y hy
    simpa using hall y hy
  rcases (h.r a ha).2 h0 with h1 | h1
  · cases h1
  · exact h1
end Go.Sep
