/-
  What Groups answers, in plain terms: all groups come, callees first, the one with the least member first; it is what the definition computes.
-/
import Derived.Test.YtopkiglcemcjnaaCxWalk13
set_option linter.unusedVariables false
set_option linter.unusedSimpArgs false
namespace Go.Sep

theorem edge_row {g : List (List Int)} {v w : Nat} (hv : v < g.length) : Edge g v w ↔ (w : Int) ∈ row g v := by
  constructor
  · rintro ⟨r, h1, h2⟩
    rw [row_get hv] at h1
    simp only [Option.some.injEq] at h1
    rw [h1]; exact h2
  · intro h
    exact ⟨_, row_get hv, h⟩

/-- the facts of an answer -/
structure GF (g : List (List Int)) (n : Nat) (grp : List Int) (ng : Nat) (done : List Int) : Prop where
  lt : ∀ v, v < n → 0 ≤ at0 grp v ∧ at0 grp v < ng
  sur : ∀ i : Nat, i < ng → ∃ v, v < n ∧ at0 grp v = i
  edge : ∀ v w, v < n → Edge g v w → w < n ∧ at0 grp w ≤ at0 grp v
  scc : ∀ u v, u < n → v < n → (at0 grp u = at0 grp v ↔ Path g u v ∧ Path g v u)
  nodup : done.Nodup
  rng : ∀ x ∈ done, 0 ≤ x ∧ x < (ng : Int)
  all : ∀ a : Nat, a < ng → (a : Int) ∈ done
  ahead : ∀ d1 x d2, done = d1 ++ x :: d2 → ∀ v w, v < n → at0 grp v = x → Edge g v w → at0 grp w = x ∨ at0 grp w ∈ d1
  least : ∀ d1 x d2, done = d1 ++ x :: d2 → ∀ a : Nat, a < ng → (a : Int) ∉ d1 → (∀ v w, v < n → at0 grp v = a → Edge g v w → at0 grp w = a ∨ at0 grp w ∈ d1) → ∀ v, v < n → at0 grp v = a → ∃ u, u < n ∧ at0 grp u = x ∧ u ≤ v

theorem cls_sorted (grp : List Int) (n : Nat) (i : Int) : (cls grp n i).Pairwise (· < ·) := by
  unfold cls
  rw [List.pairwise_map]
  refine List.Pairwise.imp ?_ (List.Pairwise.filter _ List.pairwise_lt_range)
  intro a b h; omega

theorem least_cls {grp : List Int} {n : Nat} {i : Int} {v : Nat} (hv : v < n) (h : at0 grp v = i) : at0 (cls grp n i) 0 ≤ v ∧ ∃ u : Nat, u < n ∧ at0 grp u = i ∧ at0 (cls grp n i) 0 = u := by
  have hm : (v : Int) ∈ cls grp n i := cls_mem.2 ⟨v, hv, h, rfl⟩
  have hs := cls_sorted grp n i
  have hall : ∀ x ∈ cls grp n i, ∃ u : Nat, u < n ∧ at0 grp u = i ∧ (u : Int) = x := fun x hx => cls_mem.1 hx
  cases hc : cls grp n i with
  | nil => rw [hc] at hm; cases hm
  | cons x xs =>
    rw [hc] at hm hs hall
    obtain ⟨u, u1, u2, u3⟩ := hall x (List.mem_cons_self ..)
    refine ⟨?_, u, u1, u2, by simp [at0, u3]⟩
    simp only [at0, List.getElem?_cons_zero, Option.getD_some]
    rcases List.mem_cons.1 hm with h1 | h1
    · omega
    · have := (List.pairwise_cons.1 hs).1 _ h1; omega

theorem groups_facts {g : List (List Int)} {n : Nat} (hg : RowsOk n g) (hgl : g.length = n) {gs : List (List Int)} (h : GroupsRes g n gs) :
    ∃ grp ng done, GF g n grp ng done ∧ gs = done.map (cls grp n) := by
  obtain ⟨grp, ng, done, hG, hO, hgs⟩ := h
  have hA := askAll_inv (k := n) hg hgl hG.lt (Nat.le_refl _)
  have hrow : ∀ i : Nat, i < ng → row (membersM grp ng n) i = cls grp n i := membersM_row hG.lt n (Nat.le_refl _)
  -- who waits for whom
  have hE : ∀ (a : Nat) (b : Int), a < ng → (b ∈ row (askAll g grp ng n).w a ↔ ∃ v w : Nat, v < n ∧ Edge g v w ∧ at0 grp v = a ∧ at0 grp w = b ∧ at0 grp v ≠ at0 grp w) := fun a b ha => by
    rw [hA.mem a b ha]
    constructor
    · rintro ⟨f, hf, t, ht, h1, h2, h3⟩
      have htl := hg.lt _ (row_mem (by omega)) t ht
      refine ⟨f, t.toNat, hf, (edge_row (by omega)).2 ?_, h2.symm, h3.symm, h1⟩
      rw [show ((t.toNat : Nat) : Int) = t by omega]; exact ht
    · rintro ⟨v, w, hv, he, h1, h2, h3⟩
      exact ⟨v, hv, (w : Int), (edge_row (by omega)).1 he, by simpa using h3, h1.symm, by simpa using h2.symm⟩
  have hwait : ∀ (a : Nat) (d1 : List Int), a < ng → ((∀ y ∈ row (askAll g grp ng n).w a, y ∈ d1) ↔ ∀ v w, v < n → at0 grp v = a → Edge g v w → at0 grp w = a ∨ at0 grp w ∈ d1) := fun a d1 ha => by
    constructor
    · intro hy v w hv hva he
      by_cases e : at0 grp w = a
      · exact .inl e
      · exact .inr (hy _ ((hE a _ ha).2 ⟨v, w, hv, he, hva, rfl, by rw [hva]; exact fun hh => e hh.symm⟩))
    · intro hy y hyw
      obtain ⟨v, w, hv, he, h1, h2, h3⟩ := (hE a y ha).1 hyw
      rcases hy v w hv h1 he with h4 | h4
      · exact absurd (h1.trans h4.symm) h3
      · rw [← h2]; exact h4
  have hall : ∀ a : Nat, a < ng → (a : Int) ∈ done := by
    intro a
    induction a using Nat.strongRecOn with
    | _ a ih =>
      intro ha
      refine hO.fin a ha fun y hy => ?_
      obtain ⟨v, w, hv, he, h1, h2, h3⟩ := (hE a y ha).1 hy
      obtain ⟨e1, e2⟩ := hG.edge v w hv he
      have hw := hG.lt w e1
      have : y = ((y.toNat : Nat) : Int) := by omega
      rw [this]
      exact ih y.toNat (by omega) (by omega)
  refine ⟨grp, ng, done, ⟨hG.lt, hG.sur, hG.edge, hG.scc, hO.nodup, hO.rng, hall, fun d1 x d2 e => ?_, fun d1 x d2 e a ha hn hw v hv hva => ?_⟩, ?_⟩
  · have hx := hO.rng x (by rw [e]; simp)
    have h1 := (hwait x.toNat d1 (by omega)).1 (hO.ord d1 x d2 e).1
    rw [show ((x.toNat : Nat) : Int) = x by omega] at h1
    exact h1
  · have hx := hO.rng x (by rw [e]; simp)
    have h1 := (hO.ord d1 x d2 e).2 a ha hn ((hwait a d1 ha).2 hw)
    have hxn : x.toNat < ng := by omega
    have e1 : leastAt (membersM grp ng n) x = at0 (cls grp n x) 0 := by
      have := hrow x.toNat hxn
      unfold leastAt
      rw [show (membersM grp ng n)[x.toNat]?.getD [] = row (membersM grp ng n) x.toNat from rfl, this, show ((x.toNat : Nat) : Int) = x by omega]
    have e2 : leastAt (membersM grp ng n) (a : Int) = at0 (cls grp n a) 0 := by
      have := hrow a ha
      unfold leastAt
      simp only [Int.toNat_natCast]
      rw [show (membersM grp ng n)[a]?.getD [] = row (membersM grp ng n) a from rfl, this]
    obtain ⟨u0, hu0, hu1⟩ := hG.sur x.toNat hxn
    rw [show ((x.toNat : Nat) : Int) = x by omega] at hu1
    obtain ⟨_, u, hu, hux, hul⟩ := least_cls hu0 hu1
    have h2 := (least_cls hv hva).1
    refine ⟨u, hu, hux, ?_⟩
    rw [e1, e2, hul] at h1
    omega
  · rw [hgs]
    refine List.map_congr_left fun i hi => ?_
    have hx := hO.rng i hi
    rw [hrow i.toNat (by omega), show ((i.toNat : Nat) : Int) = i by omega]

/-! ### the definition -/
def inB (out : List (List Int)) (f : Nat) : Bool := out.any fun r => r.contains (f : Int)
def readyB (n : Nat) (C : Nat → Nat → Bool) (dn : Nat → Bool) (f : Nat) : Bool := (List.range n).all fun g => !(C f g && !dn g && !decide (g = f) && !C g f)
def nextB (n : Nat) (C : Nat → Nat → Bool) (dn : Nat → Bool) : Option Nat := (List.range n).find? fun f => !dn f && readyB n C dn f
def clsB (n : Nat) (C : Nat → Nat → Bool) (f : Nat) : List Int := ((List.range n).filter fun g => decide (g = f) || (C f g && C g f)).map fun g : Nat => (g : Int)
def refG (n : Nat) (C : Nat → Nat → Bool) : Nat → List (List Int) → List (List Int)
  | 0, out => out
  | k + 1, out => match nextB n C (inB out) with
    | some f => refG n C k (out ++ [clsB n C f])
    | none => out

/-- by one call or more -/
def Path1 (g : List (List Int)) (a b : Nat) : Prop := ∃ c, Edge g a c ∧ Path g c b
theorem Path.cases1 {g : List (List Int)} {a b : Nat} (h : Path g a b) : a = b ∨ Path1 g a b := by
  induction h with
  | refl => exact .inl rfl
  | step h1 h2 ih =>
    rename_i j k
    rcases ih with e | ⟨c, h3, h4⟩
    · subst e; exact .inr ⟨k, h2, .refl⟩
    · exact .inr ⟨c, h3, .step h4 h2⟩
theorem Path1.path {g : List (List Int)} {a b : Nat} (h : Path1 g a b) : Path g a b := by
  obtain ⟨c, h1, h2⟩ := h
  exact (Path.one h1).trans h2

theorem find_range {n : Nat} {p : Nat → Bool} {f : Nat} (hf : f < n) (hp : p f = true) (hl : ∀ v, v < f → p v = false) : (List.range n).find? p = some f := by
  rw [List.find?_range_eq_some]
  exact ⟨hp, by simpa using hf, fun j hj => by simp [hl j hj]⟩

theorem inB_iff {grp : List Int} {n : Nat} {d : List Int} {v : Nat} (hv : v < n) : inB (d.map (cls grp n)) v = true ↔ at0 grp v ∈ d := by
  simp only [inB, List.any_eq_true, List.mem_map, List.contains_iff_mem]
  constructor
  · rintro ⟨_, ⟨i, hi, rfl⟩, h⟩
    obtain ⟨u, hu, h1, h2⟩ := cls_mem.1 h
    have : u = v := by omega
    subst this; rw [h1]; exact hi
  · intro h
    exact ⟨_, ⟨_, h, rfl⟩, cls_mem.2 ⟨v, hv, rfl, rfl⟩⟩

theorem groups_ref {g : List (List Int)} {n : Nat} (hg : RowsOk n g) (hgl : g.length = n) {gs : List (List Int)} (h : GroupsRes g n gs) {C : Nat → Nat → Bool} (hC : ∀ i j, i < n → j < n → (C i j = true ↔ Path1 g i j)) (k : Nat) (hk : gs.length ≤ k) : refG n C k [] = gs := by
  obtain ⟨grp, ng, done, hF, rfl⟩ := groups_facts hg hgl h
  have hpl : ∀ {a b : Nat}, Path g a b → a < n → b < n := fun h ha => by
    induction h with
    | refl => exact ha
    | step _ he ih => exact (hF.edge _ _ ih he).1
  have hcl : ∀ f, f < n → clsB n C f = cls grp n (at0 grp f) := fun f hf => by
    unfold clsB cls
    congr 1
    apply List.filter_congr
    intro v hv
    have hvn : v < n := by simpa using hv
    rw [Bool.eq_iff_iff]
    simp only [Bool.or_eq_true, decide_eq_true_eq, Bool.and_eq_true, hC f v hf hvn, hC v f hvn hf]
    rw [hF.scc v f hvn hf]
    constructor
    · rintro (e | ⟨h1, h2⟩)
      · subst e; exact ⟨.refl, .refl⟩
      · exact ⟨h2.path, h1.path⟩
    · rintro ⟨h1, h2⟩
      rcases h2.cases1 with e | h3
      · exact .inl e.symm
      · rcases h1.cases1 with e | h4
        · exact .inl e
        · exact .inr ⟨h3, h4⟩
  -- what is done is closed
  have hclosed : ∀ d1 d2, done = d1 ++ d2 → ∀ {a b : Nat}, Path g a b → a < n → at0 grp a ∈ d1 → at0 grp b ∈ d1 := fun d1 d2 e a b hp ha hd => by
    induction hp with
    | refl => exact hd
    | step hp he ih =>
      obtain ⟨e1, e2, e3⟩ := List.append_of_mem ih
      have hpn := hpl hp ha
      rcases hF.ahead e1 _ (e2 ++ d2) (by rw [e, e3]; simp) _ _ hpn rfl he with h1 | h1
      · rw [h1]; exact ih
      · rw [e3]; exact List.mem_append_left _ h1
  -- what is ready
  have hready : ∀ d1 d2, done = d1 ++ d2 → ∀ f, f < n → at0 grp f ∉ d1 → (readyB n C (inB (d1.map (cls grp n))) f = true ↔ ∀ v w, v < n → at0 grp v = at0 grp f → Edge g v w → at0 grp w = at0 grp f ∨ at0 grp w ∈ d1) := fun d1 d2 e f hf hfd => by
    simp only [readyB, List.all_eq_true, List.mem_range]
    constructor
    · intro hr v w hv hvf he
      obtain ⟨hwn, _⟩ := hF.edge v w hv he
      have hpf := ((hF.scc f v hf hv).1 hvf.symm).1
      have hpw : Path g f w := .step hpf he
      apply Classical.byContradiction
      intro hno
      simp only [not_or] at hno
      have h1 := hr w hwn
      have hwf : w ≠ f := fun e => hno.1 (by rw [e])
      have hc1 : C f w = true := (hC f w hf hwn).2 ((hpw.cases1).resolve_left (Ne.symm hwf))
      have hc2 : C w f = false := by
        cases hcc : C w f with
        | false => rfl
        | true => exact absurd ((hF.scc w f hwn hf).2 ⟨((hC w f hwn hf).1 hcc).path, hpw⟩) hno.1
      have hd : inB (d1.map (cls grp n)) w = false := by
        cases hcc : inB (d1.map (cls grp n)) w with
        | false => rfl
        | true => exact absurd ((inB_iff hwn).1 hcc) hno.2
      rw [hc1, hc2, hd] at h1
      simp [hwf] at h1
    · intro hr y hy
      have key : Path g f y → at0 grp y = at0 grp f ∨ at0 grp y ∈ d1 := fun hp => by
        induction hp with
        | refl => exact .inl rfl
        | step hp he ih =>
          have hpn := hpl hp hf
          rcases ih hpn with h1 | h1
          · exact hr _ _ hpn h1 he
          · exact .inr (hclosed d1 d2 e (Path.one he) hpn h1)
      cases hc : C f y with
      | false => simp
      | true =>
        have hp := ((hC f y hf hy).1 hc).path
        rcases key hp with h1 | h1
        · by_cases e : y = f
          · simp [e]
          · have hpy := ((hF.scc y f hy hf).1 h1).1
            have : C y f = true := (hC y f hy hf).2 (hpy.cases1.resolve_left e)
            simp [this]
        · have : inB (d1.map (cls grp n)) y = true := (inB_iff hy).2 h1
          simp [this]
  have hnone : nextB n C (inB (done.map (cls grp n))) = none := by
    unfold nextB
    rw [List.find?_eq_none]
    intro f hf
    have hfn : f < n := by simpa using hf
    have hlt := hF.lt f hfn
    have : inB (done.map (cls grp n)) f = true := (inB_iff hfn).2 (by
      have := hF.all (at0 grp f).toNat (by omega)
      rwa [show (((at0 grp f).toNat : Nat) : Int) = at0 grp f by omega] at this)
    simp [this]
  have hnext : ∀ d1 x d2, done = d1 ++ x :: d2 → ∃ f, nextB n C (inB (d1.map (cls grp n))) = some f ∧ clsB n C f = cls grp n x := fun d1 x d2 e => by
    have hx := hF.rng x (by rw [e]; simp)
    obtain ⟨u0, hu0, hu1⟩ := hF.sur x.toNat (by omega)
    rw [show ((x.toNat : Nat) : Int) = x by omega] at hu1
    obtain ⟨_, u, hu, hux, hul⟩ := least_cls hu0 hu1
    have hxd : x ∉ d1 := fun hh => by
      have := hF.nodup
      rw [e] at this
      exact (List.nodup_append.1 this).2.2 x hh x (List.mem_cons_self ..) rfl
    refine ⟨u, find_range hu ?_ fun v hv => ?_, by rw [hcl u hu, hux]⟩
    · have h1 : inB (d1.map (cls grp n)) u = false := by
        cases hcc : inB (d1.map (cls grp n)) u with
        | false => rfl
        | true => exact absurd (hux ▸ (inB_iff hu).1 hcc) hxd
      have h2 := (hready d1 (x :: d2) e u hu (by rw [hux]; exact hxd)).2 (by rw [hux]; exact hF.ahead d1 x d2 e)
      simp [h1, h2]
    · have hvn : v < n := by omega
      cases hcc : inB (d1.map (cls grp n)) v with
      | true => simp
      | false =>
        have hvd : at0 grp v ∉ d1 := fun hh => by
          have := (inB_iff hvn).2 hh
          rw [hcc] at this; cases this
        cases hrr : readyB n C (inB (d1.map (cls grp n))) v with
        | false => simp
        | true =>
          have h1 := (hready d1 (x :: d2) e v hvn hvd).1 hrr
          have hlt := hF.lt v hvn
          have hav : (((at0 grp v).toNat : Nat) : Int) = at0 grp v := by omega
          obtain ⟨u', q1, q2, q3⟩ := hF.least d1 x d2 e (at0 grp v).toNat (by omega) (by rw [hav]; exact hvd) (by rw [hav]; exact h1) v hvn hav.symm
          have := (least_cls q1 q2).1
          omega
  have main : ∀ d2 d1, done = d1 ++ d2 → ∀ k, d2.length ≤ k → refG n C k (d1.map (cls grp n)) = done.map (cls grp n) := by
    intro d2
    induction d2 with
    | nil =>
      intro d1 e k _
      simp only [List.append_nil] at e
      subst e
      cases k with
      | zero => rfl
      | succ k => rw [refG, hnone]
    | cons x d2 ih =>
      intro d1 e k hk
      cases k with
      | zero => simp at hk
      | succ k =>
        obtain ⟨f, h1, h2⟩ := hnext d1 x d2 e
        rw [refG, h1]
        simp only
        rw [h2]
        have := ih (d1 ++ [x]) (by rw [e]; simp) k (by simpa using hk)
        simpa using this
  have := main done [] rfl k (by simpa using hk)
  simpa using this

/-- two answers are one -/
theorem groups_same {g : List (List Int)} {n : Nat} (hg : RowsOk n g) (hgl : g.length = n) {a b : List (List Int)} (ha : GroupsRes g n a) (hb : GroupsRes g n b) : a = b := by
  classical
  have hC : ∀ i j, i < n → j < n → ((decide (Path1 g i j)) = true ↔ Path1 g i j) := fun i j _ _ => by simp
  exact (groups_ref hg hgl ha hC (a.length + b.length) (by omega)).symm.trans (groups_ref hg hgl hb hC (a.length + b.length) (by omega))
end Go.Sep
