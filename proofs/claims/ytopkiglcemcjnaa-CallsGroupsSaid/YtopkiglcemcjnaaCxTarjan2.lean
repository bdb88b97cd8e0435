/-
  What visit keeps, in full: the groups that are closed are the classes of 'each comes to the other'.
-/
import Derived.Test.YtopkiglcemcjnaaCxTarjan
set_option linter.unusedVariables false
set_option linter.unusedSimpArgs false
namespace Go.Sep

theorem Path.trans {g : List (List Int)} {a b c : Nat} (h : Path g a b) (k : Path g b c) : Path g a c := by
  induction k with
  | refl => exact h
  | step _ he ih => exact .step ih he

theorem Path.one {g : List (List Int)} {a b : Nat} (h : Edge g a b) : Path g a b := .step .refl h

def Vis (st : TS) (v : Nat) : Prop := at0 st.index v ≠ 0
def On (st : TS) (v : Nat) : Prop := (v : Int) ∈ st.stack

structure TIv (g : List (List Int)) (n : Nat) (st : TS) (gray : Nat → Prop) : Prop where
  wf : WF n st
  idx : ∀ v, Vis st v → 1 ≤ at0 st.index v ∧ at0 st.index v ≤ st.count
  inj : ∀ u v, Vis st u → Vis st v → at0 st.index u = at0 st.index v → u = v
  on : ∀ v, On st v ↔ Vis st v ∧ at0 st.group v < 0
  off : ∀ v, Vis st v → ¬ On st v → 0 ≤ at0 st.group v ∧ at0 st.group v < st.groups
  grey : ∀ v, gray v → On st v
  sorted : st.stack.Pairwise fun a b => at0 st.index b.toNat < at0 st.index a.toNat
  path : ∀ u v, On st u → On st v → at0 st.index u ≤ at0 st.index v → Path g u v
  back : ∀ v, On st v → ∃ u, gray u ∧ at0 st.index u ≤ at0 st.index v ∧ Path g v u
  black : ∀ v w, Vis st v → ¬ gray v → Edge g v w → Vis st w
  closed : ∀ v w, Vis st v → ¬ On st v → Edge g v w → Vis st w ∧ ¬ On st w ∧ at0 st.group w ≤ at0 st.group v
  scc : ∀ u v, Vis st u → ¬ On st u → Vis st v → ¬ On st v → (at0 st.group u = at0 st.group v ↔ Path g u v ∧ Path g v u)
  low : ∀ v, On st v → ∃ u, On st u ∧ at0 st.low v = at0 st.index u ∧ Path g v u
  lowle : ∀ v, On st v → at0 st.low v ≤ at0 st.index v

theorem Vis.lt {n : Nat} {st : TS} (hw : WF n st) {v : Nat} (h : Vis st v) : v < n := by
  rw [← hw.li]
  apply Decidable.byContradiction
  intro hn
  exact h (by simp [at0, List.getElem?_eq_none (Nat.le_of_not_lt hn)])

theorem TIv.vis {g : List (List Int)} {n : Nat} {st : TS} {gray : Nat → Prop} (h : TIv g n st gray) {v : Nat} (hv : On st v) : Vis st v := ((h.on v).1 hv).1

/-- behind a visit of f -/
structure VPost (g : List (List Int)) (n : Nat) (st st' : TS) (f : Nat) (gray : Nat → Prop) : Prop where
  inv : TIv g n st' gray
  kept : Kept st st'
  vis : Vis st' f
  frame : ∀ v, Vis st v → at0 st'.low v = at0 st.low v ∧ at0 st'.group v = at0 st.group v
  exit : ∀ w y, ¬ Vis st w → On st' w → Edge g w y → On st' y → at0 st'.low f ≤ at0 st'.index y
  lowf : On st' f → at0 st'.low f < at0 st'.index f

/-- a function is begun -/
theorem TIv.begin {g : List (List Int)} {n : Nat} {st : TS} {gray : Nat → Prop} (h : TIv g n st gray) {f : Nat} (hf : f < n) (hv : ¬ Vis st f) (hp : ∀ u, gray u → Path g u f) :
    TIv g n (beginV st f) (fun v => gray v ∨ v = f) := by
  have h0 : at0 st.index f = 0 := Decidable.byContradiction hv
  obtain ⟨b1, b2, b3, b4⟩ := beginV_wf h.wf hf h0
  have hli := h.wf.li
  have hll := h.wf.ll
  have hlg := h.wf.lg
  have hcnt := h.wf.cnt
  have ei : ∀ v, at0 (beginV st f).index v = if f = v then st.count + 1 else at0 st.index v := fun v => by
    have h1 : f < st.index.length := by omega
    have h2 : f < st.low.length := by omega
    have h3 : f < st.group.length := by omega
    simp only [beginV, at0_set, h1, h2, h3, and_true]
  have el : ∀ v, at0 (beginV st f).low v = if f = v then st.count + 1 else at0 st.low v := fun v => by
    have h1 : f < st.index.length := by omega
    have h2 : f < st.low.length := by omega
    have h3 : f < st.group.length := by omega
    simp only [beginV, at0_set, h1, h2, h3, and_true]
  have eg : ∀ v, at0 (beginV st f).group v = if f = v then -1 else at0 st.group v := fun v => by
    have h1 : f < st.index.length := by omega
    have h2 : f < st.low.length := by omega
    have h3 : f < st.group.length := by omega
    simp only [beginV, at0_set, h1, h2, h3, and_true]
  have eo : ∀ v, On (beginV st f) v ↔ v = f ∨ On st v := fun v => by
    unfold On
    simp only [beginV, List.mem_cons]
    constructor
    · rintro (h1 | h1)
      · exact .inl (by omega)
      · exact .inr h1
    · rintro (h1 | h1)
      · exact .inl (by omega)
      · exact .inr h1
  have ev : ∀ v, Vis (beginV st f) v ↔ v = f ∨ Vis st v := fun v => by
    unfold Vis; rw [ei]
    by_cases e : f = v
    · subst e; simp; omega
    · rw [if_neg e]; constructor
      · exact .inr
      · rintro (h1 | h1)
        · exact absurd h1.symm e
        · exact h1
  have hnf : ¬ On st f := fun ho => hv (h.vis ho)
  have hne : ∀ {v}, Vis st v → f ≠ v := fun {v} h1 e => by subst e; exact hv h1
  have eiV : ∀ {v}, Vis st v → at0 (beginV st f).index v = at0 st.index v := fun {v} h1 => by rw [ei, if_neg (hne h1)]
  have elV : ∀ {v}, Vis st v → at0 (beginV st f).low v = at0 st.low v := fun {v} h1 => by rw [el, if_neg (hne h1)]
  have egV : ∀ {v}, Vis st v → at0 (beginV st f).group v = at0 st.group v := fun {v} h1 => by rw [eg, if_neg (hne h1)]
  have eif : at0 (beginV st f).index f = st.count + 1 := by rw [ei, if_pos rfl]
  have ecl : ∀ {v}, Vis (beginV st f) v → ¬ On (beginV st f) v → Vis st v ∧ ¬ On st v := fun {v} h1 h2 => by
    rw [eo] at h2
    rcases (ev v).1 h1 with h3 | h3
    · exact absurd (.inl h3) h2
    · exact ⟨h3, fun h4 => h2 (.inr h4)⟩
  have efp : ∀ {v}, On st v → Path g v f := fun {v} h1 => by
    obtain ⟨u, u1, u2, u3⟩ := h.back v h1
    exact u3.trans (hp u u1)
  refine ⟨b1, ?_, ?_, ?_, ?_, ?_, ?_, ?_, ?_, ?_, ?_, ?_, ?_, ?_⟩
  · intro v h1
    rcases (ev v).1 h1 with h2 | h2
    · subst h2; rw [eif]; exact ⟨by omega, by simp [beginV]⟩
    · rw [eiV h2]
      have := h.idx v h2
      exact ⟨this.1, by simp only [beginV]; omega⟩
  · intro u v h1 h2 h3
    rcases (ev u).1 h1 with h4 | h4 <;> rcases (ev v).1 h2 with h5 | h5
    · rw [h4, h5]
    · subst h4; rw [eif, eiV h5] at h3; have := h.idx v h5; omega
    · subst h5; rw [eif, eiV h4] at h3; have := h.idx u h4; omega
    · rw [eiV h4, eiV h5] at h3; exact h.inj u v h4 h5 h3
  · intro v
    rw [eo, ev]
    constructor
    · rintro (h1 | h1)
      · subst h1; exact ⟨.inl rfl, by rw [eg, if_pos rfl]; decide⟩
      · have := (h.on v).1 h1
        exact ⟨.inr this.1, by rw [egV this.1]; exact this.2⟩
    · rintro ⟨h1 | h1, h2⟩
      · exact .inl h1
      · rw [egV h1] at h2; exact .inr ((h.on v).2 ⟨h1, h2⟩)
  · intro v h1 h2
    obtain ⟨h3, h4⟩ := ecl h1 h2
    rw [egV h3]; exact h.off v h3 h4
  · rintro v (h1 | h1)
    · exact (eo v).2 (.inr (h.grey v h1))
    · exact (eo v).2 (.inl h1)
  · have hs : ∀ x ∈ st.stack, Vis st x.toNat := fun x hx => by
      have := h.wf.stk x hx
      exact h.vis (v := x.toNat) (by unfold On; rw [show ((x.toNat : Nat) : Int) = x by omega]; exact hx)
    refine List.pairwise_cons.2 ⟨fun x hx => ?_, ?_⟩
    · rw [Int.toNat_natCast, eif, eiV (hs x hx)]
      have := h.idx _ (hs x hx); omega
    · refine h.sorted.imp_of_mem fun {a b} ha hb hab => ?_
      rw [eiV (hs a ha), eiV (hs b hb)]; exact hab
  · intro u v h1 h2 h3
    rcases (eo u).1 h1 with h4 | h4 <;> rcases (eo v).1 h2 with h5 | h5
    · rw [h4, h5]; exact .refl
    · subst h4; rw [eif, eiV (h.vis h5)] at h3; have := h.idx v (h.vis h5); omega
    · rw [h5]; exact efp h4
    · rw [eiV (h.vis h4), eiV (h.vis h5)] at h3; exact h.path u v h4 h5 h3
  · intro v h1
    rcases (eo v).1 h1 with h2 | h2
    · exact ⟨v, .inr h2, Int.le_refl _, .refl⟩
    · obtain ⟨u, u1, u2, u3⟩ := h.back v h2
      exact ⟨u, .inl u1, by rw [eiV (h.vis (h.grey u u1)), eiV (h.vis h2)]; exact u2, u3⟩
  · intro v w h1 h2 h3
    rcases (ev v).1 h1 with h4 | h4
    · exact absurd (.inr h4) h2
    · exact (ev w).2 (.inr (h.black v w h4 (fun hh => h2 (.inl hh)) h3))
  · intro v w h1 h2 h3
    obtain ⟨h4, h5⟩ := ecl h1 h2
    obtain ⟨c1, c2, c3⟩ := h.closed v w h4 h5 h3
    refine ⟨(ev w).2 (.inr c1), fun h6 => ?_, by rw [egV c1, egV h4]; exact c3⟩
    rcases (eo w).1 h6 with h7 | h7
    · exact hne c1 h7.symm
    · exact c2 h7
  · intro u v h1 h2 h3 h4
    obtain ⟨h5, h6⟩ := ecl h1 h2
    obtain ⟨h7, h8⟩ := ecl h3 h4
    rw [egV h5, egV h7]; exact h.scc u v h5 h6 h7 h8
  · intro v h1
    rcases (eo v).1 h1 with h2 | h2
    · subst h2; exact ⟨v, h1, by rw [eif, el, if_pos rfl], .refl⟩
    · obtain ⟨u, u1, u2, u3⟩ := h.low v h2
      exact ⟨u, (eo u).2 (.inr u1), by rw [elV (h.vis h2), eiV (h.vis u1)]; exact u2, u3⟩
  · intro v h1
    rcases (eo v).1 h1 with h2 | h2
    · subst h2; rw [eif, el, if_pos rfl]; exact Int.le_refl _
    · rw [elV (h.vis h2), eiV (h.vis h2)]; exact h.lowle v h2

/-- a lower one is seen -/
theorem TIv.lower {g : List (List Int)} {n : Nat} {st : TS} {gray : Nat → Prop} (h : TIv g n st gray) {f k : Nat} (hf : On st f) (he : Edge g f k) (hk : Vis st k) : TIv g n (lowerV f k st) gray := by
  unfold lowerV
  split
  · rename_i hk0
    have hko := (h.on k).2 ⟨hk, hk0⟩
    have hfn := (h.vis hf).lt h.wf
    have hll := h.wf.ll
    have el : ∀ v, at0 (st.low.set f (if at0 st.low k < at0 st.low f then at0 st.low k else at0 st.low f)) v = if f = v then (if at0 st.low k < at0 st.low f then at0 st.low k else at0 st.low f) else at0 st.low v := fun v => by
      have h2 : f < st.low.length := by omega
      simp only [at0_set, h2, and_true]
    refine ⟨⟨h.wf.li, by simp [h.wf.ll], h.wf.lg, h.wf.stk, h.wf.cnt, h.wf.grp⟩, h.idx, h.inj, h.on, h.off, h.grey, h.sorted, h.path, h.back, h.black, h.closed, h.scc, ?_, ?_⟩
    · intro v hv
      simp only [el]
      by_cases e : f = v
      · subst e
        rw [if_pos rfl]
        split
        · obtain ⟨u, u1, u2, u3⟩ := h.low k hko
          exact ⟨u, u1, u2, (Path.one he).trans u3⟩
        · exact h.low f hv
      · rw [if_neg e]; exact h.low v hv
    · intro v hv
      simp only [el]
      have := h.lowle v hv
      by_cases e : f = v
      · subst e
        rw [if_pos rfl]
        split
        · omega
        · exact this
      · rw [if_neg e]; exact this
  · exact h

theorem popR_group (f gr : Int) : ∀ (ext rest grp : List Int), f ∉ ext → popR f gr (ext ++ f :: rest) grp = (rest, (ext ++ [f]).foldl (fun a x => a.set x.toNat gr) grp)
  | [], rest, grp, _ => by simp [popR]
  | x :: xs, rest, grp, h => by
    simp only [List.cons_append, List.foldl_cons]
    rw [popR, if_neg (fun e => h (by simp [e]))]
    exact popR_group f gr xs rest _ (fun e => h (by simp [e]))

theorem setAll_at (gr : Int) : ∀ (l : List Int) (grp : List Int) (v : Nat), (∀ x ∈ l, 0 ≤ x ∧ x < (grp.length : Int)) → at0 (l.foldl (fun a x => a.set x.toNat gr) grp) v = if (v : Int) ∈ l then gr else at0 grp v
  | [], grp, v, _ => by simp
  | x :: xs, grp, v, h => by
    have hx := h x (List.mem_cons_self ..)
    rw [List.foldl_cons, setAll_at gr xs _ v (fun y hy => by rw [List.length_set]; exact h y (List.mem_cons_of_mem _ hy)), at0_set]
    by_cases e : (v : Int) ∈ xs
    · simp [e]
    · by_cases e2 : x.toNat = v
      · have : (v : Int) = x := by omega
        rw [if_neg e, if_pos ⟨e2, by omega⟩, if_pos (by simp [this])]
      · have : (v : Int) ≠ x := by omega
        rw [if_neg e, if_neg (fun hh => e2 hh.1), if_neg (by simp [e, this])]

/-- what is left when f stays open -/
theorem TIv.keep {g : List (List Int)} {n : Nat} {st : TS} {gray : Nat → Prop} {f : Nat} (h : TIv g n st (fun v => gray v ∨ v = f)) (hne : at0 st.low f ≠ at0 st.index f) (hb : ∀ w, Edge g f w → Vis st w) : TIv g n st gray := by
  refine ⟨h.wf, h.idx, h.inj, h.on, h.off, fun v hv => h.grey v (.inl hv), h.sorted, h.path, ?_, ?_, h.closed, h.scc, h.low, h.lowle⟩
  · intro v hv
    obtain ⟨u, u1, u2, u3⟩ := h.back v hv
    rcases u1 with u1 | u1
    · exact ⟨u, u1, u2, u3⟩
    · subst u1
      have hf := h.grey u (.inr rfl)
      obtain ⟨u0, a1, a2, a3⟩ := h.low u hf
      have hle := h.lowle u hf
      obtain ⟨u1, c1, c2, c3⟩ := h.back u0 a1
      have hlt : at0 st.index u1 < at0 st.index u := by omega
      rcases c1 with c1 | c1
      · exact ⟨u1, c1, by omega, u3.trans (a3.trans c3)⟩
      · subst c1; omega
  · intro v w h1 h2 h3
    by_cases e : v = f
    · subst e; exact hb w h3
    · exact h.black v w h1 (fun hh => hh.elim h2 e) h3

/-- what is left when f is closed with all above it -/
theorem TIv.close {g : List (List Int)} {n : Nat} {st : TS} {gray : Nat → Prop} {f : Nat} (h : TIv g n st (fun v => gray v ∨ v = f)) (heq : at0 st.low f = at0 st.index f) (hgf : ¬ gray f) {ext rest : List Int} (hs : st.stack = ext ++ (f : Int) :: rest)
    (hb : ∀ w, Edge g f w → Vis st w ∧ (On st w → at0 st.low f ≤ at0 st.index w)) (hgr : ∀ u, gray u → at0 st.index u < at0 st.index f)
    (hx : ∀ w y, On st w → at0 st.index f < at0 st.index w → Edge g w y → On st y → at0 st.low f ≤ at0 st.index y) :
    TIv g n (closeV f st) gray ∧ (closeV f st).stack = rest ∧ (∀ v : Nat, (v : Int) ∉ ext → v ≠ f → at0 (closeV f st).group v = at0 st.group v) := by
  have hsrt := h.sorted
  rw [hs] at hsrt
  obtain ⟨s1, s2, s3⟩ := List.pairwise_append.1 hsrt
  obtain ⟨s4, s5⟩ := List.pairwise_cons.1 s2
  have hext : ∀ v : Nat, (v : Int) ∈ ext → at0 st.index f < at0 st.index v := fun v hv => by
    have := s3 _ hv _ (List.mem_cons_self ..); simpa using this
  have hrest : ∀ v : Nat, (v : Int) ∈ rest → at0 st.index v < at0 st.index f := fun v hv => by
    have := s4 _ hv; simpa using this
  have hfe : (f : Int) ∉ ext := fun hh => by have := hext f hh; omega
  have hon : ∀ v : Nat, On st v ↔ ((v : Int) ∈ ext ∨ v = f) ∨ (v : Int) ∈ rest := fun v => by
    unfold On; rw [hs]; simp only [List.mem_append, List.mem_cons]
    constructor
    · rintro (h1 | h1 | h1)
      · exact .inl (.inl h1)
      · exact .inl (.inr (by omega))
      · exact .inr h1
    · rintro ((h1 | h1) | h1)
      · exact .inl h1
      · exact .inr (.inl (by omega))
      · exact .inr (.inr h1)
  have hcl : closeV f st = { st with stack := rest, group := (ext ++ [(f : Int)]).foldl (fun a x => a.set x.toNat st.groups) st.group, groups := st.groups + 1 } := by
    rw [closeV, if_neg (by simpa using heq), hs, popR_group _ _ _ _ _ hfe]
  have eg : ∀ v : Nat, at0 ((ext ++ [(f : Int)]).foldl (fun a x => a.set x.toNat st.groups) st.group) v = if (v : Int) ∈ ext ∨ v = f then st.groups else at0 st.group v := fun v => by
    rw [setAll_at]
    · have : ((v : Int) ∈ ext ++ [(f : Int)]) ↔ ((v : Int) ∈ ext ∨ v = f) := by
        simp only [List.mem_append, List.mem_singleton]
        constructor <;> (rintro (h1 | h1); exact .inl h1; exact .inr (by omega))
      simp only [this]
    · intro x hx
      rw [h.wf.lg]
      refine h.wf.stk x ?_
      rw [hs]
      rcases List.mem_append.1 hx with h1 | h1
      · exact List.mem_append_left _ h1
      · simp only [List.mem_singleton] at h1; subst h1; simp
  obtain ⟨w1, _, _⟩ := closeV_wf h.wf hs
  rw [hcl] at w1 ⊢
  have hgp := h.wf.grp
  have pop_le : ∀ {v : Nat}, ((v : Int) ∈ ext ∨ v = f) → at0 st.index f ≤ at0 st.index v := fun {v} hv => by
    rcases hv with h1 | h1
    · have := hext v h1; omega
    · rw [h1]; exact Int.le_refl _
  have pop_on : ∀ {v : Nat}, ((v : Int) ∈ ext ∨ v = f) → On st v := fun {v} hv => (hon v).2 (.inl hv)
  have hfo : On st f := pop_on (.inr rfl)
  have rest_on : ∀ {v : Nat}, (v : Int) ∈ rest → On st v := fun {v} hv => (hon v).2 (.inr hv)
  have rest_np : ∀ {v : Nat}, (v : Int) ∈ rest → ¬ ((v : Int) ∈ ext ∨ v = f) := fun {v} hv hp => by
    have := hrest v hv; have := pop_le hp; omega
  have grey_np : ∀ {v : Nat}, gray v → ¬ ((v : Int) ∈ ext ∨ v = f) := fun {v} hv hp => by
    have := hgr v hv; have := pop_le hp; omega
  have toF : ∀ {u : Nat}, ((u : Int) ∈ ext ∨ u = f) → Path g u f := fun {u} hu => by
    obtain ⟨u1, c1, c2, c3⟩ := h.back u (pop_on hu)
    rcases c1 with c1 | c1
    · exact c3.trans (h.path u1 f (h.grey u1 (.inl c1)) hfo (by have := hgr u1 c1; omega))
    · rw [c1] at c3; exact c3
  have ofF : ∀ {v : Nat}, ((v : Int) ∈ ext ∨ v = f) → Path g f v := fun {v} hv => h.path f v hfo (pop_on hv) (pop_le hv)
  have shut : ∀ {v w : Nat}, Vis st v → ¬ On st v → Path g v w → Vis st w ∧ ¬ On st w := fun {v w} h1 h2 h3 => by
    induction h3 with
    | refl => exact ⟨h1, h2⟩
    | step _ he ih =>
      obtain ⟨a1, a2, _⟩ := h.closed _ _ ih.1 ih.2 he
      exact ⟨a1, a2⟩
  have notOn : ∀ {v : Nat}, ¬ (v : Int) ∈ rest → ¬ ((v : Int) ∈ ext ∨ v = f) → ¬ On st v := fun {v} h1 h2 h3 => ((hon v).1 h3).elim h2 h1
  refine ⟨⟨w1, h.idx, h.inj, ?_, ?_, ?_, s5, fun u v h1 h2 h3 => h.path u v (rest_on h1) (rest_on h2) h3, ?_, ?_, ?_, ?_, ?_, fun v hv => h.lowle v (rest_on hv)⟩, rfl, fun v h1 h2 => ?_⟩
  · intro v
    constructor
    · intro hv
      have h1 := (h.on v).1 (rest_on hv)
      refine ⟨h1.1, ?_⟩
      simp only [eg, if_neg (rest_np hv)]; exact h1.2
    · rintro ⟨h1, h2⟩
      simp only [eg] at h2
      split at h2
      · omega
      · rename_i hnp
        rcases (hon v).1 ((h.on v).2 ⟨h1, h2⟩) with h3 | h3
        · exact absurd h3 hnp
        · exact h3
  · intro v h1 h2
    simp only [eg]
    split
    · exact ⟨hgp.1, by omega⟩
    · rename_i hnp
      have := h.off v h1 (notOn h2 hnp)
      exact ⟨this.1, by omega⟩
  · intro v hv
    rcases (hon v).1 (h.grey v (.inl hv)) with h3 | h3
    · exact absurd h3 (grey_np hv)
    · exact h3
  · intro v hv
    obtain ⟨u, u1, u2, u3⟩ := h.back v (rest_on hv)
    rcases u1 with u1 | u1
    · exact ⟨u, u1, u2, u3⟩
    · subst u1; have := hrest v hv; omega
  · intro v w h1 h2 h3
    by_cases e : v = f
    · subst e; exact (hb w h3).1
    · exact h.black v w h1 (fun hh => hh.elim h2 e) h3
  · intro v w h1 h2 h3
    by_cases hp : (v : Int) ∈ ext ∨ v = f
    · have hvw : Vis st w := by
        by_cases e : v = f
        · subst e; exact (hb w h3).1
        · exact h.black v w h1 (fun hh => hh.elim (fun hg => grey_np hg hp) e) h3
      have hnr : ¬ (w : Int) ∈ rest := fun hw => by
        have h5 := hrest w hw
        by_cases e : v = f
        · subst e; have := (hb w h3).2 (rest_on hw); omega
        · have h6 : at0 st.index f < at0 st.index v := hext v (hp.elim id (fun hh => absurd hh e))
          have := hx v w (pop_on hp) h6 h3 (rest_on hw); omega
      refine ⟨hvw, hnr, ?_⟩
      simp only [eg, if_pos hp]
      split
      · exact Int.le_refl _
      · rename_i hnp
        have := h.off w hvw (notOn hnr hnp); omega
    · have hno := notOn h2 hp
      obtain ⟨a1, a2, a3⟩ := h.closed v w h1 hno h3
      have hnw : ¬ ((w : Int) ∈ ext ∨ w = f) := fun hh => a2 (pop_on hh)
      refine ⟨a1, fun hh => a2 (rest_on hh), ?_⟩
      simp only [eg, if_neg hp, if_neg hnw]; exact a3
  · intro u v h1 h2 h3 h4
    by_cases hu : (u : Int) ∈ ext ∨ u = f
    · by_cases hv : (v : Int) ∈ ext ∨ v = f
      · simp only [eg, if_pos hu, if_pos hv, true_iff]
        exact ⟨(toF hu).trans (ofF hv), (toF hv).trans (ofF hu)⟩
      · have hno := notOn h4 hv
        have hgv := h.off v h3 hno
        simp only [eg, if_pos hu, if_neg hv]
        constructor
        · intro hh; omega
        · rintro ⟨_, hh⟩; exact absurd (pop_on hu) (shut h3 hno hh).2
    · have hnu := notOn h2 hu
      have hgu := h.off u h1 hnu
      by_cases hv : (v : Int) ∈ ext ∨ v = f
      · simp only [eg, if_neg hu, if_pos hv]
        constructor
        · intro hh; omega
        · rintro ⟨hh, _⟩; exact absurd (pop_on hv) (shut h1 hnu hh).2
      · simp only [eg, if_neg hu, if_neg hv]
        exact h.scc u v h1 hnu h3 (notOn h4 hv)
  · intro v hv
    obtain ⟨u, u1, u2, u3⟩ := h.low v (rest_on hv)
    have hle := h.lowle v (rest_on hv)
    have hlt := hrest v hv
    refine ⟨u, ?_, u2, u3⟩
    rcases (hon u).1 u1 with h5 | h5
    · have := pop_le h5; omega
    · exact h5
  · simp only [eg]
    rw [if_neg (fun hh => hh.elim h1 h2)]
end Go.Sep
