/-
  The model of visit: what it does to its state, and what it keeps.
-/
import Derived.Test.YtopkiglcemcjnaaCxWalk8
set_option linter.unusedVariables false
set_option linter.unusedSimpArgs false
namespace Go.Sep

def at0 (l : List Int) (k : Nat) : Int := l[k]?.getD 0

structure TS where
  index : List Int
  low : List Int
  group : List Int
  stack : List Int   -- the top first
  count : Int
  groups : Int

def beginV (st : TS) (f : Nat) : TS :=
  { st with count := st.count + 1, index := st.index.set f (st.count + 1), low := st.low.set f (st.count + 1), group := st.group.set f (-1), stack := (f : Int) :: st.stack }

def lowerV (f k : Nat) (st : TS) : TS := if at0 st.group k < 0 then { st with low := st.low.set f (if at0 st.low k < at0 st.low f then at0 st.low k else at0 st.low f) } else st

def popR (f gr : Int) : List Int → List Int → List Int × List Int
  | [], grp => ([], grp)
  | x :: xs, grp => if x = f then (xs, grp.set x.toNat gr) else popR f gr xs (grp.set x.toNat gr)

def closeV (f : Nat) (st : TS) : TS :=
  if at0 st.low f ≠ at0 st.index f then st
  else { st with stack := (popR f st.groups st.stack st.group).1, group := (popR f st.groups st.stack st.group).2, groups := st.groups + 1 }

def visitM (g : List (List Int)) : Nat → TS → Nat → TS
  | 0, st, _ => st
  | fuel + 1, st, f => closeV f ((g[f]?.getD []).foldl (fun st t => lowerV f t.toNat (if at0 st.index t.toNat = 0 then visitM g fuel st t.toNat else st)) (beginV st f))

def stepV (g : List (List Int)) (fuel f : Nat) (st : TS) (t : Int) : TS := lowerV f t.toNat (if at0 st.index t.toNat = 0 then visitM g fuel st t.toNat else st)

theorem visitM_succ (g : List (List Int)) (fuel : Nat) (st : TS) (f : Nat) : visitM g (fuel + 1) st f = closeV f ((g[f]?.getD []).foldl (stepV g fuel f) (beginV st f)) := rfl

def zeros (l : List Int) : Nat := (l.filter (· == 0)).length

theorem zeros_set {l : List Int} {k : Nat} {v : Int} (h : l[k]? = some 0) (hv : v ≠ 0) : zeros (l.set k v) + 1 = zeros l := by
  unfold zeros
  induction l generalizing k with
  | nil => simp at h
  | cons x xs ih =>
    cases k with
    | zero => simp at h; subst h; simp [hv]
    | succ k =>
      simp at h
      have := ih h
      simp only [List.set_cons_succ, List.filter_cons]
      split
      · simp only [List.length_cons]; omega
      · exact this

theorem zeros_pos {l : List Int} {k : Nat} (h : l[k]? = some 0) : 0 < zeros l := by
  unfold zeros
  have : (0 : Int) ∈ l.filter (· == 0) := by simp; exact List.mem_of_getElem? h
  exact List.length_pos_of_mem this

structure WF (n : Nat) (st : TS) : Prop where
  li : st.index.length = n
  ll : st.low.length = n
  lg : st.group.length = n
  stk : ∀ x ∈ st.stack, 0 ≤ x ∧ x < (n : Int)
  cnt : 0 ≤ st.count ∧ st.count + zeros st.index ≤ n
  grp : 0 ≤ st.groups ∧ st.groups + st.stack.length + zeros st.index ≤ n

/-- what a visit keeps -/
structure Kept (st st' : TS) : Prop where
  stack : ∃ ext, st'.stack = ext ++ st.stack
  index : ∀ k : Nat, at0 st.index k ≠ 0 → at0 st'.index k = at0 st.index k
  zeros : zeros st'.index ≤ zeros st.index

theorem Kept.refl (st : TS) : Kept st st := ⟨⟨[], rfl⟩, fun _ _ => rfl, Nat.le_refl _⟩
theorem Kept.trans {a b c : TS} (h : Kept a b) (k : Kept b c) : Kept a c := by
  obtain ⟨e, he⟩ := h.stack
  obtain ⟨e', he'⟩ := k.stack
  exact ⟨⟨e' ++ e, by rw [he', he, List.append_assoc]⟩, fun i hi => by rw [k.index i (by rw [h.index i hi]; exact hi), h.index i hi], Nat.le_trans k.zeros h.zeros⟩

theorem at0_get {l : List Int} {k : Nat} (h : k < l.length) : l[k]? = some (at0 l k) := by simp [at0, h]
theorem at0_set {l : List Int} {k i : Nat} {v : Int} : at0 (l.set k v) i = if k = i ∧ k < l.length then v else at0 l i := by
  unfold at0
  rw [List.getElem?_set]
  by_cases e : k = i
  · subst e
    by_cases h : k < l.length <;> simp [h]
  · simp [e]

theorem beginV_wf {n : Nat} {st : TS} (h : WF n st) {f : Nat} (hf : f < n) (h0 : at0 st.index f = 0) : WF n (beginV st f) ∧ zeros (beginV st f).index + 1 = zeros st.index ∧ (∀ k : Nat, at0 st.index k ≠ 0 → at0 (beginV st f).index k = at0 st.index k) ∧ at0 (beginV st f).index f ≠ 0 := by
  have hz : st.index[f]? = some 0 := by rw [at0_get (by rw [h.li]; exact hf), h0]
  have hc := h.cnt
  have hg := h.grp
  have hzs := zeros_set hz (v := st.count + 1) (by omega)
  refine ⟨⟨by simp [beginV, h.li], by simp [beginV, h.ll], by simp [beginV, h.lg], ?_, ?_, ?_⟩, hzs, fun k hk => ?_, ?_⟩
  · intro x hx
    simp only [beginV, List.mem_cons] at hx
    rcases hx with rfl | hx
    · omega
    · exact h.stk x hx
  · simp only [beginV]; omega
  · simp only [beginV, List.length_cons]; omega
  · simp only [beginV, at0_set]
    split
    · rename_i e; rw [e.1] at h0; exact absurd h0 hk
    · rfl
  · have hfl : f < st.index.length := by rw [h.li]; exact hf
    simp only [beginV, at0_set, hfl, and_self, if_true, true_and]
    omega

theorem lowerV_wf {n : Nat} {st : TS} (h : WF n st) (f k : Nat) : WF n (lowerV f k st) := by
  unfold lowerV; split
  · exact ⟨h.li, by simp [h.ll], h.lg, h.stk, h.cnt, h.grp⟩
  · exact h
theorem lowerV_index (f k : Nat) (st : TS) : (lowerV f k st).index = st.index ∧ (lowerV f k st).stack = st.stack := by unfold lowerV; split <;> exact ⟨rfl, rfl⟩
theorem lowerV_kept (f k : Nat) (st : TS) : Kept st (lowerV f k st) := by
  obtain ⟨h1, h2⟩ := lowerV_index f k st
  exact ⟨⟨[], by rw [h2]; rfl⟩, fun i _ => by rw [h1], by rw [h1]; exact Nat.le_refl _⟩

theorem popR_len (f gr : Int) : ∀ (xs grp : List Int), (popR f gr xs grp).2.length = grp.length
  | [], grp => rfl
  | x :: xs, grp => by
    unfold popR; split
    · simp
    · rw [popR_len f gr xs]; simp
theorem popR_suffix (f gr : Int) : ∀ (xs grp : List Int), f ∈ xs → ∃ e, xs = e ++ f :: (popR f gr xs grp).1 ∧ f ∉ e
  | [], grp, h => by cases h
  | x :: xs, grp, h => by
    unfold popR
    by_cases e : x = f
    · rw [if_pos e]; exact ⟨[], by simp [e], by simp⟩
    · rw [if_neg e]
      have : f ∈ xs := by
        rcases List.mem_cons.1 h with h | h
        · exact absurd h.symm e
        · exact h
      obtain ⟨a, h1, h2⟩ := popR_suffix f gr xs (grp.set x.toNat gr) this
      refine ⟨x :: a, by rw [List.cons_append, ← h1], ?_⟩
      simp only [List.mem_cons, not_or]
      exact ⟨fun h => e h.symm, h2⟩

theorem suffix_cut {α : Type} {f : α} : ∀ {e ext r rest : List α}, e ++ f :: r = ext ++ f :: rest → f ∉ e → ∃ e', r = e' ++ rest
  | [], [], r, rest, h, _ => by simp at h; exact ⟨[], by simp [h]⟩
  | [], y :: ys, r, rest, h, _ => by simp at h; exact ⟨ys ++ [f], by simp [h.2]⟩
  | x :: xs, [], r, rest, h, hf => by simp at h; exact absurd (by simp [h.1]) hf
  | x :: xs, y :: ys, r, rest, h, hf => by
    simp at h
    exact suffix_cut h.2 (fun hm => hf (by simp [hm]))

theorem closeV_wf {n : Nat} {st : TS} (h : WF n st) {f : Nat} {ext rest : List Int} (hs : st.stack = ext ++ (f : Int) :: rest) : WF n (closeV f st) ∧ (closeV f st).index = st.index ∧ ∃ e, (closeV f st).stack = e ++ rest := by
  unfold closeV
  split
  · exact ⟨h, rfl, ext ++ [(f : Int)], by rw [hs]; simp⟩
  · obtain ⟨e, h1, h2⟩ := popR_suffix f st.groups st.stack st.group (by rw [hs]; simp)
    have h3 := hs.symm.trans h1
    obtain ⟨e', h4⟩ := suffix_cut h3.symm h2
    have hl := congrArg List.length h1
    simp only [List.length_append, List.length_cons] at hl
    have hg := h.grp
    refine ⟨⟨h.li, h.ll, by simp only [popR_len]; exact h.lg, fun x hx => h.stk x ?_, h.cnt, ?_⟩, rfl, e', h4⟩
    · rw [h1]; exact List.mem_append_right _ (List.mem_cons_of_mem _ hx)
    · simp only; omega

/-- a visit keeps what a visit keeps; f is begun behind it -/
theorem visitM_ok {n : Nat} {g : List (List Int)} (hg : RowsOk n g) (hl : g.length = n) : ∀ (fuel : Nat) (st : TS) (f : Nat), WF n st → f < n → at0 st.index f = 0 → zeros st.index ≤ fuel →
    WF n (visitM g fuel st f) ∧ Kept st (visitM g fuel st f) ∧ at0 (visitM g fuel st f).index f ≠ 0 ∧ zeros (visitM g fuel st f).index + 1 ≤ zeros st.index := by
  intro fuel
  induction fuel with
  | zero =>
    intro st f h hf h0 hz
    have := zeros_pos (by rw [at0_get (by rw [h.li]; exact hf), h0] : st.index[f]? = some 0)
    omega
  | succ fuel ih =>
    intro st f h hf h0 hz
    obtain ⟨b1, b2, b3, b4⟩ := beginV_wf h hf h0
    have fold : ∀ (row : List Int) (s : TS), (∀ x ∈ row, 0 ≤ x ∧ x < (n : Int)) → WF n s → zeros s.index ≤ fuel → WF n (row.foldl (stepV g fuel f) s) ∧ Kept s (row.foldl (stepV g fuel f) s) := by
      intro row
      induction row with
      | nil => intro s _ hs _; exact ⟨hs, Kept.refl s⟩
      | cons t row ihr =>
        intro s hr hs hzs
        have ht := hr t (List.mem_cons_self ..)
        have hstep : WF n (stepV g fuel f s t) ∧ Kept s (stepV g fuel f s t) := by
          unfold stepV
          split
          · rename_i e
            obtain ⟨v1, v2, _, _⟩ := ih s t.toNat hs (by omega) e hzs
            exact ⟨lowerV_wf v1 _ _, v2.trans (lowerV_kept _ _ _)⟩
          · exact ⟨lowerV_wf hs _ _, lowerV_kept _ _ _⟩
        obtain ⟨r1, r2⟩ := ihr _ (fun x hx => hr x (List.mem_cons_of_mem _ hx)) hstep.1 (Nat.le_trans hstep.2.zeros hzs)
        exact ⟨r1, hstep.2.trans r2⟩
    have hrow : ∀ x ∈ g[f]?.getD [], 0 ≤ x ∧ x < (n : Int) := fun x hx => hg.lt _ (by simp [show f < g.length by omega]) x hx
    obtain ⟨f1, f2⟩ := fold _ _ hrow b1 (by omega)
    obtain ⟨ext, hext⟩ := f2.stack
    obtain ⟨c1, c2, e, c3⟩ := closeV_wf f1 (f := f) (ext := ext) (rest := st.stack) hext
    rw [visitM_succ]
    have hz2 := f2.zeros
    refine ⟨c1, ⟨⟨e, c3⟩, fun k hk => ?_, ?_⟩, ?_, ?_⟩
    · rw [c2, f2.index k (by rw [b3 k hk]; exact hk), b3 k hk]
    · rw [c2]; omega
    · rw [c2, f2.index f b4]; exact b4
    · rw [c2]; omega

theorem stepV_ok {n : Nat} {g : List (List Int)} (hg : RowsOk n g) (hl : g.length = n) {fuel : Nat} {s : TS} {t : Int} (f : Nat) (ht : 0 ≤ t ∧ t < (n : Int)) (hs : WF n s) (hz : zeros s.index ≤ fuel) :
    WF n (stepV g fuel f s t) ∧ Kept s (stepV g fuel f s t) := by
  unfold stepV
  split
  · rename_i e
    obtain ⟨v1, v2, _, _⟩ := visitM_ok hg hl fuel s t.toNat hs (by omega) e hz
    exact ⟨lowerV_wf v1 _ _, v2.trans (lowerV_kept _ _ _)⟩
  · exact ⟨lowerV_wf hs _ _, lowerV_kept _ _ _⟩
end Go.Sep
