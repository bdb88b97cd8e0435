/-
  Tarjan's visits, in plain terms: what a visit keeps, what all visits come to.
-/
import Derived.Test.YtopkiglcemcjnaaCxTarjan2
set_option linter.unusedVariables false
set_option linter.unusedSimpArgs false
namespace Go.Sep

def Sur (st : TS) : Prop := ∀ i : Int, 0 ≤ i → i < st.groups → ∃ v, Vis st v ∧ ¬ On st v ∧ at0 st.group v = i

structure VPost2 (g : List (List Int)) (n : Nat) (st st' : TS) (f : Nat) (gray : Nat → Prop) : Prop where
  post : VPost g n st st' f gray
  shut : ¬ On st' f → st'.stack = st.stack
  sur : Sur st → Sur st'

theorem Kept.vis {a b : TS} (h : Kept a b) {v : Nat} (hv : Vis a v) : Vis b v := by
  unfold Vis; rw [h.index v hv]; exact hv

/-- in the midst of the row of f -/
structure FoldI (g : List (List Int)) (n : Nat) (st s : TS) (f : Nat) (gray : Nat → Prop) (pre : List Int) : Prop where
  inv : TIv g n s (fun v => gray v ∨ v = f)
  kept : Kept (beginV st f) s
  frame : ∀ v, Vis st v → at0 s.low v = at0 st.low v ∧ at0 s.group v = at0 st.group v
  exit : ∀ w y, ¬ Vis st w → w ≠ f → On s w → Edge g w y → On s y → at0 s.low f ≤ at0 s.index y
  row : ∀ t : Nat, (t : Int) ∈ pre → Vis s t ∧ (On s t → at0 s.low f ≤ at0 s.index t)
  sur : Sur st → Sur s

theorem lowerV_same (f k : Nat) (s : TS) : (lowerV f k s).index = s.index ∧ (lowerV f k s).stack = s.stack ∧ (lowerV f k s).group = s.group ∧ (lowerV f k s).groups = s.groups := by
  unfold lowerV; split <;> exact ⟨rfl, rfl, rfl, rfl⟩
theorem lowerV_other {f k v : Nat} {s : TS} (h : v ≠ f) : at0 (lowerV f k s).low v = at0 s.low v := by
  unfold lowerV; split
  · simp only [at0_set]; rw [if_neg (fun hh => h hh.1.symm)]
  · rfl
theorem lowerV_self {f k n : Nat} {s : TS} (hw : WF n s) (hf : f < n) : at0 (lowerV f k s).low f ≤ at0 s.low f ∧ (at0 s.group k < 0 → at0 (lowerV f k s).low f ≤ at0 s.low k) := by
  have hl : f < s.low.length := by rw [hw.ll]; exact hf
  unfold lowerV; split
  · simp only [at0_set, hl, and_self, if_true]
    constructor
    · split <;> omega
    · intro _; split <;> omega
  · rename_i h
    exact ⟨Int.le_refl _, fun hh => absurd hh h⟩

theorem visitM_inv {g : List (List Int)} {n : Nat} (hg : RowsOk n g) (hl : g.length = n) : ∀ (fuel : Nat) (st : TS) (f : Nat) (gray : Nat → Prop), TIv g n st gray → f < n → ¬ Vis st f → (∀ u, gray u → Path g u f) → zeros st.index ≤ fuel →
    VPost2 g n st (visitM g fuel st f) f gray := by
  intro fuel
  induction fuel with
  | zero =>
    intro st f gray h hf hv hp hz
    have h0 : at0 st.index f = 0 := by unfold Vis at hv; omega
    have := zeros_pos (by rw [at0_get (by rw [h.wf.li]; exact hf), h0] : st.index[f]? = some 0)
    omega
  | succ fuel ih =>
    intro st f gray h hf hv hp hz
    have h0 : at0 st.index f = 0 := by unfold Vis at hv; omega
    obtain ⟨b1, b2, b3, b4⟩ := beginV_wf h.wf hf h0
    have hbeg := h.begin hf hv hp
    have hfl : f < st.index.length := by rw [h.wf.li]; exact hf
    have hne : ∀ v, Vis st v → v ≠ f := fun v hv' e => hv (e ▸ hv')
    have hgl : g[f]? = some (g[f]?.getD []) := by simp [show f < g.length by omega]
    have hrow : ∀ x ∈ g[f]?.getD [], 0 ≤ x ∧ x < (n : Int) := fun x hx => hg.lt _ (by simp [show f < g.length by omega]) x hx
    have hbfr : ∀ v, Vis st v → at0 (beginV st f).low v = at0 st.low v ∧ at0 (beginV st f).group v = at0 st.group v := fun v hv' => by
      have := hne v hv'
      simp only [beginV, at0_set]
      rw [if_neg (fun hh => this hh.1.symm), if_neg (fun hh => this hh.1.symm)]; exact ⟨rfl, rfl⟩
    have hidxf : at0 (beginV st f).index f = st.count + 1 := by simp only [beginV, at0_set, hfl, and_self, if_true]
    have grayVis : ∀ u, gray u → Vis st u := fun u hu => h.vis (h.grey u hu)
    have start : FoldI g n st (beginV st f) f gray [] := by
      refine ⟨hbeg, Kept.refl _, hbfr, ?_, ?_, ?_⟩
      · intro w y hw hwf hon
        have : (w : Int) ∈ (f : Int) :: st.stack := hon
        rcases List.mem_cons.1 this with e | e
        · exact absurd (by omega : w = f) hwf
        · exact absurd (h.vis e) hw
      · intro t ht; cases ht
      · intro hs i h1 h2
        obtain ⟨v, v1, v2, v3⟩ := hs i h1 h2
        refine ⟨v, by unfold Vis; rw [b3 v v1]; exact v1, ?_, ?_⟩
        · intro hon
          have : (v : Int) ∈ (f : Int) :: st.stack := hon
          rcases List.mem_cons.1 this with e | e
          · exact hne v v1 (by omega)
          · exact v2 e
        · rw [(hbfr v v1).2]; exact v3
    have step : ∀ (pre : List Int) (s : TS) (t : Int), FoldI g n st s f gray pre → t ∈ g[f]?.getD [] → zeros s.index ≤ fuel → FoldI g n st (stepV g fuel f s t) f gray (pre ++ [t]) := by
      intro pre s t hI ht hzs
      have htn := hrow t ht
      have htt : ((t.toNat : Nat) : Int) = t := by omega
      have hedge : Edge g f t.toNat := ⟨_, hgl, by rw [htt]; exact ht⟩
      have hfon : On s f := hI.inv.grey f (.inr rfl)
      have hfvis : Vis s f := hI.inv.vis hfon
      -- behind a visit, if any
      have mid : ∃ s', (if at0 s.index t.toNat = 0 then visitM g fuel s t.toNat else s) = s' ∧ TIv g n s' (fun v => gray v ∨ v = f) ∧ Kept s s' ∧ Vis s' t.toNat ∧ (∀ v, Vis s v → at0 s'.low v = at0 s.low v ∧ at0 s'.group v = at0 s.group v) ∧
          (∀ w y, ¬ Vis s w → On s' w → Edge g w y → On s' y → On s' t.toNat ∧ at0 s'.low t.toNat ≤ at0 s'.index y) ∧ (Sur s → Sur s') := by
        by_cases e : at0 s.index t.toNat = 0
        · have hnv : ¬ Vis s t.toNat := fun hh => hh e
          obtain ⟨⟨p1, p2, p3, p4, p5, p6⟩, q1, q2⟩ := ih s t.toNat (fun v => gray v ∨ v = f) hI.inv (by omega) hnv (fun u hu => by
            rcases hu with hu | rfl
            · exact (hp u hu).step hedge
            · exact Path.one hedge) hzs
          refine ⟨_, if_pos e, p1, p2, p3, p4, ?_, q2⟩
          intro w y hw hon he hy
          refine ⟨?_, p5 w y hw hon he hy⟩
          apply Classical.byContradiction
          intro hno
          have := q1 hno
          unfold On at hon
          rw [this] at hon
          exact hw (hI.inv.vis hon)
        · exact ⟨s, if_neg e, hI.inv, Kept.refl s, e, fun _ _ => ⟨rfl, rfl⟩, fun w y hw hon => absurd (hI.inv.vis hon) hw, id⟩
      obtain ⟨s', e', i1, i2, i3, i4, i5, i6⟩ := mid
      have onBack : ∀ v, Vis s v → On s' v → On s v := fun v h1 h2 => by
        refine (hI.inv.on v).2 ⟨h1, ?_⟩
        rw [← (i4 v h1).2]; exact ((i1.on v).1 h2).2
      unfold stepV
      rw [e']
      obtain ⟨l1, l2, l3, l4⟩ := lowerV_same f t.toNat s'
      have ls := lowerV_self (k := t.toNat) i1.wf hf
      have lon : ∀ v, On (lowerV f t.toNat s') v ↔ On s' v := fun v => by unfold On; rw [l2]
      have lvis : ∀ v, Vis (lowerV f t.toNat s') v ↔ Vis s' v := fun v => by unfold Vis; rw [l1]
      have hlf : at0 s'.low f = at0 s.low f := (i4 f hfvis).1
      have hfon' : On s' f := i1.grey f (.inr rfl)
      refine ⟨i1.lower hfon' hedge i3, (hI.kept.trans i2).trans (lowerV_kept _ _ _), ?_, ?_, ?_, ?_⟩
      · intro v hv'
        have hvs : Vis s v := hI.kept.vis (by unfold Vis; rw [b3 v hv']; exact hv')
        rw [lowerV_other (hne v hv'), l3, (i4 v hvs).1, (i4 v hvs).2]
        exact hI.frame v hv'
      · intro w y hw hwf hon he hy
        rw [lon] at hon hy
        rw [l1]
        by_cases hws : Vis s w
        · have hys : Vis s y := hI.inv.black w y hws (fun hh => hh.elim (fun hgr => hw (grayVis w hgr)) hwf) he
          have := hI.exit w y hw hwf (onBack w hws hon) he (onBack y hys hy)
          rw [i2.index y hys]
          have := ls.1
          omega
        · obtain ⟨h1, h2⟩ := i5 w y hws hon he hy
          have := ls.2 ((i1.on _).1 h1).2
          omega
      · intro u hu
        rw [lvis, lon, l1]
        rcases List.mem_append.1 hu with hu | hu
        · obtain ⟨r1, r2⟩ := hI.row u hu
          refine ⟨i2.vis r1, fun hon => ?_⟩
          have := r2 (onBack u r1 hon)
          rw [i2.index u r1]
          have := ls.1
          omega
        · have : u = t.toNat := by simp at hu; omega
          subst this
          refine ⟨i3, fun hon => ?_⟩
          have := ls.2 ((i1.on _).1 hon).2
          have := i1.lowle _ hon
          omega
      · intro hs i h1 h2
        rw [l4] at h2
        obtain ⟨v, v1, v2, v3⟩ := i6 (hI.sur hs) i h1 h2
        exact ⟨v, (lvis v).2 v1, fun hh => v2 ((lon v).1 hh), by rw [l3]; exact v3⟩
    have fold : ∀ (row pre : List Int) (s : TS), (∀ x ∈ row, x ∈ g[f]?.getD []) → FoldI g n st s f gray pre → zeros s.index ≤ fuel → FoldI g n st (row.foldl (stepV g fuel f) s) f gray (pre ++ row) := by
      intro row
      induction row with
      | nil => intro pre s _ hs _; simpa using hs
      | cons t row ihr =>
        intro pre s hr hs hzs
        have ht := hr t (List.mem_cons_self ..)
        have hs1 := step pre s t hs ht hzs
        have hk := (stepV_ok hg hl f (hrow t ht) hs.inv.wf hzs).2
        have := ihr (pre ++ [t]) _ (fun x hx => hr x (List.mem_cons_of_mem _ hx)) hs1 (Nat.le_trans hk.zeros hzs)
        simpa using this
    have hend := fold (g[f]?.getD []) [] _ (fun _ hx => hx) start (by omega)
    simp only [List.nil_append] at hend
    rw [visitM_succ]
    generalize (g[f]?.getD []).foldl (stepV g fuel f) (beginV st f) = s at hend
    have hfon : On s f := hend.inv.grey f (.inr rfl)
    have hrowE : ∀ w, Edge g f w → (w : Int) ∈ g[f]?.getD [] := by
      rintro w ⟨r, h1, h2⟩
      rw [h1]; exact h2
    obtain ⟨ext, hext⟩ := hend.kept.stack
    have hstk : s.stack = ext ++ (f : Int) :: st.stack := hext
    have hvs : ∀ v, Vis st v → at0 s.index v = at0 st.index v := fun v hv' => by
      rw [hend.kept.index v (by rw [b3 v hv']; exact hv'), b3 v hv']
    have hvis : ∀ v, Vis st v → Vis s v := fun v hv' => by unfold Vis; rw [hvs v hv']; exact hv'
    have hif : at0 s.index f = st.count + 1 := by rw [hend.kept.index f b4, hidxf]
    have hkeptS : Kept st s := ⟨⟨ext ++ [(f : Int)], by rw [hstk]; simp⟩, fun k hk => hvs k hk, by have := hend.kept.zeros; omega⟩
    by_cases hlow : at0 s.low f = at0 s.index f
    · -- a class is closed
      have hgf : ¬ gray f := fun hh => hv (grayVis f hh)
      obtain ⟨c1, c2, c3⟩ := hend.inv.close hlow hgf hstk
        (fun w hw => hend.row w (hrowE w hw))
        (fun u hu => by rw [hvs u (grayVis u hu), hif]; have := (h.idx u (grayVis u hu)).2; omega)
        (fun w y hw hlt he hy => by
          by_cases hws : Vis st w
          · rw [hvs w hws, hif] at hlt
            have := (h.idx w hws).2
            omega
          · exact hend.exit w y hws (fun e => by subst e; omega) hw he hy)
      have hci : (closeV f s).index = s.index := by unfold closeV; split <;> rfl
      have hcl : (closeV f s).low = s.low := by unfold closeV; split <;> rfl
      have hcg : (closeV f s).groups = s.groups + 1 := by unfold closeV; rw [if_neg (by simp [hlow])]
      have hnext : ∀ v, Vis st v → (v : Int) ∉ ext := fun v hv' hm => by
        have hso := hend.inv.sorted
        rw [hstk] at hso
        have := (List.pairwise_append.1 hso).2.2 (v : Int) hm (f : Int) (List.mem_cons_self ..)
        simp only [Int.toNat_natCast] at this
        rw [hvs v hv', hif] at this
        have := (h.idx v hv').2
        omega
      have hnof : ¬ On (closeV f s) f := fun hh => by
        unfold On at hh
        rw [c2] at hh
        exact hv (h.vis hh)
      have hfv : Vis (closeV f s) f := by unfold Vis; rw [hci, hif]; have := h.wf.cnt; omega
      refine ⟨⟨c1, ⟨⟨[], by rw [c2]; rfl⟩, fun k hk => by rw [hci]; exact hvs k hk, by rw [hci]; exact hkeptS.zeros⟩, hfv, ?_, ?_, fun hh => absurd hh hnof⟩, fun _ => c2, ?_⟩
      · intro v hv'
        rw [hcl, c3 v (hnext v hv') (hne v hv')]
        exact hend.frame v hv'
      · intro w y hw hon
        unfold On at hon
        rw [c2] at hon
        exact absurd (h.vis hon) hw
      · intro hs i h1 h2
        rw [hcg] at h2
        by_cases hi : i < s.groups
        · obtain ⟨v, v1, v2, v3⟩ := hend.sur hs i h1 hi
          have hve : (v : Int) ∉ ext := fun hm => v2 (by unfold On; rw [hstk]; exact List.mem_append_left _ hm)
          have hvf : v ≠ f := fun e => by subst e; exact v2 hfon
          refine ⟨v, by unfold Vis; rw [hci]; exact v1, fun hh => v2 ?_, by rw [c3 v hve hvf]; exact v3⟩
          unfold On at hh ⊢
          rw [c2] at hh
          rw [hstk]; simp [hh]
        · refine ⟨f, hfv, hnof, ?_⟩
          have : i = s.groups := by omega
          subst this
          have hne' : f ∉ ([] : List Nat) := by simp
          obtain ⟨e1, h1', h2'⟩ := popR_suffix f s.groups s.stack s.group (by rw [hstk]; simp)
          have hpr : (closeV f s).group = (popR f s.groups s.stack s.group).2 := by unfold closeV; rw [if_neg (by simp [hlow])]
          rw [hpr, h1', popR_group _ _ _ _ _ h2']
          simp only
          rw [setAll_at]
          · simp
          · intro x hx
            have hx' : x ∈ s.stack := by
              rw [h1']
              rcases List.mem_append.1 hx with hx | hx
              · exact List.mem_append_left _ hx
              · simp at hx; rw [hx]; simp
            have := hend.inv.wf.stk x hx'
            rw [hend.inv.wf.lg]; exact this
    · have hcl : closeV f s = s := by unfold closeV; rw [if_pos hlow]
      rw [hcl]
      refine ⟨⟨hend.inv.keep hlow (fun w hw => (hend.row w (hrowE w hw)).1), hkeptS, hend.inv.vis hfon, hend.frame, ?_, ?_⟩, fun hh => absurd hfon hh, hend.sur⟩
      · intro w y hw hon he hy
        by_cases e : w = f
        · subst e; exact (hend.row y (hrowE y he)).2 hy
        · exact hend.exit w y hw e hon he hy
      · intro _
        have := hend.inv.lowle f hfon
        omega

def st0 (n : Nat) : TS := ⟨List.replicate n 0, List.replicate n 0, List.replicate n 0, [], 0, 0⟩

/-- the first k functions visited -/
def visitAll (g : List (List Int)) (n : Nat) (k : Nat) : TS := (List.range k).foldl (fun st f => if at0 st.index f = 0 then visitM g n st f else st) (st0 n)

theorem visitAll_succ (g : List (List Int)) (n k : Nat) : visitAll g n (k + 1) = (if at0 (visitAll g n k).index k = 0 then visitM g n (visitAll g n k) k else visitAll g n k) := by
  rw [visitAll, List.range_succ, List.foldl_append]; rfl

theorem zeros_le (l : List Int) : zeros l ≤ l.length := List.length_filter_le _ _

theorem st0_wf (n : Nat) : WF n (st0 n) := by
  refine ⟨by simp [st0], by simp [st0], by simp [st0], fun x hx => by simp [st0] at hx, ?_, ?_⟩
  · have := zeros_le (List.replicate n 0); simp [st0] at this ⊢; omega
  · have := zeros_le (List.replicate n 0); simp [st0] at this ⊢; omega

theorem visitAll_wf {n : Nat} {g : List (List Int)} (hg : RowsOk n g) (hl : g.length = n) : ∀ k, k ≤ n → WF n (visitAll g n k)
  | 0, _ => by simpa [visitAll] using st0_wf n
  | k + 1, hk => by
    have ih := visitAll_wf hg hl k (by omega)
    rw [visitAll_succ]
    split
    · rename_i h0
      exact (visitM_ok hg hl n _ k ih (by omega) h0 (by have := zeros_le (visitAll g n k).index; rw [ih.li] at this; exact this)).1
    · exact ih

theorem st0_vis {n v : Nat} : ¬ Vis (st0 n) v := by
  unfold Vis st0 at0
  simp only [List.getElem?_replicate]
  split <;> simp

theorem visitAll_inv {n : Nat} {g : List (List Int)} (hg : RowsOk n g) (hl : g.length = n) : ∀ k, k ≤ n → TIv g n (visitAll g n k) (fun _ => False) ∧ Sur (visitAll g n k) ∧ ∀ j, j < k → Vis (visitAll g n k) j
  | 0, _ => by
    have hv : ∀ v, ¬ Vis (st0 n) v := fun v => st0_vis
    have ho : ∀ v, ¬ On (st0 n) v := fun v h => by simp [On, st0] at h
    refine ⟨⟨st0_wf n, fun v h => absurd h (hv v), fun u v h => absurd h (hv u), fun v => ⟨fun h => absurd h (ho v), fun h => absurd h.1 (hv v)⟩, fun v h => absurd h (hv v), fun v h => h.elim, by simp [visitAll, st0],
      fun u v h => absurd h (ho u), fun v h => absurd h (ho v), fun v w h => absurd h (hv v), fun v w h => absurd h (hv v), fun u v h => absurd h (hv u), fun v h => absurd h (ho v), fun v h => absurd h (ho v)⟩, ?_, fun j hj => by omega⟩
    intro i h1 h2
    simp [visitAll, st0] at h2; omega
  | k + 1, hk => by
    obtain ⟨i1, i2, i3⟩ := visitAll_inv hg hl k (by omega)
    rw [visitAll_succ]
    split
    · rename_i h0
      have := visitM_inv hg hl n _ k (fun _ => False) i1 (by omega) (fun h => h h0) (fun _ h => h.elim) (by have := zeros_le (visitAll g n k).index; rw [i1.wf.li] at this; exact this)
      refine ⟨this.post.inv, this.sur i2, fun j hj => ?_⟩
      by_cases e : j = k
      · subst e; exact this.post.vis
      · exact this.post.kept.vis (i3 j (by omega))
    · rename_i h0
      refine ⟨i1, i2, fun j hj => ?_⟩
      by_cases e : j = k
      · subst e; exact h0
      · exact i3 j (by omega)

/-- what the groups are -/
structure GroupsOk (g : List (List Int)) (n : Nat) (grp : List Int) (ng : Nat) : Prop where
  len : grp.length = n
  lt : ∀ v, v < n → 0 ≤ at0 grp v ∧ at0 grp v < ng
  sur : ∀ i : Nat, i < ng → ∃ v, v < n ∧ at0 grp v = i
  edge : ∀ v w, v < n → Edge g v w → w < n ∧ at0 grp w ≤ at0 grp v
  scc : ∀ u v, u < n → v < n → (at0 grp u = at0 grp v ↔ Path g u v ∧ Path g v u)
  few : ng ≤ n

theorem visitAll_groups {n : Nat} {g : List (List Int)} (hg : RowsOk n g) (hl : g.length = n) : 0 ≤ (visitAll g n n).groups ∧ GroupsOk g n (visitAll g n n).group (visitAll g n n).groups.toNat := by
  obtain ⟨i1, i2, i3⟩ := visitAll_inv hg hl n (Nat.le_refl _)
  have ho : ∀ v, ¬ On (visitAll g n n) v := fun v h => by
    obtain ⟨u, hu, _⟩ := i1.back v h
    exact hu
  have hgp := i1.wf.grp
  refine ⟨hgp.1, ⟨i1.wf.lg, fun v hv => ?_, fun i hi => ?_, fun v w hv he => ?_, fun u v hu hv => i1.scc u v (i3 u hu) (ho u) (i3 v hv) (ho v), by omega⟩⟩
  · have := i1.off v (i3 v hv) (ho v)
    omega
  · obtain ⟨v, v1, v2, v3⟩ := i2 i (by omega) (by omega)
    exact ⟨v, v1.lt i1.wf, v3⟩
  · obtain ⟨h1, h2, h3⟩ := i1.closed v w (i3 v hv) (ho v) he
    exact ⟨h1.lt i1.wf, h3⟩
end Go.Sep
