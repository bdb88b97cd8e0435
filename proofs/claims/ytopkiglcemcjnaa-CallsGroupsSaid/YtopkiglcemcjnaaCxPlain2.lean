/-
  Plain laws of layer 13: what Devirt keeps; who calls whom in the graph; where each function's group stands.
-/
import Derived.Test.YtopkiglcemcjnaaCxAwake
set_option linter.unusedVariables false
set_option linter.unusedSimpArgs false
namespace Go.Sep

/-! ### Devirt -/
theorem targets_dev0 (h : Hier) (s : Site) : targetsM (devirtM h) s = targetsM h s := rfl
theorem devSite_or {h : Hier} (s : Site) : (∃ x, targetsM h s = [x] ∧ devSite h s = ⟨s.frm, x, -1, []⟩) ∨ ((targetsM h s).length ≠ 1 ∧ devSite h s = s) := by
  unfold devSite
  by_cases h1 : (targetsM h s).length = 1
  · left
    obtain ⟨x, hx⟩ := List.length_eq_one_iff.1 h1
    exact ⟨x, hx, by rw [if_pos h1, hx]; rfl⟩
  · right
    exact ⟨h1, if_neg h1⟩
theorem targets_direct (h : Hier) (a x : Int) (m : Str) : targetsM h ⟨a, x, -1, m⟩ = [x] := by
  unfold targetsM; rw [if_pos (by simp only; omega)]
theorem targets_dev {h : Hier} (s : Site) : targetsM (devirtM h) (devSite h s) = targetsM h s := by
  rcases devSite_or s with ⟨x, h1, h2⟩ | ⟨_, h2⟩
  · rw [h2, targets_direct, h1]
  · rw [h2]; rfl
theorem devSite_again {h : Hier} (s : Site) : devSite (devirtM h) (devSite h s) = devSite h s := by
  rcases devSite_or (h := h) s with ⟨x, h1, h2⟩ | ⟨h1, h2⟩
  · rw [h2]
    unfold devSite
    rw [targets_direct]
    rfl
  · rw [h2]
    unfold devSite
    rw [targets_dev0, if_neg h1]
theorem devirt_good {h : Hier} (hs : soundM h = 0) : soundM (devirtM h) = 0 := by
  obtain ⟨h1, h2⟩ := soundM_ok.1 hs
  refine soundM_ok.2 ⟨⟨h1.1, h1.2.1, h1.2.2.1, by simpa [devirtM] using h1.2.2.2⟩, ⟨h2.funcs, fun c hc => ?_, h2.ifaces, fun s hsm => ?_⟩⟩
  · have := h2.classes c hc
    exact ⟨this.once, this.len, this.funcs⟩
  · obtain ⟨s0, hs0, rfl⟩ := List.mem_map.1 hsm
    have hk := h2.sites s0 hs0
    rcases devSite_or (h := h) s0 with ⟨x, h3, h4⟩ | ⟨_, h4⟩
    · rw [h4]
      have hx := targets_lt h2 hk x (by rw [h3]; simp)
      exact ⟨hk.frm, .inl ⟨rfl, hx.1, hx.2, rfl⟩⟩
    · rw [h4]; exact ⟨hk.frm, hk.how⟩
theorem allTargets_dev (h : Hier) : allTargets (devirtM h) = allTargets h := by
  simp only [allTargets, devirtM, List.map_map]
  refine List.map_congr_left fun s _ => ?_
  exact targets_dev (h := h) s
theorem devSite_frm (h : Hier) (s : Site) : (devSite h s).frm = s.frm := by
  rcases devSite_or (h := h) s with ⟨x, _, h2⟩ | ⟨_, h2⟩ <;> rw [h2]
theorem graph_dev (h : Hier) : graphM (devirtM h) = graphM h := by
  have hs : ∀ g s, siteG (devirtM h) g (devSite h s) = siteG h g s := fun g s => by
    unfold siteG
    rw [targets_dev, devSite_frm]
  show (h.sites.map (devSite h)).foldl (siteG (devirtM h)) (List.replicate h.funcs.toNat []) = h.sites.foldl (siteG h) (List.replicate h.funcs.toNat [])
  rw [List.foldl_map]
  congr 1
  funext g s
  exact hs g s
theorem groups_dev {h : Hier} (hs : soundM h = 0) {a b : List (List Int)} (ha : GroupsOut h a) (hb : GroupsOut (devirtM h) b) : a = b := by
  have hd := devirt_good hs
  rw [GroupsOut, if_neg (by rw [hs]; decide)] at ha
  rw [GroupsOut, if_neg (by rw [hd]; decide), graph_dev] at hb
  obtain ⟨h1, h2⟩ := graphM_ok (soundM_ok.1 hs).2
  exact groups_same h1 h2 ha hb

/-! ### the graph -/
theorem row_addTo {g : List (List Int)} {i j : Nat} {t x : Int} : x ∈ row (addTo g i t) j ↔ x ∈ row g j ∨ (i = j ∧ x = t ∧ i < g.length) := by
  unfold addTo
  by_cases hm : t ∈ g[i]?.getD []
  · rw [if_pos hm]
    constructor
    · exact .inl
    · rintro (h | ⟨rfl, rfl, _⟩)
      · exact h
      · exact hm
  · rw [if_neg hm, row_set]
    split
    · rename_i h
      obtain ⟨rfl, h⟩ := h
      rw [List.mem_append, List.mem_singleton]
      constructor
      · rintro (h1 | h1)
        · exact .inl h1
        · exact .inr ⟨rfl, h1, h⟩
      · rintro (h1 | h1)
        · exact .inl h1
        · exact .inr h1.2.1
    · rename_i h
      constructor
      · exact .inl
      · rintro (h1 | ⟨h1, _, h2⟩)
        · exact h1
        · exact absurd ⟨h1, h2⟩ h
theorem row_fold {i j : Nat} {x : Int} : ∀ (l : List Int) (g : List (List Int)), x ∈ row (l.foldl (fun g t => addTo g i t) g) j ↔ x ∈ row g j ∨ (i = j ∧ x ∈ l ∧ i < g.length)
  | [], g => by simp
  | t :: l, g => by
    rw [List.foldl_cons, row_fold l, row_addTo, addTo_len, List.mem_cons]
    constructor
    · rintro ((h | ⟨h1, h2, h3⟩) | ⟨h1, h2, h3⟩)
      · exact .inl h
      · exact .inr ⟨h1, .inl h2, h3⟩
      · exact .inr ⟨h1, .inr h2, h3⟩
    · rintro (h | ⟨h1, h2 | h2, h3⟩)
      · exact .inl (.inl h)
      · exact .inl (.inr ⟨h1, h2, h3⟩)
      · exact .inr ⟨h1, h2, h3⟩
theorem siteG_len (h : Hier) (g : List (List Int)) (s : Site) : (siteG h g s).length = g.length := by
  unfold siteG
  generalize targetsM h s = l
  induction l generalizing g with
  | nil => rfl
  | cons t l ih => rw [List.foldl_cons, ih, addTo_len]
theorem row_sites {h : Hier} {j : Nat} {x : Int} : ∀ (l : List Site) (g : List (List Int)), x ∈ row (l.foldl (siteG h) g) j ↔ x ∈ row g j ∨ ∃ s ∈ l, s.frm.toNat = j ∧ x ∈ targetsM h s ∧ j < g.length
  | [], g => by simp
  | s :: l, g => by
    rw [List.foldl_cons, row_sites l, siteG_len]
    unfold siteG
    rw [row_fold]
    simp only [List.mem_cons, exists_eq_or_imp]
    constructor
    · rintro ((h1 | ⟨rfl, h2, h3⟩) | h1)
      · exact .inl h1
      · exact .inr (.inl ⟨rfl, h2, h3⟩)
      · exact .inr (.inr h1)
    · rintro (h1 | ⟨rfl, h2, h3⟩ | h1)
      · exact .inl (.inl h1)
      · exact .inl (.inr ⟨rfl, h2, h3⟩)
      · exact .inr h1
theorem graph_edge {h : Hier} (hg : Good h) {v w : Nat} : Edge (graphM h) v w ↔ ∃ s ∈ h.sites, s.frm = v ∧ (w : Int) ∈ targetsM h s := by
  obtain ⟨h1, h2⟩ := graphM_ok hg
  constructor
  · intro he
    have hv : v < (graphM h).length := by
      obtain ⟨r, hr, _⟩ := he
      exact (List.getElem?_eq_some_iff.1 hr).1
    have := (edge_row hv).1 he
    rw [graphM, row_sites, row_empty] at this
    rcases this with h3 | ⟨s, hs, hf, ht, _⟩
    · cases h3
    · have := (hg.sites s hs).frm
      exact ⟨s, hs, by omega, ht⟩
  · rintro ⟨s, hs, hf, ht⟩
    have hfr := (hg.sites s hs).frm
    have hv : v < (graphM h).length := by omega
    refine (edge_row hv).2 ?_
    rw [graphM, row_sites]
    refine .inr ⟨s, hs, by omega, ht, by simp; omega⟩

/-! ### where each one stands -/
structure OrdP (g : List (List Int)) (n : Nat) (gs : List (List Int)) (pos : Nat → Nat) : Prop where
  rng : ∀ (i : Nat) (r : List Int), gs[i]? = some r → ∀ x ∈ r, 0 ≤ x ∧ x < (n : Int) ∧ pos x.toNat = i
  sorted : ∀ (i : Nat) (r : List Int), gs[i]? = some r → r.Pairwise (· < ·)
  all : ∀ v : Nat, v < n → ∃ r, gs[pos v]? = some r ∧ (v : Int) ∈ r
  edge : ∀ v w, v < n → Edge g v w → pos w ≤ pos v
  reach : ∀ (i : Nat) (r : List Int), gs[i]? = some r → ∀ x ∈ r, ∀ y ∈ r, Path g x.toNat y.toNat
  few : gs.length ≤ n

theorem groups_ord {g : List (List Int)} {n : Nat} (hg : RowsOk n g) (hgl : g.length = n) {gs : List (List Int)} (h : GroupsRes g n gs) : ∃ pos, OrdP g n gs pos := by
  obtain ⟨grp, ng, done, hF, rfl⟩ := groups_facts hg hgl h
  have hidx : ∀ v, v < n → ∃ d1 d2, done = d1 ++ at0 grp v :: d2 ∧ at0 grp v ∉ d1 ∧ done.idxOf (at0 grp v) = d1.length := fun v hv => by
    have hlt := hF.lt v hv
    have hm := hF.all (at0 grp v).toNat (by omega)
    rw [show (((at0 grp v).toNat : Nat) : Int) = at0 grp v by omega] at hm
    obtain ⟨d1, d2, e⟩ := List.append_of_mem hm
    have hnd : at0 grp v ∉ d1 := fun hh => by
      have := hF.nodup
      rw [e] at this
      exact (List.nodup_append.1 this).2.2 _ hh _ (List.mem_cons_self ..) rfl
    refine ⟨d1, d2, e, hnd, ?_⟩
    rw [e, List.idxOf_append, if_neg hnd]
    simp
  have hget : ∀ i r, (done.map (cls grp n))[i]? = some r → ∃ x, done[i]? = some x ∧ r = cls grp n x := fun i r hr => by
    rw [List.getElem?_map] at hr
    cases hd : done[i]? with
    | none => rw [hd] at hr; cases hr
    | some x => rw [hd] at hr; simp only [Option.map_some, Option.some.injEq] at hr; exact ⟨x, hd, hr.symm⟩
  refine ⟨fun v => done.idxOf (at0 grp v), ⟨fun i r hr x hx => ?_, fun i r hr => ?_, fun v hv => ?_, fun v w hv he => ?_, fun i r hr x hx y hy => ?_, ?_⟩⟩
  · obtain ⟨c, hc, rfl⟩ := hget i r hr
    obtain ⟨v, hv, h1, rfl⟩ := cls_mem.1 hx
    refine ⟨by omega, by omega, ?_⟩
    simp only [Int.toNat_natCast, h1]
    obtain ⟨hi, rfl⟩ := List.getElem?_eq_some_iff.1 hc
    exact hF.nodup.idxOf_getElem i hi
  · obtain ⟨c, hc, rfl⟩ := hget i r hr
    exact cls_sorted _ _ _
  · obtain ⟨d1, d2, e, hnd, hi⟩ := hidx v hv
    refine ⟨cls grp n (at0 grp v), ?_, cls_mem.2 ⟨v, hv, rfl, rfl⟩⟩
    rw [hi, e]
    simp
  · obtain ⟨d1, d2, e, hnd, hi⟩ := hidx v hv
    rcases hF.ahead d1 _ d2 e v w hv rfl he with h1 | h1
    · rw [h1]; exact Nat.le_refl _
    · rw [hi, e, List.idxOf_append, if_pos h1]
      exact Nat.le_of_lt (List.idxOf_lt_length_of_mem h1)
  · obtain ⟨c, hc, rfl⟩ := hget i r hr
    obtain ⟨v, hv, h1, rfl⟩ := cls_mem.1 hx
    obtain ⟨w, hw, h2, rfl⟩ := cls_mem.1 hy
    simp only [Int.toNat_natCast]
    exact ((hF.scc v w hv hw).1 (by rw [h1, h2])).1
  · rw [List.length_map]
    -- each group that comes holds a function of its own
    have hnd := hF.nodup
    have hrep : ∀ x ∈ done, ∃ v : Nat, v < n ∧ at0 grp v = x := fun x hx => by
      have := hF.rng x hx
      obtain ⟨v, hv, h1⟩ := hF.sur x.toNat (by omega)
      exact ⟨v, hv, by rw [h1]; omega⟩
    classical
    let f : Int → Int := fun x => if hx : ∃ v : Nat, v < n ∧ at0 grp v = x then ((Classical.choose hx : Nat) : Int) else 0
    have hf : ∀ x ∈ done, ∃ v : Nat, v < n ∧ at0 grp v = x ∧ f x = v := fun x hx => by
      have hh := hrep x hx
      refine ⟨Classical.choose hh, (Classical.choose_spec hh).1, (Classical.choose_spec hh).2, ?_⟩
      simp only [f, dif_pos hh]
    have hnd2 : (done.map f).Nodup := by
      rw [List.nodup_iff_pairwise_ne, List.pairwise_map]
      refine List.Pairwise.imp_of_mem ?_ hnd
      intro a b ha hb hab e
      obtain ⟨v, _, h1, h2⟩ := hf a ha
      obtain ⟨w, _, h3, h4⟩ := hf b hb
      have : v = w := by omega
      subst this
      exact hab (h1.symm.trans h3)
    have := nodup_len (done.map f) n hnd2 (fun y hy => by
      obtain ⟨x, hx, rfl⟩ := List.mem_map.1 hy
      obtain ⟨v, hv, _, h2⟩ := hf x hx
      omega)
    simpa using this
end Go.Sep
