/-
  Walks of layer 13: the definition's Closure.
-/
import Derived.Test.YtopkiglcemcjnaaCxClos
import Derived.Test.YtopkiglcemcjnaaSepQ
set_option linter.unusedVariables false
set_option linter.unusedSimpArgs false
namespace Go.Sep
open Go.Proofs
attribute [local irreducible] TC TO OT TCallX TCall DO DOt thenQ blockQ retQ At

/-- in the midst of the calls: those of the sites below i, and of site i the first k -/
structure CEd (h : Hier) (n i k : Nat) (C : List (List Bool)) : Prop where
  sq : Sq n C
  sound : ∀ a b, a < n → b < n → cat C a b = true → Edge (graphM h) a b
  done : ∀ (i' : Nat) (s : Site), i' < i → h.sites[i']? = some s → ∀ t ∈ targetsM h s, cat C s.frm.toNat t.toNat = true
  here : ∀ (s : Site), h.sites[i]? = some s → ∀ (k' : Nat) (t : Int), k' < k → (targetsM h s)[k']? = some t → cat C s.frm.toNat t.toNat = true

theorem CEd.put {h : Hier} (hg : Good h) {i k : Nat} {C : List (List Bool)} (hE : CEd h h.funcs.toNat i k C) {s : Site} (hs : h.sites[i]? = some s) {t : Int} (ht : (targetsM h s)[k]? = some t) : CEd h h.funcs.toNat i (k + 1) (cset C s.frm.toNat t.toNat true) := by
  have hsm := List.mem_of_getElem? hs
  have htm := List.mem_of_getElem? ht
  have hsk := hg.sites s hsm
  have hfr := hsk.frm
  have htl := targets_lt hg hsk t htm
  have hc := fun a b => cat_set hE.sq (i := s.frm.toNat) (j := t.toNat) (i' := a) (j' := b) (by omega) (by omega) true
  have up : ∀ a b, cat C a b = true → cat (cset C s.frm.toNat t.toNat true) a b = true := fun a b hab => by
    rw [hc]; split
    · rfl
    · exact hab
  refine ⟨hE.sq.set (by omega) _, fun a b ha hb hab => ?_, fun i' s' hi hs' t' ht' => up _ _ (hE.done i' s' hi hs' t' ht'), fun s' hs' k' t' hk' ht' => ?_⟩
  · rw [hc] at hab
    split at hab
    · rename_i e
      obtain ⟨rfl, rfl⟩ := e
      exact (graph_edge hg).2 ⟨s, hsm, by omega, by rw [show ((t.toNat : Nat) : Int) = t by omega]; exact htm⟩
    · exact hE.sound a b ha hb hab
  · rw [hs] at hs'
    simp only [Option.some.injEq] at hs'
    subst hs'
    by_cases e : k' = k
    · subst e
      rw [ht] at ht'
      simp only [Option.some.injEq] at ht'
      subst ht'
      rw [hc, if_pos ⟨rfl, rfl⟩]
    · exact up _ _ (hE.here s hs k' t' (by omega) ht')
theorem CEd.next {h : Hier} {n i : Nat} {C : List (List Bool)} {s : Site} (hs : h.sites[i]? = some s) (hE : CEd h n i (targetsM h s).length C) : CEd h n (i + 1) 0 C := by
  refine ⟨hE.sq, hE.sound, fun i' s' hi hs' t' ht' => ?_, fun _ _ _ _ hk => by omega⟩
  by_cases e : i' = i
  · subst e
    rw [hs] at hs'
    simp only [Option.some.injEq] at hs'
    subst hs'
    obtain ⟨k', hk'⟩ := List.getElem?_of_mem ht'
    exact hE.here s hs k' t' (List.getElem?_eq_some_iff.1 hk').1 hk'
  · exact hE.done i' s' (by omega) hs' t' ht'
theorem CEd.mid {h : Hier} (hg : Good h) {i : Nat} (hi : h.sites.length ≤ i) {C : List (List Bool)} (hE : CEd h h.funcs.toNat i 0 C) : CMid (graphM h) h.funcs.toNat 0 0 0 C := by
  refine ⟨hE.sq, fun a b ha hb hab => ⟨b, hE.sound a b ha hb hab, .refl⟩, fun a b ha hb hp => ?_, fun a b ha => by omega, fun b hb => by omega⟩
  have he : Edge (graphM h) a b := by
    cases hp with
    | edge he => exact he
    | step _ hk _ => omega
  obtain ⟨s, hs, hf, ht⟩ := (graph_edge hg).1 he
  obtain ⟨j, hj⟩ := List.getElem?_of_mem hs
  have := hE.done j s (by have := (List.getElem?_eq_some_iff.1 hj).1; omega) hj b ht
  rw [hf] at this
  simpa using this

theorem cat_false (n m i j : Nat) : cat (List.replicate n (List.replicate m false)) i j = false := by
  unfold cat
  rw [List.getElem?_replicate]
  split
  · simp only [Option.getD_some, List.getElem?_replicate]
    split <;> rfl
  · rfl

structure CS where
  i : Nat
  k : Nat
  rows : List BRow
  so : Sl
  m : Mem

theorem rows_put {n : Nat} {rows : List BRow} {i j : Nat} {x : BRow} {v : Bool} (hx : rows[i]? = some x) : (rows.set i (x.1, x.2.set j v)).map (browS n) = rows.map (browS n) ∧ (rows.set i (x.1, x.2.set j v)).map (·.2) = cset (rows.map (·.2)) i j v := by
  constructor
  · rw [List.map_set]
    exact set_selfV (by rw [List.getElem?_map, hx]; rfl)
  · rw [List.map_set, cset]
    congr 1
    rw [List.getElem?_map, hx]
    rfl
theorem rows_get {n : Nat} {rows : List BRow} (h : Sq n (rows.map (·.2))) {i j : Nat} (hi : i < n) (hj : j < n) : ∃ x, rows[i]? = some x ∧ x.2.length = n ∧ x.2[j]? = some (cat (rows.map (·.2)) i j) ∧ (rows.map (browS n))[i]? = some (browS n x) := by
  obtain ⟨r, h1, h2, h3⟩ := h.get hi hj
  rw [List.getElem?_map] at h1
  cases hx : rows[i]? with
  | none => rw [hx] at h1; cases h1
  | some x =>
    rw [hx] at h1
    simp only [Option.map_some, Option.some.injEq] at h1
    subst h1
    exact ⟨x, rfl, h2, h3, by rw [List.getElem?_map, hx]; rfl⟩

theorem perm_row {α : Type} {x a t : α} {R L : List α} : (x :: a :: t :: (R ++ L)).Perm (a :: t :: ((R ++ [x]) ++ L)) := by
  refine (List.Perm.swap _ _ _).trans (((List.Perm.swap _ _ _).trans (List.Perm.cons _ ?_)).cons _)
  rw [List.append_assoc]
  exact List.perm_middle.symm

set_option maxHeartbeats 4000000 in
theorem closure_ref (m : Mem) (L : List Item) (hh : HHier) (h : Hier) (hr : HierRep m hh h) (hsm : Small h) (hg : Good h) :
    TCall Try.prog 16 ⟨[hierV hh]⟩ m L (Made m L fun r m' => ∃ (t : Sl) (C : List (List Bool)), r = t.v ∧ SlRep (rSl rBool) m' t C ∧ Sq h.funcs.toNat C ∧ ∀ i j, i < h.funcs.toNat → j < h.funcs.toNat → (cat C i j = true ↔ Path1 (graphM h) i j)) := by
  have h3 := hr.sites.len
  have q3 := hr.sites.small rfl
  have hfu := hr.funcs
  have hn := hg.funcs
  have hn2 := hsm.1
  unfold TCall
  refine TCallX.enter Try.func16 rfl 108 rfl ?_
  repeat (first | refine TC.seq ?_ | refine TC.block ?_ | refine TC.region ?_ | refine TO.pureP tab rfl rfl ?_ | refine TO.nil ?_ | refine thenQ_n ?_ | refine blockQ_n ?_ | refine thenQ_r ?_ | refine blockQ_r ?_ | refine thenQ_x ?_ | refine blockQ_hit ?_ | refine blockQ_miss rfl ?_ | refine TC.skip ?_ | refine TC.exit ?_ | refine TC.ret ?_ | refine TC.cond_t rfl ?_ | refine TC.cond_f rfl ?_)
  refine TO.step rfl (OT.box rfl rfl rfl rfl rfl (fun b => ?_))
  repeat (first | refine TC.seq ?_ | refine TC.block ?_ | refine TC.region ?_ | refine TO.pureP tab rfl rfl ?_ | refine TO.nil ?_ | refine thenQ_n ?_ | refine blockQ_n ?_ | refine thenQ_r ?_ | refine blockQ_r ?_ | refine thenQ_x ?_ | refine blockQ_hit ?_ | refine blockQ_miss rfl ?_ | refine TC.skip ?_ | refine TC.exit ?_ | refine TC.ret ?_ | refine TC.cond_t rfl ?_ | refine TC.cond_f rfl ?_)
  refine TO.step rfl (OT.lit tab rfl rfl rfl rfl (fun bl => ?_))
  refine TO.drop (List.sublist_cons_self _ _) ?_
  repeat (first | refine TC.seq ?_ | refine TC.block ?_ | refine TC.region ?_ | refine TO.pureP tab rfl rfl ?_ | refine TO.nil ?_ | refine thenQ_n ?_ | refine blockQ_n ?_ | refine thenQ_r ?_ | refine blockQ_r ?_ | refine thenQ_x ?_ | refine blockQ_hit ?_ | refine blockQ_miss rfl ?_ | refine TC.skip ?_ | refine TC.exit ?_ | refine TC.ret ?_ | refine TC.cond_t rfl ?_ | refine TC.cond_f rfl ?_)
  refine TC.growL bl 1 ?_
  refine TC.perm (List.Perm.swap _ _ _) ?_
  refine TC.loopK (ι := CS) [1] rfl (fun x => [(4, .int .i64 (x.i : Int)), (3, x.so.v)]) (fun x => x.m) (fun x => .cells b 0 (hierC hh) :: tok x.so 1 :: (brows x.rows ++ L))
    (fun x => x.i ≤ h.funcs.toNat ∧ m ≤ x.m ∧ x.rows.map (·.2) = List.replicate x.i (List.replicate h.funcs.toNat false) ∧ Own x.so ∧ SlRep rAddr x.m x.so (x.rows.map (browS h.funcs.toNat))) (fun x => h.funcs.toNat - x.i) ⟨0, 0, [], ⟨some ⟨bl, 0, none⟩, 0, 0⟩, m⟩ (by repeat (first | exact trivial | refine And.intro rfl ?_)) rfl (List.Sublist.refl _)
    ⟨Nat.zero_le _, Mem.le_refl _, rfl, Own.lit _ _ _, SlRep.lit0 _ _ _⟩ ?_
  rintro ⟨i, _, rows, so, m1⟩ ⟨hi, hm1, hrw, hown, hso⟩
  simp only at hi hm1 hrw hown hso ⊢
  have hrl : rows.length = i := by
    have := congrArg List.length hrw
    simpa using this
  repeat (first | (first | refine TC.seq ?_ | refine TC.block ?_ | refine TC.region ?_ | refine TO.pureP tab rfl rfl ?_ | refine TO.nil ?_ | refine thenQ_n ?_ | refine blockQ_n ?_ | refine thenQ_r ?_ | refine blockQ_r ?_ | refine thenQ_x ?_ | refine blockQ_hit ?_ | refine blockQ_miss rfl ?_ | refine TC.skip ?_ | refine TC.exit ?_ | refine TC.ret ?_ | refine TC.cond_t rfl ?_ | refine TC.cond_f rfl ?_) | (first | refine TO.step rfl (OT.loadL tab 0 rfl rfl rfl rfl rfl rfl ?_) | refine TO.step rfl (OT.loadL0 tab 0 rfl rfl rfl rfl rfl rfl ?_) | refine TO.step rfl (OT.loadL tab 1 rfl rfl rfl rfl rfl rfl ?_) | refine TO.step rfl (OT.loadL0 tab 1 rfl rfl rfl rfl rfl rfl ?_) | refine TO.step rfl (OT.loadL tab 2 rfl rfl rfl rfl rfl rfl ?_) | refine TO.step rfl (OT.loadL0 tab 2 rfl rfl rfl rfl rfl rfl ?_) | refine TO.step rfl (OT.loadL tab 3 rfl rfl rfl rfl rfl rfl ?_) | refine TO.step rfl (OT.loadL0 tab 3 rfl rfl rfl rfl rfl rfl ?_) | refine TO.step rfl (OT.loadL tab 4 rfl rfl rfl rfl rfl rfl ?_) | refine TO.step rfl (OT.loadL0 tab 4 rfl rfl rfl rfl rfl rfl ?_) | refine TO.step rfl (OT.loadL tab 5 rfl rfl rfl rfl rfl rfl ?_) | refine TO.step rfl (OT.loadL0 tab 5 rfl rfl rfl rfl rfl rfl ?_) | refine TO.step rfl (OT.loadL tab 6 rfl rfl rfl rfl rfl rfl ?_) | refine TO.step rfl (OT.loadL0 tab 6 rfl rfl rfl rfl rfl rfl ?_) | refine TO.step rfl (OT.loadL tab 7 rfl rfl rfl rfl rfl rfl ?_) | refine TO.step rfl (OT.loadL0 tab 7 rfl rfl rfl rfl rfl rfl ?_) | refine TO.step rfl (OT.loadL tab 8 rfl rfl rfl rfl rfl rfl ?_) | refine TO.step rfl (OT.loadL0 tab 8 rfl rfl rfl rfl rfl rfl ?_) | refine TO.step rfl (OT.loadL tab 9 rfl rfl rfl rfl rfl rfl ?_) | refine TO.step rfl (OT.loadL0 tab 9 rfl rfl rfl rfl rfl rfl ?_)))
  refine TC.condP rfl (fun hlt' => ?_) (fun hlt' => ?_)
  · have hlt : i < h.funcs.toNat := by omega
    repeat (first | (first | refine TC.seq ?_ | refine TC.block ?_ | refine TC.region ?_ | refine TO.pureP tab rfl rfl ?_ | refine TO.nil ?_ | refine thenQ_n ?_ | refine blockQ_n ?_ | refine thenQ_r ?_ | refine blockQ_r ?_ | refine thenQ_x ?_ | refine blockQ_hit ?_ | refine blockQ_miss rfl ?_ | refine TC.skip ?_ | refine TC.exit ?_ | refine TC.ret ?_ | refine TC.cond_t rfl ?_ | refine TC.cond_f rfl ?_) | (first | refine TO.step rfl (OT.loadL tab 0 rfl rfl rfl rfl rfl rfl ?_) | refine TO.step rfl (OT.loadL0 tab 0 rfl rfl rfl rfl rfl rfl ?_) | refine TO.step rfl (OT.loadL tab 1 rfl rfl rfl rfl rfl rfl ?_) | refine TO.step rfl (OT.loadL0 tab 1 rfl rfl rfl rfl rfl rfl ?_) | refine TO.step rfl (OT.loadL tab 2 rfl rfl rfl rfl rfl rfl ?_) | refine TO.step rfl (OT.loadL0 tab 2 rfl rfl rfl rfl rfl rfl ?_) | refine TO.step rfl (OT.loadL tab 3 rfl rfl rfl rfl rfl rfl ?_) | refine TO.step rfl (OT.loadL0 tab 3 rfl rfl rfl rfl rfl rfl ?_) | refine TO.step rfl (OT.loadL tab 4 rfl rfl rfl rfl rfl rfl ?_) | refine TO.step rfl (OT.loadL0 tab 4 rfl rfl rfl rfl rfl rfl ?_) | refine TO.step rfl (OT.loadL tab 5 rfl rfl rfl rfl rfl rfl ?_) | refine TO.step rfl (OT.loadL0 tab 5 rfl rfl rfl rfl rfl rfl ?_) | refine TO.step rfl (OT.loadL tab 6 rfl rfl rfl rfl rfl rfl ?_) | refine TO.step rfl (OT.loadL0 tab 6 rfl rfl rfl rfl rfl rfl ?_) | refine TO.step rfl (OT.loadL tab 7 rfl rfl rfl rfl rfl rfl ?_) | refine TO.step rfl (OT.loadL0 tab 7 rfl rfl rfl rfl rfl rfl ?_) | refine TO.step rfl (OT.loadL tab 8 rfl rfl rfl rfl rfl rfl ?_) | refine TO.step rfl (OT.loadL0 tab 8 rfl rfl rfl rfl rfl rfl ?_) | refine TO.step rfl (OT.loadL tab 9 rfl rfl rfl rfl rfl rfl ?_) | refine TO.step rfl (OT.loadL0 tab 9 rfl rfl rfl rfl rfl rfl ?_)))
    refine TO.step rfl (OT.makeM tab Value.bool false h.funcs.toNat (by omega) rfl rfl rfl rfl rfl rfl rfl rfl (show h.funcs.toNat * 1 ≤ 281474976710656 by omega) rfl (fun bn => ?_))
    refine TO.step rfl (OT.lit tab rfl rfl rfl rfl (fun bl2 => ?_))
    refine TO.step rfl (OT.append1 tab rAddr 2 (hd' := ⟨some ⟨bn, 0, none⟩, h.funcs.toNat, h.funcs.toNat⟩) (a := ⟨some ⟨bn, 0, none⟩, h.funcs.toNat, h.funcs.toNat⟩) hso hown rfl rfl rfl rfl rfl rfl rfl rfl (by simp only [rAddr, List.length_map]; omega) (fun so2 m2 hm2 hso2 hown2 => ?_))
    refine TO.perm perm_row ?_
    repeat (first | refine TC.seq ?_ | refine TC.block ?_ | refine TC.region ?_ | refine TO.pureP tab rfl rfl ?_ | refine TO.nil ?_ | refine thenQ_n ?_ | refine blockQ_n ?_ | refine thenQ_r ?_ | refine blockQ_r ?_ | refine thenQ_x ?_ | refine blockQ_hit ?_ | refine blockQ_miss rfl ?_ | refine TC.skip ?_ | refine TC.exit ?_ | refine TC.ret ?_ | refine TC.cond_t rfl ?_ | refine TC.cond_f rfl ?_)
    refine TO.step rfl (OT.arith (r' := ((i + 1 : Nat) : Int)) rfl rfl rfl rfl rfl rfl rfl (by omega) ?_)
    repeat (first | refine TC.seq ?_ | refine TC.block ?_ | refine TC.region ?_ | refine TO.pureP tab rfl rfl ?_ | refine TO.nil ?_ | refine thenQ_n ?_ | refine blockQ_n ?_ | refine thenQ_r ?_ | refine blockQ_r ?_ | refine thenQ_x ?_ | refine blockQ_hit ?_ | refine blockQ_miss rfl ?_ | refine TC.skip ?_ | refine TC.exit ?_ | refine TC.ret ?_ | refine TC.cond_t rfl ?_ | refine TC.cond_f rfl ?_)
    refine ⟨⟨i + 1, 0, rows ++ [(bn, List.replicate h.funcs.toNat false)], so2, m2⟩, (by repeat (first | exact trivial | refine And.intro rfl ?_)), (by repeat (first | exact trivial | refine And.intro rfl ?_)), rfl, rfl, ?_, ⟨by simp only; omega, Mem.le_trans hm1 hm2, ?_, hown2, ?_⟩, by simp only; omega⟩
    · simp only [brows, List.map_append, List.map_cons, List.map_nil]
      exact List.Sublist.refl _
    · simp only [List.map_append, List.map_cons, List.map_nil, hrw, List.replicate_succ']
    · simp only [List.map_append, List.map_cons, List.map_nil]
      exact hso2
  have hin : i = h.funcs.toNat := by omega
  subst hin
  refine TC.drop (L' := .cells b 0 (hierC hh) :: (brows rows ++ L)) (by repeat (first | exact List.Sublist.refl _ | exact List.sublist_append_left _ _ | refine List.Sublist.cons_cons _ ?_ | refine List.Sublist.cons _ ?_)) ?_
  have hE0 : CEd h h.funcs.toNat 0 0 (rows.map (·.2)) := by
    rw [hrw]
    refine ⟨⟨by simp, fun i r hr => ?_⟩, fun a b ha hb hab => ?_, fun i' s hi' => by omega, fun s hs k' t hk' => by omega⟩
    · rw [List.getElem?_replicate] at hr
      split at hr
      · simp only [Option.some.injEq] at hr
        rw [← hr]; simp
      · cases hr
    · rw [cat_false] at hab; cases hab
  clear hrw hi hrl hlt'
  repeat (first | refine TC.seq ?_ | refine TC.block ?_ | refine TC.region ?_ | refine TO.pureP tab rfl rfl ?_ | refine TO.nil ?_ | refine thenQ_n ?_ | refine blockQ_n ?_ | refine thenQ_r ?_ | refine blockQ_r ?_ | refine thenQ_x ?_ | refine blockQ_hit ?_ | refine blockQ_miss rfl ?_ | refine TC.skip ?_ | refine TC.exit ?_ | refine TC.ret ?_ | refine TC.cond_t rfl ?_ | refine TC.cond_f rfl ?_)
  refine TC.loopK (ι := CS) [1, 3] rfl (fun x => [(5, .int .i64 (x.i : Int))]) (fun x => x.m) (fun x => .cells b 0 (hierC hh) :: (brows x.rows ++ L))
    (fun x => x.i ≤ h.sites.length ∧ m1 ≤ x.m ∧ x.rows.map (browS h.funcs.toNat) = rows.map (browS h.funcs.toNat) ∧ CEd h h.funcs.toNat x.i 0 (x.rows.map (·.2))) (fun x => h.sites.length - x.i) ⟨0, 0, rows, so, m1⟩ (by repeat (first | exact trivial | refine And.intro rfl ?_)) rfl (List.Sublist.refl _)
    ⟨Nat.zero_le _, Mem.le_refl _, rfl, hE0⟩ ?_
  generalize rows.map (browS h.funcs.toNat) = AA at *
  clear hE0
  rintro ⟨i, _, rows, _, m2⟩ ⟨hi, hm2, hAA, hE⟩
  simp only at hi hm2 hAA hE ⊢
  have hr2 := (hr.mono hm1).mono hm2
  have hso2 := hso.mono hm2
  repeat (first | (first | refine TC.seq ?_ | refine TC.block ?_ | refine TC.region ?_ | refine TO.pureP tab rfl rfl ?_ | refine TO.nil ?_ | refine thenQ_n ?_ | refine blockQ_n ?_ | refine thenQ_r ?_ | refine blockQ_r ?_ | refine thenQ_x ?_ | refine blockQ_hit ?_ | refine blockQ_miss rfl ?_ | refine TC.skip ?_ | refine TC.exit ?_ | refine TC.ret ?_ | refine TC.cond_t rfl ?_ | refine TC.cond_f rfl ?_) | (first | refine TO.step rfl (OT.loadL tab 0 rfl rfl rfl rfl rfl rfl ?_) | refine TO.step rfl (OT.loadL0 tab 0 rfl rfl rfl rfl rfl rfl ?_) | refine TO.step rfl (OT.loadL tab 1 rfl rfl rfl rfl rfl rfl ?_) | refine TO.step rfl (OT.loadL0 tab 1 rfl rfl rfl rfl rfl rfl ?_) | refine TO.step rfl (OT.loadL tab 2 rfl rfl rfl rfl rfl rfl ?_) | refine TO.step rfl (OT.loadL0 tab 2 rfl rfl rfl rfl rfl rfl ?_) | refine TO.step rfl (OT.loadL tab 3 rfl rfl rfl rfl rfl rfl ?_) | refine TO.step rfl (OT.loadL0 tab 3 rfl rfl rfl rfl rfl rfl ?_) | refine TO.step rfl (OT.loadL tab 4 rfl rfl rfl rfl rfl rfl ?_) | refine TO.step rfl (OT.loadL0 tab 4 rfl rfl rfl rfl rfl rfl ?_) | refine TO.step rfl (OT.loadL tab 5 rfl rfl rfl rfl rfl rfl ?_) | refine TO.step rfl (OT.loadL0 tab 5 rfl rfl rfl rfl rfl rfl ?_) | refine TO.step rfl (OT.loadL tab 6 rfl rfl rfl rfl rfl rfl ?_) | refine TO.step rfl (OT.loadL0 tab 6 rfl rfl rfl rfl rfl rfl ?_) | refine TO.step rfl (OT.loadL tab 7 rfl rfl rfl rfl rfl rfl ?_) | refine TO.step rfl (OT.loadL0 tab 7 rfl rfl rfl rfl rfl rfl ?_) | refine TO.step rfl (OT.loadL tab 8 rfl rfl rfl rfl rfl rfl ?_) | refine TO.step rfl (OT.loadL0 tab 8 rfl rfl rfl rfl rfl rfl ?_) | refine TO.step rfl (OT.loadL tab 9 rfl rfl rfl rfl rfl rfl ?_) | refine TO.step rfl (OT.loadL0 tab 9 rfl rfl rfl rfl rfl rfl ?_)))
  refine TC.condP rfl (fun hlt' => ?_) (fun hlt' => ?_)
  · have hlt : i < h.sites.length := by omega
    have hx : h.sites[i]? = some h.sites[i] := by simp [hlt]
    have hsmm := List.getElem_mem hlt
    generalize h.sites[i] = s at hx hsmm
    have hsk := hg.sites s hsmm
    have hfr := hsk.frm
    have htl := targets_lt hg hsk
    repeat (first | refine TC.seq ?_ | refine TC.block ?_ | refine TC.region ?_ | refine TO.pureP tab rfl rfl ?_ | refine TO.nil ?_ | refine thenQ_n ?_ | refine blockQ_n ?_ | refine thenQ_r ?_ | refine blockQ_r ?_ | refine thenQ_x ?_ | refine blockQ_hit ?_ | refine blockQ_miss rfl ?_ | refine TC.skip ?_ | refine TC.exit ?_ | refine TC.ret ?_ | refine TC.cond_t rfl ?_ | refine TC.cond_f rfl ?_)
    refine TC.draw0 [] mixed 8 rfl ?_
    (first | refine DO.loadL tab 0 0 (by repeat (first | exact Calm.ret | refine Calm.then ?_ | refine Calm.block ?_ | assumption)) (by kernel_rfl) (by kernel_rfl) rfl rfl rfl rfl rfl rfl rfl rfl ?_ | refine DO.loadL (k := 0) tab 0 0 (by repeat (first | exact Calm.ret | refine Calm.then ?_ | refine Calm.block ?_ | assumption)) (by kernel_rfl) (by kernel_rfl) rfl rfl rfl rfl rfl rfl rfl rfl ?_)
    refine DO.pure tab (by repeat (first | exact Calm.ret | refine Calm.then ?_ | refine Calm.block ?_ | assumption)) (by kernel_rfl) [1] (by kernel_rfl) rfl ?_
    (first | refine DO.loadL tab 2 0 (by repeat (first | exact Calm.ret | refine Calm.then ?_ | refine Calm.block ?_ | assumption)) (by kernel_rfl) (by kernel_rfl) rfl rfl rfl rfl rfl rfl rfl rfl ?_ | refine DO.loadL (k := 0) tab 2 0 (by repeat (first | exact Calm.ret | refine Calm.then ?_ | refine Calm.block ?_ | assumption)) (by kernel_rfl) (by kernel_rfl) rfl rfl rfl rfl rfl rfl rfl rfl ?_)
    refine DO.pure tab (by repeat (first | exact Calm.ret | refine Calm.then ?_ | refine Calm.block ?_ | assumption)) (by kernel_rfl) [3] (by kernel_rfl) rfl ?_
    refine DO.index tab rSite 4 i hr2.sites (by repeat (first | exact Calm.ret | refine Calm.then ?_ | refine Calm.block ?_ | assumption)) (by kernel_rfl) (by kernel_rfl) rfl rfl rfl rfl rfl rfl rfl (by first | rfl | omega) rfl hx ?_
    rintro b1 i1 hd1 hrd1 hA1; obtain rfl := (show hd1 = s from hrd1)
    (first | refine DO.loadA tab 5 hA1 (by repeat (first | exact Calm.ret | refine Calm.then ?_ | refine Calm.block ?_ | assumption)) (by kernel_rfl) (by kernel_rfl) rfl rfl rfl rfl rfl rfl rfl ?_ | refine DO.loadA (k := 0) tab 5 hA1 (by repeat (first | exact Calm.ret | refine Calm.then ?_ | refine Calm.block ?_ | assumption)) (by kernel_rfl) (by kernel_rfl) rfl rfl rfl rfl rfl rfl rfl ?_)
    refine DO.run 6 rfl rfl (by kernel_rfl) rfl (OT.call rfl rfl rfl rfl rfl rfl goes20 ((of_ref _ _ hh h hr2 hd1 hg.classes hsk).x ?_))
    rintro _ m3 _ ⟨hm3, rfl, t2, rfl, ht2⟩; refine ⟨hm3, _, List.Perm.refl _, ?_⟩
    refine DO.pure tab (by repeat (first | exact Calm.ret | refine Calm.then ?_ | refine Calm.block ?_ | assumption)) (by kernel_rfl) [7] (by kernel_rfl) rfl ?_
    (first | refine DO.nil0 (by kernel_rfl) ?_ | refine DO.nil (by kernel_rfl) ?_)
    rotate_left 1
    have hr3 := hr2.mono hm3
    have hso3 := hso2.mono hm3
    have ht2l := ht2.len
    have ht2s := ht2.small rfl
    repeat (first | refine TC.seq ?_ | refine TC.block ?_ | refine TC.region ?_ | refine TO.pureP tab rfl rfl ?_ | refine TO.nil ?_ | refine thenQ_n ?_ | refine blockQ_n ?_ | refine thenQ_r ?_ | refine blockQ_r ?_ | refine thenQ_x ?_ | refine blockQ_hit ?_ | refine blockQ_miss rfl ?_ | refine TC.skip ?_ | refine TC.exit ?_ | refine TC.ret ?_ | refine TC.cond_t rfl ?_ | refine TC.cond_f rfl ?_)
    refine TC.loopK (ι := CS) [1, 3, 5, 6] rfl (fun x => [(7, .int .i64 (x.k : Int))]) (fun _ => m3) (fun x => .cells b 0 (hierC hh) :: (brows x.rows ++ L))
      (fun x => x.k ≤ (targetsM h hd1).length ∧ x.rows.map (browS h.funcs.toNat) = AA ∧ CEd h h.funcs.toNat i x.k (x.rows.map (·.2))) (fun x => (targetsM h hd1).length - x.k) ⟨0, 0, rows, so, m1⟩ (by repeat (first | exact trivial | refine And.intro rfl ?_)) rfl (List.Sublist.refl _)
      ⟨Nat.zero_le _, hAA, hE⟩ ?_
    clear hAA hE
    rintro ⟨_, k, rows, _, _⟩ ⟨hk, hAA, hE⟩
    simp only at hk hAA hE ⊢
    repeat (first | refine TC.seq ?_ | refine TC.block ?_ | refine TC.region ?_ | refine TO.pureP tab rfl rfl ?_ | refine TO.nil ?_ | refine thenQ_n ?_ | refine blockQ_n ?_ | refine thenQ_r ?_ | refine blockQ_r ?_ | refine thenQ_x ?_ | refine blockQ_hit ?_ | refine blockQ_miss rfl ?_ | refine TC.skip ?_ | refine TC.exit ?_ | refine TC.ret ?_ | refine TC.cond_t rfl ?_ | refine TC.cond_f rfl ?_)
    refine TC.condP rfl (fun hlk' => ?_) (fun hlk' => ?_)
    · have hlk : k < (targetsM h hd1).length := by omega
      have hxk : (targetsM h hd1)[k]? = some (targetsM h hd1)[k] := by simp [hlk]
      have htm := htl _ (List.getElem_mem hlk)
      generalize (targetsM h hd1)[k] = t at hxk htm
      obtain ⟨x, hxr, hxl, hxj, hxa⟩ := rows_get hE.sq (i := hd1.frm.toNat) (j := t.toNat) (by omega) (by omega)
      rw [hAA] at hxa
      have hrk := (List.getElem?_eq_some_iff.1 hxr).1
      obtain ⟨hp1, hp2⟩ := rows_put (n := h.funcs.toNat) (j := t.toNat) (v := true) hxr
      repeat (first | refine TC.seq ?_ | refine TC.block ?_ | refine TC.region ?_ | refine TO.pureP tab rfl rfl ?_ | refine TO.nil ?_ | refine thenQ_n ?_ | refine blockQ_n ?_ | refine thenQ_r ?_ | refine blockQ_r ?_ | refine thenQ_x ?_ | refine blockQ_hit ?_ | refine blockQ_miss rfl ?_ | refine TC.skip ?_ | refine TC.exit ?_ | refine TC.ret ?_ | refine TC.cond_t rfl ?_ | refine TC.cond_f rfl ?_)
      refine TC.draw [14] mixed 15 rfl (_::brows rows) L (by first | exact List.Perm.refl _ | (rw [List.append_nil]; exact List.Perm.refl _)) ?_
      refine DO.pure tab (by repeat (first | exact Calm.ret | refine Calm.then ?_ | refine Calm.block ?_ | assumption)) (by kernel_rfl) [0, 1] (by kernel_rfl) rfl ?_
      (first | refine DO.loadL tab 2 0 (by repeat (first | exact Calm.ret | refine Calm.then ?_ | refine Calm.block ?_ | assumption)) (by kernel_rfl) (by kernel_rfl) rfl rfl rfl rfl rfl rfl rfl rfl ?_ | refine DO.loadL (k := 0) tab 2 0 (by repeat (first | exact Calm.ret | refine Calm.then ?_ | refine Calm.block ?_ | assumption)) (by kernel_rfl) (by kernel_rfl) rfl rfl rfl rfl rfl rfl rfl rfl ?_)
      refine DO.pure tab (by repeat (first | exact Calm.ret | refine Calm.then ?_ | refine Calm.block ?_ | assumption)) (by kernel_rfl) [3] (by kernel_rfl) rfl ?_
      refine DO.index tab rSite 4 i hr3.sites (by repeat (first | exact Calm.ret | refine Calm.then ?_ | refine Calm.block ?_ | assumption)) (by kernel_rfl) (by kernel_rfl) rfl rfl rfl rfl rfl rfl rfl (by first | rfl | omega) rfl hx ?_
      rintro b3 i3 hd3 hrd3 hA3; have hd3e := (show hd3 = hd1 from hrd3); subst hd3e
      refine DO.pure tab (by repeat (first | exact Calm.ret | refine Calm.then ?_ | refine Calm.block ?_ | assumption)) (by kernel_rfl) [5] (by kernel_rfl) rfl ?_
      (first | refine DO.loadA tab 6 hA3 (by repeat (first | exact Calm.ret | refine Calm.then ?_ | refine Calm.block ?_ | assumption)) (by kernel_rfl) (by kernel_rfl) rfl rfl rfl rfl rfl rfl rfl ?_ | refine DO.loadA (k := 0) tab 6 hA3 (by repeat (first | exact Calm.ret | refine Calm.then ?_ | refine Calm.block ?_ | assumption)) (by kernel_rfl) (by kernel_rfl) rfl rfl rfl rfl rfl rfl rfl ?_)
      refine DO.index tab rAddr 7 hd3.frm.toNat hso3 (by repeat (first | exact Calm.ret | refine Calm.then ?_ | refine Calm.block ?_ | assumption)) (by kernel_rfl) (by kernel_rfl) rfl rfl rfl rfl rfl rfl rfl (by first | rfl | omega) rfl hxa ?_
      rintro b4 i4 hd4 hrd4 hA4; obtain rfl := (show hd4 = browS h.funcs.toNat x from hrd4)
      (first | refine DO.loadA tab 8 hA4 (by repeat (first | exact Calm.ret | refine Calm.then ?_ | refine Calm.block ?_ | assumption)) (by kernel_rfl) (by kernel_rfl) rfl rfl rfl rfl rfl rfl rfl ?_ | refine DO.loadA (k := 0) tab 8 hA4 (by repeat (first | exact Calm.ret | refine Calm.then ?_ | refine Calm.block ?_ | assumption)) (by kernel_rfl) (by kernel_rfl) rfl rfl rfl rfl rfl rfl rfl ?_)
      refine DO.pure tab (by repeat (first | exact Calm.ret | refine Calm.then ?_ | refine Calm.block ?_ | assumption)) (by kernel_rfl) [9, 10] (by kernel_rfl) rfl ?_
      refine DO.index tab rInt 11 k ht2 (by repeat (first | exact Calm.ret | refine Calm.then ?_ | refine Calm.block ?_ | assumption)) (by kernel_rfl) (by kernel_rfl) rfl rfl rfl rfl rfl rfl rfl (by first | rfl | omega) rfl hxk ?_
      rintro b5 i5 hd5 hrd5 hA5; obtain rfl := (show hd5 = t from hrd5)
      (first | refine DO.loadA tab 12 hA5 (by repeat (first | exact Calm.ret | refine Calm.then ?_ | refine Calm.block ?_ | assumption)) (by kernel_rfl) (by kernel_rfl) rfl rfl rfl rfl rfl rfl rfl ?_ | refine DO.loadA (k := 0) tab 12 hA5 (by repeat (first | exact Calm.ret | refine Calm.then ?_ | refine Calm.block ?_ | assumption)) (by kernel_rfl) (by kernel_rfl) rfl rfl rfl rfl rfl rfl rfl ?_)
      refine DO.indexP (sz := 1) (n := h.funcs.toNat) tab 13 hd5.toNat (by repeat (first | exact Calm.ret | refine Calm.then ?_ | refine Calm.block ?_ | assumption)) (by kernel_rfl) (by kernel_rfl) rfl rfl rfl rfl rfl rfl rfl (by omega) rfl (by omega) ?_
      refine DO.tail ?_
      refine DOt.run 14 rfl rfl (by kernel_rfl) rfl ?_
      refine OT.storeM (k := hd5.toNat) (xs := x.2) tab (1 + hd3.frm.toNat) Value.bool true rfl rfl rfl rfl rfl rfl (brows_atL L hxr) (by omega) ?_
      refine DOt.nil (by kernel_rfl) ?_
      rotate_left 1
      have heq := brows_set (a := .cells b 0 (hierC hh)) (b := x.1) (l := x.2.set hd5.toNat true) L hrk
      rw [hAA] at hp1
      have hE2 := hE.put hg hx hxk
      rw [← hp2] at hE2
      repeat (first | refine TC.seq ?_ | refine TC.block ?_ | refine TC.region ?_ | refine TO.pureP tab rfl rfl ?_ | refine TO.nil ?_ | refine thenQ_n ?_ | refine blockQ_n ?_ | refine thenQ_r ?_ | refine blockQ_r ?_ | refine thenQ_x ?_ | refine blockQ_hit ?_ | refine blockQ_miss rfl ?_ | refine TC.skip ?_ | refine TC.exit ?_ | refine TC.ret ?_ | refine TC.cond_t rfl ?_ | refine TC.cond_f rfl ?_)
      refine TO.perm (List.Perm.of_eq heq) ?_
      refine TO.step rfl (OT.arith (r' := ((k + 1 : Nat) : Int)) rfl rfl rfl rfl rfl rfl rfl (by omega) ?_)
      repeat (first | refine TC.seq ?_ | refine TC.block ?_ | refine TC.region ?_ | refine TO.pureP tab rfl rfl ?_ | refine TO.nil ?_ | refine thenQ_n ?_ | refine blockQ_n ?_ | refine thenQ_r ?_ | refine blockQ_r ?_ | refine thenQ_x ?_ | refine blockQ_hit ?_ | refine blockQ_miss rfl ?_ | refine TC.skip ?_ | refine TC.exit ?_ | refine TC.ret ?_ | refine TC.cond_t rfl ?_ | refine TC.cond_f rfl ?_)
      exact ⟨⟨i, k + 1, _, so, m1⟩, (by repeat (first | exact trivial | refine And.intro rfl ?_)), (by repeat (first | exact trivial | refine And.intro rfl ?_)), rfl, rfl, List.Sublist.refl _, ⟨by simp only; omega, hp1, hE2⟩, by simp only; omega⟩
    · repeat (first | refine TC.seq ?_ | refine TC.block ?_ | refine TC.region ?_ | refine TO.pureP tab rfl rfl ?_ | refine TO.nil ?_ | refine thenQ_n ?_ | refine blockQ_n ?_ | refine thenQ_r ?_ | refine blockQ_r ?_ | refine thenQ_x ?_ | refine blockQ_hit ?_ | refine blockQ_miss rfl ?_ | refine TC.skip ?_ | refine TC.exit ?_ | refine TC.ret ?_ | refine TC.cond_t rfl ?_ | refine TC.cond_f rfl ?_)
      refine TO.step rfl (OT.arith (r' := ((i + 1 : Nat) : Int)) rfl rfl rfl rfl rfl rfl rfl (by omega) ?_)
      repeat (first | refine TC.seq ?_ | refine TC.block ?_ | refine TC.region ?_ | refine TO.pureP tab rfl rfl ?_ | refine TO.nil ?_ | refine thenQ_n ?_ | refine blockQ_n ?_ | refine thenQ_r ?_ | refine blockQ_r ?_ | refine thenQ_x ?_ | refine blockQ_hit ?_ | refine blockQ_miss rfl ?_ | refine TC.skip ?_ | refine TC.exit ?_ | refine TC.ret ?_ | refine TC.cond_t rfl ?_ | refine TC.cond_f rfl ?_)
      have hkl : k = (targetsM h hd1).length := by omega
      subst hkl
      exact ⟨⟨i + 1, 0, rows, so, m3⟩, (by repeat (first | exact trivial | refine And.intro rfl ?_)), (by repeat (first | exact trivial | refine And.intro rfl ?_)), rfl, rfl, List.Sublist.refl _, ⟨by simp only; omega, Mem.le_trans hm2 hm3, hAA, hE.next hx⟩, by simp only; omega⟩
  have hC0 := hE.mid hg (by omega)
  clear hE hi hlt'
  repeat (first | refine TC.seq ?_ | refine TC.block ?_ | refine TC.region ?_ | refine TO.pureP tab rfl rfl ?_ | refine TO.nil ?_ | refine thenQ_n ?_ | refine blockQ_n ?_ | refine thenQ_r ?_ | refine blockQ_r ?_ | refine thenQ_x ?_ | refine blockQ_hit ?_ | refine blockQ_miss rfl ?_ | refine TC.skip ?_ | refine TC.exit ?_ | refine TC.ret ?_ | refine TC.cond_t rfl ?_ | refine TC.cond_f rfl ?_)
  refine TC.loopK (ι := CS) [1, 3] rfl (fun x => [(8, .int .i64 (x.i : Int))]) (fun _ => m2) (fun x => .cells b 0 (hierC hh) :: (brows x.rows ++ L))
    (fun x => x.i ≤ h.funcs.toNat ∧ x.rows.map (browS h.funcs.toNat) = AA ∧ CMid (graphM h) h.funcs.toNat x.i 0 0 (x.rows.map (·.2))) (fun x => h.funcs.toNat - x.i) ⟨0, 0, rows, so, m1⟩ (by repeat (first | exact trivial | refine And.intro rfl ?_)) rfl (List.Sublist.refl _)
    ⟨Nat.zero_le _, hAA, hC0⟩ ?_
  clear hAA hC0
  rintro ⟨q, _, rows, _, _⟩ ⟨hq, hAA, hC⟩
  simp only at hq hAA hC ⊢
  repeat (first | (first | refine TC.seq ?_ | refine TC.block ?_ | refine TC.region ?_ | refine TO.pureP tab rfl rfl ?_ | refine TO.nil ?_ | refine thenQ_n ?_ | refine blockQ_n ?_ | refine thenQ_r ?_ | refine blockQ_r ?_ | refine thenQ_x ?_ | refine blockQ_hit ?_ | refine blockQ_miss rfl ?_ | refine TC.skip ?_ | refine TC.exit ?_ | refine TC.ret ?_ | refine TC.cond_t rfl ?_ | refine TC.cond_f rfl ?_) | (first | refine TO.step rfl (OT.loadL tab 0 rfl rfl rfl rfl rfl rfl ?_) | refine TO.step rfl (OT.loadL0 tab 0 rfl rfl rfl rfl rfl rfl ?_) | refine TO.step rfl (OT.loadL tab 1 rfl rfl rfl rfl rfl rfl ?_) | refine TO.step rfl (OT.loadL0 tab 1 rfl rfl rfl rfl rfl rfl ?_) | refine TO.step rfl (OT.loadL tab 2 rfl rfl rfl rfl rfl rfl ?_) | refine TO.step rfl (OT.loadL0 tab 2 rfl rfl rfl rfl rfl rfl ?_) | refine TO.step rfl (OT.loadL tab 3 rfl rfl rfl rfl rfl rfl ?_) | refine TO.step rfl (OT.loadL0 tab 3 rfl rfl rfl rfl rfl rfl ?_) | refine TO.step rfl (OT.loadL tab 4 rfl rfl rfl rfl rfl rfl ?_) | refine TO.step rfl (OT.loadL0 tab 4 rfl rfl rfl rfl rfl rfl ?_) | refine TO.step rfl (OT.loadL tab 5 rfl rfl rfl rfl rfl rfl ?_) | refine TO.step rfl (OT.loadL0 tab 5 rfl rfl rfl rfl rfl rfl ?_) | refine TO.step rfl (OT.loadL tab 6 rfl rfl rfl rfl rfl rfl ?_) | refine TO.step rfl (OT.loadL0 tab 6 rfl rfl rfl rfl rfl rfl ?_) | refine TO.step rfl (OT.loadL tab 7 rfl rfl rfl rfl rfl rfl ?_) | refine TO.step rfl (OT.loadL0 tab 7 rfl rfl rfl rfl rfl rfl ?_) | refine TO.step rfl (OT.loadL tab 8 rfl rfl rfl rfl rfl rfl ?_) | refine TO.step rfl (OT.loadL0 tab 8 rfl rfl rfl rfl rfl rfl ?_) | refine TO.step rfl (OT.loadL tab 9 rfl rfl rfl rfl rfl rfl ?_) | refine TO.step rfl (OT.loadL0 tab 9 rfl rfl rfl rfl rfl rfl ?_)))
  refine TC.condP rfl (fun hlq' => ?_) (fun hlq' => ?_)
  · have hlq : q < h.funcs.toNat := by omega
    repeat (first | refine TC.seq ?_ | refine TC.block ?_ | refine TC.region ?_ | refine TO.pureP tab rfl rfl ?_ | refine TO.nil ?_ | refine thenQ_n ?_ | refine blockQ_n ?_ | refine thenQ_r ?_ | refine blockQ_r ?_ | refine thenQ_x ?_ | refine blockQ_hit ?_ | refine blockQ_miss rfl ?_ | refine TC.skip ?_ | refine TC.exit ?_ | refine TC.ret ?_ | refine TC.cond_t rfl ?_ | refine TC.cond_f rfl ?_)
    refine TC.loopK (ι := CS) [1, 3, 8] rfl (fun x => [(9, .int .i64 (x.i : Int))]) (fun _ => m2) (fun x => .cells b 0 (hierC hh) :: (brows x.rows ++ L))
      (fun x => x.i ≤ h.funcs.toNat ∧ x.rows.map (browS h.funcs.toNat) = AA ∧ CMid (graphM h) h.funcs.toNat q x.i 0 (x.rows.map (·.2))) (fun x => h.funcs.toNat - x.i) ⟨0, 0, rows, so, m1⟩ (by repeat (first | exact trivial | refine And.intro rfl ?_)) rfl (List.Sublist.refl _)
      ⟨Nat.zero_le _, hAA, hC⟩ ?_
    clear hAA hC
    rintro ⟨i, _, rows, _, _⟩ ⟨hi, hAA, hC⟩
    simp only at hi hAA hC ⊢
    repeat (first | (first | refine TC.seq ?_ | refine TC.block ?_ | refine TC.region ?_ | refine TO.pureP tab rfl rfl ?_ | refine TO.nil ?_ | refine thenQ_n ?_ | refine blockQ_n ?_ | refine thenQ_r ?_ | refine blockQ_r ?_ | refine thenQ_x ?_ | refine blockQ_hit ?_ | refine blockQ_miss rfl ?_ | refine TC.skip ?_ | refine TC.exit ?_ | refine TC.ret ?_ | refine TC.cond_t rfl ?_ | refine TC.cond_f rfl ?_) | (first | refine TO.step rfl (OT.loadL tab 0 rfl rfl rfl rfl rfl rfl ?_) | refine TO.step rfl (OT.loadL0 tab 0 rfl rfl rfl rfl rfl rfl ?_) | refine TO.step rfl (OT.loadL tab 1 rfl rfl rfl rfl rfl rfl ?_) | refine TO.step rfl (OT.loadL0 tab 1 rfl rfl rfl rfl rfl rfl ?_) | refine TO.step rfl (OT.loadL tab 2 rfl rfl rfl rfl rfl rfl ?_) | refine TO.step rfl (OT.loadL0 tab 2 rfl rfl rfl rfl rfl rfl ?_) | refine TO.step rfl (OT.loadL tab 3 rfl rfl rfl rfl rfl rfl ?_) | refine TO.step rfl (OT.loadL0 tab 3 rfl rfl rfl rfl rfl rfl ?_) | refine TO.step rfl (OT.loadL tab 4 rfl rfl rfl rfl rfl rfl ?_) | refine TO.step rfl (OT.loadL0 tab 4 rfl rfl rfl rfl rfl rfl ?_) | refine TO.step rfl (OT.loadL tab 5 rfl rfl rfl rfl rfl rfl ?_) | refine TO.step rfl (OT.loadL0 tab 5 rfl rfl rfl rfl rfl rfl ?_) | refine TO.step rfl (OT.loadL tab 6 rfl rfl rfl rfl rfl rfl ?_) | refine TO.step rfl (OT.loadL0 tab 6 rfl rfl rfl rfl rfl rfl ?_) | refine TO.step rfl (OT.loadL tab 7 rfl rfl rfl rfl rfl rfl ?_) | refine TO.step rfl (OT.loadL0 tab 7 rfl rfl rfl rfl rfl rfl ?_) | refine TO.step rfl (OT.loadL tab 8 rfl rfl rfl rfl rfl rfl ?_) | refine TO.step rfl (OT.loadL0 tab 8 rfl rfl rfl rfl rfl rfl ?_) | refine TO.step rfl (OT.loadL tab 9 rfl rfl rfl rfl rfl rfl ?_) | refine TO.step rfl (OT.loadL0 tab 9 rfl rfl rfl rfl rfl rfl ?_)))
    refine TC.condP rfl (fun hli' => ?_) (fun hli' => ?_)
    · have hli : i < h.funcs.toNat := by omega
      repeat (first | refine TC.seq ?_ | refine TC.block ?_ | refine TC.region ?_ | refine TO.pureP tab rfl rfl ?_ | refine TO.nil ?_ | refine thenQ_n ?_ | refine blockQ_n ?_ | refine thenQ_r ?_ | refine blockQ_r ?_ | refine thenQ_x ?_ | refine blockQ_hit ?_ | refine blockQ_miss rfl ?_ | refine TC.skip ?_ | refine TC.exit ?_ | refine TC.ret ?_ | refine TC.cond_t rfl ?_ | refine TC.cond_f rfl ?_)
      refine TC.loopK (ι := CS) [1, 3, 8, 9] rfl (fun x => [(10, .int .i64 (x.k : Int))]) (fun _ => m2) (fun x => .cells b 0 (hierC hh) :: (brows x.rows ++ L))
        (fun x => x.k ≤ h.funcs.toNat ∧ x.rows.map (browS h.funcs.toNat) = AA ∧ CMid (graphM h) h.funcs.toNat q i x.k (x.rows.map (·.2))) (fun x => h.funcs.toNat - x.k) ⟨0, 0, rows, so, m1⟩ (by repeat (first | exact trivial | refine And.intro rfl ?_)) rfl (List.Sublist.refl _)
        ⟨Nat.zero_le _, hAA, hC⟩ ?_
      clear hAA hC
      rintro ⟨_, k, rows, _, _⟩ ⟨hk, hAA, hC⟩
      simp only at hk hAA hC ⊢
      obtain ⟨x, hxr, hxl, hxq, hxa⟩ := rows_get hC.sq (i := i) (j := q) (by omega) (by omega)
      rw [hAA] at hxa
      have hrk := (List.getElem?_eq_some_iff.1 hxr).1
      repeat (first | (first | refine TC.seq ?_ | refine TC.block ?_ | refine TC.region ?_ | refine TO.pureP tab rfl rfl ?_ | refine TO.nil ?_ | refine thenQ_n ?_ | refine blockQ_n ?_ | refine thenQ_r ?_ | refine blockQ_r ?_ | refine thenQ_x ?_ | refine blockQ_hit ?_ | refine blockQ_miss rfl ?_ | refine TC.skip ?_ | refine TC.exit ?_ | refine TC.ret ?_ | refine TC.cond_t rfl ?_ | refine TC.cond_f rfl ?_) | (first | refine TO.step rfl (OT.loadL tab 0 rfl rfl rfl rfl rfl rfl ?_) | refine TO.step rfl (OT.loadL0 tab 0 rfl rfl rfl rfl rfl rfl ?_) | refine TO.step rfl (OT.loadL tab 1 rfl rfl rfl rfl rfl rfl ?_) | refine TO.step rfl (OT.loadL0 tab 1 rfl rfl rfl rfl rfl rfl ?_) | refine TO.step rfl (OT.loadL tab 2 rfl rfl rfl rfl rfl rfl ?_) | refine TO.step rfl (OT.loadL0 tab 2 rfl rfl rfl rfl rfl rfl ?_) | refine TO.step rfl (OT.loadL tab 3 rfl rfl rfl rfl rfl rfl ?_) | refine TO.step rfl (OT.loadL0 tab 3 rfl rfl rfl rfl rfl rfl ?_) | refine TO.step rfl (OT.loadL tab 4 rfl rfl rfl rfl rfl rfl ?_) | refine TO.step rfl (OT.loadL0 tab 4 rfl rfl rfl rfl rfl rfl ?_) | refine TO.step rfl (OT.loadL tab 5 rfl rfl rfl rfl rfl rfl ?_) | refine TO.step rfl (OT.loadL0 tab 5 rfl rfl rfl rfl rfl rfl ?_) | refine TO.step rfl (OT.loadL tab 6 rfl rfl rfl rfl rfl rfl ?_) | refine TO.step rfl (OT.loadL0 tab 6 rfl rfl rfl rfl rfl rfl ?_) | refine TO.step rfl (OT.loadL tab 7 rfl rfl rfl rfl rfl rfl ?_) | refine TO.step rfl (OT.loadL0 tab 7 rfl rfl rfl rfl rfl rfl ?_) | refine TO.step rfl (OT.loadL tab 8 rfl rfl rfl rfl rfl rfl ?_) | refine TO.step rfl (OT.loadL0 tab 8 rfl rfl rfl rfl rfl rfl ?_) | refine TO.step rfl (OT.loadL tab 9 rfl rfl rfl rfl rfl rfl ?_) | refine TO.step rfl (OT.loadL0 tab 9 rfl rfl rfl rfl rfl rfl ?_)))
      (first | refine TO.splitP rfl rfl (fun hlk' => ?_) (fun hlk' => ?_) | refine TO.splitN rfl rfl (fun hlk' => ?_) (fun hlk' => ?_) | refine TO.split rfl rfl (fun hlk' => ?_) (fun hlk' => ?_))
      · have hlk : k < h.funcs.toNat := by omega
        repeat (first | refine TC.seq ?_ | refine TC.block ?_ | refine TC.region ?_ | refine TO.pureP tab rfl rfl ?_ | refine TO.nil ?_ | refine thenQ_n ?_ | refine blockQ_n ?_ | refine thenQ_r ?_ | refine blockQ_r ?_ | refine thenQ_x ?_ | refine blockQ_hit ?_ | refine blockQ_miss rfl ?_ | refine TC.skip ?_ | refine TC.exit ?_ | refine TC.ret ?_ | refine TC.cond_t rfl ?_ | refine TC.cond_f rfl ?_)
        refine TO.step rfl (OT.index tab rAddr i hso2 rfl rfl rfl rfl rfl (by first | rfl | omega) rfl hxa ?_)
        rintro b3 i3 hd3 hrd3 hA3
        obtain rfl := (show hd3 = browS h.funcs.toNat x from hrd3)
        (first | refine TO.step rfl (OT.loadA tab hA3 rfl rfl rfl rfl rfl ?_) | refine TO.step rfl (OT.loadA0 tab hA3 rfl rfl rfl rfl rfl ?_))
        repeat (first | refine TC.seq ?_ | refine TC.block ?_ | refine TC.region ?_ | refine TO.pureP tab rfl rfl ?_ | refine TO.nil ?_ | refine thenQ_n ?_ | refine blockQ_n ?_ | refine thenQ_r ?_ | refine blockQ_r ?_ | refine thenQ_x ?_ | refine blockQ_hit ?_ | refine blockQ_miss rfl ?_ | refine TC.skip ?_ | refine TC.exit ?_ | refine TC.ret ?_ | refine TC.cond_t rfl ?_ | refine TC.cond_f rfl ?_)
        refine TO.step rfl (OT.indexP (sz := 1) (n := h.funcs.toNat) tab q rfl rfl rfl rfl rfl rfl rfl (by omega) ?_)
        refine TO.step rfl (OT.loadM tab (1 + i) Value.bool hxq rfl rfl rfl rfl (brows_atL L hxr) rfl ?_)
        repeat (first | refine TC.seq ?_ | refine TC.block ?_ | refine TC.region ?_ | refine TO.pureP tab rfl rfl ?_ | refine TO.nil ?_ | refine thenQ_n ?_ | refine blockQ_n ?_ | refine thenQ_r ?_ | refine blockQ_r ?_ | refine thenQ_x ?_ | refine blockQ_hit ?_ | refine blockQ_miss rfl ?_ | refine TC.skip ?_ | refine TC.exit ?_ | refine TC.ret ?_ | refine TC.cond_t rfl ?_ | refine TC.cond_f rfl ?_)
        refine TC.cond rfl (fun him => ?_) (fun him => ?_)
        · have hCn := hC.or hlq hli hlk him
          obtain ⟨x', hxr', hxl', hxk, _⟩ := rows_get hC.sq (i := i) (j := k) (by omega) (by omega)
          rw [hxr] at hxr'
          simp only [Option.some.injEq] at hxr'
          subst hxr'
          obtain ⟨y, hyr, hyl, hyk, hya⟩ := rows_get hC.sq (i := q) (j := k) (by omega) (by omega)
          rw [hAA] at hya
          repeat (first | refine TC.seq ?_ | refine TC.block ?_ | refine TC.region ?_ | refine TO.pureP tab rfl rfl ?_ | refine TO.nil ?_ | refine thenQ_n ?_ | refine blockQ_n ?_ | refine thenQ_r ?_ | refine blockQ_r ?_ | refine thenQ_x ?_ | refine blockQ_hit ?_ | refine blockQ_miss rfl ?_ | refine TC.skip ?_ | refine TC.exit ?_ | refine TC.ret ?_ | refine TC.cond_t rfl ?_ | refine TC.cond_f rfl ?_)
          refine TC.draw [22] mixed 23 rfl (_::brows rows) L (by first | exact List.Perm.refl _ | (rw [List.append_nil]; exact List.Perm.refl _)) ?_
          refine DO.pure tab (by repeat (first | exact Calm.ret | refine Calm.then ?_ | refine Calm.block ?_ | assumption)) (by kernel_rfl) [0, 1] (by kernel_rfl) rfl ?_
          refine DO.index tab rAddr 2 i hso2 (by repeat (first | exact Calm.ret | refine Calm.then ?_ | refine Calm.block ?_ | assumption)) (by kernel_rfl) (by kernel_rfl) rfl rfl rfl rfl rfl rfl rfl (by first | rfl | omega) rfl hxa ?_
          rintro b4 i4 hd4 hrd4 hA4; obtain rfl := (show hd4 = browS h.funcs.toNat x from hrd4)
          (first | refine DO.loadA tab 3 hA4 (by repeat (first | exact Calm.ret | refine Calm.then ?_ | refine Calm.block ?_ | assumption)) (by kernel_rfl) (by kernel_rfl) rfl rfl rfl rfl rfl rfl rfl ?_ | refine DO.loadA (k := 0) tab 3 hA4 (by repeat (first | exact Calm.ret | refine Calm.then ?_ | refine Calm.block ?_ | assumption)) (by kernel_rfl) (by kernel_rfl) rfl rfl rfl rfl rfl rfl rfl ?_)
          refine DO.pure tab (by repeat (first | exact Calm.ret | refine Calm.then ?_ | refine Calm.block ?_ | assumption)) (by kernel_rfl) [4, 5, 6] (by kernel_rfl) rfl ?_
          refine DO.index tab rAddr 7 i hso2 (by repeat (first | exact Calm.ret | refine Calm.then ?_ | refine Calm.block ?_ | assumption)) (by kernel_rfl) (by kernel_rfl) rfl rfl rfl rfl rfl rfl rfl (by first | rfl | omega) rfl hxa ?_
          rintro b5 i5 hd5 hrd5 hA5; obtain rfl := (show hd5 = browS h.funcs.toNat x from hrd5)
          (first | refine DO.loadA tab 8 hA5 (by repeat (first | exact Calm.ret | refine Calm.then ?_ | refine Calm.block ?_ | assumption)) (by kernel_rfl) (by kernel_rfl) rfl rfl rfl rfl rfl rfl rfl ?_ | refine DO.loadA (k := 0) tab 8 hA5 (by repeat (first | exact Calm.ret | refine Calm.then ?_ | refine Calm.block ?_ | assumption)) (by kernel_rfl) (by kernel_rfl) rfl rfl rfl rfl rfl rfl rfl ?_)
          refine DO.pure tab (by repeat (first | exact Calm.ret | refine Calm.then ?_ | refine Calm.block ?_ | assumption)) (by kernel_rfl) [9] (by kernel_rfl) rfl ?_
          refine DO.indexP (sz := 1) (n := h.funcs.toNat) tab 10 k (by repeat (first | exact Calm.ret | refine Calm.then ?_ | refine Calm.block ?_ | assumption)) (by kernel_rfl) (by kernel_rfl) rfl rfl rfl rfl rfl rfl rfl rfl rfl (by omega) ?_
          refine DO.loadM tab 11 (1 + i) Value.bool hxk (by repeat (first | exact Calm.ret | refine Calm.then ?_ | refine Calm.block ?_ | assumption)) (by kernel_rfl) (by kernel_rfl) rfl rfl rfl rfl rfl rfl (brows_at hxr) rfl ?_
          refine DO.pure tab (by repeat (first | exact Calm.ret | refine Calm.then ?_ | refine Calm.block ?_ | assumption)) (by kernel_rfl) [12] (by kernel_rfl) rfl ?_
          (first | refine DO.splitP (d := 97) rfl (fun hg12 => ?_) (fun hg12 => ?_) | refine DO.splitN (d := 97) rfl (fun hg12 => ?_) (fun hg12 => ?_) | refine DO.split (d := 97) rfl (fun hg12 => ?_) (fun hg12 => ?_))
          refine DO.pure tab (by repeat (first | exact Calm.ret | refine Calm.then ?_ | refine Calm.block ?_ | assumption)) (by kernel_rfl) [13, 14, 15, 16, 17, 18, 19, 20] (by kernel_rfl) rfl ?_
          refine DO.indexP (sz := 1) (n := h.funcs.toNat) tab 21 k (by repeat (first | exact Calm.ret | refine Calm.then ?_ | refine Calm.block ?_ | assumption)) (by kernel_rfl) (by kernel_rfl) rfl rfl rfl rfl rfl rfl rfl rfl rfl (by omega) ?_
          refine DO.tail ?_
          refine DOt.run 22 rfl rfl (by kernel_rfl) rfl ?_
          refine OT.storeM (k := k) (xs := x.2) tab (1 + i) Value.bool _ rfl rfl rfl rfl rfl rfl (brows_atL L hxr) (by omega) ?_
          refine DOt.nil (by kernel_rfl) ?_
          rotate_left 1
          refine DO.pure tab (by repeat (first | exact Calm.ret | refine Calm.then ?_ | refine Calm.block ?_ | assumption)) (by kernel_rfl) [13, 14] (by kernel_rfl) rfl ?_
          refine DO.index tab rAddr 15 q hso2 (by repeat (first | exact Calm.ret | refine Calm.then ?_ | refine Calm.block ?_ | assumption)) (by kernel_rfl) (by kernel_rfl) rfl rfl rfl rfl rfl rfl rfl (by first | rfl | omega) rfl hya ?_
          rintro b6 i6 hd6 hrd6 hA6; obtain rfl := (show hd6 = browS h.funcs.toNat y from hrd6)
          (first | refine DO.loadA tab 16 hA6 (by repeat (first | exact Calm.ret | refine Calm.then ?_ | refine Calm.block ?_ | assumption)) (by kernel_rfl) (by kernel_rfl) rfl rfl rfl rfl rfl rfl rfl ?_ | refine DO.loadA (k := 0) tab 16 hA6 (by repeat (first | exact Calm.ret | refine Calm.then ?_ | refine Calm.block ?_ | assumption)) (by kernel_rfl) (by kernel_rfl) rfl rfl rfl rfl rfl rfl rfl ?_)
          refine DO.pure tab (by repeat (first | exact Calm.ret | refine Calm.then ?_ | refine Calm.block ?_ | assumption)) (by kernel_rfl) [17] (by kernel_rfl) rfl ?_
          refine DO.indexP (sz := 1) (n := h.funcs.toNat) tab 18 k (by repeat (first | exact Calm.ret | refine Calm.then ?_ | refine Calm.block ?_ | assumption)) (by kernel_rfl) (by kernel_rfl) rfl rfl rfl rfl rfl rfl rfl rfl rfl (by omega) ?_
          refine DO.loadM tab 19 (1 + q) Value.bool hyk (by repeat (first | exact Calm.ret | refine Calm.then ?_ | refine Calm.block ?_ | assumption)) (by kernel_rfl) (by kernel_rfl) rfl rfl rfl rfl rfl rfl (brows_at hyr) rfl ?_
          refine DO.pure tab (by repeat (first | exact Calm.ret | refine Calm.then ?_ | refine Calm.block ?_ | assumption)) (by kernel_rfl) [20] (by kernel_rfl) rfl ?_
          refine DO.indexP (sz := 1) (n := h.funcs.toNat) tab 21 k (by repeat (first | exact Calm.ret | refine Calm.then ?_ | refine Calm.block ?_ | assumption)) (by kernel_rfl) (by kernel_rfl) rfl rfl rfl rfl rfl rfl rfl rfl rfl (by omega) ?_
          refine DO.tail ?_
          refine DOt.run 22 rfl rfl (by kernel_rfl) rfl ?_
          refine OT.storeM (k := k) (xs := x.2) tab (1 + i) Value.bool _ rfl rfl rfl rfl rfl rfl (brows_atL L hxr) (by omega) ?_
          refine DOt.nil (by kernel_rfl) ?_
          rotate_left 1
          · have heq := brows_set (a := .cells b 0 (hierC hh)) (b := x.1) (l := x.2.set k (true)) L hrk
            obtain ⟨hp1, hp2⟩ := rows_put (n := h.funcs.toNat) (j := k) (v := true) hxr
            rw [hg12] at hCn
            simp only [Bool.true_or, Bool.false_or] at hCn
            rw [← hp2] at hCn
            rw [hAA] at hp1
            repeat (first | refine TC.seq ?_ | refine TC.block ?_ | refine TC.region ?_ | refine TO.pureP tab rfl rfl ?_ | refine TO.nil ?_ | refine thenQ_n ?_ | refine blockQ_n ?_ | refine thenQ_r ?_ | refine blockQ_r ?_ | refine thenQ_x ?_ | refine blockQ_hit ?_ | refine blockQ_miss rfl ?_ | refine TC.skip ?_ | refine TC.exit ?_ | refine TC.ret ?_ | refine TC.cond_t rfl ?_ | refine TC.cond_f rfl ?_)
            refine TO.perm (List.Perm.of_eq heq) ?_
            refine TO.step rfl (OT.arith (r' := ((k + 1 : Nat) : Int)) rfl rfl rfl rfl rfl rfl rfl (by omega) ?_)
            repeat (first | refine TC.seq ?_ | refine TC.block ?_ | refine TC.region ?_ | refine TO.pureP tab rfl rfl ?_ | refine TO.nil ?_ | refine thenQ_n ?_ | refine blockQ_n ?_ | refine thenQ_r ?_ | refine blockQ_r ?_ | refine thenQ_x ?_ | refine blockQ_hit ?_ | refine blockQ_miss rfl ?_ | refine TC.skip ?_ | refine TC.exit ?_ | refine TC.ret ?_ | refine TC.cond_t rfl ?_ | refine TC.cond_f rfl ?_)
            exact ⟨⟨i, k + 1, _, so, m1⟩, (by repeat (first | exact trivial | refine And.intro rfl ?_)), (by repeat (first | exact trivial | refine And.intro rfl ?_)), rfl, rfl, List.Sublist.refl _, ⟨by simp only; omega, hp1, hCn⟩, by simp only; omega⟩
          · have heq := brows_set (a := .cells b 0 (hierC hh)) (b := x.1) (l := x.2.set k (cat (rows.map (·.2)) q k)) L hrk
            obtain ⟨hp1, hp2⟩ := rows_put (n := h.funcs.toNat) (j := k) (v := cat (rows.map (·.2)) q k) hxr
            rw [hg12] at hCn
            simp only [Bool.true_or, Bool.false_or] at hCn
            rw [← hp2] at hCn
            rw [hAA] at hp1
            repeat (first | refine TC.seq ?_ | refine TC.block ?_ | refine TC.region ?_ | refine TO.pureP tab rfl rfl ?_ | refine TO.nil ?_ | refine thenQ_n ?_ | refine blockQ_n ?_ | refine thenQ_r ?_ | refine blockQ_r ?_ | refine thenQ_x ?_ | refine blockQ_hit ?_ | refine blockQ_miss rfl ?_ | refine TC.skip ?_ | refine TC.exit ?_ | refine TC.ret ?_ | refine TC.cond_t rfl ?_ | refine TC.cond_f rfl ?_)
            refine TO.perm (List.Perm.of_eq heq) ?_
            refine TO.step rfl (OT.arith (r' := ((k + 1 : Nat) : Int)) rfl rfl rfl rfl rfl rfl rfl (by omega) ?_)
            repeat (first | refine TC.seq ?_ | refine TC.block ?_ | refine TC.region ?_ | refine TO.pureP tab rfl rfl ?_ | refine TO.nil ?_ | refine thenQ_n ?_ | refine blockQ_n ?_ | refine thenQ_r ?_ | refine blockQ_r ?_ | refine thenQ_x ?_ | refine blockQ_hit ?_ | refine blockQ_miss rfl ?_ | refine TC.skip ?_ | refine TC.exit ?_ | refine TC.ret ?_ | refine TC.cond_t rfl ?_ | refine TC.cond_f rfl ?_)
            exact ⟨⟨i, k + 1, _, so, m1⟩, (by repeat (first | exact trivial | refine And.intro rfl ?_)), (by repeat (first | exact trivial | refine And.intro rfl ?_)), rfl, rfl, List.Sublist.refl _, ⟨by simp only; omega, hp1, hCn⟩, by simp only; omega⟩
        · have hCn := hC.rowNot hlq hli him
          repeat (first | refine TC.seq ?_ | refine TC.block ?_ | refine TC.region ?_ | refine TO.pureP tab rfl rfl ?_ | refine TO.nil ?_ | refine thenQ_n ?_ | refine blockQ_n ?_ | refine thenQ_r ?_ | refine blockQ_r ?_ | refine thenQ_x ?_ | refine blockQ_hit ?_ | refine blockQ_miss rfl ?_ | refine TC.skip ?_ | refine TC.exit ?_ | refine TC.ret ?_ | refine TC.cond_t rfl ?_ | refine TC.cond_f rfl ?_)
          refine TO.step rfl (OT.arith (r' := ((i + 1 : Nat) : Int)) rfl rfl rfl rfl rfl rfl rfl (by omega) ?_)
          repeat (first | refine TC.seq ?_ | refine TC.block ?_ | refine TC.region ?_ | refine TO.pureP tab rfl rfl ?_ | refine TO.nil ?_ | refine thenQ_n ?_ | refine blockQ_n ?_ | refine thenQ_r ?_ | refine blockQ_r ?_ | refine thenQ_x ?_ | refine blockQ_hit ?_ | refine blockQ_miss rfl ?_ | refine TC.skip ?_ | refine TC.exit ?_ | refine TC.ret ?_ | refine TC.cond_t rfl ?_ | refine TC.cond_f rfl ?_)
          exact ⟨⟨i + 1, 0, rows, so, m1⟩, (by repeat (first | exact trivial | refine And.intro rfl ?_)), (by repeat (first | exact trivial | refine And.intro rfl ?_)), rfl, rfl, List.Sublist.refl _, ⟨by simp only; omega, hAA, hCn⟩, by simp only; omega⟩
      · have hkn : k = h.funcs.toNat := by omega
        subst hkn
        have hCn := hC.rowDone
        repeat (first | refine TC.seq ?_ | refine TC.block ?_ | refine TC.region ?_ | refine TO.pureP tab rfl rfl ?_ | refine TO.nil ?_ | refine thenQ_n ?_ | refine blockQ_n ?_ | refine thenQ_r ?_ | refine blockQ_r ?_ | refine thenQ_x ?_ | refine blockQ_hit ?_ | refine blockQ_miss rfl ?_ | refine TC.skip ?_ | refine TC.exit ?_ | refine TC.ret ?_ | refine TC.cond_t rfl ?_ | refine TC.cond_f rfl ?_)
        refine TO.step rfl (OT.arith (r' := ((i + 1 : Nat) : Int)) rfl rfl rfl rfl rfl rfl rfl (by omega) ?_)
        repeat (first | refine TC.seq ?_ | refine TC.block ?_ | refine TC.region ?_ | refine TO.pureP tab rfl rfl ?_ | refine TO.nil ?_ | refine thenQ_n ?_ | refine blockQ_n ?_ | refine thenQ_r ?_ | refine blockQ_r ?_ | refine thenQ_x ?_ | refine blockQ_hit ?_ | refine blockQ_miss rfl ?_ | refine TC.skip ?_ | refine TC.exit ?_ | refine TC.ret ?_ | refine TC.cond_t rfl ?_ | refine TC.cond_f rfl ?_)
        exact ⟨⟨i + 1, 0, rows, so, m1⟩, (by repeat (first | exact trivial | refine And.intro rfl ?_)), (by repeat (first | exact trivial | refine And.intro rfl ?_)), rfl, rfl, List.Sublist.refl _, ⟨by simp only; omega, hAA, hCn⟩, by simp only; omega⟩
    · have hin : i = h.funcs.toNat := by omega
      subst hin
      have hCn := hC.next
      repeat (first | refine TC.seq ?_ | refine TC.block ?_ | refine TC.region ?_ | refine TO.pureP tab rfl rfl ?_ | refine TO.nil ?_ | refine thenQ_n ?_ | refine blockQ_n ?_ | refine thenQ_r ?_ | refine blockQ_r ?_ | refine thenQ_x ?_ | refine blockQ_hit ?_ | refine blockQ_miss rfl ?_ | refine TC.skip ?_ | refine TC.exit ?_ | refine TC.ret ?_ | refine TC.cond_t rfl ?_ | refine TC.cond_f rfl ?_)
      refine TO.step rfl (OT.arith (r' := ((q + 1 : Nat) : Int)) rfl rfl rfl rfl rfl rfl rfl (by omega) ?_)
      repeat (first | refine TC.seq ?_ | refine TC.block ?_ | refine TC.region ?_ | refine TO.pureP tab rfl rfl ?_ | refine TO.nil ?_ | refine thenQ_n ?_ | refine blockQ_n ?_ | refine thenQ_r ?_ | refine blockQ_r ?_ | refine thenQ_x ?_ | refine blockQ_hit ?_ | refine blockQ_miss rfl ?_ | refine TC.skip ?_ | refine TC.exit ?_ | refine TC.ret ?_ | refine TC.cond_t rfl ?_ | refine TC.cond_f rfl ?_)
      exact ⟨⟨q + 1, 0, rows, so, m1⟩, (by repeat (first | exact trivial | refine And.intro rfl ?_)), (by repeat (first | exact trivial | refine And.intro rfl ?_)), rfl, rfl, List.Sublist.refl _, ⟨by simp only; omega, hAA, hCn⟩, by simp only; omega⟩
  · have hqn : q = h.funcs.toNat := by omega
    subst hqn
    obtain ⟨hgo1, hgl⟩ := graphM_ok hg
    have hedge : ∀ x y, x < h.funcs.toNat → Edge (graphM h) x y → y < h.funcs.toNat := fun x y hx he => by
      have hm := (edge_row (by omega)).1 he
      have := hgo1.lt _ (row_mem (by omega)) _ hm
      omega
    refine TC.drop (L' := brows rows ++ L) (List.sublist_cons_self _ _) ?_
    refine TC.freezeRows rows fun m3 hm3 hF => ?_
    repeat (first | refine TC.seq ?_ | refine TC.block ?_ | refine TC.region ?_ | refine TO.pureP tab rfl rfl ?_ | refine TO.nil ?_ | refine thenQ_n ?_ | refine blockQ_n ?_ | refine thenQ_r ?_ | refine blockQ_r ?_ | refine thenQ_x ?_ | refine blockQ_hit ?_ | refine blockQ_miss rfl ?_ | refine TC.skip ?_ | refine TC.exit ?_ | refine TC.ret ?_ | refine TC.cond_t rfl ?_ | refine TC.cond_f rfl ?_)
    have hrep : SlRep (rSl rBool) m3 so (rows.map (·.2)) := by
      refine rows_rep (n := h.funcs.toNat) ?_ hF (fun x hx => ?_) (by omega)
      · rw [hAA]; exact hso2.mono hm3
      · obtain ⟨j, hj⟩ := List.getElem?_of_mem hx
        exact hC.sq.rows j x.2 (by rw [List.getElem?_map, hj]; rfl)
    refine retQ_ret rfl (List.Sublist.refl _) ⟨Mem.le_trans hm1 (Mem.le_trans hm2 hm3), rfl, so, _, rfl, hrep, hC.sq, fun i j hi hj => hC.done hedge hi hj⟩
end Go.Sep
