/-
  Walks of layer 13: the definition's Closure.
-/
import Derived.Test.YtnbimbgapgginaaB7
set_option linter.unusedVariables false
set_option linter.unusedSimpArgs false
namespace Go.Sep
open Go.Proofs
attribute [local irreducible] TC TO OT TCallX TCall DO DOt thenQ blockQ retQ At

/-- in the midst of the calls: those of the sites below i, and of site i the first k -/
structure CEd (h : Hier) (n i k : Nat) (C : List (List Bool)) : Prop where
  sq : Sq n C
  sound : ∀ a b, a < n → b < n → cat C a b = true → Edge (graphM h) a b
  done : ∀ (i' : Nat) (s : Site), i' < i → h.sites[i']? = some s → ∀ t ∈ targetsM h s, cat C s.frm.toNat t.toNat = true
  here : ∀ (s : Site), h.sites[i]? = some s → ∀ (k' : Nat) (t : Int), k' < k → (targetsM h s)[k']? = some t → cat C s.frm.toNat t.toNat = true

theorem CEd.put {h : Hier} (hg : Good h) {i k : Nat} {C : List (List Bool)} (hE : CEd h h.funcs.toNat i k C) {s : Site} (hs : h.sites[i]? = some s) {t : Int} (ht : (targetsM h s)[k]? = some t) : CEd h h.funcs.toNat i (k + 1) (cset C s.frm.toNat t.toNat true) := by
  have hsm := List.mem_of_getElem? hs
  have htm := List.mem_of_getElem? ht
  have hsk := hg.sites s hsm
  have hfr := hsk.frm
  have htl := targets_lt hg hsk t htm
  have hc := fun a b => cat_set hE.sq (i := s.frm.toNat) (j := t.toNat) (i' := a) (j' := b) (by omega) (by omega) true
  have up : ∀ a b, cat C a b = true → cat (cset C s.frm.toNat t.toNat true) a b = true := fun a b hab => by
    rw [hc]; split
    · rfl
    · exact hab
  refine ⟨hE.sq.set (by omega) _, fun a b ha hb hab => ?_, fun i' s' hi hs' t' ht' => up _ _ (hE.done i' s' hi hs' t' ht'), fun s' hs' k' t' hk' ht' => ?_⟩
  · rw [hc] at hab
    split at hab
    · rename_i e
      obtain ⟨rfl, rfl⟩ := e
      exact (graph_edge hg).2 ⟨s, hsm, by omega, by rw [show ((t.toNat : Nat) : Int) = t by omega]; exact htm⟩
    · exact hE.sound a b ha hb hab
  · rw [hs] at hs'
    simp only [Option.some.injEq] at hs'
    subst hs'
    by_cases e : k' = k
    · subst e
      rw [ht] at ht'
      simp only [Option.some.injEq] at ht'
      subst ht'
      rw [hc, if_pos ⟨rfl, rfl⟩]
    · exact up _ _ (hE.here s hs k' t' (by omega) ht')
theorem CEd.next {h : Hier} {n i : Nat} {C : List (List Bool)} {s : Site} (hs : h.sites[i]? = some s) (hE : CEd h n i (targetsM h s).length C) : CEd h n (i + 1) 0 C := by
  refine ⟨hE.sq, hE.sound, fun i' s' hi hs' t' ht' => ?_, fun _ _ _ _ hk => by omega⟩
  by_cases e : i' = i
  · subst e
    rw [hs] at hs'
    simp only [Option.some.injEq] at hs'
    subst hs'
    obtain ⟨k', hk'⟩ := List.getElem?_of_mem ht'
    exact hE.here s hs k' t' (List.getElem?_eq_some_iff.1 hk').1 hk'
  · exact hE.done i' s' (by omega) hs' t' ht'
theorem CEd.mid {h : Hier} (hg : Good h) {i : Nat} (hi : h.sites.length ≤ i) {C : List (List Bool)} (hE : CEd h h.funcs.toNat i 0 C) : CMid (graphM h) h.funcs.toNat 0 0 0 C := by
  refine ⟨hE.sq, fun a b ha hb hab => ⟨b, hE.sound a b ha hb hab, .refl⟩, fun a b ha hb hp => ?_, fun a b ha => by omega, fun b hb => by omega⟩
  have he : Edge (graphM h) a b := by
    cases hp with
    | edge he => exact he
    | step _ hk _ => omega
  obtain ⟨s, hs, hf, ht⟩ := (graph_edge hg).1 he
  obtain ⟨j, hj⟩ := List.getElem?_of_mem hs
  have := hE.done j s (by have := (List.getElem?_eq_some_iff.1 hj).1; omega) hj b ht
  rw [hf] at this
  simpa using this

theorem cat_false (n m i j : Nat) : cat (List.replicate n (List.replicate m false)) i j = false := by
  unfold cat
  rw [List.getElem?_replicate]
  split
  · simp only [Option.getD_some, List.getElem?_replicate]
    split <;> rfl
  · rfl

structure CS where
  i : Nat
  k : Nat
  rows : List BRow
  so : Sl
  m : Mem

theorem rows_put {n : Nat} {rows : List BRow} {i j : Nat} {x : BRow} {v : Bool} (hx : rows[i]? = some x) : (rows.set i (x.1, x.2.set j v)).map (browS n) = rows.map (browS n) ∧ (rows.set i (x.1, x.2.set j v)).map (·.2) = cset (rows.map (·.2)) i j v := by
  constructor
  · rw [List.map_set]
    exact set_selfV (by rw [List.getElem?_map, hx]; rfl)
  · rw [List.map_set, cset]
    congr 1
    rw [List.getElem?_map, hx]
    rfl
theorem rows_get {n : Nat} {rows : List BRow} (h : Sq n (rows.map (·.2))) {i j : Nat} (hi : i < n) (hj : j < n) : ∃ x, rows[i]? = some x ∧ x.2.length = n ∧ x.2[j]? = some (cat (rows.map (·.2)) i j) ∧ (rows.map (browS n))[i]? = some (browS n x) := by
  obtain ⟨r, h1, h2, h3⟩ := h.get hi hj
  rw [List.getElem?_map] at h1
  cases hx : rows[i]? with
  | none => rw [hx] at h1; cases h1
  | some x =>
    rw [hx] at h1
    simp only [Option.map_some, Option.some.injEq] at h1
    subst h1
    exact ⟨x, rfl, h2, h3, by rw [List.getElem?_map, hx]; rfl⟩

theorem perm_row {α : Type} {x a t : α} {R L : List α} : (x :: a :: t :: (R ++ L)).Perm (a :: t :: ((R ++ [x]) ++ L)) := by
  refine (List.Perm.swap _ _ _).trans (((List.Perm.swap _ _ _).trans (List.Perm.cons _ ?_)).cons _)
  rw [List.append_assoc]
  exact List.perm_middle.symm

set_option maxHeartbeats 4000000 in
theorem closure_ref (m : Mem) (L : List Item) (hh : HHier) (h : Hier) (hr : HierRep m hh h) (hsm : Small h) (hg : Good h) :
    TCall Try.prog 12 ⟨[hierV hh]⟩ m L (Made m L fun r m' => ∃ (t : Sl) (C : List (List Bool)), r = t.v ∧ SlRep (rSl rBool) m' t C ∧ Sq h.funcs.toNat C ∧ ∀ i j, i < h.funcs.toNat → j < h.funcs.toNat → (cat C i j = true ↔ Path1 (graphM h) i j)) := by
  have h3 := hr.sites.len
  have hq3 := hr.sites.small rfl
  have hfu := hr.funcs
  have hn := hg.funcs
  have hn2 := hsm.1
  unfold TCall
  refine TCallX.enter Try.func12 rfl 108 rfl ?_
  repeat (first|refine q1 ?_|refine q3 ?_)
  refine TO.step rfl (OT.box rfl rfl rfl rfl rfl (fun b => ?_))
  repeat (first|refine q1 ?_|refine q3 ?_|refine q4 tab rfl rfl ?_|refine q5 ?_|refine q6 ?_)
  refine TO.step rfl (OT.lit tab rfl rfl rfl rfl (fun bl => ?_))
  refine TO.drop (List.sublist_cons_self _ _) ?_
  repeat (first|refine q1 ?_|refine q2 ?_|refine q3 ?_|refine q4 tab rfl rfl ?_|refine q5 ?_|refine q6 ?_)
  refine TC.growL bl 1 ?_
  refine TC.perm (List.Perm.swap _ _ _) ?_
  refine TC.loopK (ι := CS) [1] rfl (fun x => [(4, .int .i64 (x.i : Int)), (3, x.so.v)]) (fun x => x.m) (fun x => .cells b 0 (hierC hh) :: tok x.so 1 :: (brows x.rows ++ L))
    (fun x => x.i ≤ h.funcs.toNat ∧ m ≤ x.m ∧ x.rows.map (·.2) = List.replicate x.i (List.replicate h.funcs.toNat false) ∧ Own x.so ∧ SlRep rAddr x.m x.so (x.rows.map (browS h.funcs.toNat))) (fun x => h.funcs.toNat - x.i) ⟨0, 0, [], ⟨some ⟨bl, 0, none⟩, 0, 0⟩, m⟩ (by repeat (first|exact trivial|refine And.intro rfl ?_)) rfl (List.Sublist.refl _)
    ⟨Nat.zero_le _, Mem.le_refl _, rfl, Own.lit _ _ _, SlRep.lit0 _ _ _⟩ ?_
  rintro ⟨i, _, rows, so, m1⟩ ⟨hi, hm1, hrw, hown, hso⟩
  simp only at hi hm1 hrw hown hso ⊢
  have hrl : rows.length = i := by
    have := congrArg List.length hrw
    simpa using this
  repeat (first|(first|refine q1 ?_|refine q3 ?_|refine q4 tab rfl rfl ?_|refine q5 ?_|refine q6 ?_)|(refine qs rfl (ql tab 0 rfl rfl rfl rfl rfl rfl ?_)))
  refine TC.condP rfl (fun hlt' => ?_) (fun hlt' => ?_)
  · have hlt : i < h.funcs.toNat := by omega
    repeat (first|(first|refine q1 ?_|refine q2 ?_|refine q3 ?_|refine q4 tab rfl rfl ?_|refine q6 ?_|refine q13 ?_)|(refine qs rfl (ql tab 0 rfl rfl rfl rfl rfl rfl ?_)))
    refine TO.step rfl (OT.makeM tab Value.bool false h.funcs.toNat (by omega) rfl rfl rfl rfl rfl rfl rfl rfl (show h.funcs.toNat * 1 ≤ 281474976710656 by omega) rfl (fun bn => ?_))
    refine TO.step rfl (OT.lit tab rfl rfl rfl rfl (fun bl2 => ?_))
    refine TO.step rfl (OT.append1 tab rAddr 2 (hd' := ⟨some ⟨bn, 0, none⟩, h.funcs.toNat, h.funcs.toNat⟩) (a := ⟨some ⟨bn, 0, none⟩, h.funcs.toNat, h.funcs.toNat⟩) hso hown rfl rfl rfl rfl rfl rfl rfl rfl (by simp only [rAddr, List.length_map]; omega) (fun so2 m2 hm2 hso2 hown2 => ?_))
    refine TO.perm perm_row ?_
    repeat (first|refine q3 ?_|refine q4 tab rfl rfl ?_|refine q5 ?_|refine q6 ?_|refine q7 ?_)
    refine TO.step rfl (OT.arith (r' := ((i + 1 : Nat) : Int)) rfl rfl rfl rfl rfl rfl rfl (by omega) ?_)
    repeat (first|refine q4 tab rfl rfl ?_|refine q5 ?_|refine q6 ?_)
    refine ⟨⟨i + 1, 0, rows ++ [(bn, List.replicate h.funcs.toNat false)], so2, m2⟩, (by repeat (first|exact trivial|refine And.intro rfl ?_)), (by repeat (first|exact trivial|refine And.intro rfl ?_)), rfl, rfl, ?_, ⟨by simp only; omega, Mem.le_trans hm1 hm2, ?_, hown2, ?_⟩, by simp only; omega⟩
    · simp only [brows, List.map_append, List.map_cons, List.map_nil]
      exact List.Sublist.refl _
    · simp only [List.map_append, List.map_cons, List.map_nil, hrw, List.replicate_succ']
    · simp only [List.map_append, List.map_cons, List.map_nil]
      exact hso2
  have hin : i = h.funcs.toNat := by omega
  subst hin
  refine TC.drop (L' := .cells b 0 (hierC hh) :: (brows rows ++ L)) (by repeat (first|exact List.Sublist.refl _|refine List.Sublist.cons_cons _ ?_|refine List.Sublist.cons _ ?_)) ?_
  have hE0 : CEd h h.funcs.toNat 0 0 (rows.map (·.2)) := by
    rw [hrw]
    refine ⟨⟨by simp, fun i r hr => ?_⟩, fun a b ha hb hab => ?_, fun i' s hi' => by omega, fun s hs k' t hk' => by omega⟩
    · rw [List.getElem?_replicate] at hr
      split at hr
      · simp only [Option.some.injEq] at hr
        rw [← hr]; simp
      · cases hr
    · rw [cat_false] at hab; cases hab
  clear hrw hi hrl hlt'
  repeat (first|refine q1 ?_|refine q2 ?_|refine q3 ?_|refine q4 tab rfl rfl ?_|refine q5 ?_|refine q6 ?_|refine q10 ?_|refine q11 ?_|refine q14 ?_)
  refine TC.loopK (ι := CS) [1, 3] rfl (fun x => [(5, .int .i64 (x.i : Int))]) (fun x => x.m) (fun x => .cells b 0 (hierC hh) :: (brows x.rows ++ L))
    (fun x => x.i ≤ h.sites.length ∧ m1 ≤ x.m ∧ x.rows.map (browS h.funcs.toNat) = rows.map (browS h.funcs.toNat) ∧ CEd h h.funcs.toNat x.i 0 (x.rows.map (·.2))) (fun x => h.sites.length - x.i) ⟨0, 0, rows, so, m1⟩ (by repeat (first|exact trivial|refine And.intro rfl ?_)) rfl (List.Sublist.refl _)
    ⟨Nat.zero_le _, Mem.le_refl _, rfl, hE0⟩ ?_
  generalize rows.map (browS h.funcs.toNat) = AA at *
  clear hE0
  rintro ⟨i, _, rows, _, m2⟩ ⟨hi, hm2, hAA, hE⟩
  simp only at hi hm2 hAA hE ⊢
  have hr2 := (hr.mono hm1).mono hm2
  have hso2 := hso.mono hm2
  repeat (first|(first|refine q1 ?_|refine q3 ?_|refine q4 tab rfl rfl ?_|refine q5 ?_|refine q6 ?_)|(refine qs rfl (ql tab 0 rfl rfl rfl rfl rfl rfl ?_)))
  refine TC.condP rfl (fun hlt' => ?_) (fun hlt' => ?_)
  · have hlt : i < h.sites.length := by omega
    have hx : h.sites[i]? = some h.sites[i] := by simp [hlt]
    have hsmm := List.getElem_mem hlt
    generalize h.sites[i] = s at hx hsmm
    have hsk := hg.sites s hsmm
    have hfr := hsk.frm
    have htl := targets_lt hg hsk
    repeat (first|refine q1 ?_|refine q2 ?_|refine q6 ?_|refine q13 ?_)
    refine TC.draw0 [] mixed 8 rfl ?_
    (refine DO.loadL (k := 0) tab 0 0 (by repeat (first|exact Calm.ret|refine Calm.then ?_|refine Calm.block ?_)) (by kernel_rfl) (by kernel_rfl) rfl rfl rfl rfl rfl rfl rfl rfl ?_)
    refine DO.pure tab (by repeat (first|exact Calm.ret|refine Calm.then ?_|refine Calm.block ?_)) (by kernel_rfl) [1] (by kernel_rfl) rfl ?_
    (refine DO.loadL tab 2 0 (by repeat (first|exact Calm.ret|refine Calm.then ?_|refine Calm.block ?_)) (by kernel_rfl) (by kernel_rfl) rfl rfl rfl rfl rfl rfl rfl rfl ?_)
    refine DO.pure tab (by repeat (first|exact Calm.ret|refine Calm.then ?_|refine Calm.block ?_)) (by kernel_rfl) [3] (by kernel_rfl) rfl ?_
    refine DO.index tab rSite 4 i hr2.sites (by repeat (first|exact Calm.ret|refine Calm.then ?_|refine Calm.block ?_)) (by kernel_rfl) (by kernel_rfl) rfl rfl rfl rfl rfl rfl rfl (by first | rfl | omega) rfl hx ?_
    rintro b1 i1 hd1 hrd1 hA1; obtain rfl := (show hd1 = s from hrd1)
    (refine DO.loadA (k := 0) tab 5 hA1 (by repeat (first|exact Calm.ret|refine Calm.then ?_|refine Calm.block ?_)) (by kernel_rfl) (by kernel_rfl) rfl rfl rfl rfl rfl rfl rfl ?_)
    refine DO.run 6 rfl rfl (by kernel_rfl) rfl (OT.call rfl rfl rfl rfl rfl rfl goes20 ((of_ref _ _ hh h hr2 hd1 hg.classes hsk).x ?_))
    rintro _ m3 _ ⟨hm3, rfl, t2, rfl, ht2⟩; refine ⟨hm3, _, List.Perm.refl _, ?_⟩
    refine DO.pure tab (by repeat (first|exact Calm.ret|refine Calm.then ?_|refine Calm.block ?_)) (by kernel_rfl) [7] (by kernel_rfl) rfl ?_
    (refine DO.nil0 (by kernel_rfl) ?_)
    rotate_left 1
    have hr3 := hr2.mono hm3
    have hso3 := hso2.mono hm3
    have ht2l := ht2.len
    have ht2s := ht2.small rfl
    repeat (first|refine q1 ?_|refine q2 ?_|refine q3 ?_|refine q4 tab rfl rfl ?_|refine q5 ?_|refine q6 ?_)
    refine TC.loopK (ι := CS) [1, 3, 5, 6] rfl (fun x => [(7, .int .i64 (x.k : Int))]) (fun _ => m3) (fun x => .cells b 0 (hierC hh) :: (brows x.rows ++ L))
      (fun x => x.k ≤ (targetsM h hd1).length ∧ x.rows.map (browS h.funcs.toNat) = AA ∧ CEd h h.funcs.toNat i x.k (x.rows.map (·.2))) (fun x => (targetsM h hd1).length - x.k) ⟨0, 0, rows, so, m1⟩ (by repeat (first|exact trivial|refine And.intro rfl ?_)) rfl (List.Sublist.refl _)
      ⟨Nat.zero_le _, hAA, hE⟩ ?_
    clear hAA hE
    rintro ⟨_, k, rows, _, _⟩ ⟨hk, hAA, hE⟩
    simp only at hk hAA hE ⊢
    repeat (first|refine q1 ?_|refine q3 ?_|refine q4 tab rfl rfl ?_|refine q5 ?_|refine q6 ?_)
    refine TC.condP rfl (fun hlk' => ?_) (fun hlk' => ?_)
    · have hlk : k < (targetsM h hd1).length := by omega
      have hxk : (targetsM h hd1)[k]? = some (targetsM h hd1)[k] := by simp [hlk]
      have htm := htl _ (List.getElem_mem hlk)
      generalize (targetsM h hd1)[k] = t at hxk htm
      obtain ⟨x, hxr, hxl, hxj, hxa⟩ := rows_get hE.sq (i := hd1.frm.toNat) (j := t.toNat) (by omega) (by omega)
      rw [hAA] at hxa
      have hrk := (List.getElem?_eq_some_iff.1 hxr).1
      obtain ⟨hp1, hp2⟩ := rows_put (n := h.funcs.toNat) (j := t.toNat) (v := true) hxr
      repeat (first|refine q1 ?_|refine q2 ?_|refine q6 ?_|refine q13 ?_)
      refine TC.draw [14] mixed 15 rfl (_::brows rows) L (by first | exact List.Perm.refl _ | (rw [List.append_nil]; exact List.Perm.refl _)) ?_
      refine DO.pure tab (by repeat (first|exact Calm.ret|refine Calm.then ?_|refine Calm.block ?_)) (by kernel_rfl) [0, 1] (by kernel_rfl) rfl ?_
      (refine DO.loadL tab 2 0 (by repeat (first|exact Calm.ret|refine Calm.then ?_|refine Calm.block ?_)) (by kernel_rfl) (by kernel_rfl) rfl rfl rfl rfl rfl rfl rfl rfl ?_)
      refine DO.pure tab (by repeat (first|exact Calm.ret|refine Calm.then ?_|refine Calm.block ?_)) (by kernel_rfl) [3] (by kernel_rfl) rfl ?_
      refine DO.index tab rSite 4 i hr3.sites (by repeat (first|exact Calm.ret|refine Calm.then ?_|refine Calm.block ?_)) (by kernel_rfl) (by kernel_rfl) rfl rfl rfl rfl rfl rfl rfl (by first | rfl | omega) rfl hx ?_
      rintro b3 i3 hd3 hrd3 hA3; have hd3e := (show hd3 = hd1 from hrd3); subst hd3e
      refine DO.pure tab (by repeat (first|exact Calm.ret|refine Calm.then ?_|refine Calm.block ?_)) (by kernel_rfl) [5] (by kernel_rfl) rfl ?_
      (refine DO.loadA tab 6 hA3 (by repeat (first|exact Calm.ret|refine Calm.then ?_|refine Calm.block ?_)) (by kernel_rfl) (by kernel_rfl) rfl rfl rfl rfl rfl rfl rfl ?_)
      refine DO.index tab rAddr 7 hd3.frm.toNat hso3 (by repeat (first|exact Calm.ret|refine Calm.then ?_|refine Calm.block ?_)) (by kernel_rfl) (by kernel_rfl) rfl rfl rfl rfl rfl rfl rfl (by first | rfl | omega) rfl hxa ?_
      rintro b4 i4 hd4 hrd4 hA4; obtain rfl := (show hd4 = browS h.funcs.toNat x from hrd4)
      (refine DO.loadA (k := 0) tab 8 hA4 (by repeat (first|exact Calm.ret|refine Calm.then ?_|refine Calm.block ?_)) (by kernel_rfl) (by kernel_rfl) rfl rfl rfl rfl rfl rfl rfl ?_)
      refine DO.pure tab (by repeat (first|exact Calm.ret|refine Calm.then ?_|refine Calm.block ?_)) (by kernel_rfl) [9, 10] (by kernel_rfl) rfl ?_
      refine DO.index tab rInt 11 k ht2 (by repeat (first|exact Calm.ret|refine Calm.then ?_|refine Calm.block ?_)) (by kernel_rfl) (by kernel_rfl) rfl rfl rfl rfl rfl rfl rfl (by first | rfl | omega) rfl hxk ?_
      rintro b5 i5 hd5 hrd5 hA5; obtain rfl := (show hd5 = t from hrd5)
      (refine DO.loadA (k := 0) tab 12 hA5 (by repeat (first|exact Calm.ret|refine Calm.then ?_|refine Calm.block ?_)) (by kernel_rfl) (by kernel_rfl) rfl rfl rfl rfl rfl rfl rfl ?_)
      refine DO.indexP (sz := 1) (n := h.funcs.toNat) tab 13 hd5.toNat (by repeat (first|exact Calm.ret|refine Calm.then ?_|refine Calm.block ?_)) (by kernel_rfl) (by kernel_rfl) rfl rfl rfl rfl rfl rfl rfl (by omega) rfl (by omega) ?_
      refine DO.tail ?_
      refine DOt.run 14 rfl rfl (by kernel_rfl) rfl ?_
      refine OT.storeM (k := hd5.toNat) (xs := x.2) tab (1 + hd3.frm.toNat) Value.bool true rfl rfl rfl rfl rfl rfl (brows_atL L hxr) (by omega) ?_
      refine DOt.nil (by kernel_rfl) ?_
      rotate_left 1
      have heq := brows_set (a := .cells b 0 (hierC hh)) (b := x.1) (l := x.2.set hd5.toNat true) L hrk
      rw [hAA] at hp1
      have hE2 := hE.put hg hx hxk
      rw [← hp2] at hE2
      repeat (first|refine q3 ?_|refine q4 tab rfl rfl ?_|refine q6 ?_|refine q7 ?_)
      refine TO.perm (List.Perm.of_eq heq) ?_
      refine TO.step rfl (OT.arith (r' := ((k + 1 : Nat) : Int)) rfl rfl rfl rfl rfl rfl rfl (by omega) ?_)
      repeat (first|refine q4 tab rfl rfl ?_|refine q5 ?_|refine q6 ?_)
      exact ⟨⟨i, k + 1, _, so, m1⟩, (by repeat (first|exact trivial|refine And.intro rfl ?_)), (by repeat (first|exact trivial|refine And.intro rfl ?_)), rfl, rfl, List.Sublist.refl _, ⟨by simp only; omega, hp1, hE2⟩, by simp only; omega⟩
    · repeat (first|refine q3 ?_|refine q4 tab rfl rfl ?_|refine q6 ?_|refine q7 ?_|refine q10 ?_|refine q11 ?_|refine q14 ?_)
      refine TO.step rfl (OT.arith (r' := ((i + 1 : Nat) : Int)) rfl rfl rfl rfl rfl rfl rfl (by omega) ?_)
      repeat (first|refine q4 tab rfl rfl ?_|refine q5 ?_|refine q6 ?_)
      have hkl : k = (targetsM h hd1).length := by omega
      subst hkl
      exact ⟨⟨i + 1, 0, rows, so, m3⟩, (by repeat (first|exact trivial|refine And.intro rfl ?_)), (by repeat (first|exact trivial|refine And.intro rfl ?_)), rfl, rfl, List.Sublist.refl _, ⟨by simp only; omega, Mem.le_trans hm2 hm3, hAA, hE.next hx⟩, by simp only; omega⟩
  have hC0 := hE.mid hg (by omega)
  clear hE hi hlt'
  repeat (first|refine q1 ?_|refine q2 ?_|refine q3 ?_|refine q4 tab rfl rfl ?_|refine q5 ?_|refine q6 ?_|refine q10 ?_|refine q11 ?_|refine q14 ?_)
  refine TC.loopK (ι := CS) [1, 3] rfl (fun x => [(8, .int .i64 (x.i : Int))]) (fun _ => m2) (fun x => .cells b 0 (hierC hh) :: (brows x.rows ++ L))
    (fun x => x.i ≤ h.funcs.toNat ∧ x.rows.map (browS h.funcs.toNat) = AA ∧ CMid (graphM h) h.funcs.toNat x.i 0 0 (x.rows.map (·.2))) (fun x => h.funcs.toNat - x.i) ⟨0, 0, rows, so, m1⟩ (by repeat (first|exact trivial|refine And.intro rfl ?_)) rfl (List.Sublist.refl _)
    ⟨Nat.zero_le _, hAA, hC0⟩ ?_
  clear hAA hC0
  rintro ⟨q, _, rows, _, _⟩ ⟨hq, hAA, hC⟩
  simp only at hq hAA hC ⊢
  repeat (first|(first|refine q1 ?_|refine q3 ?_|refine q4 tab rfl rfl ?_|refine q5 ?_|refine q6 ?_)|(refine qs rfl (ql tab 0 rfl rfl rfl rfl rfl rfl ?_)))
  refine TC.condP rfl (fun hlq' => ?_) (fun hlq' => ?_)
  · have hlq : q < h.funcs.toNat := by omega
    repeat (first|refine q1 ?_|refine q2 ?_|refine q3 ?_|refine q4 tab rfl rfl ?_|refine q5 ?_|refine q6 ?_|refine q13 ?_)
    refine TC.loopK (ι := CS) [1, 3, 8] rfl (fun x => [(9, .int .i64 (x.i : Int))]) (fun _ => m2) (fun x => .cells b 0 (hierC hh) :: (brows x.rows ++ L))
      (fun x => x.i ≤ h.funcs.toNat ∧ x.rows.map (browS h.funcs.toNat) = AA ∧ CMid (graphM h) h.funcs.toNat q x.i 0 (x.rows.map (·.2))) (fun x => h.funcs.toNat - x.i) ⟨0, 0, rows, so, m1⟩ (by repeat (first|exact trivial|refine And.intro rfl ?_)) rfl (List.Sublist.refl _)
      ⟨Nat.zero_le _, hAA, hC⟩ ?_
    clear hAA hC
    rintro ⟨i, _, rows, _, _⟩ ⟨hi, hAA, hC⟩
    simp only at hi hAA hC ⊢
    repeat (first|(first|refine q1 ?_|refine q3 ?_|refine q4 tab rfl rfl ?_|refine q5 ?_|refine q6 ?_)|(refine qs rfl (ql tab 0 rfl rfl rfl rfl rfl rfl ?_)))
    refine TC.condP rfl (fun hli' => ?_) (fun hli' => ?_)
    · have hli : i < h.funcs.toNat := by omega
      repeat (first|refine q1 ?_|refine q2 ?_|refine q3 ?_|refine q4 tab rfl rfl ?_|refine q5 ?_|refine q6 ?_|refine q13 ?_)
      refine TC.loopK (ι := CS) [1, 3, 8, 9] rfl (fun x => [(10, .int .i64 (x.k : Int))]) (fun _ => m2) (fun x => .cells b 0 (hierC hh) :: (brows x.rows ++ L))
        (fun x => x.k ≤ h.funcs.toNat ∧ x.rows.map (browS h.funcs.toNat) = AA ∧ CMid (graphM h) h.funcs.toNat q i x.k (x.rows.map (·.2))) (fun x => h.funcs.toNat - x.k) ⟨0, 0, rows, so, m1⟩ (by repeat (first|exact trivial|refine And.intro rfl ?_)) rfl (List.Sublist.refl _)
        ⟨Nat.zero_le _, hAA, hC⟩ ?_
      clear hAA hC
      rintro ⟨_, k, rows, _, _⟩ ⟨hk, hAA, hC⟩
      simp only at hk hAA hC ⊢
      obtain ⟨x, hxr, hxl, hxq, hxa⟩ := rows_get hC.sq (i := i) (j := q) (by omega) (by omega)
      rw [hAA] at hxa
      have hrk := (List.getElem?_eq_some_iff.1 hxr).1
      repeat (first|(first|refine q1 ?_|refine q3 ?_|refine q4 tab rfl rfl ?_)|(refine qs rfl (ql tab 0 rfl rfl rfl rfl rfl rfl ?_)))
      (refine TO.splitP rfl rfl (fun hlk' => ?_) (fun hlk' => ?_))
      · have hlk : k < h.funcs.toNat := by omega
        repeat (refine q4 tab rfl rfl ?_)
        refine TO.step rfl (OT.index tab rAddr i hso2 rfl rfl rfl rfl rfl (by first | rfl | omega) rfl hxa ?_)
        rintro b3 i3 hd3 hrd3 hA3
        obtain rfl := (show hd3 = browS h.funcs.toNat x from hrd3)
        (refine TO.step rfl (OT.loadA0 tab hA3 rfl rfl rfl rfl rfl ?_))
        repeat (refine q4 tab rfl rfl ?_)
        refine TO.step rfl (OT.indexP (sz := 1) (n := h.funcs.toNat) tab q rfl rfl rfl rfl rfl rfl rfl (by omega) ?_)
        refine TO.step rfl (OT.loadM tab (1 + i) Value.bool hxq rfl rfl rfl rfl (brows_atL L hxr) rfl ?_)
        repeat (first|refine q4 tab rfl rfl ?_|refine q5 ?_|refine q6 ?_)
        refine TC.cond rfl (fun him => ?_) (fun him => ?_)
        · have hCn := hC.or hlq hli hlk him
          obtain ⟨x', hxr', hxl', hxk, _⟩ := rows_get hC.sq (i := i) (j := k) (by omega) (by omega)
          rw [hxr] at hxr'
          simp only [Option.some.injEq] at hxr'
          subst hxr'
          obtain ⟨y, hyr, hyl, hyk, hya⟩ := rows_get hC.sq (i := q) (j := k) (by omega) (by omega)
          rw [hAA] at hya
          repeat (first|refine q1 ?_|refine q2 ?_|refine q6 ?_|refine q13 ?_)
          refine TC.draw [22] mixed 23 rfl (_::brows rows) L (by first | exact List.Perm.refl _ | (rw [List.append_nil]; exact List.Perm.refl _)) ?_
          refine DO.pure tab (by repeat (first|exact Calm.ret|refine Calm.then ?_|refine Calm.block ?_)) (by kernel_rfl) [0, 1] (by kernel_rfl) rfl ?_
          refine DO.index tab rAddr 2 i hso2 (by repeat (first|exact Calm.ret|refine Calm.then ?_|refine Calm.block ?_)) (by kernel_rfl) (by kernel_rfl) rfl rfl rfl rfl rfl rfl rfl (by first | rfl | omega) rfl hxa ?_
          rintro b4 i4 hd4 hrd4 hA4; obtain rfl := (show hd4 = browS h.funcs.toNat x from hrd4)
          (refine DO.loadA (k := 0) tab 3 hA4 (by repeat (first|exact Calm.ret|refine Calm.then ?_|refine Calm.block ?_)) (by kernel_rfl) (by kernel_rfl) rfl rfl rfl rfl rfl rfl rfl ?_)
          refine DO.pure tab (by repeat (first|exact Calm.ret|refine Calm.then ?_|refine Calm.block ?_)) (by kernel_rfl) [4, 5, 6] (by kernel_rfl) rfl ?_
          refine DO.index tab rAddr 7 i hso2 (by repeat (first|exact Calm.ret|refine Calm.then ?_|refine Calm.block ?_)) (by kernel_rfl) (by kernel_rfl) rfl rfl rfl rfl rfl rfl rfl (by first | rfl | omega) rfl hxa ?_
          rintro b5 i5 hd5 hrd5 hA5; obtain rfl := (show hd5 = browS h.funcs.toNat x from hrd5)
          (refine DO.loadA (k := 0) tab 8 hA5 (by repeat (first|exact Calm.ret|refine Calm.then ?_|refine Calm.block ?_)) (by kernel_rfl) (by kernel_rfl) rfl rfl rfl rfl rfl rfl rfl ?_)
          refine DO.pure tab (by repeat (first|exact Calm.ret|refine Calm.then ?_|refine Calm.block ?_)) (by kernel_rfl) [9] (by kernel_rfl) rfl ?_
          refine DO.indexP (sz := 1) (n := h.funcs.toNat) tab 10 k (by repeat (first|exact Calm.ret|refine Calm.then ?_|refine Calm.block ?_)) (by kernel_rfl) (by kernel_rfl) rfl rfl rfl rfl rfl rfl rfl rfl rfl (by omega) ?_
          refine DO.loadM tab 11 (1 + i) Value.bool hxk (by repeat (first|exact Calm.ret|refine Calm.then ?_|refine Calm.block ?_)) (by kernel_rfl) (by kernel_rfl) rfl rfl rfl rfl rfl rfl (brows_at hxr) rfl ?_
          refine DO.pure tab (by repeat (first|exact Calm.ret|refine Calm.then ?_|refine Calm.block ?_)) (by kernel_rfl) [12] (by kernel_rfl) rfl ?_
          (refine DO.split (d := 97) rfl (fun hg12 => ?_) (fun hg12 => ?_))
          refine DO.pure tab (by repeat (first|exact Calm.ret|refine Calm.then ?_|refine Calm.block ?_)) (by kernel_rfl) [13, 14, 15, 16, 17, 18, 19, 20] (by kernel_rfl) rfl ?_
          refine DO.indexP (sz := 1) (n := h.funcs.toNat) tab 21 k (by repeat (first|exact Calm.ret|refine Calm.then ?_|refine Calm.block ?_)) (by kernel_rfl) (by kernel_rfl) rfl rfl rfl rfl rfl rfl rfl rfl rfl (by omega) ?_
          refine DO.tail ?_
          refine DOt.run 22 rfl rfl (by kernel_rfl) rfl ?_
          refine OT.storeM (k := k) (xs := x.2) tab (1 + i) Value.bool _ rfl rfl rfl rfl rfl rfl (brows_atL L hxr) (by omega) ?_
          refine DOt.nil (by kernel_rfl) ?_
          rotate_left 1
          refine DO.pure tab (by repeat (first|exact Calm.ret|refine Calm.then ?_|refine Calm.block ?_)) (by kernel_rfl) [13, 14] (by kernel_rfl) rfl ?_
          refine DO.index tab rAddr 15 q hso2 (by repeat (first|exact Calm.ret|refine Calm.then ?_|refine Calm.block ?_)) (by kernel_rfl) (by kernel_rfl) rfl rfl rfl rfl rfl rfl rfl (by first | rfl | omega) rfl hya ?_
          rintro b6 i6 hd6 hrd6 hA6; obtain rfl := (show hd6 = browS h.funcs.toNat y from hrd6)
          (refine DO.loadA (k := 0) tab 16 hA6 (by repeat (first|exact Calm.ret|refine Calm.then ?_|refine Calm.block ?_)) (by kernel_rfl) (by kernel_rfl) rfl rfl rfl rfl rfl rfl rfl ?_)
          refine DO.pure tab (by repeat (first|exact Calm.ret|refine Calm.then ?_|refine Calm.block ?_)) (by kernel_rfl) [17] (by kernel_rfl) rfl ?_
          refine DO.indexP (sz := 1) (n := h.funcs.toNat) tab 18 k (by repeat (first|exact Calm.ret|refine Calm.then ?_|refine Calm.block ?_)) (by kernel_rfl) (by kernel_rfl) rfl rfl rfl rfl rfl rfl rfl rfl rfl (by omega) ?_
          refine DO.loadM tab 19 (1 + q) Value.bool hyk (by repeat (first|exact Calm.ret|refine Calm.then ?_|refine Calm.block ?_)) (by kernel_rfl) (by kernel_rfl) rfl rfl rfl rfl rfl rfl (brows_at hyr) rfl ?_
          refine DO.pure tab (by repeat (first|exact Calm.ret|refine Calm.then ?_|refine Calm.block ?_)) (by kernel_rfl) [20] (by kernel_rfl) rfl ?_
          refine DO.indexP (sz := 1) (n := h.funcs.toNat) tab 21 k (by repeat (first|exact Calm.ret|refine Calm.then ?_|refine Calm.block ?_)) (by kernel_rfl) (by kernel_rfl) rfl rfl rfl rfl rfl rfl rfl rfl rfl (by omega) ?_
          refine DO.tail ?_
          refine DOt.run 22 rfl rfl (by kernel_rfl) rfl ?_
          refine OT.storeM (k := k) (xs := x.2) tab (1 + i) Value.bool _ rfl rfl rfl rfl rfl rfl (brows_atL L hxr) (by omega) ?_
          refine DOt.nil (by kernel_rfl) ?_
          rotate_left 1
          · have heq := brows_set (a := .cells b 0 (hierC hh)) (b := x.1) (l := x.2.set k (true)) L hrk
            obtain ⟨hp1, hp2⟩ := rows_put (n := h.funcs.toNat) (j := k) (v := true) hxr
            rw [hg12] at hCn
            simp only [Bool.true_or, Bool.false_or] at hCn
            rw [← hp2] at hCn
            rw [hAA] at hp1
            repeat (first|refine q3 ?_|refine q4 tab rfl rfl ?_|refine q6 ?_|refine q7 ?_)
            refine TO.perm (List.Perm.of_eq heq) ?_
            refine TO.step rfl (OT.arith (r' := ((k + 1 : Nat) : Int)) rfl rfl rfl rfl rfl rfl rfl (by omega) ?_)
            repeat (first|refine q4 tab rfl rfl ?_|refine q5 ?_|refine q6 ?_)
            exact ⟨⟨i, k + 1, _, so, m1⟩, (by repeat (first|exact trivial|refine And.intro rfl ?_)), (by repeat (first|exact trivial|refine And.intro rfl ?_)), rfl, rfl, List.Sublist.refl _, ⟨by simp only; omega, hp1, hCn⟩, by simp only; omega⟩
          · have heq := brows_set (a := .cells b 0 (hierC hh)) (b := x.1) (l := x.2.set k (cat (rows.map (·.2)) q k)) L hrk
            obtain ⟨hp1, hp2⟩ := rows_put (n := h.funcs.toNat) (j := k) (v := cat (rows.map (·.2)) q k) hxr
            rw [hg12] at hCn
            simp only [Bool.true_or, Bool.false_or] at hCn
            rw [← hp2] at hCn
            rw [hAA] at hp1
            repeat (first|refine q3 ?_|refine q4 tab rfl rfl ?_|refine q6 ?_|refine q7 ?_)
            refine TO.perm (List.Perm.of_eq heq) ?_
            refine TO.step rfl (OT.arith (r' := ((k + 1 : Nat) : Int)) rfl rfl rfl rfl rfl rfl rfl (by omega) ?_)
            repeat (first|refine q4 tab rfl rfl ?_|refine q5 ?_|refine q6 ?_)
            exact ⟨⟨i, k + 1, _, so, m1⟩, (by repeat (first|exact trivial|refine And.intro rfl ?_)), (by repeat (first|exact trivial|refine And.intro rfl ?_)), rfl, rfl, List.Sublist.refl _, ⟨by simp only; omega, hp1, hCn⟩, by simp only; omega⟩
        · have hCn := hC.rowNot hlq hli him
          repeat (first|refine q3 ?_|refine q4 tab rfl rfl ?_|refine q6 ?_|refine q7 ?_|refine q10 ?_|refine q11 ?_|refine q14 ?_)
          refine TO.step rfl (OT.arith (r' := ((i + 1 : Nat) : Int)) rfl rfl rfl rfl rfl rfl rfl (by omega) ?_)
          repeat (first|refine q4 tab rfl rfl ?_|refine q5 ?_|refine q6 ?_)
          exact ⟨⟨i + 1, 0, rows, so, m1⟩, (by repeat (first|exact trivial|refine And.intro rfl ?_)), (by repeat (first|exact trivial|refine And.intro rfl ?_)), rfl, rfl, List.Sublist.refl _, ⟨by simp only; omega, hAA, hCn⟩, by simp only; omega⟩
      · have hkn : k = h.funcs.toNat := by omega
        subst hkn
        have hCn := hC.rowDone
        repeat (first|refine q3 ?_|refine q4 tab rfl rfl ?_|refine q5 ?_|refine q6 ?_|refine q7 ?_|refine q10 ?_|refine q11 ?_|refine q14 ?_|refine q17 rfl ?_)
        refine TO.step rfl (OT.arith (r' := ((i + 1 : Nat) : Int)) rfl rfl rfl rfl rfl rfl rfl (by omega) ?_)
        repeat (first|refine q4 tab rfl rfl ?_|refine q5 ?_|refine q6 ?_)
        exact ⟨⟨i + 1, 0, rows, so, m1⟩, (by repeat (first|exact trivial|refine And.intro rfl ?_)), (by repeat (first|exact trivial|refine And.intro rfl ?_)), rfl, rfl, List.Sublist.refl _, ⟨by simp only; omega, hAA, hCn⟩, by simp only; omega⟩
    · have hin : i = h.funcs.toNat := by omega
      subst hin
      have hCn := hC.next
      repeat (first|refine q3 ?_|refine q4 tab rfl rfl ?_|refine q6 ?_|refine q7 ?_|refine q10 ?_|refine q11 ?_|refine q14 ?_)
      refine TO.step rfl (OT.arith (r' := ((q + 1 : Nat) : Int)) rfl rfl rfl rfl rfl rfl rfl (by omega) ?_)
      repeat (first|refine q4 tab rfl rfl ?_|refine q5 ?_|refine q6 ?_)
      exact ⟨⟨q + 1, 0, rows, so, m1⟩, (by repeat (first|exact trivial|refine And.intro rfl ?_)), (by repeat (first|exact trivial|refine And.intro rfl ?_)), rfl, rfl, List.Sublist.refl _, ⟨by simp only; omega, hAA, hCn⟩, by simp only; omega⟩
  · have hqn : q = h.funcs.toNat := by omega
    subst hqn
    obtain ⟨hgo1, hgl⟩ := graphM_ok hg
    have hedge : ∀ x y, x < h.funcs.toNat → Edge (graphM h) x y → y < h.funcs.toNat := fun x y hx he => by
      have hm := (edge_row (by omega)).1 he
      have := hgo1.lt _ (row_mem (by omega)) _ hm
      omega
    refine TC.drop (L' := brows rows ++ L) (List.sublist_cons_self _ _) ?_
    refine TC.freezeRows rows fun m3 hm3 hF => ?_
    repeat (first|refine q1 ?_|refine q3 ?_|refine q4 tab rfl rfl ?_|refine q5 ?_|refine q6 ?_|refine q10 ?_|refine q11 ?_|refine q14 ?_|refine q15 ?_)
    have hrep : SlRep (rSl rBool) m3 so (rows.map (·.2)) := by
      refine rows_rep (n := h.funcs.toNat) ?_ hF (fun x hx => ?_) (by omega)
      · rw [hAA]; exact hso2.mono hm3
      · obtain ⟨j, hj⟩ := List.getElem?_of_mem hx
        exact hC.sq.rows j x.2 (by rw [List.getElem?_map, hj]; rfl)
    refine retQ_ret rfl (List.Sublist.refl _) ⟨Mem.le_trans hm1 (Mem.le_trans hm2 hm3), rfl, so, _, rfl, hrep, hC.sq, fun i j hi hj => hC.done hedge hi hj⟩
end Go.Sep

/-
  The walk of recursive: which functions come to themselves.
-/
set_option linter.unusedVariables false
set_option linter.unusedSimpArgs false
namespace Go.Sep
open Go.Proofs
attribute [local irreducible] TC TO OT TCallX TCall DO DOt thenQ blockQ retQ At
set_option maxHeartbeats 4000000 in
theorem recursive_own (m : Mem) (L : List Item) (hh : HHier) (h : Hier) (hr : HierRep m hh h) :
    TCall Try.prog 15 ⟨[hierV hh]⟩ m L (Made m L fun r m' => ∃ (t : Sl) (rb : List Bool), r = .tuple ⟨[t.v, .int .i64 (soundM h)]⟩ ∧ (soundM h = 0 → SlRep rBool m' t rb ∧ rb.length = h.funcs.toNat ∧ ∀ v, v < h.funcs.toNat → (rb[v]? = some true ↔ Path1 (graphM h) v v))) := by
  have h3 := hr.sites.len
  have hq3 := hr.sites.small rfl
  have hfu := hr.funcs
  unfold TCall
  refine TCallX.enter Try.func15 rfl 80 rfl ?_
  repeat (first|refine q1 ?_|refine q3 ?_)
  refine TO.step rfl (OT.box rfl rfl rfl rfl rfl (fun b => ?_))
  repeat (first|(first|refine q1 ?_|refine q3 ?_|refine q4 tab rfl rfl ?_|refine q5 ?_|refine q6 ?_)|(refine qs rfl (qz tab 0 rfl rfl rfl rfl rfl rfl ?_)))
  refine TO.step rfl (OT.call rfl rfl rfl rfl rfl rfl goes21 ((groups_own m _ hh h hr).x ?_));
  rintro _ m1 _ ⟨hm1, rfl, tg, gs, rfl, htg, hgo⟩
  repeat (first|refine q1 ?_|refine q3 ?_|refine q4 tab rfl rfl ?_|refine q5 ?_|refine q6 ?_)
  refine TC.condN rfl (fun hb => ?_) (fun hb => ?_)
  · repeat (first|refine q1 ?_|refine q3 ?_|refine q4 tab rfl rfl ?_|refine q5 ?_|refine q6 ?_|refine q8 ?_|refine q15 ?_)
    refine retQ_ret rfl (by repeat (first|exact List.Sublist.refl _|refine List.Sublist.cons _ ?_)) ⟨hm1, rfl, ⟨none, 0, 0⟩, [], rfl, fun e => absurd e (by simpa using hb)⟩
  · have hs0 : soundM h = 0 := by simpa using hb
    obtain ⟨hsm, hg⟩ := soundM_ok.1 hs0
    have hn := hg.funcs
    have hn2 := hsm.1
    have hr1 := hr.mono hm1
    rw [GroupsOut, if_neg (by simpa using hs0)] at hgo
    obtain ⟨g1, g2⟩ := graphM_ok hg
    obtain ⟨hU, hR, hC⟩ := groups_uni g1 g2 hgo
    have hgl := htg.len
    have hgs := htg.small rfl
    repeat (first|(first|refine q1 ?_|refine q3 ?_|refine q4 tab rfl rfl ?_|refine q6 ?_|refine q13 ?_)|(refine qs rfl (ql tab 0 rfl rfl rfl rfl rfl rfl ?_)))
    refine TO.step rfl (OT.makeM tab Value.bool false h.funcs.toNat (by omega) rfl rfl rfl rfl rfl rfl rfl rfl (show h.funcs.toNat * 1 ≤ 281474976710656 by omega) rfl (fun bo => ?_))
    repeat (first|refine q1 ?_|refine q2 ?_|refine q3 ?_|refine q4 tab rfl rfl ?_|refine q5 ?_|refine q6 ?_)
    refine TC.loopK (ι := Nat × List Bool) [1, 6, 28, 29] rfl (fun x => [(30, .int .i64 (x.1 : Int))]) (fun _ => m1) (fun x => .cells bo 0 (x.2.map Value.bool) :: .cells b 0 (hierC hh) :: L) (fun x => x.1 ≤ gs.length ∧ Rec1 h.funcs.toNat gs x.1 0 x.2) (fun x => gs.length - x.1) (0, List.replicate h.funcs.toNat false) (by repeat (first|exact trivial|refine And.intro rfl ?_)) rfl (by repeat (exact List.Sublist.refl _)) ⟨Nat.zero_le _, Rec1.start _ _⟩ ?_
    rintro ⟨k, rb⟩ ⟨hk, hrb⟩
    simp only at hk hrb ⊢
    repeat (first|refine q1 ?_|refine q3 ?_|refine q4 tab rfl rfl ?_|refine q5 ?_|refine q6 ?_)
    refine TC.condP rfl (fun hlt' => ?_) (fun hlt' => ?_)
    · have hlt : k < gs.length := by omega
      have hx : gs[k]? = some gs[k] := by simp [hlt]
      have hgm := List.getElem_mem hlt
      generalize gs[k] = g at hx hgm
      repeat (first|refine q1 ?_|refine q2 ?_|refine q3 ?_|refine q6 ?_|refine q13 ?_)
      refine TO.step rfl (OT.index tab rInts k htg rfl rfl rfl rfl rfl (by first | rfl | omega) rfl hx ?_)
      rintro bx ix hd hrd hA
      have hgr : SlRep rInt m1 hd g := hrd
      have hdl := hgr.len
      have hds := hgr.small rfl
      (refine TO.step rfl (OT.loadA0 tab hA rfl rfl rfl rfl rfl ?_))
      repeat (first|refine q1 ?_|refine q2 ?_|refine q3 ?_|refine q4 tab rfl rfl ?_|refine q5 ?_|refine q6 ?_)
      refine TC.loopK (ι := Nat × List Bool) [1, 6, 28, 29, 30, 8, 34, 35] rfl (fun x => [(36, .int .i64 (x.1 : Int))]) (fun _ => m1) (fun x => .cells bo 0 (x.2.map Value.bool) :: .cells b 0 (hierC hh) :: L) (fun x => x.1 ≤ g.length ∧ Rec1 h.funcs.toNat gs k x.1 x.2) (fun x => g.length - x.1) (0, rb) (by repeat (first|exact trivial|refine And.intro rfl ?_)) rfl (by repeat (exact List.Sublist.refl _)) ⟨Nat.zero_le _, hrb⟩ ?_
      clear hrb
      rintro ⟨j, rb⟩ ⟨hj, hrb⟩
      simp only at hj hrb ⊢
      repeat (first|refine q1 ?_|refine q3 ?_|refine q4 tab rfl rfl ?_|refine q5 ?_|refine q6 ?_)
      refine TC.condP rfl (fun hlj' => ?_) (fun hlj' => ?_)
      · have hlj : j < g.length := by omega
        have hxj : g[j]? = some g[j] := by simp [hlj]
        have hfr := hR g hgm _ (List.getElem_mem hlj)
        generalize g[j] = f at hxj hfr
        have hbl := hrb.len
        repeat (first|refine q1 ?_|refine q2 ?_|refine q3 ?_|refine q6 ?_|refine q13 ?_)
        refine TO.step rfl (OT.index tab rInt j hgr rfl rfl rfl rfl rfl (by first | rfl | omega) rfl hxj ?_)
        rintro b2 i2 f2 hf2 hA2
        obtain rfl := (show f2 = f from hf2)
        (refine TO.step rfl (OT.loadA0 tab hA2 rfl rfl rfl rfl rfl ?_))
        repeat (first|refine q3 ?_|refine q4 tab rfl rfl ?_|refine q5 ?_|refine q6 ?_)
        refine TO.step rfl (OT.indexP (sz := 1) tab f2.toNat rfl rfl rfl rfl rfl (by omega) rfl (by omega) ?_)
        refine TO.step rfl (OT.storeM (k := f2.toNat) tab 0 Value.bool (decide (1 < g.length)) rfl rfl rfl ?_ rfl rfl rfl (by omega) ?_)
        · show some (Value.bool (decide ((1 : Int) < (hd.len : Int)))) = _
          congr 2
          rw [decide_eq_decide]
          omega
        repeat (first|refine q3 ?_|refine q5 ?_|refine q6 ?_|refine q7 ?_)
        refine TO.step rfl (OT.arith (r' := ((j + 1 : Nat) : Int)) rfl rfl rfl rfl rfl rfl rfl (by omega) ?_)
        repeat (first|refine q4 tab rfl rfl ?_|refine q5 ?_|refine q6 ?_)
        exact ⟨(j + 1, _), (by repeat (first|exact trivial|refine And.intro rfl ?_)), (by repeat (first|exact trivial|refine And.intro rfl ?_)), rfl, rfl, (by repeat (exact List.Sublist.refl _)), ⟨by simp only; omega, hrb.step hU hx hxj hfr⟩, by simp only; omega⟩
      · repeat (first|refine q3 ?_|refine q6 ?_|refine q7 ?_|refine q10 ?_|refine q11 ?_|refine q14 ?_)
        refine TO.step rfl (OT.arith (r' := ((k + 1 : Nat) : Int)) rfl rfl rfl rfl rfl rfl rfl (by omega) ?_)
        repeat (first|refine q4 tab rfl rfl ?_|refine q5 ?_|refine q6 ?_)
        have : j = g.length := by omega
        subst this
        exact ⟨(k + 1, rb), (by repeat (first|exact trivial|refine And.intro rfl ?_)), (by repeat (first|exact trivial|refine And.intro rfl ?_)), rfl, rfl, (by repeat (exact List.Sublist.refl _)), ⟨by simp only; omega, hrb.next hx⟩, by simp only; omega⟩
    · have hkl : k = gs.length := by omega
      subst hkl
      have hrb2 := Rec2.start (h := h) hrb _ hC
      obtain ⟨base, hbase⟩ : ∃ base : Nat → Prop, base = (fun v => ∃ w, w < h.funcs.toNat ∧ w ≠ v ∧ Path (graphM h) v w ∧ Path (graphM h) w v) := ⟨_, rfl⟩
      rw [← hbase] at hrb2
      repeat (first|(first|refine q1 ?_|refine q3 ?_|refine q6 ?_|refine q10 ?_|refine q11 ?_|refine q14 ?_)|(refine qs rfl (qz tab 1 rfl rfl rfl rfl rfl rfl ?_)))
      refine TO.step rfl (OT.call rfl rfl rfl rfl rfl rfl goes22 ((targets_all m1 _ hh h hr1).x ?_));
      rintro _ m2 _ ⟨hm2, rfl, tt, rfl, htt⟩
      have hr2 := hr1.mono hm2
      rw [targetsOr, if_pos hs0, allTargets] at htt
      have httl := htt.len
      rw [List.length_map] at httl
      repeat (first|(first|refine q1 ?_|refine q2 ?_|refine q3 ?_|refine q4 tab rfl rfl ?_|refine q5 ?_|refine q6 ?_)|(refine qs rfl (ql tab 1 rfl rfl rfl rfl rfl rfl ?_)))
      refine TC.loopK (ι := Nat × List Bool) [1, 6, 11, 54, 55] rfl (fun x => [(56, .int .i64 (x.1 : Int))]) (fun _ => m2) (fun x => .cells bo 0 (x.2.map Value.bool) :: .cells b 0 (hierC hh) :: L) (fun x => x.1 ≤ h.sites.length ∧ Rec2 h h.funcs.toNat base x.1 0 x.2) (fun x => h.sites.length - x.1) (0, rb) (by repeat (first|exact trivial|refine And.intro rfl ?_)) rfl (by repeat (exact List.Sublist.refl _)) ⟨Nat.zero_le _, hrb2⟩ ?_
      clear hrb hrb2
      rintro ⟨k, rb⟩ ⟨hk, hrb⟩
      simp only at hk hrb ⊢
      repeat (first|refine q1 ?_|refine q3 ?_|refine q4 tab rfl rfl ?_|refine q5 ?_|refine q6 ?_)
      refine TC.condP rfl (fun hlt' => ?_) (fun hlt' => ?_)
      · have hlt : k < h.sites.length := by omega
        have hx : h.sites[k]? = some h.sites[k] := by simp [hlt]
        have hsk := hg.sites _ (List.getElem_mem hlt)
        have hxt : (h.sites.map (targetsM h))[k]? = some (targetsM h h.sites[k]) := by rw [List.getElem?_map, hx]; rfl
        generalize h.sites[k] = s at hx hsk hxt
        have htl := targets_lt hg hsk
        repeat (first|refine q1 ?_|refine q2 ?_|refine q3 ?_|refine q4 tab rfl rfl ?_|refine q6 ?_|refine q13 ?_)
        refine TO.step rfl (OT.index tab rSite k hr2.sites rfl rfl rfl rfl rfl (by first | rfl | omega) rfl hx ?_)
        rintro b' i s' hsx hA
        obtain rfl := (show s' = s from hsx)
        (refine TO.step rfl (OT.loadA0 tab hA rfl rfl rfl rfl rfl ?_))
        refine TO.step rfl (OT.alloc tab rfl rfl rfl rfl (fun bc => ?_))
        repeat (refine q4 tab rfl rfl ?_)
        (refine TO.step rfl (OT.storeL0 tab 0 rfl rfl rfl rfl rfl rfl rfl rfl ?_))
        repeat (first|refine q1 ?_|refine q3 ?_|refine q4 tab rfl rfl ?_|refine q5 ?_|refine q6 ?_)
        refine TO.step rfl (OT.index tab rInts k htt rfl rfl rfl rfl rfl (by first | rfl | omega) rfl hxt ?_)
        rintro bx ix hd hrd hA1
        have hgr : SlRep rInt m2 hd (targetsM h s') := hrd
        have hdl := hgr.len
        have hds := hgr.small rfl
        (refine TO.step rfl (OT.loadA0 tab hA1 rfl rfl rfl rfl rfl ?_))
        repeat (first|refine q2 ?_|refine q4 tab rfl rfl ?_|refine q5 ?_|refine q6 ?_)
        refine TC.loopK (ι := Nat × List Bool) [1, 6, 11, 54, 55, 56, 14, 64, 65] rfl (fun x => [(66, .int .i64 (x.1 : Int))]) (fun _ => m2) (fun x => .cells bc 0 (siteC s') :: .cells bo 0 (x.2.map Value.bool) :: .cells b 0 (hierC hh) :: L) (fun x => x.1 ≤ (targetsM h s').length ∧ Rec2 h h.funcs.toNat base k x.1 x.2) (fun x => (targetsM h s').length - x.1) (0, rb) (by repeat (first|exact trivial|refine And.intro rfl ?_)) rfl (by repeat (exact List.Sublist.refl _)) ⟨Nat.zero_le _, hrb⟩ ?_
        clear hrb
        rintro ⟨j, rb⟩ ⟨hj, hrb⟩
        simp only at hj hrb ⊢
        repeat (first|refine q1 ?_|refine q3 ?_|refine q4 tab rfl rfl ?_|refine q5 ?_|refine q6 ?_)
        refine TC.condP rfl (fun hlj' => ?_) (fun hlj' => ?_)
        · have hlj : j < (targetsM h s').length := by omega
          have hxj : (targetsM h s')[j]? = some (targetsM h s')[j] := by simp [hlj]
          have hfr := htl _ (List.getElem_mem hlj)
          generalize (targetsM h s')[j] = f at hxj hfr
          have hbl := hrb.len
          repeat (first|refine q1 ?_|refine q2 ?_|refine q3 ?_|refine q6 ?_|refine q13 ?_)
          refine TO.step rfl (OT.index tab rInt j hgr rfl rfl rfl rfl rfl (by first | rfl | omega) rfl hxj ?_)
          rintro b2 i2 f2 hf2 hA2
          obtain rfl := (show f2 = f from hf2)
          (refine TO.step rfl (OT.loadA0 tab hA2 rfl rfl rfl rfl rfl ?_))
          repeat (first|(first|refine q1 ?_|refine q3 ?_|refine q4 tab rfl rfl ?_|refine q5 ?_|refine q6 ?_)|(refine qs rfl (ql tab 0 rfl rfl rfl rfl rfl rfl ?_)))
          refine TC.condP rfl (fun hfe => ?_) (fun hfe => ?_)
          · repeat (first|refine q3 ?_|refine q4 tab rfl rfl ?_)
            refine TO.step rfl (OT.indexP (sz := 1) tab f2.toNat rfl rfl rfl rfl rfl (by omega) rfl (by omega) ?_)
            refine TO.step rfl (OT.storeM (k := f2.toNat) tab 1 Value.bool true rfl rfl rfl rfl rfl rfl rfl (by omega) ?_)
            repeat (first|refine q3 ?_|refine q5 ?_|refine q6 ?_|refine q7 ?_)
            refine TO.step rfl (OT.arith (r' := ((j + 1 : Nat) : Int)) rfl rfl rfl rfl rfl rfl rfl (by omega) ?_)
            repeat (first|refine q4 tab rfl rfl ?_|refine q5 ?_|refine q6 ?_)
            exact ⟨(j + 1, _), (by repeat (first|exact trivial|refine And.intro rfl ?_)), (by repeat (first|exact trivial|refine And.intro rfl ?_)), rfl, rfl, (by repeat (exact List.Sublist.refl _)), ⟨by simp only; omega, hrb.step hx hxj (by omega) hfe⟩, by simp only; omega⟩
          · repeat (first|refine q3 ?_|refine q6 ?_|refine q7 ?_|refine q13 ?_)
            refine TO.step rfl (OT.arith (r' := ((j + 1 : Nat) : Int)) rfl rfl rfl rfl rfl rfl rfl (by omega) ?_)
            repeat (first|refine q4 tab rfl rfl ?_|refine q5 ?_|refine q6 ?_)
            exact ⟨(j + 1, _), (by repeat (first|exact trivial|refine And.intro rfl ?_)), (by repeat (first|exact trivial|refine And.intro rfl ?_)), rfl, rfl, (by repeat (exact List.Sublist.refl _)), ⟨by simp only; omega, hrb.skip hx hxj hfe⟩, by simp only; omega⟩
        · repeat (first|refine q3 ?_|refine q6 ?_|refine q7 ?_|refine q10 ?_|refine q11 ?_|refine q14 ?_)
          refine TO.step rfl (OT.arith (r' := ((k + 1 : Nat) : Int)) rfl rfl rfl rfl rfl rfl rfl (by omega) ?_)
          repeat (first|refine q4 tab rfl rfl ?_|refine q5 ?_|refine q6 ?_)
          exact ⟨(k + 1, rb), (by repeat (first|exact trivial|refine And.intro rfl ?_)), (by repeat (first|exact trivial|refine And.intro rfl ?_)), rfl, rfl, (by repeat (first|exact List.Sublist.refl _|refine List.Sublist.cons _ ?_)), ⟨by simp only; omega, hrb.next hx (by omega)⟩, by simp only; omega⟩
      · repeat (first|refine q1 ?_|refine q6 ?_|refine q10 ?_|refine q11 ?_|refine q14 ?_)
        refine TC.freeze fun m3 hm3 hA => ?_
        repeat (first|refine q3 ?_|refine q4 tab rfl rfl ?_|refine q5 ?_|refine q6 ?_|refine q15 ?_)
        have hkl : k = h.sites.length := by omega
        subst hkl
        refine retQ_ret rfl (by repeat (first|exact List.Sublist.refl _|refine List.Sublist.cons _ ?_)) ⟨Mem.le_trans hm1 (Mem.le_trans hm2 hm3), rfl, ⟨some ⟨bo, 0, none⟩, h.funcs.toNat, h.funcs.toNat⟩, rb, by rw [hs0], fun _ => ⟨bools_rep hA hrb.len (by omega), hrb.len, rec_out hg (by rw [← hbase]; exact hrb)⟩⟩
end Go.Sep

/-
  The queue of sites that wait: one is put in, one is taken out.
-/
set_option linter.unusedVariables false
set_option linter.unusedSimpArgs false
namespace Go.Sep
open Go.Proofs
attribute [local irreducible] TC TO OT TCallX TCall DO DOt thenQ blockQ retQ At
theorem qpop_law (m : Mem) (L : List Item) (bq b n c : Nat) (hs : List Wt) (hn : n < hs.length) (hnc : n < c) (hnb : n < 140737488355328) :
    TCall Try.prog 72 ⟨[.pointer (some ⟨bq, 0, none⟩)]⟩ m (.cells bq 0 [.slice (some ⟨b, 0, none⟩) (n + 1) c] :: .cells b 0 (encs rWt hs) :: L) (fun r m' L' => m = m' ∧ r = .iface 52 (wtV (gk hs n)) ∧ .cells bq 0 [.slice (some ⟨b, 0, none⟩) n c] :: .cells b 0 (encs rWt hs) :: L = L') := by
  have hgn := gk_get (xs := hs) (k := n) (by omega)
  unfold TCall
  refine TCallX.enter Try.func72 rfl 23 rfl ?_
  repeat (first|(first|refine q1 ?_|refine q3 ?_|refine q4 tab rfl rfl ?_|refine q5 ?_|refine q6 ?_)|(refine qs rfl (qz tab 0 rfl rfl rfl rfl rfl rfl ?_)))
  refine TO.step rfl (OT.arith (r' := (n : Int)) rfl rfl rfl rfl rfl rfl (by omega) (by omega) ?_)
  refine TO.step rfl (OT.indexP (sz := 3) tab n rfl rfl rfl rfl rfl rfl rfl (by omega) ?_)
  refine TO.step rfl (OT.loadE (j := 0) tab 1 rWt hgn (by simp only [rWt]; omega) (fun _ => rfl) rfl rfl rfl rfl rfl ?_)
  refine TO.step rfl (OT.alloc tab rfl rfl rfl rfl (fun bx => ?_))
  skip
  (refine TO.step rfl (OT.storeL0 tab 0 rfl rfl rfl rfl rfl rfl rfl rfl ?_))
  repeat (first|refine q1 ?_|refine q3 ?_|refine q4 tab rfl rfl ?_|refine q5 ?_|refine q6 ?_)
  refine TO.step rfl (OT.arith (r' := (n : Int)) rfl rfl rfl rfl rfl rfl (by omega) (by omega) ?_)
  refine TO.step rfl (OT.takeZ tab n rfl (by omega) rfl rfl rfl rfl rfl rfl ?_)
  repeat (refine q4 tab rfl rfl ?_)
  (refine TO.step rfl (OT.storeL0 tab 1 rfl rfl rfl rfl rfl rfl rfl rfl ?_))
  repeat (first|refine q1 ?_|refine q3 ?_|refine q5 ?_|refine q6 ?_)
  (refine qs rfl (qz tab 0 rfl rfl rfl rfl rfl rfl ?_))
  skip
  refine TO.step rfl (OT.mkIface tab rfl rfl rfl rfl rfl ?_)
  repeat (first|refine q4 tab rfl rfl ?_|refine q5 ?_|refine q6 ?_|refine q15 ?_)
  refine retQ_ret rfl (L' := .cells bq 0 [.slice (some ⟨b, 0, none⟩) n c] :: .cells b 0 (encs rWt hs) :: L) (by repeat (first|exact List.Sublist.refl _|refine List.Sublist.cons _ ?_)) ⟨rfl, rfl, rfl⟩
theorem qElem : ∃ (ei : TI), tab.elem 50 = some (52, ei) ∧ Nat.beq ei.size rWt.size = true ∧ cellsF ei.zero = some (rWt.enc ⟨0, 0, 0⟩) ∧ Nat.blt 0 ei.bytes = true ∧ ei.bytes = 24 := ⟨_, rfl, rfl, rfl, rfl, rfl⟩
theorem qpush_law (m : Mem) (L : List Item) (bq : Nat) (s : Sl) (hs : List Wt) (x : Wt) (hM : ORow s hs) (hfit : (s.len + 1) * 24 ≤ 140737488355328) :
    TCall Try.prog 73 ⟨[.pointer (some ⟨bq, 0, none⟩), .iface 52 (wtV x)]⟩ m (.cells bq 0 [s.v] :: mcell s (encs rWt hs) :: L) (fun r m' L' => m = m' ∧ ∃ s' hs', ORow s' hs' ∧ s'.len = s.len + 1 ∧ hs'.take (s.len + 1) = hs.take s.len ++ [x] ∧ .cells bq 0 [s'.v] :: mcell s' (encs rWt hs') :: L = L') := by
  unfold TCall
  refine TCallX.enter Try.func73 rfl 13 rfl ?_
  skip
  refine TC.draw [9] mixed 10 rfl [.cells bq 0 [s.v]] (mcell s (encs rWt hs) :: L) (by first | exact List.Perm.refl _ | (rw [List.append_nil]; exact List.Perm.refl _)) ?_
  refine DO.pure tab (by repeat (exact Calm.ret)) (by kernel_rfl) [0, 1, 2] (by kernel_rfl) rfl ?_
  (refine DO.loadL (k := 0) tab 3 0 (by repeat (exact Calm.ret)) (by kernel_rfl) (by kernel_rfl) rfl rfl rfl rfl rfl rfl rfl rfl ?_)
  refine DO.pure tab (by repeat (exact Calm.ret)) (by kernel_rfl) [4] (by kernel_rfl) rfl ?_
  refine DO.run 5 rfl rfl (by kernel_rfl) rfl ?_
  refine OT.assert tab rfl rfl rfl rfl rfl ?_; refine ⟨Mem.le_refl _, _, List.Perm.refl _, ?_⟩
  refine DO.run 6 rfl rfl (by kernel_rfl) rfl ?_
  refine OT.lit tab rfl rfl rfl rfl (fun bl => ?_); refine ⟨Mem.le_refl _, .cells bl 0 (rWt.enc x) :: mcell s (encs rWt hs) :: L, List.Perm.swap _ _ _, ?_⟩
  refine DO.run 7 rfl rfl (by kernel_rfl) rfl ?_
  refine OT.perm (List.Perm.trans (List.Perm.swap _ _ _) (List.Perm.cons _ (List.Perm.swap _ _ _))) ?_; obtain ⟨ei, e1, e2, e3, e4⟩ := qElem; refine OT.pushR tab rWt (z := ⟨0, 0, 0⟩) hM rfl rfl rfl rfl rfl e1 e1 e2 e3 (by decide) e4.1 (by rw [e4.2]; exact hfit) (fun s2 hs2 h1 h2 h3 => ?_); refine ⟨Mem.le_refl _, mcell s2 (encs rWt hs2) :: L, List.Perm.swap _ _ _, ?_⟩
  refine DO.pure tab (by repeat (exact Calm.ret)) (by kernel_rfl) [8] (by kernel_rfl) rfl ?_
  refine DO.tail ?_
  refine DOt.run 9 rfl rfl (by kernel_rfl) rfl ?_
  refine OT.storeL0 tab 0 rfl rfl rfl rfl rfl rfl rfl rfl ?_
  refine DOt.nil (by kernel_rfl) ?_
  rotate_left 1
  exact retQ_n rfl (L' := .cells bq 0 [s2.v] :: mcell s2 (encs rWt hs2) :: L) (by repeat (exact List.Sublist.refl _)) ⟨rfl, s2, hs2, h1, h2, h3, rfl⟩
end Go.Sep

/-
  Heaps: up and down.
-/
set_option linter.unusedVariables false
set_option linter.unusedSimpArgs false
namespace Go.Sep
open Go.Proofs
attribute [local irreducible] TC TO OT TCallX TCall DO DOt thenQ blockQ retQ At
theorem par_div (j : Nat) (h : j < 140737488355328) : IntKind.i64.wrap (((j : Int) - 1).tdiv 2) = ((par j : Nat) : Int) := by
  cases j with
  | zero => rfl
  | succ k =>
    rw [show (((k + 1 : Nat) : Int) - 1) = (k : Int) by omega]
    have e : (k : Int).tdiv 2 = ((par (k + 1) : Nat) : Int) := by
      unfold par
      rw [show k + 1 - 1 = k by omega]
      rfl
    rw [e]
    exact wrap64_in (by omega) (by unfold par; omega)
theorem up_law (m : Mem) (L : List Item) (bq b n c j : Nat) (hs : List Wt) (hj : j < n) (hn : n ≤ hs.length) (hnb : n < 140737488355328) (hu : UI ltW hs n j) :
    TCall Try.prog 24 ⟨[.iface 54 (.pointer (some ⟨bq, 0, none⟩)), .int .i64 (j : Int)]⟩ m (.cells bq 0 [.slice (some ⟨b, 0, none⟩) n c] :: .cells b 0 (encs rWt hs) :: L) (fun r m' L' => m = m' ∧ ∃ hs', Mix n hs hs' ∧ HF ltW hs' n 0 ∧ .cells bq 0 [.slice (some ⟨b, 0, none⟩) n c] :: .cells b 0 (encs rWt hs') :: L = L') := by
  unfold TCall
  refine TCallX.enter Try.func24 rfl 23 rfl ?_
  repeat (refine q2 ?_)
  refine TC.loopK (ι := Nat × List Wt) [0] rfl (fun x => [(1, .int .i64 (x.1 : Int))]) (fun _ => m) (fun x => .cells bq 0 [.slice (some ⟨b, 0, none⟩) n c] :: .cells b 0 (encs rWt x.2) :: L) (fun x => x.1 < n ∧ Mix n hs x.2 ∧ UI ltW x.2 n x.1) (fun x => x.1) (j, hs) (by repeat (first|exact trivial|refine And.intro rfl ?_)) rfl (by repeat (exact List.Sublist.refl _)) ⟨hj, Mix.refl _ _, hu⟩ ?_
  rintro ⟨j, xs⟩ ⟨hj, hmix, hui⟩
  simp only at hj hmix hui
  have hxl : n ≤ xs.length := by rw [hmix.len]; exact hn
  have hp : par j < n := by unfold par; omega
  repeat (first|refine q1 ?_|refine q2 ?_|refine q3 ?_|refine q4 tab rfl rfl ?_)
  refine TO.step rfl (OT.arith (r' := (j : Int) - 1) rfl rfl rfl rfl rfl rfl rfl (by omega) ?_)
  refine TO.step rfl (OT.quoK rfl rfl rfl rfl rfl (by decide) (r := ((par j : Nat) : Int)) (par_div j (by omega)) ?_)
  repeat (first|refine q1 ?_|refine q3 ?_|refine q4 tab rfl rfl ?_|refine q5 ?_|refine q6 ?_)
  (refine TO.splitP rfl rfl (fun hg => ?_) (fun hg => ?_))
  · repeat (first|refine q4 tab rfl rfl ?_|refine q5 ?_|refine q6 ?_|refine q10 ?_|refine q11 ?_|refine q12 rfl ?_|refine q14 ?_|refine q16 rfl ?_)
    refine retQ_n rfl (L' := .cells bq 0 [.slice (some ⟨b, 0, none⟩) n c] :: .cells b 0 (encs rWt xs) :: L) (by repeat (exact List.Sublist.refl _)) ⟨rfl, xs, hmix, hui.done (.inl (by unfold par at hg; omega)), rfl⟩
  · have hj0 : 0 < j := by unfold par at hg; omega
    repeat (refine q4 tab rfl rfl ?_)
    refine TO.step rfl (OT.invokeV tab 0 (by kernel_rfl) rfl rfl rfl rfl rfl rfl rfl rfl rfl goes70 ((less_law m L bq b n c j (par j) _ xs hj hp hxl).x ?_))
    rintro _ _ _ ⟨rfl, rfl, rfl⟩
    cases hl : ltW (gk xs j) (gk xs (par j)) with
    | false =>
      repeat (first|refine q4 tab rfl rfl ?_|refine q5 ?_|refine q6 ?_|refine q10 ?_|refine q11 ?_|refine q12 rfl ?_|refine q14 ?_|refine q16 rfl ?_)
      refine retQ_n rfl (L' := .cells bq 0 [.slice (some ⟨b, 0, none⟩) n c] :: .cells b 0 (encs rWt xs) :: L) (by repeat (exact List.Sublist.refl _)) ⟨rfl, xs, hmix, hui.done (.inr hl), rfl⟩
    | true =>
      repeat (first|refine q1 ?_|refine q3 ?_|refine q4 tab rfl rfl ?_|refine q5 ?_|refine q6 ?_|refine q13 ?_|refine q17 rfl ?_)
      refine TO.step rfl (OT.invokeV tab 0 (by kernel_rfl) rfl rfl rfl rfl rfl rfl rfl rfl rfl goes71 ((swap_law m L bq b n c (par j) j _ xs hp hj hxl).x ?_))
      rintro _ _ _ ⟨rfl, rfl⟩
      repeat (first|refine q3 ?_|refine q4 tab rfl rfl ?_|refine q5 ?_|refine q6 ?_|refine q7 ?_)
      exact ⟨(par j, sw xs (par j) j), (by repeat (first|exact trivial|refine And.intro rfl ?_)), (by repeat (first|exact trivial|refine And.intro rfl ?_)), rfl, rfl, (by repeat (exact List.Sublist.refl _)), ⟨hp, hmix.trans (Mix.sw hp hj hxl), hui.step ltW_ord hxl hj hj0 hl⟩, by simp only; unfold par; omega⟩
end Go.Sep

/-
  Heaps: down, laid out, one put in, one taken out.
-/
set_option linter.unusedVariables false
set_option linter.unusedSimpArgs false
namespace Go.Sep
open Go.Proofs
attribute [local irreducible] TC TO OT TCallX TCall DO DOt thenQ blockQ retQ At
set_option maxHeartbeats 1000000 in
theorem down_law (m : Mem) (L : List Item) (bq b n len c i0 : Nat) (hs : List Wt) (hi0 : i0 ≤ n) (hnl : n ≤ len) (hn : len ≤ hs.length) (hnb : n < 70368744177664) (hd : DI ltW hs n i0 i0) :
    TCall Try.prog 23 ⟨[.iface 54 (.pointer (some ⟨bq, 0, none⟩)), .int .i64 (i0 : Int), .int .i64 (n : Int)]⟩ m (.cells bq 0 [.slice (some ⟨b, 0, none⟩) len c] :: .cells b 0 (encs rWt hs) :: L) (fun r m' L' => m = m' ∧ ∃ hs', Mix n hs hs' ∧ HF ltW hs' n i0 ∧ .cells bq 0 [.slice (some ⟨b, 0, none⟩) len c] :: .cells b 0 (encs rWt hs') :: L = L') := by
  unfold TCall
  refine TCallX.enter Try.func23 rfl 48 rfl ?_
  repeat (first|refine q1 ?_|refine q2 ?_|refine q3 ?_|refine q4 tab rfl rfl ?_|refine q5 ?_|refine q6 ?_)
  refine TC.loopK (ι := Nat × List Wt) [0, 1, 2] rfl (fun x => [(7, .int .i64 (x.1 : Int))]) (fun _ => m) (fun x => .cells bq 0 [.slice (some ⟨b, 0, none⟩) len c] :: .cells b 0 (encs rWt x.2) :: L) (fun x => x.1 ≤ n ∧ Mix n hs x.2 ∧ DI ltW x.2 n i0 x.1 ∧ i0 ≤ x.1) (fun x => n - x.1) (i0, hs) (by repeat (first|exact trivial|refine And.intro rfl ?_)) rfl (by repeat (exact List.Sublist.refl _)) ⟨hi0, Mix.refl _ _, hd, Nat.le_refl _⟩ ?_
  rintro ⟨i, xs⟩ ⟨hi, hmix, hd, hlo⟩
  simp only at hi hmix hd hlo
  have hxl : len ≤ xs.length := by rw [hmix.len]; exact hn
  repeat (first|refine q1 ?_|refine q2 ?_|refine q3 ?_|refine q4 tab rfl rfl ?_)
  refine TO.step rfl (OT.arith (r' := ((2 * i : Nat) : Int)) rfl rfl rfl rfl rfl rfl (by omega) (by omega) ?_)
  refine TO.step rfl (OT.arith (r' := (((2*i) + 1 : Nat) : Int)) rfl rfl rfl rfl rfl rfl rfl (by omega) ?_)
  repeat (first|refine q1 ?_|refine q3 ?_|refine q4 tab rfl rfl ?_|refine q5 ?_|refine q6 ?_)
  (refine TO.splitP rfl rfl (fun hg => ?_) (fun hg => ?_))
  · repeat (first|refine q1 ?_|refine q3 ?_|refine q4 tab rfl rfl ?_|refine q5 ?_|refine q6 ?_|refine q10 ?_|refine q11 ?_|refine q12 rfl ?_|refine q14 ?_|refine q15 ?_|refine q16 rfl ?_)
    refine retQ_ret rfl (L' := .cells bq 0 [.slice (some ⟨b, 0, none⟩) len c] :: .cells b 0 (encs rWt xs) :: L) (by repeat (exact List.Sublist.refl _)) ⟨rfl, xs, hmix, hd.done0 (by omega), rfl⟩
  · have hneg : decide (((2 * i + 1 : Nat) : Int) < 0) = false := decide_eq_false (by omega)
    repeat (first|refine q1 ?_|refine q3 ?_|refine q4 tab rfl rfl ?_|refine q5 ?_|refine q6 ?_|refine q13 ?_|refine q17 rfl ?_)
    simp only [hneg]
    skip
    refine TO.step rfl (OT.arith (r' := (((2*i+1) + 1 : Nat) : Int)) rfl rfl rfl rfl rfl rfl rfl (by omega) ?_)
    repeat (first|refine q1 ?_|refine q3 ?_|refine q4 tab rfl rfl ?_|refine q5 ?_|refine q6 ?_)
    (refine TO.splitP rfl rfl (fun hg2 => ?_) (fun hg2 => ?_))
    · repeat (refine q4 tab rfl rfl ?_)
      refine TO.step rfl (OT.invokeV tab 0 (by kernel_rfl) rfl rfl rfl rfl rfl rfl rfl rfl rfl goes70 ((less_law m L bq b len c (2 * i + 1 + 1) (2 * i + 1) _ xs (by omega) (by omega) hxl).x ?_))
      rintro _ _ _ ⟨rfl, rfl, rfl⟩
      cases hl2 : ltW (gk xs (2 * i + 1 + 1)) (gk xs (2 * i + 1)) with
      | true =>
        repeat (first|refine q1 ?_|refine q3 ?_|refine q4 tab rfl rfl ?_|refine q5 ?_|refine q6 ?_|refine q16 rfl ?_)
        have hsm : ∀ k, 0 < k → k < n → par k = i → ltW (gk xs k) (gk xs (2 * i + 1 + 1)) = false := fun k h1 h2 h3 => by
          have : k = 2 * i + 1 ∨ k = 2 * i + 1 + 1 := by unfold par at h3; omega
          rcases this with rfl | rfl
          · exact ltW_ord.asym _ _ hl2
          · exact ltW_irr _
        have hJn : (2 * i + 1 + 1) < n := by omega
        have hJp : par (2 * i + 1 + 1) = i := by unfold par; omega
        have hin : i < n := by omega
        refine TO.step rfl (OT.invokeV tab 0 (by kernel_rfl) rfl rfl rfl rfl rfl rfl rfl rfl rfl goes70 ((less_law m L bq b len c (2 * i + 1 + 1) i _ xs (by omega) (by omega) hxl).x ?_))
        rintro _ _ _ ⟨rfl, rfl, rfl⟩
        cases hl : ltW (gk xs (2 * i + 1 + 1)) (gk xs i) with
        | false =>
          repeat (first|refine q1 ?_|refine q3 ?_|refine q4 tab rfl rfl ?_|refine q5 ?_|refine q6 ?_|refine q10 ?_|refine q11 ?_|refine q12 rfl ?_|refine q14 ?_|refine q15 ?_|refine q16 rfl ?_)
          refine retQ_ret rfl (L' := .cells bq 0 [.slice (some ⟨b, 0, none⟩) len c] :: .cells b 0 (encs rWt xs) :: L) (by repeat (exact List.Sublist.refl _)) ⟨rfl, xs, hmix, hd.done ltW_ord hsm hl, rfl⟩
        | true =>
          repeat (first|refine q1 ?_|refine q3 ?_|refine q4 tab rfl rfl ?_|refine q5 ?_|refine q6 ?_|refine q13 ?_|refine q17 rfl ?_)
          refine TO.step rfl (OT.invokeV tab 0 (by kernel_rfl) rfl rfl rfl rfl rfl rfl rfl rfl rfl goes71 ((swap_law m L bq b len c i (2 * i + 1 + 1) _ xs (by omega) (by omega) hxl).x ?_))
          rintro _ _ _ ⟨rfl, rfl⟩
          repeat (first|refine q3 ?_|refine q4 tab rfl rfl ?_|refine q5 ?_|refine q6 ?_|refine q7 ?_)
          exact ⟨((2 * i + 1 + 1), sw xs i (2 * i + 1 + 1)), (by repeat (first|exact trivial|refine And.intro rfl ?_)), (by repeat (first|exact trivial|refine And.intro rfl ?_)), rfl, rfl, (by repeat (exact List.Sublist.refl _)), ⟨by simp only; omega, hmix.trans (Mix.sw hin hJn (by omega)), hd.step ltW_ord (by omega) (by omega) hJn (by omega) hJp hsm hl, by simp only; omega⟩, by simp only; omega⟩
      | false =>
        repeat (first|refine q1 ?_|refine q3 ?_|refine q4 tab rfl rfl ?_|refine q5 ?_|refine q6 ?_|refine q13 ?_|refine q17 rfl ?_)
        have hsm : ∀ k, 0 < k → k < n → par k = i → ltW (gk xs k) (gk xs (2 * i + 1)) = false := fun k h1 h2 h3 => by
          have : k = 2 * i + 1 ∨ k = 2 * i + 1 + 1 := by unfold par at h3; omega
          rcases this with rfl | rfl
          · exact ltW_irr _
          · exact hl2
        have hJn : (2 * i + 1) < n := by omega
        have hJp : par (2 * i + 1) = i := by unfold par; omega
        have hin : i < n := by omega
        refine TO.step rfl (OT.invokeV tab 0 (by kernel_rfl) rfl rfl rfl rfl rfl rfl rfl rfl rfl goes70 ((less_law m L bq b len c (2 * i + 1) i _ xs (by omega) (by omega) hxl).x ?_))
        rintro _ _ _ ⟨rfl, rfl, rfl⟩
        cases hl : ltW (gk xs (2 * i + 1)) (gk xs i) with
        | false =>
          repeat (first|refine q1 ?_|refine q3 ?_|refine q4 tab rfl rfl ?_|refine q5 ?_|refine q6 ?_|refine q10 ?_|refine q11 ?_|refine q12 rfl ?_|refine q14 ?_|refine q15 ?_|refine q16 rfl ?_)
          refine retQ_ret rfl (L' := .cells bq 0 [.slice (some ⟨b, 0, none⟩) len c] :: .cells b 0 (encs rWt xs) :: L) (by repeat (exact List.Sublist.refl _)) ⟨rfl, xs, hmix, hd.done ltW_ord hsm hl, rfl⟩
        | true =>
          repeat (first|refine q1 ?_|refine q3 ?_|refine q4 tab rfl rfl ?_|refine q5 ?_|refine q6 ?_|refine q13 ?_|refine q17 rfl ?_)
          refine TO.step rfl (OT.invokeV tab 0 (by kernel_rfl) rfl rfl rfl rfl rfl rfl rfl rfl rfl goes71 ((swap_law m L bq b len c i (2 * i + 1) _ xs (by omega) (by omega) hxl).x ?_))
          rintro _ _ _ ⟨rfl, rfl⟩
          repeat (first|refine q3 ?_|refine q4 tab rfl rfl ?_|refine q5 ?_|refine q6 ?_|refine q7 ?_)
          exact ⟨((2 * i + 1), sw xs i (2 * i + 1)), (by repeat (first|exact trivial|refine And.intro rfl ?_)), (by repeat (first|exact trivial|refine And.intro rfl ?_)), rfl, rfl, (by repeat (exact List.Sublist.refl _)), ⟨by simp only; omega, hmix.trans (Mix.sw hin hJn (by omega)), hd.step ltW_ord (by omega) (by omega) hJn (by omega) hJp hsm hl, by simp only; omega⟩, by simp only; omega⟩
    · repeat (first|refine q1 ?_|refine q3 ?_|refine q4 tab rfl rfl ?_|refine q5 ?_|refine q6 ?_|refine q13 ?_|refine q17 rfl ?_)
      have hsm : ∀ k, 0 < k → k < n → par k = i → ltW (gk xs k) (gk xs (2 * i + 1)) = false := fun k h1 h2 h3 => by
        have : k = 2 * i + 1 := by unfold par at h3; omega
        rcases this with rfl
        exact ltW_irr _
      have hJn : (2 * i + 1) < n := by omega
      have hJp : par (2 * i + 1) = i := by unfold par; omega
      have hin : i < n := by omega
      refine TO.step rfl (OT.invokeV tab 0 (by kernel_rfl) rfl rfl rfl rfl rfl rfl rfl rfl rfl goes70 ((less_law m L bq b len c (2 * i + 1) i _ xs (by omega) (by omega) hxl).x ?_))
      rintro _ _ _ ⟨rfl, rfl, rfl⟩
      cases hl : ltW (gk xs (2 * i + 1)) (gk xs i) with
      | false =>
        repeat (first|refine q1 ?_|refine q3 ?_|refine q4 tab rfl rfl ?_|refine q5 ?_|refine q6 ?_|refine q10 ?_|refine q11 ?_|refine q12 rfl ?_|refine q14 ?_|refine q15 ?_|refine q16 rfl ?_)
        refine retQ_ret rfl (L' := .cells bq 0 [.slice (some ⟨b, 0, none⟩) len c] :: .cells b 0 (encs rWt xs) :: L) (by repeat (exact List.Sublist.refl _)) ⟨rfl, xs, hmix, hd.done ltW_ord hsm hl, rfl⟩
      | true =>
        repeat (first|refine q1 ?_|refine q3 ?_|refine q4 tab rfl rfl ?_|refine q5 ?_|refine q6 ?_|refine q13 ?_|refine q17 rfl ?_)
        refine TO.step rfl (OT.invokeV tab 0 (by kernel_rfl) rfl rfl rfl rfl rfl rfl rfl rfl rfl goes71 ((swap_law m L bq b len c i (2 * i + 1) _ xs (by omega) (by omega) hxl).x ?_))
        rintro _ _ _ ⟨rfl, rfl⟩
        repeat (first|refine q3 ?_|refine q4 tab rfl rfl ?_|refine q5 ?_|refine q6 ?_|refine q7 ?_)
        exact ⟨((2 * i + 1), sw xs i (2 * i + 1)), (by repeat (first|exact trivial|refine And.intro rfl ?_)), (by repeat (first|exact trivial|refine And.intro rfl ?_)), rfl, rfl, (by repeat (exact List.Sublist.refl _)), ⟨by simp only; omega, hmix.trans (Mix.sw hin hJn (by omega)), hd.step ltW_ord (by omega) (by omega) hJn (by omega) hJp hsm hl, by simp only; omega⟩, by simp only; omega⟩
end Go.Sep

/-
  Heaps: Init, Pop, Push.
-/
set_option linter.unusedVariables false
set_option linter.unusedSimpArgs false
namespace Go.Sep
open Go.Proofs
attribute [local irreducible] TC TO OT TCallX TCall DO DOt thenQ blockQ retQ At
theorem HF.congr {α : Type} [Inhabited α] {lt : α → α → Bool} {xs ys : List α} {n lo : Nat} (h : HF lt xs n lo) (e : ∀ k, k < n → gk ys k = gk xs k) : HF lt ys n lo := fun k h1 h2 h3 => by
  rw [e k h2, e (par k) (by unfold par; omega)]
  exact h k h1 h2 h3
theorem ORow.mix {α : Type} {s : Sl} {xs ys : List α} {n : Nat} (h : ORow s xs) (k : Mix n xs ys) : ORow s ys := ⟨h.len, k.len.trans h.all, h.adr⟩
theorem hinit_law (m : Mem) (L : List Item) (bq : Nat) (s : Sl) (hs : List Wt) (hM : ORow s hs) (hnb : s.len < 70368744177664) :
    TCall Try.prog 16 ⟨[.iface 54 (.pointer (some ⟨bq, 0, none⟩))]⟩ m (.cells bq 0 [s.v] :: mcell s (encs rWt hs) :: L) (fun r m' L' => m = m' ∧ ∃ hs', Mix s.len hs hs' ∧ HF ltW hs' s.len 0 ∧ .cells bq 0 [s.v] :: mcell s (encs rWt hs') :: L = L') := by
  have hlen := hM.len
  have hall := hM.all
  unfold TCall
  refine TCallX.enter Try.func16 rfl 17 rfl ?_
  repeat (first|refine q1 ?_|refine q3 ?_|refine q4 tab rfl rfl ?_)
  refine TO.step rfl (OT.invokeV tab 0 (by kernel_rfl) rfl rfl rfl rfl rfl rfl rfl rfl rfl goes17 ((qlen_law m _ s).x ?_))
  rintro _ _ _ ⟨rfl, rfl, rfl⟩
  repeat (first|refine q1 ?_|refine q3 ?_|refine q4 tab rfl rfl ?_|refine q5 ?_|refine q6 ?_)
  refine TO.step rfl (OT.quoK rfl rfl rfl rfl rfl (by decide) (r := ((s.len / 2 : Nat) : Int)) (wrap64_in (by show -9223372036854775808 ≤ ((s.len / 2 : Nat) : Int); omega) (by show ((s.len / 2 : Nat) : Int) ≤ 9223372036854775807; omega)) ?_)
  refine TO.step rfl (OT.arith (r' := ((s.len / 2 : Nat) : Int) - 1) rfl rfl rfl rfl rfl rfl rfl (by omega) ?_)
  repeat (first|refine q2 ?_|refine q4 tab rfl rfl ?_|refine q5 ?_|refine q6 ?_)
  refine TC.loopK (ι := Nat × List Wt) [0, 2] rfl (fun x => [(3, .int .i64 ((x.1 : Int) - 1))]) (fun _ => m) (fun x => .cells bq 0 [s.v] :: mcell s (encs rWt x.2) :: L) (fun x => x.1 ≤ s.len / 2 ∧ Mix s.len hs x.2 ∧ HF ltW x.2 s.len x.1) (fun x => x.1) (s.len / 2, hs) (by repeat (first|exact trivial|refine And.intro rfl ?_)) rfl (by repeat (exact List.Sublist.refl _)) ⟨Nat.le_refl _, Mix.refl _ _, HF.half⟩ ?_
  rintro ⟨k, xs⟩ ⟨hk, hmix, hhf⟩
  simp only at hk hmix hhf
  repeat (first|refine q1 ?_|refine q3 ?_|refine q4 tab rfl rfl ?_|refine q5 ?_|refine q6 ?_)
  cases k with
  | zero =>
    have hge : decide ((((0 : Nat) : Int) - 1) ≥ 0) = false := by decide
    repeat (first|refine q10 ?_|refine q11 ?_|refine q14 ?_|refine q17 rfl ?_)
    refine retQ_n rfl (L' := .cells bq 0 [s.v] :: mcell s (encs rWt xs) :: L) (by repeat (exact List.Sublist.refl _)) ⟨rfl, xs, hmix, hhf, rfl⟩
  | succ k =>
    obtain ⟨b, hb⟩ := hM.pos (by omega)
    have hge : decide ((((k + 1 : Nat) : Int) - 1) ≥ 0) = true := decide_eq_true (by omega)
    have hke : (((k + 1 : Nat) : Int) - 1) = (k : Int) := by omega
    rw [hke]
    refine TC.condP rfl (fun hz => ?_) (fun hz => ?_)
    · rw [hb]
      repeat (first|refine q1 ?_|refine q2 ?_|refine q3 ?_|refine q4 tab rfl rfl ?_|refine q6 ?_|refine q13 ?_)
      refine TO.step rfl (OT.call rfl rfl rfl rfl rfl rfl goes23 ((down_law m L bq b s.len s.len s.cap k xs (by omega) (Nat.le_refl _) (by rw [hmix.len]; omega) hnb (DI.start hhf)).x ?_)); rintro _ _ _ ⟨rfl, ys, hy1, hy2, rfl⟩
      repeat (first|refine q3 ?_|refine q4 tab rfl rfl ?_|refine q5 ?_|refine q6 ?_|refine q7 ?_)
      refine TO.step rfl (OT.arith (r' := (k : Int) - 1) rfl rfl rfl rfl rfl rfl rfl (by omega) ?_)
      repeat (first|refine q4 tab rfl rfl ?_|refine q5 ?_|refine q6 ?_)
      exact ⟨(k, ys), (by repeat (first|exact trivial|refine And.intro rfl ?_)), (by repeat (first|exact trivial|refine And.intro rfl ?_)), rfl, rfl, (by repeat (exact List.Sublist.refl _)), ⟨by simp only; omega, hmix.trans hy1, hy2⟩, by simp only; omega⟩
    · exfalso; omega
theorem take_succ_gk {α : Type} [Inhabited α] {xs : List α} {n : Nat} (h : n < xs.length) : xs.take (n + 1) = xs.take n ++ [gk xs n] := by
  rw [List.take_add_one, gk_get h]
  rfl
theorem hpop_law (m : Mem) (L : List Item) (bq b n c : Nat) (hs : List Wt) (hn : n < hs.length) (hnc : n < c) (hnb : n < 70368744177664) (hh : HF ltW hs (n + 1) 0) :
    TCall Try.prog 18 ⟨[.iface 54 (.pointer (some ⟨bq, 0, none⟩))]⟩ m (.cells bq 0 [.slice (some ⟨b, 0, none⟩) (n + 1) c] :: .cells b 0 (encs rWt hs) :: L) (fun r m' L' => m = m' ∧ r = .iface 52 (wtV (gk hs 0)) ∧ ∃ hs', hs'.length = hs.length ∧ (hs'.take n ++ [gk hs 0]).Perm (hs.take (n + 1)) ∧ HF ltW hs' n 0 ∧ .cells bq 0 [.slice (some ⟨b, 0, none⟩) n c] :: .cells b 0 (encs rWt hs') :: L = L') := by
  unfold TCall
  refine TCallX.enter Try.func18 rfl 15 rfl ?_
  repeat (first|refine q1 ?_|refine q3 ?_|refine q4 tab rfl rfl ?_|refine q5 ?_|refine q6 ?_)
  refine TO.step rfl (OT.invokeV tab 0 (by kernel_rfl) rfl rfl rfl rfl rfl rfl rfl rfl rfl goes17 ((qlen_law m _ ⟨some ⟨b, 0, none⟩, n + 1, c⟩).x ?_))
  rintro _ _ _ ⟨rfl, rfl, rfl⟩
  refine TO.step rfl (OT.arith (r' := (n : Int)) rfl rfl rfl rfl rfl rfl (by simp only; omega) (by omega) ?_)
  repeat (first|refine q1 ?_|refine q3 ?_|refine q4 tab rfl rfl ?_|refine q5 ?_|refine q6 ?_)
  refine TO.step rfl (OT.invokeV tab 0 (by kernel_rfl) rfl rfl rfl rfl rfl rfl rfl rfl rfl goes71 ((swap_law m L bq b (n + 1) c 0 n _ hs (by omega) (by omega) (by omega)).x ?_))
  rintro _ _ _ ⟨rfl, rfl⟩
  repeat (first|refine q1 ?_|refine q3 ?_|refine q4 tab rfl rfl ?_|refine q5 ?_|refine q6 ?_)
  refine TO.step rfl (OT.call rfl rfl rfl rfl rfl rfl goes23 ((down_law m L bq b n (n + 1) c 0 (sw hs 0 n) (by omega) (by omega) (by rw [sw_length]; omega) hnb (DI.pop hh (by omega))).x ?_)); rintro _ _ _ ⟨rfl, ys, hy1, hy2, rfl⟩
  have hyl : ys.length = hs.length := by rw [hy1.len, sw_length]
  have hyn : gk ys n = gk hs 0 := by
    rw [hy1.rest_get (Nat.le_refl _), gk_sw (by omega) (by omega), if_pos rfl]
  repeat (first|refine q1 ?_|refine q3 ?_|refine q4 tab rfl rfl ?_|refine q5 ?_|refine q6 ?_)
  refine TO.step rfl (OT.invokeP tab (by kernel_rfl) rfl rfl rfl rfl rfl rfl rfl goes72 ((qpop_law m L bq b n c ys (by omega) hnc (by omega)).x ?_))
  rintro _ _ _ ⟨rfl, rfl, rfl⟩
  rw [hyn]
  repeat (first|refine q4 tab rfl rfl ?_|refine q5 ?_|refine q6 ?_|refine q15 ?_)
  refine retQ_ret rfl (L' := .cells bq 0 [.slice (some ⟨b, 0, none⟩) n c] :: .cells b 0 (encs rWt ys) :: L) (by repeat (exact List.Sublist.refl _)) ⟨rfl, rfl, ys, hyl, ?_, hy2, rfl⟩
  have h1 : ((sw hs 0 n).take (n + 1)).Perm (hs.take (n + 1)) := by
    rw [sw_take (by omega) (by omega)]
    exact sw_perm (by simp; omega) (by simp; omega)
  refine List.Perm.trans ?_ h1
  rw [take_succ_gk (xs := sw hs 0 n) (by rw [sw_length]; exact hn)]
  have h2 : gk (sw hs 0 n) n = gk hs 0 := by rw [gk_sw (by omega) (by omega), if_pos rfl]
  rw [h2]
  exact hy1.perm.append_right _
theorem hpush_law (m : Mem) (L : List Item) (bq : Nat) (s : Sl) (hs : List Wt) (x : Wt) (hM : ORow s hs) (hfit : (s.len + 1) * 24 ≤ 140737488355328) (hh : HF ltW hs s.len 0) :
    TCall Try.prog 19 ⟨[.iface 54 (.pointer (some ⟨bq, 0, none⟩)), .iface 52 (wtV x)]⟩ m (.cells bq 0 [s.v] :: mcell s (encs rWt hs) :: L) (fun r m' L' => m = m' ∧ ∃ s' hs', ORow s' hs' ∧ s'.len = s.len + 1 ∧ (hs'.take (s.len + 1)).Perm (hs.take s.len ++ [x]) ∧ HF ltW hs' (s.len + 1) 0 ∧ .cells bq 0 [s'.v] :: mcell s' (encs rWt hs') :: L = L') := by
  unfold TCall
  refine TCallX.enter Try.func19 rfl 12 rfl ?_
  repeat (first|refine q1 ?_|refine q3 ?_|refine q4 tab rfl rfl ?_)
  refine TO.step rfl (OT.invokeP tab (by kernel_rfl) rfl rfl rfl rfl rfl rfl rfl goes73 ((qpush_law m L bq s hs x hM hfit).x ?_))
  rintro _ _ _ ⟨rfl, s2, hs2, h1, h2, h3, rfl⟩
  have hall := h1.all
  have hlen := h1.len
  obtain ⟨b, hb⟩ := h1.pos (by omega)
  repeat (first|refine q3 ?_|refine q4 tab rfl rfl ?_|refine q5 ?_|refine q6 ?_)
  refine TO.step rfl (OT.invokeV tab 0 (by kernel_rfl) rfl rfl rfl rfl rfl rfl rfl rfl rfl goes17 ((qlen_law m _ s2).x ?_))
  rintro _ _ _ ⟨rfl, rfl, rfl⟩
  refine TO.step rfl (OT.arith (r' := (s.len : Int)) rfl rfl rfl rfl rfl rfl (by omega) (by omega) ?_)
  have hf : HF ltW hs2 s.len 0 := hh.congr fun k hk => by
    have e1 := gk_take (xs := hs2) (n := s.len + 1) (k := k) (by omega)
    have e2 := gk_take (xs := hs) (n := s.len) (k := k) hk
    rw [← e1, ← e2, h3]
    unfold gk
    rw [List.getElem?_append_left (by
      have := hM.len
      have := hM.all
      simp; omega)]
  rw [hb, h2]
  refine TO.step rfl (OT.call rfl rfl rfl rfl rfl rfl goes24 ((up_law m L bq b (s.len + 1) s2.cap s.len hs2 (by omega) (by omega) (by omega) (UI.start hf)).x ?_)); rintro _ _ _ ⟨rfl, ys, hy1, hy2, rfl⟩
  repeat (refine q5 ?_)
  refine retQ_n rfl (L' := .cells bq 0 [.slice (some ⟨b, 0, none⟩) (s.len + 1) s2.cap] :: .cells b 0 (encs rWt ys) :: L) (by repeat (exact List.Sublist.refl _)) ⟨rfl, ⟨some ⟨b, 0, none⟩, s.len + 1, s2.cap⟩, ys, ⟨by simp only; omega, by simp only; rw [hy1.len]; exact hall, .inr ⟨b, rfl⟩⟩, rfl, ?_, hy2, rfl⟩
  rw [← h3]
  exact hy1.perm
end Go.Sep

/-
  The walk of Plan.
-/
set_option linter.unusedVariables false
set_option linter.unusedSimpArgs false
namespace Go.Sep
open Go.Proofs
attribute [local irreducible] TC TO OT TCallX TCall DO DOt thenQ blockQ retQ At
section
variable {h : Hier} {sizes : List Int} {budget most : Int}
theorem planE_s (h0 : soundM h ≠ 0) : planE h sizes budget most = soundM h := by unfold planE; rw [if_pos h0]
theorem planE_len (h0 : soundM h = 0) (hl : (sizes.length : Int) ≠ h.funcs) : planE h sizes budget most = 2 := by unfold planE; rw [if_neg (by simpa using h0), if_pos (.inl hl)]
theorem planE_size (h0 : soundM h = 0) {n : Int} (hn : n ∈ sizes) (hb : n < 1 ∨ 65536 < n) : planE h sizes budget most = 2 := by unfold planE; rw [if_neg (by simpa using h0), if_pos (.inr ⟨n, hn, hb⟩)]
theorem planE_arg (h0 : soundM h = 0) (hl : (sizes.length : Int) = h.funcs) (hn : ∀ n ∈ sizes, 1 ≤ n ∧ n ≤ 65536) (hb : budget < 0 ∨ 1073741824 < budget ∨ most < 0 ∨ 1073741824 < most) : planE h sizes budget most = 1 := by
  unfold planE
  rw [if_neg (by simpa using h0), if_neg, if_pos hb]
  rintro (h1 | ⟨n, h1, h2⟩)
  · exact h1 hl
  · have := hn n h1; omega
theorem planE_ok (h0 : soundM h = 0) (hl : (sizes.length : Int) = h.funcs) (hn : ∀ n ∈ sizes, 1 ≤ n ∧ n ≤ 65536) (hb : ¬ (budget < 0 ∨ 1073741824 < budget ∨ most < 0 ∨ 1073741824 < most)) : planE h sizes budget most = 0 := by
  unfold planE
  rw [if_neg (by simpa using h0), if_neg, if_neg hb]
  rintro (h1 | ⟨n, h1, h2⟩)
  · exact h1 hl
  · have := hn n h1; omega
theorem planOut_bad (hb : planE h sizes budget most ≠ 0) : PlanOut h sizes budget most [] [] := by unfold PlanOut; rw [if_pos hb]; exact ⟨rfl, rfl⟩
theorem planOut_ok (hb : planE h sizes budget most = 0) {st : PSt} (hp : PlanR h.sites (againP h) budget most (directL h.sites) ⟨sizes, 0, []⟩ st) : PlanOut h sizes budget most st.out st.after := by unfold PlanOut; rw [if_neg (by simpa using hb)]; exact ⟨st, hp, rfl, rfl⟩
end
theorem site_to {h : Hier} {s : Site} (hs : SiteOk h s) : 0 ≤ s.to ∧ s.to < h.funcs := by
  have h1 := hs.frm
  rcases hs.how with h2 | h2
  · omega
  · omega
theorem perm3 {α : Type} {x y z : α} {l : List α} : (z :: x :: y :: l).Perm ([x, y] ++ z :: l) := (List.Perm.swap _ _ _).trans ((List.Perm.swap _ _ _).cons _)
theorem perm4 {α : Type} {x y z u : α} {l : List α} : ([x, y] ++ z :: u :: l).Perm (z :: u :: x :: y :: l) := List.perm_append_comm_assoc [x, y] [z, u] l
theorem perm5' {α : Type} {x y z : α} {l : List α} : (z :: x :: y :: l).Perm ([x, y] ++ z :: l) := perm3
theorem TC.keepL {P : Program} {N : Nat} {c : Code} {ρ : Env} {D : List Deferred} {m : Mem} {L L' : List Item} {Q : EPost} (e : L = L') (h : TC P N c ρ D m L' Q) : TC P N c ρ D m L Q := by rw [e]; exact h
theorem perm6 {α : Type} {x y z : α} {l : List α} : (x :: y :: z :: l).Perm (y :: z :: x :: l) := (List.Perm.swap _ _ _).trans ((List.Perm.swap _ _ _).cons _)
structure PLS where
  so : Sl
  m : Mem
  s : Sl
  hs : List Wt
  st : PSt
  W : List Nat
theorem at0_map {l : List Int} {k : Nat} (h : k < l.length) : (l.map (Value.int .i64))[k]? = some (Value.int .i64 (at0 l k)) := by
  unfold at0
  rw [List.getElem?_map, List.getElem?_eq_getElem h]
  rfl
theorem lag_bound {sites : List Site} {n0 n : Nat} {ys : List Wt} {W : List Nat} {st : PSt} (hS : StOk n0 st) (hQ : QI sites (ys.take n) W st) (hn : n ≤ 20000) (hto : ∀ i, i < sites.length → toN sites i < n0) : lag st.after (ys.take n) < 50000000000000 := by
  have h1 := lag_le (after := st.after) (M := 1073741824) (ys.take n) fun x hx => by
    obtain ⟨w, w1, w2, w3, w4, w5⟩ := hQ.el x hx
    have := (hS.rng _ (hto w w2)).2
    have e : x.to.toNat = toN sites w := by rw [w3]; rfl
    rw [e]; omega
  have h2 : (ys.take n).length * 1073741824 ≤ 20000 * 1073741824 := Nat.mul_le_mul_right _ (by rw [List.length_take]; omega)
  omega
set_option maxHeartbeats 4000000 in
theorem plan_own (m : Mem) (L : List Item) (hh : HHier) (h : Hier) (hr : HierRep m hh h) (ss : Sl) (sizes : List Int) (hss : SlRep rInt m ss sizes) (budget most : Int) :
    TCall Try.prog 9 ⟨[hierV hh, ss.v, .int .i64 budget, .int .i64 most]⟩ m L (Made m L fun r m' => ∃ (tn ta : Sl) (o a : List Int), r = .tuple ⟨[tn.v, ta.v, .int .i64 (planE h sizes budget most)]⟩ ∧ SlRep rInt m' tn o ∧ SlRep rInt m' ta a ∧ PlanOut h sizes budget most o a) := by
  have h3 := hr.sites.len
  have hq3 := hr.sites.small rfl
  have hfu := hr.funcs
  have hsl := hss.len
  have hsq := hss.small rfl
  unfold TCall
  refine TCallX.enter Try.func9 rfl 170 rfl ?_
  repeat (first|refine q1 ?_|refine q3 ?_)
  refine TO.step rfl (OT.box rfl rfl rfl rfl rfl (fun b => ?_))
  repeat (first|(first|refine q1 ?_|refine q3 ?_|refine q4 tab rfl rfl ?_|refine q5 ?_|refine q6 ?_)|(refine qs rfl (qz tab 0 rfl rfl rfl rfl rfl rfl ?_)))
  refine TO.step rfl (OT.call rfl rfl rfl rfl rfl rfl goes15 ((recursive_own m _ hh h hr).x ?_));
  rintro _ m1 _ ⟨hm1, rfl, tr, rb, rfl, hrec⟩
  repeat (first|refine q1 ?_|refine q3 ?_|refine q4 tab rfl rfl ?_|refine q5 ?_|refine q6 ?_)
  refine TC.condN rfl (fun hb => ?_) (fun hb => ?_)
  · have h0 : soundM h ≠ 0 := by simpa using hb
    repeat (first|refine q1 ?_|refine q3 ?_|refine q4 tab rfl rfl ?_|refine q5 ?_|refine q6 ?_|refine q8 ?_|refine q15 ?_)
    have hE := (planE_s (sizes := sizes) (budget := budget) (most := most) h0)
    refine retQ_ret rfl (by repeat (first|exact List.Sublist.refl _|refine List.Sublist.cons _ ?_)) ⟨hm1, rfl, ⟨none, 0, 0⟩, ⟨none, 0, 0⟩, [], [], by rw [hE]; try rfl, SlRep.nil _ _, SlRep.nil _ _, planOut_bad (by rw [hE]; try (exact h0))⟩
  · have h0 : soundM h = 0 := by simpa using hb
    obtain ⟨hsm, hg⟩ := soundM_ok.1 h0
    obtain ⟨htr, hrl, hrp⟩ := hrec h0
    have hn := hg.funcs
    have hn2 := hsm.1
    have hsn := hsm.2.2.2
    have hr1 := hr.mono hm1
    have hss1 := hss.mono hm1
    repeat (first|(first|refine q1 ?_|refine q3 ?_|refine q4 tab rfl rfl ?_|refine q5 ?_|refine q6 ?_|refine q13 ?_)|(refine qs rfl (ql tab 0 rfl rfl rfl rfl rfl rfl ?_)))
    refine TC.condN rfl (fun hl => ?_) (fun hl => ?_)
    · skip
      repeat (first|refine q1 ?_|refine q3 ?_|refine q4 tab rfl rfl ?_|refine q5 ?_|refine q6 ?_|refine q8 ?_|refine q15 ?_)
      have hE := (planE_len (sizes := sizes) (budget := budget) (most := most) h0 (by omega))
      refine retQ_ret rfl (by repeat (first|exact List.Sublist.refl _|refine List.Sublist.cons _ ?_)) ⟨hm1, rfl, ⟨none, 0, 0⟩, ⟨none, 0, 0⟩, [], [], by rw [hE]; try rfl, SlRep.nil _ _, SlRep.nil _ _, planOut_bad (by rw [hE]; try (decide))⟩
    · have hlen : (sizes.length : Int) = h.funcs := by omega
      repeat (first|refine q1 ?_|refine q2 ?_|refine q3 ?_|refine q4 tab rfl rfl ?_|refine q5 ?_|refine q6 ?_|refine q13 ?_)
      refine TC.loopK (ι := Nat) [1, 2, 3, 4, 8, 9, 11, 35, 36] rfl (fun k => [(37, .int .i64 (k : Int))]) (fun _ => m1) (fun _ => .cells b 0 (hierC hh) :: L) (fun k => k ≤ sizes.length ∧ ∀ n ∈ sizes.take k, 1 ≤ n ∧ n ≤ 65536) (fun k => sizes.length - k) 0 (by repeat (first|exact trivial|refine And.intro rfl ?_)) rfl (by repeat (exact List.Sublist.refl _)) ⟨Nat.zero_le _, fun n hn => by simp at hn⟩ ?_
      rintro k ⟨hk, hI⟩
      repeat (first|refine q1 ?_|refine q3 ?_|refine q4 tab rfl rfl ?_|refine q5 ?_|refine q6 ?_)
      refine TC.condP rfl (fun hlt' => ?_) (fun hlt' => ?_)
      · have hlt : k < sizes.length := by omega
        have hx : sizes[k]? = some sizes[k] := by simp [hlt]
        have hxm := List.getElem_mem hlt
        have hxt : sizes.take (k + 1) = sizes.take k ++ [sizes[k]] := List.take_succ_eq_append_getElem hlt
        generalize sizes[k] = x at hx hxm hxt
        repeat (first|refine q1 ?_|refine q2 ?_|refine q3 ?_|refine q6 ?_|refine q13 ?_)
        refine TO.step rfl (OT.index tab rInt k hss1 rfl rfl rfl rfl rfl (by first | rfl | omega | (simp only; omega)) rfl hx ?_)
        rintro b2 i2 f2 hf2 hA2
        obtain rfl := (show f2 = x from hf2)
        (refine TO.step rfl (OT.loadA0 tab hA2 rfl rfl rfl rfl rfl ?_))
        repeat (first|refine q1 ?_|refine q3 ?_|refine q4 tab rfl rfl ?_|refine q5 ?_|refine q6 ?_)
        (refine TO.splitP rfl rfl (fun hc1 => ?_) (fun hc1 => ?_))
        · skip
          repeat (first|refine q1 ?_|refine q3 ?_|refine q4 tab rfl rfl ?_|refine q5 ?_|refine q6 ?_|refine q8 ?_|refine q9 ?_|refine q15 ?_|refine q16 rfl ?_)
          have hE := (planE_size (sizes := sizes) (budget := budget) (most := most) h0 hxm (.inl hc1))
          refine retQ_ret rfl (by repeat (first|exact List.Sublist.refl _|refine List.Sublist.cons _ ?_)) ⟨hm1, rfl, ⟨none, 0, 0⟩, ⟨none, 0, 0⟩, [], [], by rw [hE]; try rfl, SlRep.nil _ _, SlRep.nil _ _, planOut_bad (by rw [hE]; try (decide))⟩
        · repeat (first|refine q4 tab rfl rfl ?_|refine q5 ?_|refine q6 ?_)
          refine TC.condP rfl (fun hc2 => ?_) (fun hc2 => ?_)
          · skip
            repeat (first|refine q1 ?_|refine q3 ?_|refine q4 tab rfl rfl ?_|refine q5 ?_|refine q6 ?_|refine q8 ?_|refine q9 ?_|refine q15 ?_)
            have hE := (planE_size (sizes := sizes) (budget := budget) (most := most) h0 hxm (.inr hc2))
            refine retQ_ret rfl (by repeat (first|exact List.Sublist.refl _|refine List.Sublist.cons _ ?_)) ⟨hm1, rfl, ⟨none, 0, 0⟩, ⟨none, 0, 0⟩, [], [], by rw [hE]; try rfl, SlRep.nil _ _, SlRep.nil _ _, planOut_bad (by rw [hE]; try (decide))⟩
          · repeat (first|refine q3 ?_|refine q6 ?_|refine q7 ?_|refine q13 ?_)
            refine TO.step rfl (OT.arith (r' := ((k + 1 : Nat) : Int)) rfl rfl rfl rfl rfl rfl rfl (by omega) ?_)
            repeat (first|refine q4 tab rfl rfl ?_|refine q5 ?_|refine q6 ?_)
            refine ⟨k + 1, (by repeat (first|exact trivial|refine And.intro rfl ?_)), (by repeat (first|exact trivial|refine And.intro rfl ?_)), rfl, rfl, (by repeat (exact List.Sublist.refl _)), ⟨by omega, fun n hn => ?_⟩, by omega⟩
            rw [hxt] at hn
            rcases List.mem_append.1 hn with hn | hn
            · exact hI n hn
            · simp only [List.mem_singleton] at hn
              subst hn; omega
      · have hall : ∀ n ∈ sizes, 1 ≤ n ∧ n ≤ 65536 := fun n hn => hI n (by rw [List.take_of_length_le (by omega)]; exact hn)
        clear hI
        repeat (first|refine q1 ?_|refine q3 ?_|refine q4 tab rfl rfl ?_|refine q6 ?_|refine q10 ?_|refine q11 ?_|refine q14 ?_)
        (refine TO.splitP rfl rfl (fun hc1 => ?_) (fun hc1 => ?_))
        · skip
          repeat (first|refine q1 ?_|refine q3 ?_|refine q4 tab rfl rfl ?_|refine q5 ?_|refine q6 ?_|refine q8 ?_|refine q15 ?_|refine q16 rfl ?_)
          have hE := (planE_arg (sizes := sizes) (budget := budget) (most := most) h0 hlen hall (.inl hc1))
          refine retQ_ret rfl (by repeat (first|exact List.Sublist.refl _|refine List.Sublist.cons _ ?_)) ⟨hm1, rfl, ⟨none, 0, 0⟩, ⟨none, 0, 0⟩, [], [], by rw [hE]; try rfl, SlRep.nil _ _, SlRep.nil _ _, planOut_bad (by rw [hE]; try (decide))⟩
        · repeat (refine q4 tab rfl rfl ?_)
          (refine TO.splitP rfl rfl (fun hc2 => ?_) (fun hc2 => ?_))
          · skip
            repeat (first|refine q1 ?_|refine q3 ?_|refine q4 tab rfl rfl ?_|refine q5 ?_|refine q6 ?_|refine q8 ?_|refine q15 ?_|refine q16 rfl ?_)
            have hE := (planE_arg (sizes := sizes) (budget := budget) (most := most) h0 hlen hall (.inr (.inl hc2)))
            refine retQ_ret rfl (by repeat (first|exact List.Sublist.refl _|refine List.Sublist.cons _ ?_)) ⟨hm1, rfl, ⟨none, 0, 0⟩, ⟨none, 0, 0⟩, [], [], by rw [hE]; try rfl, SlRep.nil _ _, SlRep.nil _ _, planOut_bad (by rw [hE]; try (decide))⟩
          · repeat (refine q4 tab rfl rfl ?_)
            (refine TO.splitP rfl rfl (fun hc3 => ?_) (fun hc3 => ?_))
            · skip
              repeat (first|refine q1 ?_|refine q3 ?_|refine q4 tab rfl rfl ?_|refine q5 ?_|refine q6 ?_|refine q8 ?_|refine q15 ?_|refine q16 rfl ?_)
              have hE := (planE_arg (sizes := sizes) (budget := budget) (most := most) h0 hlen hall (.inr (.inr (.inl hc3))))
              refine retQ_ret rfl (by repeat (first|exact List.Sublist.refl _|refine List.Sublist.cons _ ?_)) ⟨hm1, rfl, ⟨none, 0, 0⟩, ⟨none, 0, 0⟩, [], [], by rw [hE]; try rfl, SlRep.nil _ _, SlRep.nil _ _, planOut_bad (by rw [hE]; try (decide))⟩
            · repeat (first|refine q4 tab rfl rfl ?_|refine q5 ?_|refine q6 ?_)
              refine TC.condP rfl (fun hc4 => ?_) (fun hc4 => ?_)
              · skip
                repeat (first|refine q1 ?_|refine q3 ?_|refine q4 tab rfl rfl ?_|refine q5 ?_|refine q6 ?_|refine q8 ?_|refine q15 ?_)
                have hE := (planE_arg (sizes := sizes) (budget := budget) (most := most) h0 hlen hall (.inr (.inr (.inr hc4))))
                refine retQ_ret rfl (by repeat (first|exact List.Sublist.refl _|refine List.Sublist.cons _ ?_)) ⟨hm1, rfl, ⟨none, 0, 0⟩, ⟨none, 0, 0⟩, [], [], by rw [hE]; try rfl, SlRep.nil _ _, SlRep.nil _ _, planOut_bad (by rw [hE]; try (decide))⟩
              · have hE := planE_ok (budget := budget) (most := most) h0 hlen hall (by omega)
                repeat (first|refine q1 ?_|refine q3 ?_|refine q4 tab rfl rfl ?_|refine q6 ?_|refine q13 ?_)
                refine TO.cells0 ?_
                refine TO.step rfl (OT.cloneI tab hss1 rfl rfl rfl rfl rfl rfl (fun sa ba hsa => ?_))
                repeat (first|refine q1 ?_|refine q3 ?_|refine q4 tab rfl rfl ?_|refine q5 ?_|refine q6 ?_)
                refine TO.step rfl (OT.alloc tab rfl rfl rfl rfl (fun bq => ?_))
                repeat (first|(first|refine q1 ?_|refine q2 ?_|refine q3 ?_|refine q4 tab rfl rfl ?_|refine q5 ?_|refine q6 ?_)|(refine qs rfl (ql tab 2 rfl rfl rfl rfl rfl rfl ?_)))
                refine TC.mcell0 ?_
                refine TC.perm (List.Perm.swap _ _ _) ?_
                refine TC.loopK (ι := Nat × Sl × List Wt) [1, 2, 3, 4, 8, 9, 11, 14, 66, 67] rfl (fun x => [(68, .int .i64 (x.1 : Int))]) (fun _ => m1) (fun x => .cells bq 0 [x.2.1.v] :: mcell x.2.1 (encs rWt x.2.2) :: .cells ba 0 (sizes.map (Value.int .i64)) :: .cells b 0 (hierC hh) :: L) (fun x => x.1 ≤ h.sites.length ∧ ORow x.2.1 x.2.2 ∧ x.2.2.take x.2.1.len = qOf h.sites sizes x.1) (fun x => h.sites.length - x.1) (0, ⟨none, 0, 0⟩, []) (by repeat (first|exact trivial|refine And.intro rfl ?_)) rfl (by repeat (exact List.Sublist.refl _)) ⟨Nat.zero_le _, ORow.nil, rfl⟩ ?_
                rintro ⟨k, s, hs⟩ ⟨hk, hM, hq⟩
                simp only at hk hM hq ⊢
                have hsl2 : s.len ≤ k := by
                  have h1 := congrArg List.length hq
                  have h2 := qOf_len h.sites sizes k
                  have h3 := hM.len
                  have h4 := hM.all
                  rw [List.length_take] at h1
                  omega
                repeat (first|refine q1 ?_|refine q3 ?_|refine q4 tab rfl rfl ?_|refine q5 ?_|refine q6 ?_)
                refine TC.condP rfl (fun hlt2' => ?_) (fun hlt2' => ?_)
                · have hlt2 : k < h.sites.length := by omega
                  have hx : h.sites[k]? = some h.sites[k] := by simp [hlt2]
                  have hsk := hg.sites _ (List.getElem_mem hlt2)
                  generalize h.sites[k] = s0 at hx hsk
                  have hsd := siteD_eq hx
                  have hto := site_to hsk
                  repeat (first|refine q1 ?_|refine q2 ?_|refine q3 ?_|refine q4 tab rfl rfl ?_|refine q6 ?_|refine q13 ?_)
                  refine TO.step rfl (OT.index tab rSite k hr1.sites rfl rfl rfl rfl rfl (by first | rfl | omega | (simp only; omega)) rfl hx ?_)
                  rintro b' i' s' hsx hA
                  obtain rfl := (show s' = s0 from hsx)
                  (refine TO.step rfl (OT.loadA0 tab hA rfl rfl rfl rfl rfl ?_))
                  refine TO.step rfl (OT.alloc tab rfl rfl rfl rfl (fun bc => ?_))
                  repeat (refine q4 tab rfl rfl ?_)
                  (refine TO.step rfl (OT.storeL0 tab 0 rfl rfl rfl rfl rfl rfl rfl rfl ?_))
                  repeat (first|(first|refine q1 ?_|refine q3 ?_|refine q4 tab rfl rfl ?_|refine q5 ?_|refine q6 ?_)|(refine qs rfl (ql tab 0 rfl rfl rfl rfl rfl rfl ?_)))
                  refine TC.condP rfl (fun hif => ?_) (fun hif => ?_)
                  · have htl : s'.to.toNat < sizes.length := by omega
                    have hxs : sizes[s'.to.toNat]? = some (at0 sizes s'.to.toNat) := by unfold at0; rw [List.getElem?_eq_getElem htl]; rfl
                    skip
                    refine TC.keepL (L' := .cells bc 0 (siteC s') :: .cells bq 0 [s.v] :: mcell s (encs rWt hs) :: .cells ba 0 (sizes.map (Value.int .i64)) :: .cells b 0 (hierC hh) :: L) rfl ?_
                    refine TC.draw [12] mixed 13 rfl [.cells bc 0 (siteC s'), .cells bq 0 [s.v]] (mcell s (encs rWt hs) :: .cells ba 0 (sizes.map (Value.int .i64)) :: .cells b 0 (hierC hh) :: L) (by first | exact List.Perm.refl _ | (rw [List.append_nil]; exact List.Perm.refl _)) ?_
                    (refine DO.loadL (k := 0) tab 0 1 (by repeat (first|exact Calm.ret|refine Calm.then ?_|refine Calm.block ?_)) (by kernel_rfl) (by kernel_rfl) rfl rfl rfl rfl rfl rfl rfl rfl ?_)
                    refine DO.pure tab (by repeat (first|exact Calm.ret|refine Calm.then ?_|refine Calm.block ?_)) (by kernel_rfl) [1, 2] (by kernel_rfl) rfl ?_
                    (refine DO.loadL tab 3 0 (by repeat (first|exact Calm.ret|refine Calm.then ?_|refine Calm.block ?_)) (by kernel_rfl) (by kernel_rfl) rfl rfl rfl rfl rfl rfl rfl rfl ?_)
                    refine DO.pure tab (by repeat (first|exact Calm.ret|refine Calm.then ?_|refine Calm.block ?_)) (by kernel_rfl) [4, 5] (by kernel_rfl) rfl ?_
                    (refine DO.loadL tab 6 0 (by repeat (first|exact Calm.ret|refine Calm.then ?_|refine Calm.block ?_)) (by kernel_rfl) (by kernel_rfl) rfl rfl rfl rfl rfl rfl rfl rfl ?_)
                    refine DO.index tab rInt 7 s'.to.toNat hss1 (by repeat (first|exact Calm.ret|refine Calm.then ?_|refine Calm.block ?_)) (by kernel_rfl) (by kernel_rfl) rfl rfl rfl rfl rfl rfl rfl (by first | rfl | omega) rfl hxs ?_
                    rintro b3 i3 v3 hv3 hA3; obtain rfl := (show v3 = at0 sizes s'.to.toNat from hv3)
                    (refine DO.loadA (k := 0) tab 8 hA3 (by repeat (first|exact Calm.ret|refine Calm.then ?_|refine Calm.block ?_)) (by kernel_rfl) (by kernel_rfl) rfl rfl rfl rfl rfl rfl rfl ?_)
                    refine DO.pure tab (by repeat (first|exact Calm.ret|refine Calm.then ?_|refine Calm.block ?_)) (by kernel_rfl) [9] (by kernel_rfl) rfl ?_
                    refine DO.run 10 rfl rfl (by kernel_rfl) rfl ?_
                    refine OT.lit tab rfl rfl rfl rfl (fun bl => ?_); refine ⟨Mem.le_refl _, .cells bl 0 (rWt.enc ⟨(k : Int), s'.to, at0 sizes s'.to.toNat⟩) :: mcell s (encs rWt hs) :: .cells ba 0 (sizes.map (Value.int .i64)) :: .cells b 0 (hierC hh) :: L, ?_, ?_⟩; · exact perm3
                    refine DO.run 11 rfl rfl (by kernel_rfl) rfl ?_
                    refine OT.perm (L' := .cells bl 0 (rWt.enc ⟨(k : Int), s'.to, at0 sizes s'.to.toNat⟩) :: mcell s (encs rWt hs) :: .cells bc 0 (siteC s') :: .cells bq 0 [s.v] :: .cells ba 0 (sizes.map (Value.int .i64)) :: .cells b 0 (hierC hh) :: L) perm4 ?_; obtain ⟨ei, e1, e2, e3, e4⟩ := qElem; refine OT.pushR tab rWt (z := ⟨0, 0, 0⟩) hM rfl rfl rfl rfl rfl e1 e1 e2 e3 (by decide) e4.1 (by rw [e4.2]; omega) (fun s2 hs2 g1 g2 g3 => ?_); refine ⟨Mem.le_refl _, mcell s2 (encs rWt hs2) :: .cells ba 0 (sizes.map (Value.int .i64)) :: .cells b 0 (hierC hh) :: L, ?_, ?_⟩; · exact perm5'
                    refine DO.tail ?_
                    refine DOt.run 12 rfl rfl (by kernel_rfl) rfl ?_
                    refine OT.storeL0 tab 1 rfl rfl rfl rfl rfl rfl rfl rfl ?_
                    refine DOt.nil (by kernel_rfl) ?_
                    rotate_left 1
                    repeat (first|refine q3 ?_|refine q6 ?_|refine q7 ?_)
                    refine TO.step rfl (OT.arith (r' := ((k + 1 : Nat) : Int)) rfl rfl rfl rfl rfl rfl rfl (by omega) ?_)
                    repeat (first|refine q4 tab rfl rfl ?_|refine q5 ?_|refine q6 ?_)
                    refine ⟨(k + 1, s2, hs2), (by repeat (first|exact trivial|refine And.intro rfl ?_)), (by repeat (first|exact trivial|refine And.intro rfl ?_)), rfl, rfl, (by repeat (first|exact List.Sublist.refl _|refine List.Sublist.cons _ ?_)), ⟨by simp only; omega, g1, ?_⟩, by simp only; omega⟩
                    simp only
                    rw [g2, g3, hq, qOf_in (by unfold isDir; rw [hsd]; exact decide_eq_true hif)]
                    unfold toN
                    rw [hsd]
                  · repeat (first|refine q3 ?_|refine q6 ?_|refine q7 ?_|refine q13 ?_)
                    refine TO.step rfl (OT.arith (r' := ((k + 1 : Nat) : Int)) rfl rfl rfl rfl rfl rfl rfl (by omega) ?_)
                    repeat (first|refine q4 tab rfl rfl ?_|refine q5 ?_|refine q6 ?_)
                    exact ⟨(k + 1, s, hs), (by repeat (first|exact trivial|refine And.intro rfl ?_)), (by repeat (first|exact trivial|refine And.intro rfl ?_)), rfl, rfl, (by repeat (first|exact List.Sublist.refl _|refine List.Sublist.cons _ ?_)), ⟨by simp only; omega, hM, by rw [qOf_out (by unfold isDir; rw [hsd]; exact decide_eq_false hif)]; exact hq⟩, by simp only; omega⟩
                · have hkl : k = h.sites.length := by omega
                  subst hkl
                  repeat (first|refine q1 ?_|refine q3 ?_|refine q6 ?_|refine q10 ?_|refine q11 ?_|refine q14 ?_)
                  refine TO.step rfl (OT.mkIface tab rfl rfl rfl rfl rfl ?_)
                  skip
                  refine TO.step rfl (OT.call rfl rfl rfl rfl rfl rfl goes16 ((hinit_law m1 _ bq s hs hM (by omega)).x ?_));
                  rintro _ _ _ ⟨rfl, hs2, hmix, hhf, rfl⟩
                  have hM2 := hM.mix hmix
                  repeat (first|refine q1 ?_|refine q2 ?_|refine q3 ?_|refine q4 tab rfl rfl ?_|refine q5 ?_|refine q6 ?_)
                  refine TC.grow0 (size := 1) ?_
                  refine TC.perm perm6 ?_
                  have hst0 : StOk sizes.length ⟨sizes, 0, []⟩ := ⟨rfl, fun i hi => by
                    have hm : at0 sizes i ∈ sizes := by unfold at0; rw [List.getElem?_eq_getElem hi]; exact List.getElem_mem hi
                    have := hall _ hm
                    simp only; omega, by simp only; omega⟩
                  have hqi0 : QI h.sites (hs2.take s.len) (directL h.sites) ⟨sizes, 0, []⟩ := (QI.start (n := sizes.length) (fun i hi _ => by
                    have hx : h.sites[i]? = some h.sites[i] := by simp [hi]
                    have := site_to (hg.sites _ (List.getElem_mem hi))
                    unfold toN
                    rw [siteD_eq hx]
                    omega) (fun i hi => (hst0.rng i hi).1)).permX (by rw [← hq]; exact hmix.perm)
                  refine TC.loopK (ι := PLS) [2, 3, 4, 9, 11, 14] rfl (fun x => [(8, x.so.v), (17, .int .i64 x.st.growth)]) (fun x => x.m) (fun x => .cells bq 0 [x.s.v] :: mcell x.s (encs rWt x.hs) :: tok x.so 1 :: .cells ba 0 (x.st.after.map (Value.int .i64)) :: .cells b 0 (hierC hh) :: L)
                    (fun x => m1 ≤ x.m ∧ Own x.so ∧ SlRep rInt x.m x.so x.st.out ∧ ORow x.s x.hs ∧ HF ltW x.hs x.s.len 0 ∧ QI h.sites (x.hs.take x.s.len) x.W x.st ∧ StOk sizes.length x.st ∧ x.st.out.length + x.s.len ≤ 20000 ∧ ∀ f, PlanR h.sites (againP h) budget most x.W x.st f → PlanR h.sites (againP h) budget most (directL h.sites) ⟨sizes, 0, []⟩ f)
                    (fun x => x.s.len * 50000000000000 + lag x.st.after (x.hs.take x.s.len)) ⟨⟨none, 0, 0⟩, m1, s, hs2, ⟨sizes, 0, []⟩, directL h.sites⟩ (by repeat (first|exact trivial|refine And.intro rfl ?_)) rfl (by repeat (exact List.Sublist.refl _)) ⟨Mem.le_refl _, .inl rfl, SlRep.nil _ _, hM2, hhf, hqi0, hst0, by simp only [List.length_nil]; omega, fun f hf => hf⟩ ?_
                  clear hqi0 hst0 hhf hM2 hmix hq hM
                  rintro ⟨so, m2, s, hs, st, W⟩ ⟨hm2, hoo, hso, hM, hhf, hQ, hS, hol, hP⟩
                  simp only at hm2 hoo hso hM hhf hQ hS hol hP ⊢
                  have hr2 := hr1.mono hm2
                  have htr2 := htr.mono hm2
                  repeat (first|(first|refine q1 ?_|refine q3 ?_)|(refine qs rfl (qz tab 0 rfl rfl rfl rfl rfl rfl ?_)))
                  refine TO.step rfl (OT.call rfl rfl rfl rfl rfl rfl goes17 ((qlen_law m2 _ s).x ?_));
                  rintro _ _ _ ⟨rfl, rfl, rfl⟩
                  repeat (first|refine q4 tab rfl rfl ?_|refine q5 ?_|refine q6 ?_)
                  refine TC.condP rfl (fun hz => ?_) (fun hz => ?_)
                  · obtain ⟨bb, hbb⟩ := hM.pos (by omega)
                    obtain ⟨n, hnn⟩ : ∃ n, s.len = n + 1 := ⟨s.len - 1, by omega⟩
                    obtain ⟨sa', sl', c⟩ := s
                    simp only at hnn hbb hol hz
                    subst hnn
                    cases hbb
                    have hMl := hM.len
                    have hMa := hM.all
                    simp only at hMl hMa hhf hQ
                    repeat (first|refine q1 ?_|refine q2 ?_|refine q3 ?_|refine q6 ?_|refine q13 ?_)
                    refine TO.step rfl (OT.mkIface tab rfl rfl rfl rfl rfl ?_)
                    refine TO.step rfl (OT.call rfl rfl rfl rfl rfl rfl goes18 ((hpop_law m2 _ bq bb n c hs (by omega) (by omega) (by omega) hhf).x ?_));
                    rintro _ _ _ ⟨rfl, rfl, ys, hyl, hyp, hyh, rfl⟩
                    have hmin : ∀ y ∈ hs.take (n + 1), ltW y (gk hs 0) = false := fun y hy => by
                      obtain ⟨i, hi⟩ := List.getElem?_of_mem hy
                      rw [List.getElem?_take] at hi
                      split at hi
                      · have := hhf.min ltW_ord ltW_irr i (by assumption)
                        rw [gk_get (by omega)] at hi
                        simp only [Option.some.injEq] at hi
                        rw [← hi]; exact this
                      · cases hi
                    have hx0 : gk hs 0 ∈ hs.take (n + 1) := hyp.mem_iff.1 (by simp)
                    generalize gk hs 0 = x0 at hyp hmin hx0
                    obtain ⟨w, w1, w2, w3, w4, w5⟩ := hQ.el x0 hx0
                    have hxw : h.sites[w]? = some h.sites[w] := by simp [w2]
                    have hskw := hg.sites _ (List.getElem_mem w2)
                    have hsdw := siteD_eq hxw
                    generalize h.sites[w] = sw0 at hxw hskw hsdw
                    have htow := site_to hskw
                    have hfrw := hskw.frm
                    have htN : toN h.sites w = sw0.to.toNat := by unfold toN; rw [hsdw]
                    have hfN : frN h.sites w = sw0.frm.toNat := by unfold frN; rw [hsdw]
                    rw [hsdw] at w3
                    rw [htN] at w5
                    obtain ⟨xn, xt, xs⟩ := x0
                    simp only at w1 w3 w4 w5
                    subst w1 w3
                    have hr1' := hS.rng sw0.to.toNat (by omega)
                    have hr2' := hS.rng sw0.frm.toNat (by omega)
                    have hSl := hS.len
                    obtain ⟨c2, rfl⟩ := hsa.pos (by omega)
                    have hMy : ORow ⟨some ⟨bb, 0, none⟩, n, c⟩ ys := ⟨by simp only; omega, by simp only; omega, .inr ⟨bb, rfl⟩⟩
                    skip
                    refine TO.step rfl (OT.assert tab rfl rfl rfl rfl rfl ?_)
                    refine TO.step rfl (OT.alloc tab rfl rfl rfl rfl (fun bx => ?_))
                    skip
                    (refine TO.step rfl (OT.storeL0 tab 0 rfl rfl rfl rfl rfl rfl rfl rfl ?_))
                    repeat (first|(first|refine q1 ?_|refine q3 ?_|refine q4 tab rfl rfl ?_|refine q5 ?_|refine q6 ?_)|(refine qs rfl (ql tab 0 rfl rfl rfl rfl rfl rfl ?_)))
                    refine TO.step rfl (OT.indexP (sz := 1) (n := sizes.length) (c := c2) tab sw0.to.toNat rfl rfl rfl rfl rfl (by simp only; omega) rfl (by omega) ?_)
                    refine TO.step rfl (OT.loadR tab 4 (at0_map (l := st.after) (k := sw0.to.toNat) (by omega)) rfl rfl rfl rfl rfl rfl ?_)
                    repeat (first|(first|refine q1 ?_|refine q3 ?_|refine q4 tab rfl rfl ?_|refine q5 ?_|refine q6 ?_)|(refine qs rfl (ql tab 0 rfl rfl rfl rfl rfl rfl ?_)))
                    refine TC.condN rfl (fun hne => ?_) (fun hne => ?_)
                    · have hne2 : xs < at0 st.after sw0.to.toNat := by
                        have : ¬ at0 st.after sw0.to.toNat = xs := by simpa using hne
                        omega
                      have hQ2 := hQ.stale hyp rfl w2 (by simp only; rw [hsdw]) (by rw [htN]; omega)
                      simp only [htN] at hQ2
                      repeat (first|refine q1 ?_|refine q3 ?_)
                      refine TO.step rfl (OT.mkIface tab rfl rfl rfl rfl rfl ?_)
                      repeat (first|(refine q4 tab rfl rfl ?_)|(refine qs rfl (ql tab 0 rfl rfl rfl rfl rfl rfl ?_)))
                      refine TO.step rfl (OT.mkIface tab rfl rfl rfl rfl rfl ?_)
                      refine TO.perm perm6 ?_
                      refine TO.step rfl (OT.call rfl rfl rfl rfl rfl rfl goes19 ((hpush_law m2 _ bq ⟨some ⟨bb, 0, none⟩, n, c⟩ ys ⟨(w : Int), sw0.to, at0 st.after sw0.to.toNat⟩ hMy (by simp only; omega) hyh).x ?_));
                      rintro _ _ _ ⟨rfl, s3, hs3, p1, p2, p3, p4, rfl⟩
                      simp only at p2 p3 p4
                      repeat (first|refine q5 ?_|refine q6 ?_|refine q10 ?_|refine q11 ?_|refine q14 ?_)
                      refine ⟨⟨so, m2, s3, hs3, st, W⟩, (by repeat (first|exact trivial|refine And.intro rfl ?_)), (by repeat (first|exact trivial|refine And.intro rfl ?_)), rfl, rfl, (by repeat (first|exact List.Sublist.refl _|refine List.Sublist.cons_cons _ ?_|refine List.Sublist.cons _ ?_)), ⟨hm2, hoo, hso, p1, by simp only [p2]; exact p4, by simp only [p2]; exact hQ2.permX p3, hS, by simp only; omega, hP⟩, ?_⟩
                      simp only [p2]
                      rw [lag_perm p3, ← lag_perm hyp, lag_app, lag_app]
                      simp only [lag, List.map_cons, List.map_nil, List.sum_cons, List.sum_nil]
                      omega
                    · have heq : at0 st.after sw0.to.toNat = xs := by simpa using hne
                      subst heq
                      have hBest := hQ.best hyp hmin rfl (by rw [htN])
                      have hAct := hS.act (sites := h.sites) (again := againP h) (budget := budget) (most := most) (i := w) (by omega) (by omega) (by omega) (by omega)
                      have hQ2 := hQ.rest hyp rfl hAct.2
                      have hP2 := fun f hf => hP f (.step hBest hf)
                      have hlagb : ∀ st' : PSt, StOk sizes.length st' → QI h.sites (ys.take n) (W.erase w) st' → n * 50000000000000 + lag st'.after (ys.take n) < (n + 1) * 50000000000000 + lag st.after (hs.take (n + 1)) := fun st' h1 h2 => by
                        have := lag_bound h1 h2 (n := n) (by omega) (fun i hi => by
                          have hxi : h.sites[i]? = some h.sites[i] := by simp [hi]
                          have := site_to (hg.sites _ (List.getElem_mem hi))
                          unfold toN
                          rw [siteD_eq hxi]; omega)
                        omega
                      repeat (first|(first|refine q1 ?_|refine q3 ?_|refine q4 tab rfl rfl ?_|refine q6 ?_|refine q13 ?_)|(first|refine qs rfl (ql tab 0 rfl rfl rfl rfl rfl rfl ?_)|refine qs rfl (ql tab 5 rfl rfl rfl rfl rfl rfl ?_)))
                      refine TO.step rfl (OT.index tab rSite w hr2.sites rfl rfl rfl rfl rfl (by first | rfl | omega | (simp only; omega)) rfl hxw ?_)
                      rintro b4 i4 s4 hs4 hA4
                      obtain rfl := (show s4 = sw0 from hs4)
                      repeat (refine q4 tab rfl rfl ?_)
                      (refine TO.step rfl (OT.loadA tab hA4 rfl rfl rfl rfl rfl ?_))
                      repeat (first|(first|refine q1 ?_|refine q3 ?_|refine q4 tab rfl rfl ?_|refine q5 ?_|refine q6 ?_)|(refine qs rfl (ql tab 0 rfl rfl rfl rfl rfl rfl ?_)))
                      refine TO.step rfl (OT.arith (r' := at0 st.after s4.to.toNat - 1) rfl rfl rfl rfl rfl rfl rfl (by omega) ?_)
                      repeat (first|(first|refine q1 ?_|refine q3 ?_|refine q4 tab rfl rfl ?_|refine q5 ?_|refine q6 ?_)|(refine qs rfl (ql tab 0 rfl rfl rfl rfl rfl rfl ?_)))
                      obtain ⟨rv, hxr⟩ : ∃ rv, rb[s4.to.toNat]? = some rv := ⟨rb[s4.to.toNat]'(by omega), by simp⟩
                      have hag : againP h s4.to = rv := by
                        rw [Bool.eq_iff_iff]
                        rw [againP_iff, ← hrp _ (by omega), hxr]
                        simp
                      refine TO.step rfl (OT.index tab rBool s4.to.toNat htr2 rfl rfl rfl rfl rfl (by first | rfl | omega | (simp only; omega)) rfl hxr ?_)
                      rintro b5 i5 rv' hrv hA5
                      obtain rfl := (show rv' = rv from hrv)
                      (refine TO.step rfl (OT.loadA0 tab hA5 rfl rfl rfl rfl rfl ?_))
                      cases rv' with
                      | true =>
                        have hno : okP h.sites (againP h) budget most st w = false := by unfold okP; rw [hsdw, hag]; rfl
                        rw [act_out _ _ hno] at hQ2 hP2
                        repeat (first|refine q4 tab rfl rfl ?_|refine q5 ?_|refine q6 ?_|refine q10 ?_|refine q11 ?_|refine q14 ?_|refine q16 rfl ?_)
                        exact ⟨⟨so, m2, ⟨some ⟨bb, 0, none⟩, n, c⟩, ys, st, W.erase w⟩, (by repeat (first|exact trivial|refine And.intro rfl ?_)), (by repeat (first|exact trivial|refine And.intro rfl ?_)), rfl, rfl, (by repeat (first|exact List.Sublist.refl _|refine List.Sublist.cons _ ?_)), ⟨hm2, hoo, hso, hMy, hyh, hQ2, hS, by simp only; omega, hP2⟩, hlagb st hS hQ2⟩
                      | false =>
                        repeat (first|(refine q4 tab rfl rfl ?_)|(refine qs rfl (ql tab 0 rfl rfl rfl rfl rfl rfl ?_)))
                        (refine TO.splitP rfl rfl (fun hc5 => ?_) (fun hc5 => ?_))
                        · skip
                          have hno : okP h.sites (againP h) budget most st w = false := by unfold okP; rw [hsdw, hag, decide_eq_true hc5]; rfl
                          rw [act_out _ _ hno] at hQ2 hP2
                          repeat (first|refine q4 tab rfl rfl ?_|refine q5 ?_|refine q6 ?_|refine q10 ?_|refine q11 ?_|refine q14 ?_|refine q16 rfl ?_)
                          exact ⟨⟨so, m2, ⟨some ⟨bb, 0, none⟩, n, c⟩, ys, st, W.erase w⟩, (by repeat (first|exact trivial|refine And.intro rfl ?_)), (by repeat (first|exact trivial|refine And.intro rfl ?_)), rfl, rfl, (by repeat (first|exact List.Sublist.refl _|refine List.Sublist.cons _ ?_)), ⟨hm2, hoo, hso, hMy, hyh, hQ2, hS, by simp only; omega, hP2⟩, hlagb st hS hQ2⟩
                        · repeat (refine q4 tab rfl rfl ?_)
                          refine TO.step rfl (OT.arith (r' := st.growth + (at0 st.after s4.to.toNat - 1)) rfl rfl rfl rfl rfl rfl rfl (by have := hS.gr; omega) ?_)
                          repeat (refine q4 tab rfl rfl ?_)
                          (refine TO.splitP rfl rfl (fun hc6 => ?_) (fun hc6 => ?_))
                          · skip
                            have hno : okP h.sites (againP h) budget most st w = false := by unfold okP; rw [hsdw, hag, htN, decide_eq_true hc6]; simp
                            rw [act_out _ _ hno] at hQ2 hP2
                            repeat (first|refine q4 tab rfl rfl ?_|refine q5 ?_|refine q6 ?_|refine q10 ?_|refine q11 ?_|refine q14 ?_|refine q16 rfl ?_)
                            exact ⟨⟨so, m2, ⟨some ⟨bb, 0, none⟩, n, c⟩, ys, st, W.erase w⟩, (by repeat (first|exact trivial|refine And.intro rfl ?_)), (by repeat (first|exact trivial|refine And.intro rfl ?_)), rfl, rfl, (by repeat (first|exact List.Sublist.refl _|refine List.Sublist.cons _ ?_)), ⟨hm2, hoo, hso, hMy, hyh, hQ2, hS, by simp only; omega, hP2⟩, hlagb st hS hQ2⟩
                          · repeat (refine q4 tab rfl rfl ?_)
                            refine TO.step rfl (OT.indexP (sz := 1) (n := sizes.length) (c := c2) tab s4.frm.toNat rfl rfl rfl rfl rfl (by omega) rfl (by omega) ?_)
                            refine TO.step rfl (OT.loadR tab 4 (at0_map (l := st.after) (k := s4.frm.toNat) (by omega)) rfl rfl rfl rfl rfl rfl ?_)
                            repeat (refine q4 tab rfl rfl ?_)
                            refine TO.step rfl (OT.arith (r' := at0 st.after s4.frm.toNat + (at0 st.after s4.to.toNat - 1)) rfl rfl rfl rfl rfl rfl rfl (by omega) ?_)
                            repeat (first|refine q4 tab rfl rfl ?_|refine q5 ?_|refine q6 ?_)
                            refine TC.condP rfl (fun hc7 => ?_) (fun hc7 => ?_)
                            · skip
                              have hno : okP h.sites (againP h) budget most st w = false := by unfold okP; rw [hsdw, hag, htN, hfN, decide_eq_true hc7]; simp
                              rw [act_out _ _ hno] at hQ2 hP2
                              repeat (first|refine q6 ?_|refine q10 ?_|refine q11 ?_|refine q14 ?_)
                              exact ⟨⟨so, m2, ⟨some ⟨bb, 0, none⟩, n, c⟩, ys, st, W.erase w⟩, (by repeat (first|exact trivial|refine And.intro rfl ?_)), (by repeat (first|exact trivial|refine And.intro rfl ?_)), rfl, rfl, (by repeat (first|exact List.Sublist.refl _|refine List.Sublist.cons _ ?_)), ⟨hm2, hoo, hso, hMy, hyh, hQ2, hS, by simp only; omega, hP2⟩, hlagb st hS hQ2⟩
                            · have hyes : okP h.sites (againP h) budget most st w = true := by
                                unfold okP
                                simp only at hc5
                                rw [hsdw, hag, htN, hfN, decide_eq_false hc5, decide_eq_false hc6, decide_eq_false hc7]
                                rfl
                              obtain ⟨hAct1, hAct2⟩ := hAct
                              rw [act_in _ _ hyes, htN, hfN] at hQ2 hP2 hAct1
                              have hgr' := hAct1.gr
                              simp only at hgr'
                              repeat (first|refine q1 ?_|refine q3 ?_|refine q4 tab rfl rfl ?_|refine q6 ?_|refine q13 ?_)
                              refine TO.step rfl (OT.indexP (sz := 1) (n := sizes.length) (c := c2) tab s4.frm.toNat rfl rfl rfl rfl rfl (by omega) rfl (by omega) ?_)
                              refine TO.step rfl (OT.loadR tab 4 (at0_map (l := st.after) (k := s4.frm.toNat) (by omega)) rfl rfl rfl rfl rfl rfl ?_)
                              repeat (refine q4 tab rfl rfl ?_)
                              refine TO.step rfl (OT.arith (r' := at0 st.after s4.frm.toNat + (at0 st.after s4.to.toNat - 1)) rfl rfl rfl rfl rfl rfl rfl (by omega) ?_)
                              refine TO.step rfl (OT.indexP (sz := 1) (n := sizes.length) (c := c2) tab s4.frm.toNat rfl rfl rfl rfl rfl (by omega) rfl (by omega) ?_)
                              refine TO.step rfl (OT.storeM (k := s4.frm.toNat) tab 4 (Value.int .i64) (at0 st.after s4.frm.toNat + (at0 st.after s4.to.toNat - 1)) rfl rfl rfl rfl rfl rfl rfl (by omega) ?_)
                              repeat (first|refine q1 ?_|refine q3 ?_|refine q4 tab rfl rfl ?_|refine q5 ?_|refine q6 ?_)
                              refine TO.step rfl (OT.arith (r' := st.growth + (at0 st.after s4.to.toNat - 1)) rfl rfl rfl rfl rfl rfl rfl (by omega) ?_)
                              repeat (first|(first|refine q3 ?_|refine q4 tab rfl rfl ?_|refine q5 ?_|refine q6 ?_)|(refine qs rfl (ql tab 0 rfl rfl rfl rfl rfl rfl ?_)))
                              refine TO.step rfl (OT.lit tab rfl rfl rfl rfl (fun bl => ?_))
                              refine TO.step rfl (OT.append1 tab rInt 3 (hd' := (w : Int)) (a := (w : Int)) hso hoo rfl rfl rfl rfl rfl rfl rfl rfl (by simp only [rInt]; omega) (fun so' m3 hm3 hso' hoo' => ?_))
                              repeat (first|refine q4 tab rfl rfl ?_|refine q5 ?_|refine q6 ?_|refine q7 ?_)
                              exact ⟨⟨so', m3, ⟨some ⟨bb, 0, none⟩, n, c⟩, ys, ⟨st.after.set s4.frm.toNat (at0 st.after s4.frm.toNat + (at0 st.after s4.to.toNat - 1)), st.growth + (at0 st.after s4.to.toNat - 1), st.out ++ [(w : Int)]⟩, W.erase w⟩, (by repeat (first|exact trivial|refine And.intro rfl ?_)), (by repeat (first|exact trivial|refine And.intro rfl ?_)), rfl, rfl, (by repeat (first|exact List.Sublist.refl _|refine List.Sublist.cons _ ?_)), ⟨Mem.le_trans hm2 hm3, hoo', hso', hMy, hyh, hQ2, hAct1, by simp only [List.length_append, List.length_singleton]; omega, hP2⟩, hlagb _ hAct1 hQ2⟩
                  · have hz0 : s.len = 0 := by omega
                    rw [hz0] at hQ
                    have hW := QI.nil hQ
                    subst hW
                    have hfin := planOut_ok hE (hP st (.done st))
                    repeat (first|refine q1 ?_|refine q6 ?_|refine q10 ?_|refine q11 ?_|refine q14 ?_)
                    refine TC.freezeAt 3 rfl (fun m3 hm3 hA => ?_)
                    repeat (first|refine q3 ?_|refine q4 tab rfl rfl ?_|refine q5 ?_|refine q6 ?_|refine q15 ?_)
                    refine retQ_ret rfl (by repeat (first|exact List.Sublist.refl _|refine List.Sublist.cons _ ?_)) ⟨Mem.le_trans hm1 (Mem.le_trans hm2 hm3), rfl, so, sa, st.out, st.after, by rw [hE], hso.mono hm3, IRow.rep (by rw [hS.len]; exact hsa) hA (by rw [hS.len]; omega), hfin⟩
end Go.Sep

/-
  The walk of the definition's Plan.
-/
set_option linter.unusedVariables false
set_option linter.unusedSimpArgs false
namespace Go.Sep
open Go.Proofs
attribute [local irreducible] TC TO OT TCallX TCall DO DOt thenQ blockQ retQ At
@[reducible] def rBls : R Sl (List Bool) := rSl rBool
structure RLS where
  so : Sl
  m : Mem
  lk : List Bool
  st : PSt
set_option maxHeartbeats 8000000 in
theorem plan_ref (m : Mem) (L : List Item) (hh : HHier) (h : Hier) (hr : HierRep m hh h) (ss : Sl) (sizes : List Int) (hss : SlRep rInt m ss sizes) (budget most : Int) :
    TCall Try.prog 10 ⟨[hierV hh, ss.v, .int .i64 budget, .int .i64 most]⟩ m L (Made m L fun r m' => ∃ (tn ta : Sl) (o a : List Int), r = .tuple ⟨[tn.v, ta.v, .int .i64 (planE h sizes budget most)]⟩ ∧ SlRep rInt m' tn o ∧ SlRep rInt m' ta a ∧ PlanOut h sizes budget most o a) := by
  have h3 := hr.sites.len
  have hq3 := hr.sites.small rfl
  have hfu := hr.funcs
  have hsl := hss.len
  have hsq := hss.small rfl
  unfold TCall
  refine TCallX.enter Try.func10 rfl 186 rfl ?_
  repeat (first|refine q1 ?_|refine q3 ?_)
  refine TO.step rfl (OT.box rfl rfl rfl rfl rfl (fun b => ?_))
  repeat (first|(first|refine q1 ?_|refine q3 ?_|refine q4 tab rfl rfl ?_|refine q5 ?_|refine q6 ?_)|(refine qs rfl (qz tab 0 rfl rfl rfl rfl rfl rfl ?_)))
  refine TO.step rfl (OT.call rfl rfl rfl rfl rfl rfl goes6 ((sound_ref m _ hh h hr).x ?_));
  rintro _ _ _ ⟨rfl, rfl, rfl⟩
  repeat (first|refine q1 ?_|refine q3 ?_|refine q4 tab rfl rfl ?_|refine q5 ?_|refine q6 ?_)
  refine TC.condN rfl (fun hb => ?_) (fun hb => ?_)
  · have h0 : soundM h ≠ 0 := by simpa using hb
    repeat (first|refine q1 ?_|refine q3 ?_|refine q4 tab rfl rfl ?_|refine q5 ?_|refine q6 ?_|refine q8 ?_|refine q15 ?_)
    have hE := (planE_s (sizes := sizes) (budget := budget) (most := most) h0)
    refine retQ_ret rfl (by repeat (first|exact List.Sublist.refl _|refine List.Sublist.cons _ ?_)) ⟨(Mem.le_refl _), rfl, ⟨none, 0, 0⟩, ⟨none, 0, 0⟩, [], [], by rw [hE]; try rfl, SlRep.nil _ _, SlRep.nil _ _, planOut_bad (by rw [hE]; try (exact h0))⟩
  · have h0 : soundM h = 0 := by simpa using hb
    obtain ⟨hsm, hg⟩ := soundM_ok.1 h0
    have hn := hg.funcs
    have hn2 := hsm.1
    have hsn := hsm.2.2.2
    repeat (first|(first|refine q1 ?_|refine q3 ?_|refine q4 tab rfl rfl ?_|refine q5 ?_|refine q6 ?_|refine q13 ?_)|(refine qs rfl (ql tab 0 rfl rfl rfl rfl rfl rfl ?_)))
    refine TC.condN rfl (fun hl => ?_) (fun hl => ?_)
    · skip
      repeat (first|refine q1 ?_|refine q3 ?_|refine q4 tab rfl rfl ?_|refine q5 ?_|refine q6 ?_|refine q8 ?_|refine q15 ?_)
      have hE := (planE_len (sizes := sizes) (budget := budget) (most := most) h0 (by omega))
      refine retQ_ret rfl (by repeat (first|exact List.Sublist.refl _|refine List.Sublist.cons _ ?_)) ⟨(Mem.le_refl _), rfl, ⟨none, 0, 0⟩, ⟨none, 0, 0⟩, [], [], by rw [hE]; try rfl, SlRep.nil _ _, SlRep.nil _ _, planOut_bad (by rw [hE]; try (decide))⟩
    · have hlen : (sizes.length : Int) = h.funcs := by omega
      repeat (first|refine q1 ?_|refine q2 ?_|refine q3 ?_|refine q4 tab rfl rfl ?_|refine q5 ?_|refine q6 ?_|refine q13 ?_)
      refine TC.loopK (ι := Nat) [1, 2, 3, 4, 8, 9] rfl (fun k => [(12, .int .i64 (k : Int))]) (fun _ => m) (fun _ => .cells b 0 (hierC hh) :: L) (fun k => k ≤ sizes.length ∧ ∀ n ∈ sizes.take k, 1 ≤ n ∧ n ≤ 65536) (fun k => sizes.length - k) 0 (by repeat (first|exact trivial|refine And.intro rfl ?_)) rfl (by repeat (exact List.Sublist.refl _)) ⟨Nat.zero_le _, fun n hn => by simp at hn⟩ ?_
      rintro k ⟨hk, hI⟩
      repeat (first|refine q1 ?_|refine q3 ?_|refine q4 tab rfl rfl ?_|refine q5 ?_|refine q6 ?_)
      refine TC.condP rfl (fun hlt' => ?_) (fun hlt' => ?_)
      · have hlt : k < sizes.length := by omega
        have hx : sizes[k]? = some sizes[k] := by simp [hlt]
        have hxm := List.getElem_mem hlt
        have hxt : sizes.take (k + 1) = sizes.take k ++ [sizes[k]] := List.take_succ_eq_append_getElem hlt
        generalize sizes[k] = x at hx hxm hxt
        repeat (first|refine q1 ?_|refine q2 ?_|refine q3 ?_|refine q4 tab rfl rfl ?_|refine q6 ?_|refine q13 ?_)
        refine TO.step rfl (OT.index tab rInt k hss rfl rfl rfl rfl rfl (by first | rfl | omega | (simp only; omega)) rfl hx ?_)
        rintro b2 i2 f2 hf2 hA2
        obtain rfl := (show f2 = x from hf2)
        (refine TO.step rfl (OT.loadA0 tab hA2 rfl rfl rfl rfl rfl ?_))
        repeat (refine q4 tab rfl rfl ?_)
        (refine TO.splitP rfl rfl (fun hc1 => ?_) (fun hc1 => ?_))
        · skip
          repeat (first|refine q1 ?_|refine q3 ?_|refine q4 tab rfl rfl ?_|refine q5 ?_|refine q6 ?_|refine q8 ?_|refine q9 ?_|refine q15 ?_|refine q16 rfl ?_)
          have hE := (planE_size (sizes := sizes) (budget := budget) (most := most) h0 hxm (.inl hc1))
          refine retQ_ret rfl (by repeat (first|exact List.Sublist.refl _|refine List.Sublist.cons _ ?_)) ⟨(Mem.le_refl _), rfl, ⟨none, 0, 0⟩, ⟨none, 0, 0⟩, [], [], by rw [hE]; try rfl, SlRep.nil _ _, SlRep.nil _ _, planOut_bad (by rw [hE]; try (decide))⟩
        · repeat (refine q4 tab rfl rfl ?_)
          refine TO.step rfl (OT.index tab rInt k hss rfl rfl rfl rfl rfl (by first | rfl | omega | (simp only; omega)) rfl hx ?_)
          rintro b3 i3 f3 hf3 hA3
          obtain rfl := (show f3 = f2 from hf3)
          (refine TO.step rfl (OT.loadA0 tab hA3 rfl rfl rfl rfl rfl ?_))
          repeat (first|refine q4 tab rfl rfl ?_|refine q5 ?_|refine q6 ?_)
          refine TC.condP rfl (fun hc2 => ?_) (fun hc2 => ?_)
          · skip
            repeat (first|refine q1 ?_|refine q3 ?_|refine q4 tab rfl rfl ?_|refine q5 ?_|refine q6 ?_|refine q8 ?_|refine q9 ?_|refine q15 ?_)
            have hE := (planE_size (sizes := sizes) (budget := budget) (most := most) h0 hxm (.inr hc2))
            refine retQ_ret rfl (by repeat (first|exact List.Sublist.refl _|refine List.Sublist.cons _ ?_)) ⟨(Mem.le_refl _), rfl, ⟨none, 0, 0⟩, ⟨none, 0, 0⟩, [], [], by rw [hE]; try rfl, SlRep.nil _ _, SlRep.nil _ _, planOut_bad (by rw [hE]; try (decide))⟩
          · repeat (first|refine q3 ?_|refine q4 tab rfl rfl ?_|refine q6 ?_|refine q7 ?_|refine q13 ?_)
            refine TO.step rfl (OT.arith (r' := ((k + 1 : Nat) : Int)) rfl rfl rfl rfl rfl rfl rfl (by omega) ?_)
            repeat (first|refine q4 tab rfl rfl ?_|refine q5 ?_|refine q6 ?_)
            refine ⟨k + 1, (by repeat (first|exact trivial|refine And.intro rfl ?_)), (by repeat (first|exact trivial|refine And.intro rfl ?_)), rfl, rfl, (by repeat (exact List.Sublist.refl _)), ⟨by omega, fun n hn => ?_⟩, by omega⟩
            rw [hxt] at hn
            rcases List.mem_append.1 hn with hn | hn
            · exact hI n hn
            · simp only [List.mem_singleton] at hn
              subst hn; omega
      · have hall : ∀ n ∈ sizes, 1 ≤ n ∧ n ≤ 65536 := fun n hn => hI n (by rw [List.take_of_length_le (by omega)]; exact hn)
        clear hI
        repeat (first|refine q1 ?_|refine q3 ?_|refine q4 tab rfl rfl ?_|refine q6 ?_|refine q10 ?_|refine q11 ?_|refine q14 ?_)
        (refine TO.splitP rfl rfl (fun hc1 => ?_) (fun hc1 => ?_))
        · skip
          repeat (first|refine q1 ?_|refine q3 ?_|refine q4 tab rfl rfl ?_|refine q5 ?_|refine q6 ?_|refine q8 ?_|refine q15 ?_|refine q16 rfl ?_)
          have hE := (planE_arg (sizes := sizes) (budget := budget) (most := most) h0 hlen hall (.inl hc1))
          refine retQ_ret rfl (by repeat (first|exact List.Sublist.refl _|refine List.Sublist.cons _ ?_)) ⟨(Mem.le_refl _), rfl, ⟨none, 0, 0⟩, ⟨none, 0, 0⟩, [], [], by rw [hE]; try rfl, SlRep.nil _ _, SlRep.nil _ _, planOut_bad (by rw [hE]; try (decide))⟩
        · repeat (refine q4 tab rfl rfl ?_)
          (refine TO.splitP rfl rfl (fun hc2 => ?_) (fun hc2 => ?_))
          · skip
            repeat (first|refine q1 ?_|refine q3 ?_|refine q4 tab rfl rfl ?_|refine q5 ?_|refine q6 ?_|refine q8 ?_|refine q15 ?_|refine q16 rfl ?_)
            have hE := (planE_arg (sizes := sizes) (budget := budget) (most := most) h0 hlen hall (.inr (.inl hc2)))
            refine retQ_ret rfl (by repeat (first|exact List.Sublist.refl _|refine List.Sublist.cons _ ?_)) ⟨(Mem.le_refl _), rfl, ⟨none, 0, 0⟩, ⟨none, 0, 0⟩, [], [], by rw [hE]; try rfl, SlRep.nil _ _, SlRep.nil _ _, planOut_bad (by rw [hE]; try (decide))⟩
          · repeat (refine q4 tab rfl rfl ?_)
            (refine TO.splitP rfl rfl (fun hc3 => ?_) (fun hc3 => ?_))
            · skip
              repeat (first|refine q1 ?_|refine q3 ?_|refine q4 tab rfl rfl ?_|refine q5 ?_|refine q6 ?_|refine q8 ?_|refine q15 ?_|refine q16 rfl ?_)
              have hE := (planE_arg (sizes := sizes) (budget := budget) (most := most) h0 hlen hall (.inr (.inr (.inl hc3))))
              refine retQ_ret rfl (by repeat (first|exact List.Sublist.refl _|refine List.Sublist.cons _ ?_)) ⟨(Mem.le_refl _), rfl, ⟨none, 0, 0⟩, ⟨none, 0, 0⟩, [], [], by rw [hE]; try rfl, SlRep.nil _ _, SlRep.nil _ _, planOut_bad (by rw [hE]; try (decide))⟩
            · repeat (first|refine q4 tab rfl rfl ?_|refine q5 ?_|refine q6 ?_)
              refine TC.condP rfl (fun hc4 => ?_) (fun hc4 => ?_)
              · skip
                repeat (first|refine q1 ?_|refine q3 ?_|refine q4 tab rfl rfl ?_|refine q5 ?_|refine q6 ?_|refine q8 ?_|refine q15 ?_)
                have hE := (planE_arg (sizes := sizes) (budget := budget) (most := most) h0 hlen hall (.inr (.inr (.inr hc4))))
                refine retQ_ret rfl (by repeat (first|exact List.Sublist.refl _|refine List.Sublist.cons _ ?_)) ⟨(Mem.le_refl _), rfl, ⟨none, 0, 0⟩, ⟨none, 0, 0⟩, [], [], by rw [hE]; try rfl, SlRep.nil _ _, SlRep.nil _ _, planOut_bad (by rw [hE]; try (decide))⟩
              · have hE := planE_ok (budget := budget) (most := most) h0 hlen hall (by omega)
                repeat (first|(first|refine q1 ?_|refine q3 ?_|refine q6 ?_|refine q13 ?_)|(refine qs rfl (qz tab 0 rfl rfl rfl rfl rfl rfl ?_)))
                refine TO.step rfl (OT.call rfl rfl rfl rfl rfl rfl goes12 ((closure_ref m _ hh h hr hsm hg).x ?_));
                rintro _ m1 _ ⟨hm1, rfl, tc, C, rfl, hC, hsq2, hCP⟩
                have hr1 := hr.mono hm1
                have hss1 := hss.mono hm1
                repeat (first|refine q1 ?_|refine q3 ?_|refine q4 tab rfl rfl ?_|refine q5 ?_|refine q6 ?_)
                refine TO.step rfl (OT.lit tab rfl rfl rfl rfl (fun bz => ?_))
                repeat (refine q4 tab rfl rfl ?_)
                refine TO.drop (L' := .cells b 0 (hierC hh) :: L) (List.sublist_cons_self _ _) ?_
                refine TO.cells0 ?_
                refine TO.step rfl (OT.cloneI tab hss1 rfl rfl rfl rfl rfl rfl (fun sa ba hsa => ?_))
                repeat (first|(first|refine q1 ?_|refine q3 ?_|refine q4 tab rfl rfl ?_|refine q5 ?_|refine q6 ?_)|(refine qs rfl (ql tab 1 rfl rfl rfl rfl rfl rfl ?_)))
                refine TO.step rfl (OT.makeM tab Value.bool false h.sites.length (by omega) rfl rfl rfl rfl rfl rfl rfl rfl (show h.sites.length * 1 ≤ 281474976710656 by omega) rfl (fun bl => ?_))
                repeat (first|refine q1 ?_|refine q3 ?_|refine q4 tab rfl rfl ?_|refine q5 ?_|refine q6 ?_)
                refine TO.step rfl (OT.lit tab rfl rfl rfl rfl (fun bo => ?_))
                repeat (first|refine q1 ?_|refine q2 ?_|refine q3 ?_|refine q4 tab rfl rfl ?_|refine q5 ?_|refine q6 ?_)
                refine TC.growL (size := 1) bo ?_
                have hst0 : StOk sizes.length ⟨sizes, 0, []⟩ := ⟨rfl, fun i hi => by
                  have hm : at0 sizes i ∈ sizes := by unfold at0; rw [List.getElem?_eq_getElem hi]; exact List.getElem_mem hi
                  have := hall _ hm
                  simp only; omega, by simp only; omega⟩
                have hdl : (refW h.sites (List.replicate h.sites.length false)).length ≤ 20000 := Nat.le_trans (List.length_filter_le _ _) (by simp; omega)
                refine TC.loopK (ι := RLS) [2, 3, 4, 13, 14, 15] rfl (fun x => [(16, x.so.v), (17, .int .i64 x.st.growth)]) (fun x => x.m) (fun x => tok x.so 1 :: .cells bl 0 (x.lk.map Value.bool) :: .cells ba 0 (x.st.after.map (Value.int .i64)) :: .cells b 0 (hierC hh) :: L)
                  (fun x => m1 ≤ x.m ∧ Own x.so ∧ SlRep rInt x.m x.so x.st.out ∧ x.lk.length = h.sites.length ∧ StOk sizes.length x.st ∧ x.st.out.length + (refW h.sites x.lk).length ≤ 20000 ∧ ∀ f, PlanR h.sites (againP h) budget most (refW h.sites x.lk) x.st f → PlanR h.sites (againP h) budget most (directL h.sites) ⟨sizes, 0, []⟩ f)
                  (fun x => (refW h.sites x.lk).length) ⟨⟨some ⟨bo, 0, none⟩, 0, 0⟩, m1, List.replicate h.sites.length false, ⟨sizes, 0, []⟩⟩ (by repeat (first|exact trivial|refine And.intro rfl ?_)) rfl (by repeat (first|exact List.Sublist.refl _|refine List.Sublist.cons_cons _ ?_|refine List.Sublist.cons _ ?_)) ⟨Mem.le_refl _, Own.lit _ _ _, SlRep.lit0 _ _ _, by simp, hst0, by simpa using hdl, fun f hf => by rw [refW_start] at hf; exact hf⟩ ?_
                clear hst0 hdl
                rintro ⟨so, m2, lk, st⟩ ⟨hm2, hoo, hso, hlk, hS, hol, hP⟩
                simp only at hm2 hoo hso hlk hS hol hP ⊢
                have hr2 := hr1.mono hm2
                have hC2 := hC.mono hm2
                have hSl := hS.len
                repeat (first|refine q1 ?_|refine q2 ?_|refine q3 ?_|refine q4 tab rfl rfl ?_|refine q5 ?_|refine q6 ?_)
                refine TC.loopK (ι := Nat × Int) [2, 3, 4, 13, 14, 15, 16, 17] rfl (fun x => [(19, .int .i64 (x.1 : Int)), (18, .int .i64 x.2)]) (fun _ => m2) (fun _ => tok so 1 :: .cells bl 0 (lk.map Value.bool) :: .cells ba 0 (st.after.map (Value.int .i64)) :: .cells b 0 (hierC hh) :: L) (fun x => x.1 ≤ h.sites.length ∧ Bst h.sites st.after lk x.1 x.2) (fun x => h.sites.length - x.1) (0, -1) (by repeat (first|exact trivial|refine And.intro rfl ?_)) rfl (by repeat (exact List.Sublist.refl _)) ⟨Nat.zero_le _, .none fun i hi => by omega⟩ ?_
                rintro ⟨i, best⟩ ⟨hi, hB⟩
                simp only at hi hB ⊢
                repeat (first|(first|refine q1 ?_|refine q3 ?_|refine q4 tab rfl rfl ?_|refine q5 ?_|refine q6 ?_)|(refine qs rfl (ql tab 3 rfl rfl rfl rfl rfl rfl ?_)))
                refine TC.condP rfl (fun hlt2' => ?_) (fun hlt2' => ?_)
                · have hlt2 : i < h.sites.length := by omega
                  have hx : h.sites[i]? = some h.sites[i] := by simp [hlt2]
                  have hsk := hg.sites _ (List.getElem_mem hlt2)
                  generalize h.sites[i] = s0 at hx hsk
                  have hsd := siteD_eq hx
                  have hto := site_to hsk
                  obtain ⟨c2, rfl⟩ := hsa.pos (by omega)
                  obtain ⟨lv, hlv⟩ : ∃ lv, lk[i]? = some lv := ⟨lk[i]'(by omega), by simp⟩
                  have hlkv : (lk.map Value.bool)[i]? = some (.bool lv) := by rw [List.getElem?_map, hlv]; rfl
                  have htoi : toN h.sites i = s0.to.toNat := by unfold toN; rw [hsd]
                  repeat (first|(first|refine q1 ?_|refine q2 ?_|refine q3 ?_|refine q4 tab rfl rfl ?_|refine q6 ?_|refine q13 ?_)|(refine qs rfl (ql tab 3 rfl rfl rfl rfl rfl rfl ?_)))
                  refine TO.step rfl (OT.index tab rSite i hr2.sites rfl rfl rfl rfl rfl (by first | rfl | omega | (simp only; omega)) rfl hx ?_)
                  rintro b' i' s' hsx hA
                  obtain rfl := (show s' = s0 from hsx)
                  (refine TO.step rfl (OT.loadA0 tab hA rfl rfl rfl rfl rfl ?_))
                  refine TO.step rfl (OT.alloc tab rfl rfl rfl rfl (fun bc => ?_))
                  skip
                  (refine TO.step rfl (OT.storeL0 tab 0 rfl rfl rfl rfl rfl rfl rfl rfl ?_))
                  repeat (first|refine q1 ?_|refine q5 ?_|refine q6 ?_)
                  refine TC.keepL (L' := .cells bc 0 (siteC s') :: tok so 1 :: .cells bl 0 (lk.map Value.bool) :: .cells ba 0 (st.after.map (Value.int .i64)) :: .cells b 0 (hierC hh) :: L) rfl ?_
                  generalize hBe : best = best' at hB
                  cases hB with
                  | none hno =>
                    subst hBe
                    have hB : Bst h.sites st.after lk i (-1) := .none hno
                    refine TC.draw [] mixed 31 rfl (.cells bc 0 (siteC s') :: tok so 1 :: .cells bl 0 (lk.map Value.bool) :: .cells ba 0 (st.after.map (Value.int .i64)) :: .cells b 0 (hierC hh) :: L) [] (by rw [List.append_nil]) ?_
                    refine DO.pure tab (by repeat (first|exact Calm.ret|refine Calm.then ?_|refine Calm.block ?_)) (by kernel_rfl) [0] (by kernel_rfl) rfl ?_
                    (refine DO.loadL tab 1 0 (by repeat (first|exact Calm.ret|refine Calm.then ?_|refine Calm.block ?_)) (by kernel_rfl) (by kernel_rfl) rfl rfl rfl rfl rfl rfl rfl rfl ?_)
                    refine DO.pure tab (by repeat (first|exact Calm.ret|refine Calm.then ?_|refine Calm.block ?_)) (by kernel_rfl) [2, 3] (by kernel_rfl) rfl ?_
                    (refine DO.splitP (d := 90) rfl (fun hg3 => ?_) (fun hg3 => ?_))
                    refine DO.pure tab (by repeat (first|exact Calm.ret|refine Calm.then ?_|refine Calm.block ?_)) (by kernel_rfl) [4, 5] (by kernel_rfl) rfl ?_
                    refine DO.indexP (sz := 1) (n := h.sites.length) tab 6 i (by repeat (first|exact Calm.ret|refine Calm.then ?_|refine Calm.block ?_)) (by kernel_rfl) (by kernel_rfl) rfl rfl rfl rfl rfl rfl rfl rfl rfl hlt2 ?_
                    refine DO.loadR tab 7 2 hlkv (by repeat (first|exact Calm.ret|refine Calm.then ?_|refine Calm.block ?_)) (by kernel_rfl) (by kernel_rfl) rfl rfl rfl rfl rfl rfl rfl rfl ?_
                    refine DO.pure tab (by repeat (first|exact Calm.ret|refine Calm.then ?_|refine Calm.block ?_)) (by kernel_rfl) [8, 9, 10] (by kernel_rfl) rfl ?_
                    (refine DO.split (d := 97) rfl (fun hg10 => ?_) (fun hg10 => ?_))
                    refine DO.pure tab (by repeat (first|exact Calm.ret|refine Calm.then ?_|refine Calm.block ?_)) (by kernel_rfl) [11, 12, 13] (by kernel_rfl) rfl ?_
                    (refine DO.splitP (d := 100) rfl (fun hg13 => ?_) (fun hg13 => ?_))
                    refine DO.pure tab (by repeat (first|exact Calm.ret|refine Calm.then ?_|refine Calm.block ?_)) (by kernel_rfl) [14, 15, 16, 17, 18, 19, 20, 21, 22, 23, 24, 25, 26, 27, 28, 29, 30] (by kernel_rfl) rfl ?_
                    (refine DO.nil0 (by kernel_rfl) ?_)
                    rotate_left 1
                    · first | (exfalso; omega) | exact absurd rfl hg13 | exact absurd (by assumption) hg13
                    refine DO.pure tab (by repeat (first|exact Calm.ret|refine Calm.then ?_|refine Calm.block ?_)) (by kernel_rfl) [11, 12, 13, 14, 15, 16, 17, 18, 19, 20, 21, 22, 23, 24, 25, 26, 27, 28, 29, 30] (by kernel_rfl) rfl ?_
                    (refine DO.nil0 (by kernel_rfl) ?_)
                    rotate_left 1
                    refine DO.pure tab (by repeat (first|exact Calm.ret|refine Calm.then ?_|refine Calm.block ?_)) (by kernel_rfl) [4, 5, 6, 7, 8, 9, 10, 11, 12, 13, 14, 15, 16, 17, 18, 19, 20, 21, 22, 23, 24, 25, 26, 27, 28, 29, 30] (by kernel_rfl) rfl ?_
                    (refine DO.nil0 (by kernel_rfl) ?_)
                    rotate_left 1
                    · have hc : cand h.sites lk i = true := by simp only [cand, isDir, hsd, hlv, Option.getD_some]; simp_all
                      repeat (first|refine q3 ?_|refine q4 tab rfl rfl ?_|refine q5 ?_|refine q6 ?_|refine q7 ?_|refine q16 rfl ?_)
                      refine TO.step rfl (OT.arith (r' := ((i + 1 : Nat) : Int)) rfl rfl rfl rfl rfl rfl rfl (by omega) ?_)
                      repeat (first|refine q4 tab rfl rfl ?_|refine q5 ?_|refine q6 ?_)
                      exact ⟨(i + 1, (i : Int)), (by repeat (first|exact trivial|refine And.intro rfl ?_)), (by repeat (first|exact trivial|refine And.intro rfl ?_)), rfl, rfl, (by repeat (first|exact List.Sublist.refl _|refine List.Sublist.cons _ ?_)), ⟨by simp only; omega, hB.take hc (fun b hb => by omega)⟩, by simp only; omega⟩
                    · have hc : cand h.sites lk i = false := by
                        simp only [cand, isDir, hsd, hlv, Option.getD_some]
                        simp_all
                        try (intro hneg; omega)
                      repeat (first|refine q3 ?_|refine q4 tab rfl rfl ?_|refine q6 ?_|refine q7 ?_|refine q13 ?_|refine q17 rfl ?_)
                      refine TO.step rfl (OT.arith (r' := ((i + 1 : Nat) : Int)) rfl rfl rfl rfl rfl rfl rfl (by omega) ?_)
                      repeat (first|refine q4 tab rfl rfl ?_|refine q5 ?_|refine q6 ?_)
                      exact ⟨(i + 1, -1), (by repeat (first|exact trivial|refine And.intro rfl ?_)), (by repeat (first|exact trivial|refine And.intro rfl ?_)), rfl, rfl, (by repeat (first|exact List.Sublist.refl _|refine List.Sublist.cons _ ?_)), ⟨by simp only; omega, hB.skip hc⟩, by simp only; omega⟩
                    · have hc : cand h.sites lk i = false := by
                        simp only [cand, isDir, hsd, hlv, Option.getD_some]
                        simp_all
                        try (intro hneg; omega)
                      repeat (first|refine q3 ?_|refine q4 tab rfl rfl ?_|refine q6 ?_|refine q7 ?_|refine q13 ?_|refine q17 rfl ?_)
                      refine TO.step rfl (OT.arith (r' := ((i + 1 : Nat) : Int)) rfl rfl rfl rfl rfl rfl rfl (by omega) ?_)
                      repeat (first|refine q4 tab rfl rfl ?_|refine q5 ?_|refine q6 ?_)
                      exact ⟨(i + 1, -1), (by repeat (first|exact trivial|refine And.intro rfl ?_)), (by repeat (first|exact trivial|refine And.intro rfl ?_)), rfl, rfl, (by repeat (first|exact List.Sublist.refl _|refine List.Sublist.cons _ ?_)), ⟨by simp only; omega, hB.skip hc⟩, by simp only; omega⟩
                  | some bn hbn hcb hbb =>
                    subst hBe
                    have hB : Bst h.sites st.after lk i (bn : Int) := .some bn hbn hcb hbb
                    have hxb : h.sites[bn]? = some h.sites[bn] := by simp [show bn < h.sites.length by omega]
                    have hskb := hg.sites _ (List.getElem_mem (show bn < h.sites.length by omega))
                    generalize h.sites[bn] = sb at hxb hskb
                    have htob := site_to hskb
                    have hsdb := siteD_eq hxb
                    refine TC.draw [] mixed 31 rfl (.cells bc 0 (siteC s') :: tok so 1 :: .cells bl 0 (lk.map Value.bool) :: .cells ba 0 (st.after.map (Value.int .i64)) :: .cells b 0 (hierC hh) :: L) [] (by rw [List.append_nil]) ?_
                    refine DO.pure tab (by repeat (first|exact Calm.ret|refine Calm.then ?_|refine Calm.block ?_)) (by kernel_rfl) [0] (by kernel_rfl) rfl ?_
                    (refine DO.loadL tab 1 0 (by repeat (first|exact Calm.ret|refine Calm.then ?_|refine Calm.block ?_)) (by kernel_rfl) (by kernel_rfl) rfl rfl rfl rfl rfl rfl rfl rfl ?_)
                    refine DO.pure tab (by repeat (first|exact Calm.ret|refine Calm.then ?_|refine Calm.block ?_)) (by kernel_rfl) [2, 3] (by kernel_rfl) rfl ?_
                    (refine DO.splitP (d := 90) rfl (fun hg3 => ?_) (fun hg3 => ?_))
                    refine DO.pure tab (by repeat (first|exact Calm.ret|refine Calm.then ?_|refine Calm.block ?_)) (by kernel_rfl) [4, 5] (by kernel_rfl) rfl ?_
                    refine DO.indexP (sz := 1) (n := h.sites.length) tab 6 i (by repeat (first|exact Calm.ret|refine Calm.then ?_|refine Calm.block ?_)) (by kernel_rfl) (by kernel_rfl) rfl rfl rfl rfl rfl rfl rfl rfl rfl hlt2 ?_
                    refine DO.loadR tab 7 2 hlkv (by repeat (first|exact Calm.ret|refine Calm.then ?_|refine Calm.block ?_)) (by kernel_rfl) (by kernel_rfl) rfl rfl rfl rfl rfl rfl rfl rfl ?_
                    refine DO.pure tab (by repeat (first|exact Calm.ret|refine Calm.then ?_|refine Calm.block ?_)) (by kernel_rfl) [8, 9, 10] (by kernel_rfl) rfl ?_
                    (refine DO.split (d := 97) rfl (fun hg10 => ?_) (fun hg10 => ?_))
                    refine DO.pure tab (by repeat (first|exact Calm.ret|refine Calm.then ?_|refine Calm.block ?_)) (by kernel_rfl) [11, 12, 13] (by kernel_rfl) rfl ?_
                    (refine DO.splitP (d := 100) rfl (fun hg13 => ?_) (fun hg13 => ?_))
                    · first | (exfalso; omega) | exact absurd rfl hg13 | exact absurd (by assumption) hg13
                    refine DO.pure tab (by repeat (first|exact Calm.ret|refine Calm.then ?_|refine Calm.block ?_)) (by kernel_rfl) [14, 15] (by kernel_rfl) rfl ?_
                    (refine DO.loadL tab 16 0 (by repeat (first|exact Calm.ret|refine Calm.then ?_|refine Calm.block ?_)) (by kernel_rfl) (by kernel_rfl) rfl rfl rfl rfl rfl rfl rfl rfl ?_)
                    refine DO.indexP (sz := 1) (n := sizes.length) (c := c2) tab 17 s'.to.toNat (by repeat (first|exact Calm.ret|refine Calm.then ?_|refine Calm.block ?_)) (by kernel_rfl) (by kernel_rfl) rfl rfl rfl rfl rfl rfl rfl (by omega) rfl (by omega) ?_
                    refine DO.loadR tab 18 3 (at0_map (l := st.after) (k := s'.to.toNat) (by omega)) (by repeat (first|exact Calm.ret|refine Calm.then ?_|refine Calm.block ?_)) (by kernel_rfl) (by kernel_rfl) rfl rfl rfl rfl rfl rfl rfl rfl ?_
                    refine DO.pure tab (by repeat (first|exact Calm.ret|refine Calm.then ?_|refine Calm.block ?_)) (by kernel_rfl) [19, 20] (by kernel_rfl) rfl ?_
                    (refine DO.loadL tab 21 4 (by repeat (first|exact Calm.ret|refine Calm.then ?_|refine Calm.block ?_)) (by kernel_rfl) (by kernel_rfl) rfl rfl rfl rfl rfl rfl rfl rfl ?_)
                    refine DO.pure tab (by repeat (first|exact Calm.ret|refine Calm.then ?_|refine Calm.block ?_)) (by kernel_rfl) [22] (by kernel_rfl) rfl ?_
                    refine DO.index tab rSite 23 bn hr2.sites (by repeat (first|exact Calm.ret|refine Calm.then ?_|refine Calm.block ?_)) (by kernel_rfl) (by kernel_rfl) rfl rfl rfl rfl rfl rfl rfl (by first | rfl | omega) rfl hxb ?_
                    rintro b6 i6 s6 hs6 hA6; obtain rfl := (show s6 = sb from hs6)
                    refine DO.pure tab (by repeat (first|exact Calm.ret|refine Calm.then ?_|refine Calm.block ?_)) (by kernel_rfl) [24] (by kernel_rfl) rfl ?_
                    (refine DO.loadA tab 25 hA6 (by repeat (first|exact Calm.ret|refine Calm.then ?_|refine Calm.block ?_)) (by kernel_rfl) (by kernel_rfl) rfl rfl rfl rfl rfl rfl rfl ?_)
                    refine DO.indexP (sz := 1) (n := sizes.length) (c := c2) tab 26 s6.to.toNat (by repeat (first|exact Calm.ret|refine Calm.then ?_|refine Calm.block ?_)) (by kernel_rfl) (by kernel_rfl) rfl rfl rfl rfl rfl rfl rfl (by omega) rfl (by omega) ?_
                    refine DO.loadR tab 27 3 (at0_map (l := st.after) (k := s6.to.toNat) (by omega)) (by repeat (first|exact Calm.ret|refine Calm.then ?_|refine Calm.block ?_)) (by kernel_rfl) (by kernel_rfl) rfl rfl rfl rfl rfl rfl rfl rfl ?_
                    refine DO.pure tab (by repeat (first|exact Calm.ret|refine Calm.then ?_|refine Calm.block ?_)) (by kernel_rfl) [28, 29, 30] (by kernel_rfl) rfl ?_
                    (refine DO.nil0 (by kernel_rfl) ?_)
                    rotate_left 1
                    refine DO.pure tab (by repeat (first|exact Calm.ret|refine Calm.then ?_|refine Calm.block ?_)) (by kernel_rfl) [11, 12, 13, 14, 15, 16, 17, 18, 19, 20, 21, 22, 23, 24, 25, 26, 27, 28, 29, 30] (by kernel_rfl) rfl ?_
                    (refine DO.nil0 (by kernel_rfl) ?_)
                    rotate_left 1
                    refine DO.pure tab (by repeat (first|exact Calm.ret|refine Calm.then ?_|refine Calm.block ?_)) (by kernel_rfl) [4, 5, 6, 7, 8, 9, 10, 11, 12, 13, 14, 15, 16, 17, 18, 19, 20, 21, 22, 23, 24, 25, 26, 27, 28, 29, 30] (by kernel_rfl) rfl ?_
                    (refine DO.nil0 (by kernel_rfl) ?_)
                    rotate_left 1
                    · have hc : cand h.sites lk i = true := by simp only [cand, isDir, hsd, hlv, Option.getD_some]; simp_all
                      have htob2 : toN h.sites bn = s6.to.toNat := by unfold toN; rw [hsdb]
                      repeat (refine q6 ?_)
                      refine TC.condP rfl (fun hlo => ?_) (fun hlo => ?_)
                      · have htk : ∀ b : Nat, (bn : Int) = (b : Int) → at0 st.after (toN h.sites i) < at0 st.after (toN h.sites b) := fun b hb => by
                          obtain rfl : bn = b := by omega
                          rw [htoi, htob2]; exact hlo
                        repeat (first|refine q3 ?_|refine q4 tab rfl rfl ?_|refine q5 ?_|refine q6 ?_|refine q7 ?_)
                        refine TO.step rfl (OT.arith (r' := ((i + 1 : Nat) : Int)) rfl rfl rfl rfl rfl rfl rfl (by omega) ?_)
                        repeat (first|refine q4 tab rfl rfl ?_|refine q5 ?_|refine q6 ?_)
                        exact ⟨(i + 1, (i : Int)), (by repeat (first|exact trivial|refine And.intro rfl ?_)), (by repeat (first|exact trivial|refine And.intro rfl ?_)), rfl, rfl, (by repeat (first|exact List.Sublist.refl _|refine List.Sublist.cons _ ?_)), ⟨by simp only; omega, hB.take hc htk⟩, by simp only; omega⟩
                      · repeat (first|refine q3 ?_|refine q4 tab rfl rfl ?_|refine q6 ?_|refine q7 ?_|refine q13 ?_)
                        refine TO.step rfl (OT.arith (r' := ((i + 1 : Nat) : Int)) rfl rfl rfl rfl rfl rfl rfl (by omega) ?_)
                        repeat (first|refine q4 tab rfl rfl ?_|refine q5 ?_|refine q6 ?_)
                        exact ⟨(i + 1, (bn : Int)), (by repeat (first|exact trivial|refine And.intro rfl ?_)), (by repeat (first|exact trivial|refine And.intro rfl ?_)), rfl, rfl, (by repeat (first|exact List.Sublist.refl _|refine List.Sublist.cons _ ?_)), ⟨by simp only; omega, hB.stay (by rw [htoi, htob2]; exact hlo)⟩, by simp only; omega⟩
                    · have hc : cand h.sites lk i = false := by
                        simp only [cand, isDir, hsd, hlv, Option.getD_some]
                        simp_all
                        try (intro hneg; omega)
                      repeat (first|refine q3 ?_|refine q4 tab rfl rfl ?_|refine q6 ?_|refine q7 ?_|refine q13 ?_|refine q17 rfl ?_)
                      refine TO.step rfl (OT.arith (r' := ((i + 1 : Nat) : Int)) rfl rfl rfl rfl rfl rfl rfl (by omega) ?_)
                      repeat (first|refine q4 tab rfl rfl ?_|refine q5 ?_|refine q6 ?_)
                      exact ⟨(i + 1, (bn : Int)), (by repeat (first|exact trivial|refine And.intro rfl ?_)), (by repeat (first|exact trivial|refine And.intro rfl ?_)), rfl, rfl, (by repeat (first|exact List.Sublist.refl _|refine List.Sublist.cons _ ?_)), ⟨by simp only; omega, hB.skip hc⟩, by simp only; omega⟩
                    · have hc : cand h.sites lk i = false := by
                        simp only [cand, isDir, hsd, hlv, Option.getD_some]
                        simp_all
                        try (intro hneg; omega)
                      repeat (first|refine q3 ?_|refine q4 tab rfl rfl ?_|refine q6 ?_|refine q7 ?_|refine q13 ?_|refine q17 rfl ?_)
                      refine TO.step rfl (OT.arith (r' := ((i + 1 : Nat) : Int)) rfl rfl rfl rfl rfl rfl rfl (by omega) ?_)
                      repeat (first|refine q4 tab rfl rfl ?_|refine q5 ?_|refine q6 ?_)
                      exact ⟨(i + 1, (bn : Int)), (by repeat (first|exact trivial|refine And.intro rfl ?_)), (by repeat (first|exact trivial|refine And.intro rfl ?_)), rfl, rfl, (by repeat (first|exact List.Sublist.refl _|refine List.Sublist.cons _ ?_)), ⟨by simp only; omega, hB.skip hc⟩, by simp only; omega⟩
                · have hil : i = h.sites.length := by omega
                  subst hil
                  repeat (first|refine q1 ?_|refine q3 ?_|refine q4 tab rfl rfl ?_|refine q5 ?_|refine q6 ?_|refine q10 ?_|refine q11 ?_|refine q14 ?_)
                  generalize hBe : best = best' at hB
                  cases hB with
                  | none hno =>
                    have hB : Bst h.sites st.after lk h.sites.length (-1) := .none hno
                    have hW := hB.empty
                    rw [hW] at hP
                    have hfin := planOut_ok hE (hP st (.done st))
                    subst hBe
                    repeat (first|refine q1 ?_|refine q16 rfl ?_)
                    refine TC.freezeAt 2 rfl (fun m3 hm3 hA => ?_)
                    repeat (first|refine q3 ?_|refine q4 tab rfl rfl ?_|refine q5 ?_|refine q6 ?_|refine q8 ?_|refine q9 ?_|refine q15 ?_)
                    refine retQ_ret rfl (by repeat (first|exact List.Sublist.refl _|refine List.Sublist.cons _ ?_)) ⟨Mem.le_trans hm1 (Mem.le_trans hm2 hm3), rfl, so, sa, st.out, st.after, by rw [hE], hso.mono hm3, IRow.rep (by rw [hS.len]; exact hsa) hA (by rw [hS.len]; omega), hfin⟩
                  | some w hbn hcb hbb =>
                    subst hBe
                    obtain ⟨hBest, hwl, hcw⟩ := Bst.best (growth := st.growth) (out := st.out) (.some w hbn hcb hbb)
                    have hBest : IsBest h.sites st (refW h.sites lk) w := hBest
                    have hxw : h.sites[w]? = some h.sites[w] := by simp [hwl]
                    have hskw := hg.sites _ (List.getElem_mem hwl)
                    have hsdw := siteD_eq hxw
                    generalize h.sites[w] = sw0 at hxw hskw hsdw
                    have htow := site_to hskw
                    have hfrw := hskw.frm
                    have htN : toN h.sites w = sw0.to.toNat := by unfold toN; rw [hsdw]
                    have hfN : frN h.sites w = sw0.frm.toNat := by unfold frN; rw [hsdw]
                    have hr1' := hS.rng sw0.to.toNat (by omega)
                    have hr2' := hS.rng sw0.frm.toNat (by omega)
                    obtain ⟨c2, rfl⟩ := hsa.pos (by omega)
                    have hAct := hS.act (sites := h.sites) (again := againP h) (budget := budget) (most := most) (i := w) (by omega) (by omega) (by omega) (by omega)
                    have hP2 := fun f hf => hP f (.step hBest hf)
                    have hWl : ((refW h.sites lk).erase w).length + 1 = (refW h.sites lk).length := by
                      rw [List.length_erase_of_mem hBest.1]
                      have := List.length_pos_of_mem hBest.1
                      omega
                    rw [refW_erase (by omega)] at hWl hP2
                    have hnb : decide (((w : Nat) : Int) < 0) = false := decide_eq_false (by omega)
                    simp only [hnb]
                    repeat (first|refine q1 ?_|refine q3 ?_|refine q4 tab rfl rfl ?_|refine q6 ?_|refine q13 ?_|refine q17 rfl ?_)
                    refine TO.step rfl (OT.indexP (sz := 1) (n := h.sites.length) tab w rfl rfl rfl rfl rfl rfl rfl hwl ?_)
                    refine TO.step rfl (OT.storeM (k := w) tab 1 Value.bool true rfl rfl rfl rfl rfl rfl rfl (by omega) ?_)
                    repeat (first|(first|refine q1 ?_|refine q3 ?_|refine q4 tab rfl rfl ?_|refine q5 ?_|refine q6 ?_)|(refine qs rfl (ql tab 3 rfl rfl rfl rfl rfl rfl ?_)))
                    refine TO.step rfl (OT.index tab rSite w hr2.sites rfl rfl rfl rfl rfl (by first | rfl | omega | (simp only; omega)) rfl hxw ?_)
                    rintro b4 i4 s4 hs4 hA4
                    obtain rfl := (show s4 = sw0 from hs4)
                    (refine TO.step rfl (OT.loadA0 tab hA4 rfl rfl rfl rfl rfl ?_))
                    refine TO.step rfl (OT.alloc tab rfl rfl rfl rfl (fun bd => ?_))
                    skip
                    (refine TO.step rfl (OT.storeL0 tab 0 rfl rfl rfl rfl rfl rfl rfl rfl ?_))
                    repeat (first|(first|refine q1 ?_|refine q3 ?_|refine q4 tab rfl rfl ?_|refine q5 ?_|refine q6 ?_)|(refine qs rfl (ql tab 0 rfl rfl rfl rfl rfl rfl ?_)))
                    refine TO.step rfl (OT.indexP (sz := 1) (n := sizes.length) (c := c2) tab s4.to.toNat rfl rfl rfl rfl rfl (by omega) rfl (by omega) ?_)
                    refine TO.step rfl (OT.loadR tab 3 (at0_map (l := st.after) (k := s4.to.toNat) (by omega)) rfl rfl rfl rfl rfl rfl ?_)
                    refine TO.step rfl (OT.arith (r' := at0 st.after s4.to.toNat - 1) rfl rfl rfl rfl rfl rfl rfl (by omega) ?_)
                    repeat (first|refine q1 ?_|refine q4 tab rfl rfl ?_|refine q5 ?_|refine q6 ?_)
                    refine TC.keepL (L' := .cells bd 0 (siteC s4) :: tok so 1 :: .cells bl 0 ((lk.set w true).map Value.bool) :: .cells ba 0 (st.after.map (Value.int .i64)) :: .cells b 0 (hierC hh) :: L) rfl ?_
                    obtain ⟨row, hxr, hrl, hxb⟩ := hsq2.get (i := s4.to.toNat) (j := s4.to.toNat) (by omega) (by omega)
                    have hag : againP h s4.to = cat C s4.to.toNat s4.to.toNat := by
                      rw [Bool.eq_iff_iff, againP_iff, hCP _ _ (by omega) (by omega)]
                    generalize cat C s4.to.toNat s4.to.toNat = rv at hag hxb
                    have hgr := hS.gr
                    refine TC.draw [] mixed 34 rfl (.cells bd 0 (siteC s4) :: tok so 1 :: .cells bl 0 ((lk.set w true).map Value.bool) :: .cells ba 0 (st.after.map (Value.int .i64)) :: .cells b 0 (hierC hh) :: L) [] (by rw [List.append_nil]) ?_
                    refine DO.pure tab (by repeat (first|exact Calm.ret|refine Calm.then ?_|refine Calm.block ?_)) (by kernel_rfl) [0, 1] (by kernel_rfl) rfl ?_
                    (refine DO.loadL tab 2 0 (by repeat (first|exact Calm.ret|refine Calm.then ?_|refine Calm.block ?_)) (by kernel_rfl) (by kernel_rfl) rfl rfl rfl rfl rfl rfl rfl rfl ?_)
                    refine DO.index tab rBls 3 s4.to.toNat hC2 (by repeat (first|exact Calm.ret|refine Calm.then ?_|refine Calm.block ?_)) (by kernel_rfl) (by kernel_rfl) rfl rfl rfl rfl rfl rfl rfl (by first | rfl | omega) rfl hxr ?_
                    rintro b5 i5 hd5 hrd5 hA5; have hrow : SlRep rBool m2 hd5 row := hrd5
                    (refine DO.loadA (k := 0) tab 4 hA5 (by repeat (first|exact Calm.ret|refine Calm.then ?_|refine Calm.block ?_)) (by kernel_rfl) (by kernel_rfl) rfl rfl rfl rfl rfl rfl rfl ?_)
                    refine DO.pure tab (by repeat (first|exact Calm.ret|refine Calm.then ?_|refine Calm.block ?_)) (by kernel_rfl) [5] (by kernel_rfl) rfl ?_
                    (refine DO.loadL tab 6 0 (by repeat (first|exact Calm.ret|refine Calm.then ?_|refine Calm.block ?_)) (by kernel_rfl) (by kernel_rfl) rfl rfl rfl rfl rfl rfl rfl rfl ?_)
                    refine DO.index tab rBool 7 s4.to.toNat hrow (by repeat (first|exact Calm.ret|refine Calm.then ?_|refine Calm.block ?_)) (by kernel_rfl) (by kernel_rfl) rfl rfl rfl rfl rfl rfl rfl (by first | rfl | omega) rfl hxb ?_
                    rintro b6 i6 rv' hrv hA6; obtain rfl := (show rv' = rv from hrv)
                    (refine DO.loadA (k := 0) tab 8 hA6 (by repeat (first|exact Calm.ret|refine Calm.then ?_|refine Calm.block ?_)) (by kernel_rfl) (by kernel_rfl) rfl rfl rfl rfl rfl rfl rfl ?_)
                    refine DO.pure tab (by repeat (first|exact Calm.ret|refine Calm.then ?_|refine Calm.block ?_)) (by kernel_rfl) [9] (by kernel_rfl) rfl ?_
                    (refine DO.split (d := 146) rfl (fun hg9 => ?_) (fun hg9 => ?_))
                    refine DO.pure tab (by repeat (first|exact Calm.ret|refine Calm.then ?_|refine Calm.block ?_)) (by kernel_rfl) [10, 11, 12, 13, 14, 15, 16, 17, 18, 19, 20, 21, 22, 23, 24, 25, 26, 27, 28, 29, 30, 31, 32, 33] (by kernel_rfl) rfl ?_
                    (refine DO.nil0 (by kernel_rfl) ?_)
                    rotate_left 1
                    refine DO.pure tab (by repeat (first|exact Calm.ret|refine Calm.then ?_|refine Calm.block ?_)) (by kernel_rfl) [10] (by kernel_rfl) rfl ?_
                    (refine DO.loadL tab 11 0 (by repeat (first|exact Calm.ret|refine Calm.then ?_|refine Calm.block ?_)) (by kernel_rfl) (by kernel_rfl) rfl rfl rfl rfl rfl rfl rfl rfl ?_)
                    refine DO.pure tab (by repeat (first|exact Calm.ret|refine Calm.then ?_|refine Calm.block ?_)) (by kernel_rfl) [12] (by kernel_rfl) rfl ?_
                    (refine DO.loadL tab 13 0 (by repeat (first|exact Calm.ret|refine Calm.then ?_|refine Calm.block ?_)) (by kernel_rfl) (by kernel_rfl) rfl rfl rfl rfl rfl rfl rfl rfl ?_)
                    refine DO.pure tab (by repeat (first|exact Calm.ret|refine Calm.then ?_|refine Calm.block ?_)) (by kernel_rfl) [14, 15, 16] (by kernel_rfl) rfl ?_
                    (refine DO.splitP (d := 153) rfl (fun hg16 => ?_) (fun hg16 => ?_))
                    refine DO.pure tab (by repeat (first|exact Calm.ret|refine Calm.then ?_|refine Calm.block ?_)) (by kernel_rfl) [17, 18, 19, 20, 21, 22, 23, 24, 25, 26, 27, 28, 29, 30, 31, 32, 33] (by kernel_rfl) rfl ?_
                    (refine DO.nil0 (by kernel_rfl) ?_)
                    rotate_left 1
                    refine DO.pure tab (by repeat (first|exact Calm.ret|refine Calm.then ?_|refine Calm.block ?_)) (by kernel_rfl) [17, 18] (by kernel_rfl) rfl ?_
                    refine DO.arith 19 (r' := (st.growth + (at0 st.after s4.to.toNat - 1))) (by repeat (first|exact Calm.ret|refine Calm.then ?_|refine Calm.block ?_)) (by kernel_rfl) (by kernel_rfl) rfl rfl rfl rfl rfl rfl rfl rfl (by first | rfl | omega | (simp only; omega)) (by omega) ?_
                    refine DO.pure tab (by repeat (first|exact Calm.ret|refine Calm.then ?_|refine Calm.block ?_)) (by kernel_rfl) [20, 21, 22, 23] (by kernel_rfl) rfl ?_
                    (refine DO.splitP (d := 160) rfl (fun hg23 => ?_) (fun hg23 => ?_))
                    refine DO.pure tab (by repeat (first|exact Calm.ret|refine Calm.then ?_|refine Calm.block ?_)) (by kernel_rfl) [24, 25, 26, 27, 28, 29, 30, 31, 32, 33] (by kernel_rfl) rfl ?_
                    (refine DO.nil0 (by kernel_rfl) ?_)
                    rotate_left 1
                    refine DO.pure tab (by repeat (first|exact Calm.ret|refine Calm.then ?_|refine Calm.block ?_)) (by kernel_rfl) [24, 25] (by kernel_rfl) rfl ?_
                    (refine DO.loadL tab 26 0 (by repeat (first|exact Calm.ret|refine Calm.then ?_|refine Calm.block ?_)) (by kernel_rfl) (by kernel_rfl) rfl rfl rfl rfl rfl rfl rfl rfl ?_)
                    refine DO.indexP (sz := 1) (n := sizes.length) (c := c2) tab 27 s4.frm.toNat (by repeat (first|exact Calm.ret|refine Calm.then ?_|refine Calm.block ?_)) (by kernel_rfl) (by kernel_rfl) rfl rfl rfl rfl rfl rfl rfl (by omega) rfl (by omega) ?_
                    refine DO.loadR tab 28 3 (at0_map (l := st.after) (k := s4.frm.toNat) (by omega)) (by repeat (first|exact Calm.ret|refine Calm.then ?_|refine Calm.block ?_)) (by kernel_rfl) (by kernel_rfl) rfl rfl rfl rfl rfl rfl rfl rfl ?_
                    refine DO.pure tab (by repeat (first|exact Calm.ret|refine Calm.then ?_|refine Calm.block ?_)) (by kernel_rfl) [29] (by kernel_rfl) rfl ?_
                    refine DO.arith 30 (r' := (at0 st.after s4.frm.toNat + (at0 st.after s4.to.toNat - 1))) (by repeat (first|exact Calm.ret|refine Calm.then ?_|refine Calm.block ?_)) (by kernel_rfl) (by kernel_rfl) rfl rfl rfl rfl rfl rfl rfl rfl (by first | rfl | omega | (simp only; omega)) (by omega) ?_
                    refine DO.pure tab (by repeat (first|exact Calm.ret|refine Calm.then ?_|refine Calm.block ?_)) (by kernel_rfl) [31, 32, 33] (by kernel_rfl) rfl ?_
                    (refine DO.nil0 (by kernel_rfl) ?_)
                    rotate_left 1
                    · have hno : okP h.sites (againP h) budget most st w = false := by unfold okP; rw [hsdw, hag, hg9]; rfl
                      rw [act_out _ _ hno] at hP2
                      repeat (first|refine q6 ?_|refine q10 ?_|refine q11 ?_|refine q14 ?_|refine q16 rfl ?_)
                      exact ⟨⟨so, m2, lk.set w true, st⟩, (by repeat (first|exact trivial|refine And.intro rfl ?_)), (by repeat (first|exact trivial|refine And.intro rfl ?_)), rfl, rfl, (by repeat (first|exact List.Sublist.refl _|refine List.Sublist.cons _ ?_)), ⟨hm2, hoo, hso, by simp only [List.length_set]; exact hlk, hS, by simp only; omega, hP2⟩, by simp only; omega⟩
                    · have hno : okP h.sites (againP h) budget most st w = false := by unfold okP; rw [hsdw, hag, hg9, decide_eq_true hg16]; rfl
                      rw [act_out _ _ hno] at hP2
                      repeat (first|refine q6 ?_|refine q10 ?_|refine q11 ?_|refine q14 ?_|refine q16 rfl ?_)
                      exact ⟨⟨so, m2, lk.set w true, st⟩, (by repeat (first|exact trivial|refine And.intro rfl ?_)), (by repeat (first|exact trivial|refine And.intro rfl ?_)), rfl, rfl, (by repeat (first|exact List.Sublist.refl _|refine List.Sublist.cons _ ?_)), ⟨hm2, hoo, hso, by simp only [List.length_set]; exact hlk, hS, by simp only; omega, hP2⟩, by simp only; omega⟩
                    · have hno : okP h.sites (againP h) budget most st w = false := by unfold okP; rw [hsdw, hag, hg9, htN, decide_eq_true hg23]; simp
                      rw [act_out _ _ hno] at hP2
                      repeat (first|refine q6 ?_|refine q10 ?_|refine q11 ?_|refine q14 ?_|refine q16 rfl ?_)
                      exact ⟨⟨so, m2, lk.set w true, st⟩, (by repeat (first|exact trivial|refine And.intro rfl ?_)), (by repeat (first|exact trivial|refine And.intro rfl ?_)), rfl, rfl, (by repeat (first|exact List.Sublist.refl _|refine List.Sublist.cons _ ?_)), ⟨hm2, hoo, hso, by simp only [List.length_set]; exact hlk, hS, by simp only; omega, hP2⟩, by simp only; omega⟩
                    · repeat (refine q6 ?_)
                      refine TC.condP rfl (fun hc7 => ?_) (fun hc7 => ?_)
                      · have hno : okP h.sites (againP h) budget most st w = false := by unfold okP; rw [hsdw, hag, hg9, htN, hfN, decide_eq_true hc7]; simp
                        rw [act_out _ _ hno] at hP2
                        repeat (first|refine q6 ?_|refine q10 ?_|refine q11 ?_|refine q14 ?_)
                        exact ⟨⟨so, m2, lk.set w true, st⟩, (by repeat (first|exact trivial|refine And.intro rfl ?_)), (by repeat (first|exact trivial|refine And.intro rfl ?_)), rfl, rfl, (by repeat (first|exact List.Sublist.refl _|refine List.Sublist.cons _ ?_)), ⟨hm2, hoo, hso, by simp only [List.length_set]; exact hlk, hS, by simp only; omega, hP2⟩, by simp only; omega⟩
                      · have hyes : okP h.sites (againP h) budget most st w = true := by
                          unfold okP
                          rw [hsdw, hag, hg9, htN, hfN, decide_eq_false hg16, decide_eq_false hg23, decide_eq_false hc7]
                          rfl
                        obtain ⟨hAct1, hAct2⟩ := hAct
                        rw [act_in _ _ hyes, htN, hfN] at hP2 hAct1
                        have hgr' := hAct1.gr
                        simp only at hgr'
                        repeat (first|(first|refine q1 ?_|refine q3 ?_|refine q4 tab rfl rfl ?_|refine q6 ?_|refine q13 ?_)|(refine qs rfl (ql tab 0 rfl rfl rfl rfl rfl rfl ?_)))
                        refine TO.step rfl (OT.indexP (sz := 1) (n := sizes.length) (c := c2) tab s4.frm.toNat rfl rfl rfl rfl rfl (by omega) rfl (by omega) ?_)
                        refine TO.step rfl (OT.loadR tab 3 (at0_map (l := st.after) (k := s4.frm.toNat) (by omega)) rfl rfl rfl rfl rfl rfl ?_)
                        repeat (refine q4 tab rfl rfl ?_)
                        refine TO.step rfl (OT.arith (r' := at0 st.after s4.frm.toNat + (at0 st.after s4.to.toNat - 1)) rfl rfl rfl rfl rfl rfl rfl (by omega) ?_)
                        refine TO.step rfl (OT.indexP (sz := 1) (n := sizes.length) (c := c2) tab s4.frm.toNat rfl rfl rfl rfl rfl (by omega) rfl (by omega) ?_)
                        refine TO.step rfl (OT.storeM (k := s4.frm.toNat) tab 3 (Value.int .i64) (at0 st.after s4.frm.toNat + (at0 st.after s4.to.toNat - 1)) rfl rfl rfl rfl rfl rfl rfl (by omega) ?_)
                        repeat (first|refine q1 ?_|refine q3 ?_|refine q4 tab rfl rfl ?_|refine q5 ?_|refine q6 ?_)
                        refine TO.step rfl (OT.arith (r' := st.growth + (at0 st.after s4.to.toNat - 1)) rfl rfl rfl rfl rfl rfl rfl (by omega) ?_)
                        repeat (first|refine q3 ?_|refine q4 tab rfl rfl ?_|refine q5 ?_|refine q6 ?_)
                        refine TO.step rfl (OT.lit tab rfl rfl rfl rfl (fun bt => ?_))
                        refine TO.step rfl (OT.append1 tab rInt 1 (hd' := (w : Int)) (a := (w : Int)) hso hoo rfl rfl rfl rfl rfl rfl rfl rfl (by simp only [rInt]; omega) (fun so' m3 hm3 hso' hoo' => ?_))
                        repeat (first|refine q4 tab rfl rfl ?_|refine q5 ?_|refine q6 ?_|refine q7 ?_)
                        exact ⟨⟨so', m3, lk.set w true, ⟨st.after.set s4.frm.toNat (at0 st.after s4.frm.toNat + (at0 st.after s4.to.toNat - 1)), st.growth + (at0 st.after s4.to.toNat - 1), st.out ++ [(w : Int)]⟩⟩, (by repeat (first|exact trivial|refine And.intro rfl ?_)), (by repeat (first|exact trivial|refine And.intro rfl ?_)), rfl, rfl, (by repeat (first|exact List.Sublist.refl _|refine List.Sublist.cons _ ?_)), ⟨Mem.le_trans hm2 hm3, hoo', hso', by simp only [List.length_set]; exact hlk, hAct1, by simp only [List.length_append, List.length_singleton]; omega, hP2⟩, by simp only; omega⟩
end Go.Sep

/-
  Walks: rows compared, a small hierarchy, awake.
-/
set_option linter.unusedVariables false
set_option linter.unusedSimpArgs false
namespace Go.Sep
open Go.Proofs
attribute [local irreducible] TC TO OT TCallX TCall DO DOt thenQ blockQ retQ At
def smallB (h : Hier) : Bool := decide (h.funcs ≤ 60) && (decide (h.sites.length ≤ 200) && decide (h.classes.length ≤ 50))
theorem small_law (m : Mem) (L : List Item) (hh : HHier) (h : Hier) (hr : HierRep m hh h) : TCall Try.prog 7 ⟨[hierV hh]⟩ m L (Ret (.bool (smallB h)) m L) := by
  have h1 := hr.classes.len
  have h3 := hr.sites.len
  have hfu := hr.funcs
  unfold TCall
  refine TCallX.enter Try.func7 rfl 18 rfl ?_
  repeat (first|refine q1 ?_|refine q3 ?_)
  refine TO.step rfl (OT.box rfl rfl rfl rfl rfl (fun b => ?_))
  repeat (first|(first|refine q1 ?_|refine q3 ?_|refine q4 tab rfl rfl ?_|refine q5 ?_|refine q6 ?_)|(refine qs rfl (ql tab 0 rfl rfl rfl rfl rfl rfl ?_)))
  (refine TO.splitP rfl rfl (fun ha => ?_) (fun ha => ?_))
  · repeat (first|(refine q4 tab rfl rfl ?_)|(refine qs rfl (ql tab 0 rfl rfl rfl rfl rfl rfl ?_)))
    (refine TO.splitP rfl rfl (fun hb => ?_) (fun hb => ?_))
    · repeat (first|(first|refine q4 tab rfl rfl ?_|refine q5 ?_|refine q6 ?_|refine q15 ?_)|(refine qs rfl (ql tab 0 rfl rfl rfl rfl rfl rfl ?_)))
      refine retQ_ret rfl (by repeat (first|exact List.Sublist.refl _|refine List.Sublist.cons _ ?_)) ⟨rfl, rfl, ?_⟩
      unfold smallB
      rw [decide_eq_true (show h.funcs ≤ 60 by omega), decide_eq_true (show h.sites.length ≤ 200 by omega), h1]
      simp
      omega
    · repeat ((first|refine q4 tab rfl rfl ?_|refine q5 ?_|refine q6 ?_|refine q15 ?_))
      refine retQ_ret rfl (by repeat (first|exact List.Sublist.refl _|refine List.Sublist.cons _ ?_)) ⟨rfl, rfl, ?_⟩
      unfold smallB
      rw [decide_eq_false (show ¬ h.sites.length ≤ 200 by omega)]
      simp
  · repeat ((first|refine q4 tab rfl rfl ?_|refine q5 ?_|refine q6 ?_|refine q15 ?_))
    refine retQ_ret rfl (by repeat (first|exact List.Sublist.refl _|refine List.Sublist.cons _ ?_)) ⟨rfl, rfl, ?_⟩
    unfold smallB
    rw [decide_eq_false (show ¬ h.funcs ≤ 60 by omega)]
    simp
theorem same_law (m : Mem) (L : List Item) (s1 s2 : Sl) (l1 l2 : List Int) (h1 : SlRep rInt m s1 l1) (h2 : SlRep rInt m s2 l2) : TCall Try.prog 11 ⟨[s1.v, s2.v]⟩ m L (Ret (.bool (decide (l1 = l2))) m L) := by
  have hl1 := h1.len
  have hl2 := h2.len
  have hs1 := h1.small rfl
  unfold TCall
  refine TCallX.enter Try.func11 rfl 26 rfl ?_
  repeat (first|refine q1 ?_|refine q3 ?_|refine q4 tab rfl rfl ?_|refine q5 ?_|refine q6 ?_)
  refine TC.condN rfl (fun hn => ?_) (fun hn => ?_)
  · repeat (first|refine q1 ?_|refine q3 ?_|refine q4 tab rfl rfl ?_|refine q5 ?_|refine q6 ?_|refine q8 ?_|refine q15 ?_)
    refine retQ_ret rfl (by repeat (exact List.Sublist.refl _)) ⟨rfl, rfl, ?_⟩
    rw [decide_eq_false]
    intro e
    subst e
    exact hn (by omega)
  · have hll : l1.length = l2.length := by omega
    repeat (first|refine q1 ?_|refine q2 ?_|refine q3 ?_|refine q4 tab rfl rfl ?_|refine q5 ?_|refine q6 ?_|refine q13 ?_)
    refine TC.loopK (ι := Nat) [0, 1] rfl (fun k => [(5, .int .i64 (k : Int))]) (fun _ => m) (fun _ => L) (fun k => k ≤ l1.length ∧ l1.take k = l2.take k) (fun k => l1.length - k) 0 (by repeat (first|exact trivial|refine And.intro rfl ?_)) rfl (by repeat (exact List.Sublist.refl _)) ⟨Nat.zero_le _, rfl⟩ ?_
    rintro k ⟨hk, hI⟩
    repeat (first|refine q1 ?_|refine q3 ?_|refine q4 tab rfl rfl ?_|refine q5 ?_|refine q6 ?_)
    refine TC.condP rfl (fun hlt' => ?_) (fun hlt' => ?_)
    · have hlt : k < l1.length := by omega
      have hx1 : l1[k]? = some l1[k] := by simp [hlt]
      have hx2 : l2[k]? = some (l2[k]'(by omega)) := by simp [show k < l2.length by omega]
      have ht1 : l1.take (k + 1) = l1.take k ++ [l1[k]] := List.take_succ_eq_append_getElem hlt
      have ht2 : l2.take (k + 1) = l2.take k ++ [l2[k]'(by omega)] := List.take_succ_eq_append_getElem (by omega)
      generalize l1[k] = a at hx1 ht1
      generalize (l2[k]'(by omega)) = c at hx2 ht2
      repeat (first|refine q1 ?_|refine q2 ?_|refine q6 ?_|refine q13 ?_)
      refine TC.draw0 [] mixed 9 rfl ?_
      refine DO.pure tab (by repeat (first|exact Calm.ret|refine Calm.then ?_|refine Calm.block ?_)) (by kernel_rfl) [0, 1] (by kernel_rfl) rfl ?_
      refine DO.index tab rInt 2 k h1 (by repeat (first|exact Calm.ret|refine Calm.then ?_|refine Calm.block ?_)) (by kernel_rfl) (by kernel_rfl) rfl rfl rfl rfl rfl rfl rfl (by first | rfl | omega) rfl hx1 ?_
      rintro b1 i1 v1 hv1 hA1; obtain rfl := (show v1 = a from hv1)
      (refine DO.loadA (k := 0) tab 3 hA1 (by repeat (first|exact Calm.ret|refine Calm.then ?_|refine Calm.block ?_)) (by kernel_rfl) (by kernel_rfl) rfl rfl rfl rfl rfl rfl rfl ?_)
      refine DO.pure tab (by repeat (first|exact Calm.ret|refine Calm.then ?_|refine Calm.block ?_)) (by kernel_rfl) [4, 5] (by kernel_rfl) rfl ?_
      refine DO.index tab rInt 6 k h2 (by repeat (first|exact Calm.ret|refine Calm.then ?_|refine Calm.block ?_)) (by kernel_rfl) (by kernel_rfl) rfl rfl rfl rfl rfl rfl rfl (by first | rfl | omega) rfl hx2 ?_
      rintro b2 i2 v2 hv2 hA2; obtain rfl := (show v2 = c from hv2)
      (refine DO.loadA (k := 0) tab 7 hA2 (by repeat (first|exact Calm.ret|refine Calm.then ?_|refine Calm.block ?_)) (by kernel_rfl) (by kernel_rfl) rfl rfl rfl rfl rfl rfl rfl ?_)
      refine DO.pure tab (by repeat (first|exact Calm.ret|refine Calm.then ?_|refine Calm.block ?_)) (by kernel_rfl) [8] (by kernel_rfl) rfl ?_
      (refine DO.nil0 (by kernel_rfl) ?_)
      rotate_left 1
      repeat (refine q6 ?_)
      refine TC.condN rfl (fun hne => ?_) (fun hne => ?_)
      · repeat (first|refine q1 ?_|refine q3 ?_|refine q4 tab rfl rfl ?_|refine q5 ?_|refine q6 ?_|refine q8 ?_|refine q9 ?_|refine q15 ?_)
        refine retQ_ret rfl (by repeat (exact List.Sublist.refl _)) ⟨rfl, rfl, ?_⟩
        rw [decide_eq_false]
        intro e
        subst e
        rw [hx1] at hx2
        exact hne (by simpa using hx2)
      · have he : v1 = v2 := by simpa using hne
        repeat (first|refine q3 ?_|refine q4 tab rfl rfl ?_|refine q6 ?_|refine q7 ?_|refine q13 ?_)
        refine TO.step rfl (OT.arith (r' := ((k + 1 : Nat) : Int)) rfl rfl rfl rfl rfl rfl rfl (by omega) ?_)
        repeat (first|refine q4 tab rfl rfl ?_|refine q5 ?_|refine q6 ?_)
        exact ⟨k + 1, (by repeat (first|exact trivial|refine And.intro rfl ?_)), (by repeat (first|exact trivial|refine And.intro rfl ?_)), rfl, rfl, (by repeat (exact List.Sublist.refl _)), ⟨by omega, by rw [ht1, ht2, hI, he]⟩, by omega⟩
    · repeat (first|refine q1 ?_|refine q3 ?_|refine q4 tab rfl rfl ?_|refine q5 ?_|refine q6 ?_|refine q10 ?_|refine q11 ?_|refine q14 ?_|refine q15 ?_)
      refine retQ_ret rfl (by repeat (exact List.Sublist.refl _)) ⟨rfl, rfl, ?_⟩
      rw [List.take_of_length_le (by omega), List.take_of_length_le (by omega)] at hI
      rw [decide_eq_true hI]

def hier0 : Hier := ⟨2, [], [], [⟨0, 1, -1, []⟩]⟩
theorem hier0_ok : soundM hier0 = 0 := by
  refine soundM_ok.2 ⟨⟨by decide, by decide, by decide, by decide⟩, ⟨by decide, fun c hc => (by cases hc), fun c hc => (by cases hc), fun s hs => ?_⟩⟩
  simp only [hier0, List.mem_singleton] at hs
  subst hs
  exact ⟨by decide, .inl (by decide)⟩
theorem hier0_graph : graphM hier0 = [[1], []] := by decide
theorem again0 : againP hier0 1 = false := by
  cases h : againP hier0 1 with
  | false => rfl
  | true =>
    obtain ⟨c, ⟨r, h1, h2⟩, _⟩ := againP_iff.1 h
    rw [hier0_graph] at h1
    simp at h1
    subst h1
    cases h2
theorem plan0 : PlanOut hier0 [5, 3] 10 100 [0] [7, 3] := by
  have hE : planE hier0 [5, 3] 10 100 = 0 := planE_ok hier0_ok rfl (by decide) (by decide)
  refine planOut_ok hE (st := ⟨[7, 3], 2, [0]⟩) ?_
  have hb : IsBest hier0.sites ⟨[5, 3], 0, []⟩ (directL hier0.sites) 0 := ⟨by decide, fun w hw hne => by
    have : w = 0 := by
      have e : directL hier0.sites = [0] := by decide
      rw [e] at hw
      simpa using hw
    exact absurd this hne⟩
  refine .step hb ?_
  have hok : okP hier0.sites (againP hier0) 10 100 ⟨[5, 3], 0, []⟩ 0 = true := by
    unfold okP
    rw [show (siteD hier0.sites 0).to = 1 from rfl, again0]
    decide
  rw [act_in _ _ hok]
  exact .done _

set_option maxHeartbeats 1000000 in
theorem awake_law (m : Mem) (L : List Item) : TCall Try.prog 8 ⟨[]⟩ m L (Made m L fun r m' => r = .bool true) := by
  unfold TCall
  refine TCallX.enter Try.func8 rfl 33 rfl ?_
  repeat (first|refine q1 ?_|refine q3 ?_|refine q4 tab rfl rfl ?_|refine q5 ?_|refine q6 ?_)
  refine TO.step rfl (OT.lit tab rfl rfl rfl rfl (fun bl => ?_))
  refine TO.freeze fun m1 hm1 hA => ?_
  have hr : HierRep m1 ⟨2, ⟨none, 0, 0⟩, ⟨none, 0, 0⟩, ⟨some ⟨bl, 0, none⟩, 1, 1⟩⟩ hier0 := by
    refine ⟨rfl, SlRep.nil _ _, SlRep.nil _ _, ?_⟩
    exact SlRep.one (h := (⟨0, 1, -1, []⟩ : Site)) hA rfl (by decide)
  repeat (refine q4 tab rfl rfl ?_)
  refine TO.step rfl (OT.alloc tab rfl rfl rfl rfl (fun bh => ?_))
  skip
  (refine TO.step rfl (OT.storeL0 tab 0 rfl rfl rfl rfl rfl rfl rfl rfl ?_))
  repeat (first|(first|refine q1 ?_|refine q3 ?_|refine q5 ?_|refine q6 ?_)|(refine qs rfl (qz tab 0 rfl rfl rfl rfl rfl rfl ?_)))
  refine TO.step rfl (OT.lit tab rfl rfl rfl rfl (fun bs => ?_))
  refine TO.freeze fun m2 hm2 hA2 => ?_
  have hs : SlRep rInt m2 ⟨some ⟨bs, 0, none⟩, 2, 2⟩ [5, 3] := ⟨rfl, Nat.le_refl _, show 2 * 8 ≤ 140737488355328 by decide, [5, 3], ⟨rfl, rfl, trivial⟩, .inr ⟨bs, 0, rfl, hA2⟩⟩
  skip
  refine TO.step rfl (OT.call rfl rfl rfl rfl rfl rfl goes9 ((plan_own m2 _ _ hier0 (hr.mono hm2) _ _ hs 10 100).x ?_));
  rintro _ m3 _ ⟨hm3, rfl, tn, ta, o, a, rfl, hto, hta, hpo⟩
  obtain ⟨rfl, rfl⟩ := hpo.det plan0
  have hE : planE hier0 [5, 3] 10 100 = 0 := planE_ok hier0_ok rfl (by decide) (by decide)
  rw [hE]
  obtain ⟨na, nl, nc⟩ := tn
  obtain ⟨aa, al, ac⟩ := ta
  have hl1 := hto.len
  have hl2 := hta.len
  simp only [List.length_cons, List.length_nil] at hl1 hl2
  subst hl1 hl2
  repeat (first|refine q1 ?_|refine q3 ?_|refine q4 tab rfl rfl ?_|refine q5 ?_|refine q6 ?_)
  refine TO.step rfl (OT.index tab rInt 0 hta rfl rfl rfl rfl rfl (by first | rfl | omega | (simp only; omega)) rfl (rfl : ([7, 3] : List Int)[0]? = some 7) ?_)
  rintro b3 i3 hd3 hrd3 hA3
  obtain rfl := (show hd3 = 7 from hrd3)
  (refine TO.step rfl (OT.loadA0 tab hA3 rfl rfl rfl rfl rfl ?_))
  repeat (first|refine q4 tab rfl rfl ?_|refine q5 ?_|refine q6 ?_|refine q15 ?_)
  refine retQ_ret rfl (by repeat (first|exact List.Sublist.refl _|refine List.Sublist.cons _ ?_)) ⟨Mem.le_trans hm1 (Mem.le_trans hm2 hm3), rfl, rfl⟩
end Go.Sep

/-
  The law InlinePlans.
-/
set_option linter.unusedVariables false
set_option linter.unusedSimpArgs false
namespace Go.Sep
open Go.Proofs
attribute [local irreducible] TC TO OT TCallX TCall DO DOt thenQ blockQ retQ At
set_option maxHeartbeats 1000000 in
theorem plans_law (m : Mem) (L : List Item) (hh : HHier) (h : Hier) (hr : HierRep m hh h) (ss : Sl) (sizes : List Int) (hss : SlRep rInt m ss sizes) (budget most : Int) :
    TCall Try.prog 3 ⟨[hierV hh, ss.v, .int .i64 budget, .int .i64 most]⟩ m L (Made m L fun r m' => r = .bool true) := by
  unfold TCall
  refine TCallX.enter Try.func3 rfl 58 rfl ?_
  repeat (first|refine q1 ?_|refine q3 ?_)
  refine TO.step rfl (OT.box rfl rfl rfl rfl rfl (fun b => ?_))
  repeat (first|(first|refine q1 ?_|refine q3 ?_|refine q4 tab rfl rfl ?_|refine q5 ?_|refine q6 ?_)|(refine qs rfl (qz tab 0 rfl rfl rfl rfl rfl rfl ?_)))
  refine TO.step rfl (OT.call rfl rfl rfl rfl rfl rfl goes6 ((sound_ref m _ hh h hr).x ?_));
  rintro _ _ _ ⟨rfl, rfl, rfl⟩
  repeat (refine q4 tab rfl rfl ?_)
  (refine TO.splitP rfl rfl (fun hs => ?_) (fun hs => ?_))
  · repeat ((refine qs rfl (qz tab 0 rfl rfl rfl rfl rfl rfl ?_)))
    refine TO.step rfl (OT.call rfl rfl rfl rfl rfl rfl goes7 ((small_law m _ hh h hr).x ?_));
    rintro _ _ _ ⟨rfl, rfl, rfl⟩
    cases hsb : smallB h with
    | false =>
      repeat (first|refine q1 ?_|refine q3 ?_|refine q4 tab rfl rfl ?_|refine q5 ?_|refine q6 ?_|refine q16 rfl ?_)
      refine TO.step rfl (OT.call rfl rfl rfl rfl rfl rfl goes8 ((awake_law m _).x ?_));
      rintro _ m3 _ ⟨hm3, rfl, rfl⟩
      repeat (first|refine q4 tab rfl rfl ?_|refine q5 ?_|refine q6 ?_|refine q8 ?_|refine q15 ?_)
      refine retQ_ret rfl (by repeat (first|exact List.Sublist.refl _|refine List.Sublist.cons _ ?_)) ⟨hm3, rfl, rfl⟩
    | true =>
      repeat (first|(first|refine q1 ?_|refine q3 ?_|refine q4 tab rfl rfl ?_|refine q5 ?_|refine q6 ?_|refine q13 ?_|refine q17 rfl ?_)|(refine qs rfl (qz tab 0 rfl rfl rfl rfl rfl rfl ?_)))
      refine TO.step rfl (OT.call rfl rfl rfl rfl rfl rfl goes9 ((plan_own m _ hh h hr ss sizes hss budget most).x ?_));
      rintro _ m1 _ ⟨hm1, rfl, tn, ta, o, a, rfl, hto, hta, hpo⟩
      have hr1 := hr.mono hm1
      have hss1 := hss.mono hm1
      repeat (first|(first|refine q1 ?_|refine q3 ?_|refine q4 tab rfl rfl ?_|refine q5 ?_|refine q6 ?_)|(refine qs rfl (qz tab 0 rfl rfl rfl rfl rfl rfl ?_)))
      refine TO.step rfl (OT.call rfl rfl rfl rfl rfl rfl goes10 ((plan_ref m1 _ hh h hr1 ss sizes hss1 budget most).x ?_));
      rintro _ m2 _ ⟨hm2, rfl, tn2, ta2, o2, a2, rfl, hto2, hta2, hpo2⟩
      obtain ⟨rfl, rfl⟩ := hpo.det hpo2
      have hto1 := hto.mono hm2
      have hta1 := hta.mono hm2
      repeat (first|refine q1 ?_|refine q3 ?_|refine q4 tab rfl rfl ?_|refine q5 ?_|refine q6 ?_)
      refine TO.step rfl (OT.call rfl rfl rfl rfl rfl rfl goes8 ((awake_law m2 _).x ?_));
      rintro _ m3 _ ⟨hm3, rfl, rfl⟩
      repeat (refine q4 tab rfl rfl ?_)
      have hee : decide (planE h sizes budget most = planE h sizes budget most) = true := decide_eq_true rfl
      simp only [hee]
      repeat (refine q4 tab rfl rfl ?_)
      refine TO.step rfl (OT.call rfl rfl rfl rfl rfl rfl goes11 ((same_law m3 _ tn tn2 o o (hto1.mono hm3) (hto2.mono hm3)).x ?_));
      rintro _ _ _ ⟨rfl, rfl, rfl⟩
      have heo : decide (o = o) = true := decide_eq_true rfl
      simp only [heo]
      repeat (refine q4 tab rfl rfl ?_)
      refine TO.step rfl (OT.call rfl rfl rfl rfl rfl rfl goes11 ((same_law m3 _ ta ta2 a a (hta1.mono hm3) (hta2.mono hm3)).x ?_));
      rintro _ _ _ ⟨rfl, rfl, rfl⟩
      have hea : decide (a = a) = true := decide_eq_true rfl
      simp only [hea]
      repeat (first|refine q4 tab rfl rfl ?_|refine q5 ?_|refine q6 ?_|refine q15 ?_)
      refine retQ_ret rfl (by repeat (first|exact List.Sublist.refl _|refine List.Sublist.cons _ ?_)) ⟨Mem.le_trans hm1 (Mem.le_trans hm2 hm3), rfl, rfl⟩
  · skip
    repeat (first|(first|refine q1 ?_|refine q3 ?_|refine q4 tab rfl rfl ?_|refine q5 ?_|refine q6 ?_|refine q13 ?_|refine q17 rfl ?_)|(refine qs rfl (qz tab 0 rfl rfl rfl rfl rfl rfl ?_)))
    refine TO.step rfl (OT.call rfl rfl rfl rfl rfl rfl goes9 ((plan_own m _ hh h hr ss sizes hss budget most).x ?_));
    rintro _ m1 _ ⟨hm1, rfl, tn, ta, o, a, rfl, hto, hta, hpo⟩
    have hr1 := hr.mono hm1
    have hss1 := hss.mono hm1
    repeat (first|(first|refine q1 ?_|refine q3 ?_|refine q4 tab rfl rfl ?_|refine q5 ?_|refine q6 ?_)|(refine qs rfl (qz tab 0 rfl rfl rfl rfl rfl rfl ?_)))
    refine TO.step rfl (OT.call rfl rfl rfl rfl rfl rfl goes10 ((plan_ref m1 _ hh h hr1 ss sizes hss1 budget most).x ?_));
    rintro _ m2 _ ⟨hm2, rfl, tn2, ta2, o2, a2, rfl, hto2, hta2, hpo2⟩
    obtain ⟨rfl, rfl⟩ := hpo.det hpo2
    have hto1 := hto.mono hm2
    have hta1 := hta.mono hm2
    repeat (first|refine q1 ?_|refine q3 ?_|refine q4 tab rfl rfl ?_|refine q5 ?_|refine q6 ?_)
    refine TO.step rfl (OT.call rfl rfl rfl rfl rfl rfl goes8 ((awake_law m2 _).x ?_));
    rintro _ m3 _ ⟨hm3, rfl, rfl⟩
    repeat (refine q4 tab rfl rfl ?_)
    have hee : decide (planE h sizes budget most = planE h sizes budget most) = true := decide_eq_true rfl
    simp only [hee]
    repeat (refine q4 tab rfl rfl ?_)
    refine TO.step rfl (OT.call rfl rfl rfl rfl rfl rfl goes11 ((same_law m3 _ tn tn2 o o (hto1.mono hm3) (hto2.mono hm3)).x ?_));
    rintro _ _ _ ⟨rfl, rfl, rfl⟩
    have heo : decide (o = o) = true := decide_eq_true rfl
    simp only [heo]
    repeat (refine q4 tab rfl rfl ?_)
    refine TO.step rfl (OT.call rfl rfl rfl rfl rfl rfl goes11 ((same_law m3 _ ta ta2 a a (hta1.mono hm3) (hta2.mono hm3)).x ?_));
    rintro _ _ _ ⟨rfl, rfl, rfl⟩
    have hea : decide (a = a) = true := decide_eq_true rfl
    simp only [hea]
    repeat (first|refine q4 tab rfl rfl ?_|refine q5 ?_|refine q6 ?_|refine q15 ?_)
    refine retQ_ret rfl (by repeat (first|exact List.Sublist.refl _|refine List.Sublist.cons _ ?_)) ⟨Mem.le_trans hm1 (Mem.le_trans hm2 hm3), rfl, rfl⟩
end Go.Sep
