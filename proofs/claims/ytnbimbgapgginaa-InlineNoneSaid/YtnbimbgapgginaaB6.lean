/-
  Walks of layer 13: Targets.
-/
import Derived.Test.YtnbimbgapgginaaB5
set_option linter.unusedVariables false
set_option linter.unusedSimpArgs false
namespace Go.Sep
open Go.Proofs
attribute [local irreducible] TC TO OT TCallX TCall DO DOt thenQ blockQ retQ At

@[reducible] def rInts : R Sl (List Int) := rSl rInt

/-- what Targets says of a hierarchy that is sound -/
def allTargets (h : Hier) : List (List Int) := h.sites.map (targetsM h)

open Classical in
noncomputable def targetsOr (h : Hier) : List (List Int) := if soundM h = 0 then allTargets h else []

set_option maxHeartbeats 1000000 in
theorem targets_all (m : Mem) (L : List Item) (hh : HHier) (h : Hier) (hr : HierRep m hh h) :
    TCall Try.prog 22 ⟨[hierV hh]⟩ m L (Made m L fun r m' => ∃ t : Sl, r = .tuple ⟨[t.v, .int .i64 (soundM h)]⟩ ∧ SlRep rInts m' t (targetsOr h)) := by
  have h3 := hr.sites.len
  have hq3 := hr.sites.small rfl
  have hq4 : hh.sites.len * 40 ≤ 140737488355328 := hr.sites.fit
  unfold TCall
  refine TCallX.enter Try.func22 rfl 28 rfl ?_
  repeat (first|refine q1 ?_|refine q3 ?_)
  refine TO.step rfl (OT.box rfl rfl rfl rfl rfl (fun b => ?_))
  repeat (first|(first|refine q1 ?_|refine q3 ?_|refine q4 tab rfl rfl ?_|refine q5 ?_|refine q6 ?_)|(refine qs rfl (qz tab 0 rfl rfl rfl rfl rfl rfl ?_)))
  refine TO.step rfl (OT.call rfl rfl rfl rfl rfl rfl goes27 ((sound_own m _ hh h hr).x ?_));
  rintro _ _ _ ⟨rfl, rfl, rfl⟩
  repeat (first|refine q1 ?_|refine q3 ?_|refine q4 tab rfl rfl ?_|refine q5 ?_|refine q6 ?_)
  refine TC.condN rfl (fun hb => ?_) (fun hb => ?_)
  · repeat (first|refine q1 ?_|refine q3 ?_|refine q4 tab rfl rfl ?_|refine q5 ?_|refine q6 ?_|refine q8 ?_|refine q15 ?_)
    refine retQ_ret rfl (by repeat (first|exact List.Sublist.refl _|refine List.Sublist.cons _ ?_)) ⟨Mem.le_refl _, rfl, ⟨none, 0, 0⟩, rfl, ?_⟩
    rw [targetsOr, if_neg (by simpa using hb)]
    exact SlRep.nil _ _
  · have hs0 : soundM h = 0 := by simpa using hb
    have hg := (soundM_ok.1 hs0).2
    repeat (first|(first|refine q1 ?_|refine q2 ?_|refine q3 ?_|refine q4 tab rfl rfl ?_|refine q5 ?_|refine q6 ?_|refine q13 ?_)|(refine qs rfl (ql tab 0 rfl rfl rfl rfl rfl rfl ?_)))
    refine TC.grow0 (size := 1) ?_
    refine TC.loopK (ι := Grow) [1, 14, 15] rfl (fun x => [(16, .int .i64 (x.k : Int)), (5, x.s.v)]) (fun x => x.m) (fun x => tok x.s 1 :: .cells b 0 (hierC hh) :: L) (fun x => x.k ≤ h.sites.length ∧ m ≤ x.m ∧ Own x.s ∧ SlRep rInts x.m x.s ((h.sites.take x.k).map (targetsM h))) (fun x => h.sites.length - x.k) ⟨0, ⟨none, 0, 0⟩, m⟩ (by repeat (first|exact trivial|refine And.intro rfl ?_)) rfl (by repeat (exact List.Sublist.refl _)) ⟨Nat.zero_le _, Mem.le_refl _, Own.nil, SlRep.nil _ _⟩ ?_
    rintro ⟨k, t, m1⟩ ⟨hk, hm, ho, ht⟩
    simp only at hk hm ho ht ⊢
    have hr1 := hr.mono hm
    repeat (first|refine q1 ?_|refine q3 ?_|refine q4 tab rfl rfl ?_|refine q5 ?_|refine q6 ?_)
    refine TC.condP rfl (fun hlt' => ?_) (fun hlt' => ?_)
    · have hlt : k < h.sites.length := by omega
      have hx : h.sites[k]? = some h.sites[k] := by simp [hlt]
      have hsk := hg.sites _ (List.getElem_mem hlt)
      repeat (first|refine q1 ?_|refine q2 ?_|refine q3 ?_|refine q6 ?_|refine q13 ?_)
      refine TO.step rfl (OT.index tab rSite k hr1.sites rfl rfl rfl rfl rfl (by first | rfl | omega) rfl hx ?_)
      rintro b' i s hsx hA
      obtain rfl := (show s = h.sites[k] from hsx)
      (refine TO.step rfl (OT.loadA0 tab hA rfl rfl rfl rfl rfl ?_))
      refine TO.step rfl (OT.alloc tab rfl rfl rfl rfl (fun bc => ?_))
      (refine TO.step rfl (OT.storeL0 tab 0 rfl rfl rfl rfl rfl rfl rfl rfl ?_))
      repeat (first|(first|refine q3 ?_|refine q4 tab rfl rfl ?_|refine q5 ?_|refine q6 ?_)|(first|refine qs rfl (qz tab 0 rfl rfl rfl rfl rfl rfl ?_)|refine qs rfl (qz tab 2 rfl rfl rfl rfl rfl rfl ?_)))
      refine TO.step rfl (OT.call rfl rfl rfl rfl rfl rfl goes31 ((targets_own m1 _ hh h hr1 h.sites[k] hg.classes hsk).x ?_));
      rintro _ m2 _ ⟨hm2, rfl, t2, rfl, ht2⟩
      skip
      refine TO.step rfl (OT.lit tab rfl rfl rfl rfl (fun bl => ?_))
      refine TO.step rfl (OT.append1 tab rInts 1 (hd' := t2) (a := targetsM h h.sites[k]) (ht.mono hm2) ho ht2 rfl rfl rfl rfl rfl rfl rfl (by simp only [rSl, List.length_map, List.length_take]; omega) (fun t' m3 hm3 ht' ho' => ?_))
      repeat (first|refine q3 ?_|refine q4 tab rfl rfl ?_|refine q5 ?_|refine q6 ?_|refine q7 ?_)
      refine TO.step rfl (OT.arith (r' := ((k + 1 : Nat) : Int)) rfl rfl rfl rfl rfl rfl rfl (by omega) ?_)
      repeat (first|refine q4 tab rfl rfl ?_|refine q5 ?_|refine q6 ?_)
      refine ⟨⟨k + 1, t', m3⟩, (by repeat (first|exact trivial|refine And.intro rfl ?_)), (by repeat (first|exact trivial|refine And.intro rfl ?_)), rfl, rfl, (by repeat (first|exact List.Sublist.refl _|refine List.Sublist.cons _ ?_)), ⟨by simp only; omega, Mem.le_trans hm (Mem.le_trans hm2 hm3), ho', ?_⟩, by simp only; omega⟩
      simp only
      rw [List.take_succ_eq_append_getElem hlt, List.map_append]
      exact ht'
    · repeat (first|refine q1 ?_|refine q3 ?_|refine q4 tab rfl rfl ?_|refine q5 ?_|refine q6 ?_|refine q10 ?_|refine q11 ?_|refine q14 ?_|refine q15 ?_)
      refine retQ_ret rfl (by repeat (first|exact List.Sublist.refl _|refine List.Sublist.cons _ ?_)) ⟨hm, rfl, t, by rw [hs0], ?_⟩
      rw [targetsOr, if_pos hs0, allTargets, ← List.take_of_length_le (l := h.sites) (i := k) (by omega)]
      exact ht
end Go.Sep

/-
  Walks of layer 13: graph.
-/
set_option linter.unusedVariables false
set_option linter.unusedSimpArgs false
namespace Go.Sep
open Go.Proofs
attribute [local irreducible] TC TO OT TCallX TCall DO DOt thenQ blockQ retQ At

/-- one more call out of a function -/
def addTo (g : List (List Int)) (i : Nat) (t : Int) : List (List Int) := if t ∈ g[i]?.getD [] then g else g.set i (g[i]?.getD [] ++ [t])
def siteG (h : Hier) (g : List (List Int)) (s : Site) : List (List Int) := (targetsM h s).foldl (fun g t => addTo g s.frm.toNat t) g
def graphM (h : Hier) : List (List Int) := h.sites.foldl (siteG h) (List.replicate h.funcs.toNat [])

/-- all rows are of distinct numbers below n -/
structure RowsOk (n : Nat) (g : List (List Int)) : Prop where
  nodup : ∀ r ∈ g, r.Nodup
  lt : ∀ r ∈ g, ∀ x ∈ r, 0 ≤ x ∧ x < (n : Int)

theorem nodup_len : ∀ (l : List Int) (n : Nat), l.Nodup → (∀ x ∈ l, 0 ≤ x ∧ x < (n : Int)) → l.length ≤ n := by
  intro l n hn hl
  have h1 : (l.map Int.toNat).Nodup := by
    rw [List.nodup_iff_pairwise_ne, List.pairwise_map]
    refine (List.nodup_iff_pairwise_ne.1 hn).imp_of_mem ?_
    intro a b ha hb hab h
    have := hl a ha; have := hl b hb; omega
  have h2 : (l.map Int.toNat).length ≤ (List.range n).length := by
    refine h1.length_le_of_subset ?_
    intro x hx
    obtain ⟨y, hy, rfl⟩ := List.mem_map.1 hx
    have := hl y hy
    simp; omega
  simpa using h2

theorem RowsOk.len {n : Nat} {g : List (List Int)} (h : RowsOk n g) {r : List Int} (hr : r ∈ g) : r.length ≤ n := nodup_len r n (h.nodup r hr) (h.lt r hr)
theorem RowsOk.empty (n k : Nat) : RowsOk n (List.replicate k []) :=
  ⟨fun r hr => by rw [List.eq_of_mem_replicate hr]; exact List.nodup_nil, fun r hr x hx => by rw [List.eq_of_mem_replicate hr] at hx; cases hx⟩
theorem RowsOk.add {n : Nat} {g : List (List Int)} (h : RowsOk n g) (i : Nat) {t : Int} (ht : 0 ≤ t ∧ t < (n : Int)) (hi : i < g.length) : RowsOk n (addTo g i t) := by
  unfold addTo
  split
  · exact h
  · rename_i hm
    have hr : g[i]?.getD [] ∈ g := by simp [hi]
    refine ⟨fun r hr' => ?_, fun r hr' x hx => ?_⟩
    · rcases List.mem_or_eq_of_mem_set hr' with h1 | h1
      · exact h.nodup r h1
      · subst h1
        rw [List.nodup_append]
        refine ⟨h.nodup _ hr, by simp, ?_⟩
        intro a ha b hb hab
        simp only [List.mem_singleton] at hb
        subst hab; subst hb; exact hm ha
    · rcases List.mem_or_eq_of_mem_set hr' with h1 | h1
      · exact h.lt r h1 x hx
      · subst h1
        rcases List.mem_append.1 hx with h2 | h2
        · exact h.lt _ hr x h2
        · simp only [List.mem_singleton] at h2; subst h2; exact ht
theorem addTo_len (g : List (List Int)) (i : Nat) (t : Int) : (addTo g i t).length = g.length := by
  unfold addTo; split <;> simp

/-- the targets of a sound site are functions -/
theorem stepT_lt {h : Hier} {s : Site} {c : Class} (hc : ClassOk h c) {out : List Int} (hf : 0 < h.funcs) (ho : ∀ x ∈ out, 0 ≤ x ∧ x < h.funcs) : ∀ x ∈ stepT h s out c, 0 ≤ x ∧ x < h.funcs := by
  intro x hx
  unfold stepT at hx
  split at hx
  · simp only at hx
    split at hx
    · exact ho x hx
    · rcases List.mem_append.1 hx with h1 | h1
      · exact ho x h1
      · simp only [List.mem_singleton] at h1
        subst h1
        cases hk : c.funcs[(idx c.methods s.method 0).toNat]? with
        | none => simp; exact hf
        | some f => simp; exact hc.funcs f (List.mem_of_getElem? hk)
  · exact ho x hx
theorem targets_lt {h : Hier} (hg : Good h) {s : Site} (hs : SiteOk h s) : ∀ x ∈ targetsM h s, 0 ≤ x ∧ x < h.funcs := by
  unfold targetsM
  split
  · intro x hx
    simp only [List.mem_singleton] at hx
    subst hx
    rcases hs.how with e | e <;> omega
  · have hf : 0 < h.funcs := by have := hs.frm; omega
    have : ∀ (l : List Class) (out : List Int), (∀ c ∈ l, ClassOk h c) → (∀ x ∈ out, 0 ≤ x ∧ x < h.funcs) → ∀ x ∈ l.foldl (stepT h s) out, 0 ≤ x ∧ x < h.funcs := by
      intro l
      induction l with
      | nil => intro out _ ho; exact ho
      | cons c l ih =>
        intro out hl ho
        exact ih _ (fun c' hc' => hl c' (List.mem_cons_of_mem _ hc')) (stepT_lt (hl c (List.mem_cons_self ..)) hf ho)
    exact this _ _ hg.classes (fun x hx => by cases hx)

structure GS where
  k : Nat
  j : Nat
  g : List (List Int)
  ss : List Sl
  m : Mem

set_option maxHeartbeats 2000000 in
theorem graph_own (m : Mem) (L : List Item) (hh : HHier) (h : Hier) (hr : HierRep m hh h) (hsm : Small h) (hg : Good h) :
    TCall Try.prog 28 ⟨[hierV hh]⟩ m L (Made m L fun r m' => ∃ t : Sl, r = t.v ∧ SlRep rInts m' t (graphM h)) := by
  have h3 := hr.sites.len
  have hq3 := hr.sites.small rfl
  have hfu := hr.funcs
  have hn := hg.funcs
  have hn2 := hsm.1
  have hnn : ((h.funcs.toNat : Nat) : Int) = h.funcs := Int.toNat_of_nonneg hn
  unfold TCall
  refine TCallX.enter Try.func28 rfl 49 rfl ?_
  repeat (first|refine q1 ?_|refine q3 ?_)
  refine TO.step rfl (OT.box rfl rfl rfl rfl rfl (fun b => ?_))
  repeat (first|(first|refine q1 ?_|refine q3 ?_|refine q4 tab rfl rfl ?_|refine q5 ?_|refine q6 ?_)|(refine qs rfl (ql tab 0 rfl rfl rfl rfl rfl rfl ?_)))
  refine TO.step rfl (OT.makeM tab Sl.v ⟨none, 0, 0⟩ h.funcs.toNat (by omega) rfl rfl rfl rfl rfl rfl rfl rfl (show h.funcs.toNat * 24 ≤ 281474976710656 by omega) rfl (fun bg => ?_))
  repeat (first|(first|refine q1 ?_|refine q2 ?_|refine q3 ?_|refine q4 tab rfl rfl ?_|refine q5 ?_|refine q6 ?_)|(refine qs rfl (ql tab 1 rfl rfl rfl rfl rfl rfl ?_)))
  refine TC.toks0 h.funcs.toNat 1 ?_
  refine TC.perm (List.perm_middle.trans (List.perm_middle.cons _)) ?_
  refine TC.loopK (ι := GS) [1, 3, 12, 13] rfl (fun x => [(14, .int .i64 (x.k : Int))]) (fun x => x.m) (fun x => .cells bg 0 (x.ss.map Sl.v) :: .cells b 0 (hierC hh) :: (toks x.ss 1 ++ L)) (fun x => x.k ≤ h.sites.length ∧ m ≤ x.m ∧ x.g = (h.sites.take x.k).foldl (siteG h) (List.replicate h.funcs.toNat []) ∧ x.g.length = h.funcs.toNat ∧ RowsOk h.funcs.toNat x.g ∧ OwnRows rInt x.m x.ss x.g) (fun x => h.sites.length - x.k) ⟨0, 0, List.replicate h.funcs.toNat [], List.replicate h.funcs.toNat ⟨none, 0, 0⟩, m⟩ (by repeat (first|exact trivial|refine And.intro rfl ?_)) rfl (List.Sublist.refl _) ⟨Nat.zero_le _, Mem.le_refl _, rfl, by simp, RowsOk.empty _ _, OwnRows.empty _ _ _⟩ ?_
  rintro ⟨k, _, g, ss, m1⟩ ⟨hk, hm, hgk, hgl, hok, hrows⟩
  simp only at hk hm hgk hgl hok hrows ⊢
  have hr1 := hr.mono hm
  repeat (first|refine q1 ?_|refine q3 ?_|refine q4 tab rfl rfl ?_|refine q5 ?_|refine q6 ?_)
  refine TC.condP rfl (fun hlt' => ?_) (fun hlt' => ?_)
  · have hlt : k < h.sites.length := by omega
    have hx : h.sites[k]? = some h.sites[k] := by simp [hlt]
    have hsk := hg.sites _ (List.getElem_mem hlt)
    have hstep : (h.sites.take (k + 1)).foldl (siteG h) (List.replicate h.funcs.toNat []) = siteG h g h.sites[k] := by rw [foldl_take _ _ _ hlt, hgk]
    repeat (first|refine q1 ?_|refine q2 ?_|refine q3 ?_|refine q6 ?_|refine q13 ?_)
    refine TO.step rfl (OT.index tab rSite k hr1.sites rfl rfl rfl rfl rfl (by first | rfl | omega) rfl hx ?_)
    rintro b' i s hsx hA
    obtain rfl := (show s = h.sites[k] from hsx)
    (refine TO.step rfl (OT.loadA0 tab hA rfl rfl rfl rfl rfl ?_))
    refine TO.step rfl (OT.alloc tab rfl rfl rfl rfl (fun bs => ?_))
    (refine TO.step rfl (OT.storeL0 tab 0 rfl rfl rfl rfl rfl rfl rfl rfl ?_))
    repeat (first|(first|refine q1 ?_|refine q3 ?_|refine q5 ?_|refine q6 ?_)|(first|refine qs rfl (qz tab 0 rfl rfl rfl rfl rfl rfl ?_)|refine qs rfl (qz tab 2 rfl rfl rfl rfl rfl rfl ?_)))
    generalize hsd : h.sites[k] = s at *
    refine TO.step rfl (OT.call rfl rfl rfl rfl rfl rfl goes31 ((targets_own m1 _ hh h hr1 s hg.classes hsk).x ?_));
    rintro _ m2 _ ⟨hm2, rfl, t2, rfl, ht2⟩
    repeat (first|refine q2 ?_|refine q4 tab rfl rfl ?_|refine q5 ?_|refine q6 ?_)
    have ht2l := ht2.len
    have hq5 := ht2.small rfl
    have htlt := targets_lt hg hsk
    have hfr := hsk.frm
    refine TC.loopK (ι := GS) [1, 3, 5, 12, 13, 14, 20, 21] rfl (fun x => [(22, .int .i64 (x.j : Int))]) (fun x => x.m) (fun x => .cells bs 0 (siteC s) :: .cells bg 0 (x.ss.map Sl.v) :: .cells b 0 (hierC hh) :: (toks x.ss 1 ++ L)) (fun x => x.j ≤ (targetsM h s).length ∧ m2 ≤ x.m ∧ x.g = ((targetsM h s).take x.j).foldl (fun g t => addTo g s.frm.toNat t) g ∧ x.g.length = h.funcs.toNat ∧ RowsOk h.funcs.toNat x.g ∧ OwnRows rInt x.m x.ss x.g) (fun x => (targetsM h s).length - x.j) ⟨k, 0, g, ss, m2⟩ (by repeat (first|exact trivial|refine And.intro rfl ?_)) rfl (List.Sublist.refl _) ⟨Nat.zero_le _, Mem.le_refl _, rfl, hgl, hok, hrows.mono hm2⟩ ?_
    rintro ⟨_, j, g1, ss1, m3⟩ ⟨hj, hm3, hg1, hgl1, hok1, hrows1⟩
    simp only at hj hm3 hg1 hgl1 hok1 hrows1 ⊢
    have hss1 := All2.length hrows1
    repeat (first|refine q1 ?_|refine q3 ?_|refine q4 tab rfl rfl ?_|refine q5 ?_|refine q6 ?_)
    refine TC.condP rfl (fun hlj' => ?_) (fun hlj' => ?_)
    · have hlj : j < (targetsM h s).length := by omega
      have hxj : (targetsM h s)[j]? = some (targetsM h s)[j] := by simp [hlj]
      have hj1 := foldl_take (fun g t => addTo g s.frm.toNat t) g (targetsM h s) hlj
      have htj := htlt _ (List.getElem_mem hlj)
      have ht3 := ht2.mono hm3
      generalize htx : (targetsM h s)[j] = tv at *
      repeat (first|refine q1 ?_|refine q2 ?_|refine q3 ?_|refine q6 ?_|refine q13 ?_)
      refine TO.step rfl (OT.index tab rInt j ht3 rfl rfl rfl rfl rfl (by first | rfl | omega) rfl hxj ?_)
      rintro bt it tv' htv hAt
      obtain rfl := (show tv = tv' from htv.symm)
      (refine TO.step rfl (OT.loadA0 tab hAt rfl rfl rfl rfl rfl ?_))
      repeat (first|(first|refine q1 ?_|refine q3 ?_|refine q4 tab rfl rfl ?_|refine q5 ?_|refine q6 ?_)|(refine qs rfl (ql tab 0 rfl rfl rfl rfl rfl rfl ?_)))
      have hfl : s.frm.toNat < g1.length := by omega
      have hgi := getD_some g1 s.frm.toNat [] hfl
      obtain ⟨sr, hsr, hro, hrr⟩ := All2.get hrows1 hgi
      have hadd : addTo g1 s.frm.toNat tv = if tv ∈ g1[s.frm.toNat]?.getD [] then g1 else g1.set s.frm.toNat (g1[s.frm.toNat]?.getD [] ++ [tv]) := rfl
      have hmemr := List.mem_of_getElem? hgi
      generalize g1[s.frm.toNat]?.getD [] = row at *
      have hrl := hok1.len hmemr
      refine TO.step rfl (OT.indexP tab s.frm.toNat rfl rfl rfl rfl rfl (by omega) rfl (by omega) ?_)
      refine TO.step rfl (OT.loadM tab 1 Sl.v hsr rfl rfl rfl rfl rfl rfl ?_)
      repeat (refine q4 tab rfl rfl ?_)
      refine TO.step rfl (OT.call rfl rfl rfl rfl rfl rfl goes37 ((contains_int m3 _ sr row tv hrr).x ?_));
      rintro _ _ _ ⟨rfl, rfl, rfl⟩
      repeat (first|refine q4 tab rfl rfl ?_|refine q5 ?_|refine q6 ?_)
      refine TC.cond rfl (fun hin => ?_) (fun hin => ?_)
      · skip
        refine TC.perm ((((toks_out L hsr).cons _).cons _).cons _) ?_
        refine TC.perm (((perm_last.cons _).cons _).cons _) ?_
        refine TC.draw [12] mixed 13 rfl (_::_::_::(toks (ss1.eraseIdx s.frm.toNat) 1++L)) [tok sr 1] (by first | exact List.Perm.refl _ | (rw [List.append_nil]; exact List.Perm.refl _)) ?_
        refine DO.pure tab (by repeat (first|exact Calm.ret|refine Calm.then ?_|refine Calm.block ?_)) (by kernel_rfl) [0, 1] (by kernel_rfl) rfl ?_
        (refine DO.loadL tab 2 0 (by repeat (first|exact Calm.ret|refine Calm.then ?_|refine Calm.block ?_)) (by kernel_rfl) (by kernel_rfl) rfl rfl rfl rfl rfl rfl rfl rfl ?_)
        refine DO.pure tab (by repeat (first|exact Calm.ret|refine Calm.then ?_|refine Calm.block ?_)) (by kernel_rfl) [3, 4] (by kernel_rfl) rfl ?_
        (refine DO.loadL tab 5 0 (by repeat (first|exact Calm.ret|refine Calm.then ?_|refine Calm.block ?_)) (by kernel_rfl) (by kernel_rfl) rfl rfl rfl rfl rfl rfl rfl rfl ?_)
        refine DO.indexP tab 6 s.frm.toNat (by repeat (first|exact Calm.ret|refine Calm.then ?_|refine Calm.block ?_)) (by kernel_rfl) (by kernel_rfl) rfl rfl rfl rfl rfl rfl rfl (by omega) rfl (by omega) ?_
        refine DO.loadM tab 7 1 Sl.v hsr (by repeat (first|exact Calm.ret|refine Calm.then ?_|refine Calm.block ?_)) (by kernel_rfl) (by kernel_rfl) rfl rfl rfl rfl rfl rfl rfl rfl ?_
        refine DO.pure tab (by repeat (first|exact Calm.ret|refine Calm.then ?_|refine Calm.block ?_)) (by kernel_rfl) [8] (by kernel_rfl) rfl ?_
        refine DO.run 9 rfl rfl (by kernel_rfl) rfl ?_
        refine OT.lit tab rfl rfl rfl rfl (fun bl => ?_); refine ⟨Mem.le_refl _, _, perm_mid, ?_⟩
        refine DO.run 10 rfl rfl (by kernel_rfl) rfl ?_
        refine OT.perm List.perm_append_comm (OT.append1 tab rInt 0 (hd' := tv) (a := tv) hrr hro rfl rfl rfl rfl rfl rfl rfl rfl (by simp only [rInt]; omega) (fun t' m4 hm4 ht' ho' => ?_)); refine ⟨hm4, _, perm_last, ?_⟩
        refine DO.indexP tab 11 s.frm.toNat (by repeat (first|exact Calm.ret|refine Calm.then ?_|refine Calm.block ?_)) (by kernel_rfl) (by kernel_rfl) rfl rfl rfl rfl rfl rfl rfl (by omega) rfl (by omega) ?_
        refine DO.tail ?_
        refine DOt.run 12 rfl rfl (by kernel_rfl) rfl ?_
        refine OT.storeM tab 1 Sl.v t' rfl rfl rfl rfl rfl rfl rfl (by omega) ?_
        refine DOt.nil (by kernel_rfl) ?_
        rotate_left 1
        repeat (first|refine q3 ?_|refine q6 ?_|refine q7 ?_)
        refine TO.perm (((perm_first.cons _).cons _).cons _) ?_
        refine TO.perm ((((toks_in L (by omega)).cons _).cons _).cons _) ?_
        refine TO.step rfl (OT.arith (r' := ((j + 1 : Nat) : Int)) rfl rfl rfl rfl rfl rfl rfl (by omega) ?_)
        repeat (first|refine q4 tab rfl rfl ?_|refine q5 ?_|refine q6 ?_)
        have hni : tv ∉ row := by simpa using hin
        rw [if_neg hni] at hadd
        refine ⟨⟨k, j + 1, g1.set s.frm.toNat (row ++ [tv]), ss1.set s.frm.toNat t', m4⟩, (by repeat (first|exact trivial|refine And.intro rfl ?_)), (by repeat (first|exact trivial|refine And.intro rfl ?_)), rfl, rfl, List.Sublist.refl _, ⟨by simp only; omega, Mem.le_trans hm3 hm4, ?_, by simp [hgl1], ?_, All2.set _ (hrows1.mono hm4) ⟨ho', ht'⟩⟩, by simp only; omega⟩
        · simp only
          rw [hj1, ← hg1, hadd]
        · have := hok1.add s.frm.toNat (t := tv) ⟨by omega, by omega⟩ hfl
          rw [hadd] at this; exact this
      · repeat (first|refine q3 ?_|refine q6 ?_|refine q7 ?_|refine q13 ?_)
        refine TO.step rfl (OT.arith (r' := ((j + 1 : Nat) : Int)) rfl rfl rfl rfl rfl rfl rfl (by omega) ?_)
        repeat (first|refine q4 tab rfl rfl ?_|refine q5 ?_|refine q6 ?_)
        have hni : tv ∈ row := by simpa using hin
        rw [if_pos hni] at hadd
        refine ⟨⟨k, j + 1, g1, ss1, m3⟩, (by repeat (first|exact trivial|refine And.intro rfl ?_)), (by repeat (first|exact trivial|refine And.intro rfl ?_)), rfl, rfl, List.Sublist.refl _, ⟨by simp only; omega, hm3, ?_, hgl1, hok1, hrows1⟩, by simp only; omega⟩
        simp only
        rw [hj1, ← hg1, hadd]
    · repeat (first|refine q3 ?_|refine q6 ?_|refine q7 ?_|refine q10 ?_|refine q11 ?_|refine q14 ?_)
      refine TO.step rfl (OT.arith (r' := ((k + 1 : Nat) : Int)) rfl rfl rfl rfl rfl rfl rfl (by omega) ?_)
      repeat (first|refine q4 tab rfl rfl ?_|refine q5 ?_|refine q6 ?_)
      refine ⟨⟨k + 1, 0, g1, ss1, m3⟩, (by repeat (first|exact trivial|refine And.intro rfl ?_)), (by repeat (first|exact trivial|refine And.intro rfl ?_)), rfl, rfl, (by repeat (first|exact List.Sublist.refl _|refine List.Sublist.cons _ ?_)), ⟨by simp only; omega, Mem.le_trans hm (Mem.le_trans hm2 hm3), ?_, hgl1, hok1, hrows1⟩, by simp only; omega⟩
      simp only
      rw [hstep, hg1, List.take_of_length_le (by omega)]
      rfl
  · refine TC.freeze fun m2 hm2 hA => ?_
    repeat (first|refine q1 ?_|refine q3 ?_|refine q4 tab rfl rfl ?_|refine q5 ?_|refine q6 ?_|refine q10 ?_|refine q11 ?_|refine q14 ?_|refine q15 ?_)
    refine retQ_ret rfl ((List.sublist_append_right _ L).cons _) ⟨Mem.le_trans hm hm2, rfl, ⟨some ⟨bg, 0, none⟩, h.funcs.toNat, h.funcs.toNat⟩, rfl, ?_⟩
    rw [graphM, ← List.take_of_length_le (l := h.sites) (i := k) (by omega), ← hgk]
    exact (hrows.mono hm2).whole hA (by omega) (by omega)
end Go.Sep

/-
  Walks of layer 13: Reach.
-/
set_option linter.unusedVariables false
set_option linter.unusedSimpArgs false
namespace Go.Sep
open Go.Proofs
attribute [local irreducible] TC TO OT TCallX TCall DO DOt thenQ blockQ retQ At

/-- the calls of a graph, and what comes to what -/
def Edge (g : List (List Int)) (i j : Nat) : Prop := ∃ r, g[i]? = some r ∧ (j : Int) ∈ r
inductive Path (g : List (List Int)) (i : Nat) : Nat → Prop
  | refl : Path g i i
  | step {j k : Nat} : Path g i j → Edge g j k → Path g i k

theorem siteG_ok {h : Hier} (hg : Good h) {g : List (List Int)} (ho : RowsOk h.funcs.toNat g) (hl : g.length = h.funcs.toNat) {s : Site} (hs : SiteOk h s) : RowsOk h.funcs.toNat (siteG h g s) ∧ (siteG h g s).length = h.funcs.toNat := by
  have hn := hg.funcs
  have hfr := hs.frm
  have : ∀ (l : List Int) (g : List (List Int)), (∀ x ∈ l, 0 ≤ x ∧ x < h.funcs) → RowsOk h.funcs.toNat g → g.length = h.funcs.toNat → RowsOk h.funcs.toNat (l.foldl (fun g t => addTo g s.frm.toNat t) g) ∧ (l.foldl (fun g t => addTo g s.frm.toNat t) g).length = h.funcs.toNat := by
    intro l
    induction l with
    | nil => intro g _ h1 h2; exact ⟨h1, h2⟩
    | cons x l ih =>
      intro g hx h1 h2
      have := hx x (List.mem_cons_self ..)
      exact ih _ (fun y hy => hx y (List.mem_cons_of_mem _ hy)) (h1.add _ ⟨by omega, by omega⟩ (by omega)) (by rw [addTo_len]; exact h2)
  exact this _ _ (targets_lt hg hs) ho hl

theorem graphM_ok {h : Hier} (hg : Good h) : RowsOk h.funcs.toNat (graphM h) ∧ (graphM h).length = h.funcs.toNat := by
  have : ∀ (l : List Site) (g : List (List Int)), (∀ s ∈ l, SiteOk h s) → RowsOk h.funcs.toNat g → g.length = h.funcs.toNat → RowsOk h.funcs.toNat (l.foldl (siteG h) g) ∧ (l.foldl (siteG h) g).length = h.funcs.toNat := by
    intro l
    induction l with
    | nil => intro g _ h1 h2; exact ⟨h1, h2⟩
    | cons s l ih =>
      intro g hx h1 h2
      obtain ⟨h3, h4⟩ := siteG_ok hg h1 h2 (hx s (List.mem_cons_self ..))
      exact ih _ (fun y hy => hx y (List.mem_cons_of_mem _ hy)) h3 h4
  exact this _ _ hg.sites (RowsOk.empty _ _) (by simp)

end Go.Sep

/-
  The model of visit: what it does to its state, and what it keeps.
-/
set_option linter.unusedVariables false
set_option linter.unusedSimpArgs false
namespace Go.Sep

def at0 (l : List Int) (k : Nat) : Int := l[k]?.getD 0

structure TS where
  index : List Int
  low : List Int
  group : List Int
  stack : List Int   -- the top first
  count : Int
  groups : Int

def beginV (st : TS) (f : Nat) : TS :=
  { st with count := st.count + 1, index := st.index.set f (st.count + 1), low := st.low.set f (st.count + 1), group := st.group.set f (-1), stack := (f : Int) :: st.stack }

def lowerV (f k : Nat) (st : TS) : TS := if at0 st.group k < 0 then { st with low := st.low.set f (if at0 st.low k < at0 st.low f then at0 st.low k else at0 st.low f) } else st

def popR (f gr : Int) : List Int → List Int → List Int × List Int
  | [], grp => ([], grp)
  | x :: xs, grp => if x = f then (xs, grp.set x.toNat gr) else popR f gr xs (grp.set x.toNat gr)

def closeV (f : Nat) (st : TS) : TS :=
  if at0 st.low f ≠ at0 st.index f then st
  else { st with stack := (popR f st.groups st.stack st.group).1, group := (popR f st.groups st.stack st.group).2, groups := st.groups + 1 }

def visitM (g : List (List Int)) : Nat → TS → Nat → TS
  | 0, st, _ => st
  | fuel + 1, st, f => closeV f ((g[f]?.getD []).foldl (fun st t => lowerV f t.toNat (if at0 st.index t.toNat = 0 then visitM g fuel st t.toNat else st)) (beginV st f))

def stepV (g : List (List Int)) (fuel f : Nat) (st : TS) (t : Int) : TS := lowerV f t.toNat (if at0 st.index t.toNat = 0 then visitM g fuel st t.toNat else st)

theorem visitM_succ (g : List (List Int)) (fuel : Nat) (st : TS) (f : Nat) : visitM g (fuel + 1) st f = closeV f ((g[f]?.getD []).foldl (stepV g fuel f) (beginV st f)) := rfl

def zeros (l : List Int) : Nat := (l.filter (· == 0)).length

theorem zeros_set {l : List Int} {k : Nat} {v : Int} (h : l[k]? = some 0) (hv : v ≠ 0) : zeros (l.set k v) + 1 = zeros l := by
  unfold zeros
  induction l generalizing k with
  | nil => simp at h
  | cons x xs ih =>
    cases k with
    | zero => simp at h; subst h; simp [hv]
    | succ k =>
      simp at h
      have := ih h
      simp only [List.set_cons_succ, List.filter_cons]
      split
      · simp only [List.length_cons]; omega
      · exact this

theorem zeros_pos {l : List Int} {k : Nat} (h : l[k]? = some 0) : 0 < zeros l := by
  unfold zeros
  have : (0 : Int) ∈ l.filter (· == 0) := by simp; exact List.mem_of_getElem? h
  exact List.length_pos_of_mem this

structure WF (n : Nat) (st : TS) : Prop where
  li : st.index.length = n
  ll : st.low.length = n
  lg : st.group.length = n
  stk : ∀ x ∈ st.stack, 0 ≤ x ∧ x < (n : Int)
  cnt : 0 ≤ st.count ∧ st.count + zeros st.index ≤ n
  grp : 0 ≤ st.groups ∧ st.groups + st.stack.length + zeros st.index ≤ n

/-- what a visit keeps -/
structure Kept (st st' : TS) : Prop where
  stack : ∃ ext, st'.stack = ext ++ st.stack
  index : ∀ k : Nat, at0 st.index k ≠ 0 → at0 st'.index k = at0 st.index k
  zeros : zeros st'.index ≤ zeros st.index

theorem Kept.refl (st : TS) : Kept st st := ⟨⟨[], rfl⟩, fun _ _ => rfl, Nat.le_refl _⟩
theorem Kept.trans {a b c : TS} (h : Kept a b) (k : Kept b c) : Kept a c := by
  obtain ⟨e, he⟩ := h.stack
  obtain ⟨e', he'⟩ := k.stack
  exact ⟨⟨e' ++ e, by rw [he', he, List.append_assoc]⟩, fun i hi => by rw [k.index i (by rw [h.index i hi]; exact hi), h.index i hi], Nat.le_trans k.zeros h.zeros⟩

theorem at0_get {l : List Int} {k : Nat} (h : k < l.length) : l[k]? = some (at0 l k) := by simp [at0, h]
theorem at0_set {l : List Int} {k i : Nat} {v : Int} : at0 (l.set k v) i = if k = i ∧ k < l.length then v else at0 l i := by
  unfold at0
  rw [List.getElem?_set]
  by_cases e : k = i
  · subst e
    by_cases h : k < l.length <;> simp [h]
  · simp [e]

theorem beginV_wf {n : Nat} {st : TS} (h : WF n st) {f : Nat} (hf : f < n) (h0 : at0 st.index f = 0) : WF n (beginV st f) ∧ zeros (beginV st f).index + 1 = zeros st.index ∧ (∀ k : Nat, at0 st.index k ≠ 0 → at0 (beginV st f).index k = at0 st.index k) ∧ at0 (beginV st f).index f ≠ 0 := by
  have hz : st.index[f]? = some 0 := by rw [at0_get (by rw [h.li]; exact hf), h0]
  have hc := h.cnt
  have hg := h.grp
  have hzs := zeros_set hz (v := st.count + 1) (by omega)
  refine ⟨⟨by simp [beginV, h.li], by simp [beginV, h.ll], by simp [beginV, h.lg], ?_, ?_, ?_⟩, hzs, fun k hk => ?_, ?_⟩
  · intro x hx
    simp only [beginV, List.mem_cons] at hx
    rcases hx with rfl | hx
    · omega
    · exact h.stk x hx
  · simp only [beginV]; omega
  · simp only [beginV, List.length_cons]; omega
  · simp only [beginV, at0_set]
    split
    · rename_i e; rw [e.1] at h0; exact absurd h0 hk
    · rfl
  · have hfl : f < st.index.length := by rw [h.li]; exact hf
    simp only [beginV, at0_set, hfl, and_self, if_true, true_and]
    omega

theorem lowerV_wf {n : Nat} {st : TS} (h : WF n st) (f k : Nat) : WF n (lowerV f k st) := by
  unfold lowerV; split
  · exact ⟨h.li, by simp [h.ll], h.lg, h.stk, h.cnt, h.grp⟩
  · exact h
theorem lowerV_index (f k : Nat) (st : TS) : (lowerV f k st).index = st.index ∧ (lowerV f k st).stack = st.stack := by unfold lowerV; split <;> exact ⟨rfl, rfl⟩
theorem lowerV_kept (f k : Nat) (st : TS) : Kept st (lowerV f k st) := by
  obtain ⟨h1, h2⟩ := lowerV_index f k st
  exact ⟨⟨[], by rw [h2]; rfl⟩, fun i _ => by rw [h1], by rw [h1]; exact Nat.le_refl _⟩

theorem popR_len (f gr : Int) : ∀ (xs grp : List Int), (popR f gr xs grp).2.length = grp.length
  | [], grp => rfl
  | x :: xs, grp => by
    unfold popR; split
    · simp
    · rw [popR_len f gr xs]; simp
theorem popR_suffix (f gr : Int) : ∀ (xs grp : List Int), f ∈ xs → ∃ e, xs = e ++ f :: (popR f gr xs grp).1 ∧ f ∉ e
  | [], grp, h => by cases h
  | x :: xs, grp, h => by
    unfold popR
    by_cases e : x = f
    · rw [if_pos e]; exact ⟨[], by simp [e], by simp⟩
    · rw [if_neg e]
      have : f ∈ xs := by
        rcases List.mem_cons.1 h with h | h
        · exact absurd h.symm e
        · exact h
      obtain ⟨a, h1, h2⟩ := popR_suffix f gr xs (grp.set x.toNat gr) this
      refine ⟨x :: a, by rw [List.cons_append, ← h1], ?_⟩
      simp only [List.mem_cons, not_or]
      exact ⟨fun h => e h.symm, h2⟩

theorem suffix_cut {α : Type} {f : α} : ∀ {e ext r rest : List α}, e ++ f :: r = ext ++ f :: rest → f ∉ e → ∃ e', r = e' ++ rest
  | [], [], r, rest, h, _ => by simp at h; exact ⟨[], by simp [h]⟩
  | [], y :: ys, r, rest, h, _ => by simp at h; exact ⟨ys ++ [f], by simp [h.2]⟩
  | x :: xs, [], r, rest, h, hf => by simp at h; exact absurd (by simp [h.1]) hf
  | x :: xs, y :: ys, r, rest, h, hf => by
    simp at h
    exact suffix_cut h.2 (fun hm => hf (by simp [hm]))

theorem closeV_wf {n : Nat} {st : TS} (h : WF n st) {f : Nat} {ext rest : List Int} (hs : st.stack = ext ++ (f : Int) :: rest) : WF n (closeV f st) ∧ (closeV f st).index = st.index ∧ ∃ e, (closeV f st).stack = e ++ rest := by
  unfold closeV
  split
  · exact ⟨h, rfl, ext ++ [(f : Int)], by rw [hs]; simp⟩
  · obtain ⟨e, h1, h2⟩ := popR_suffix f st.groups st.stack st.group (by rw [hs]; simp)
    have h3 := hs.symm.trans h1
    obtain ⟨e', h4⟩ := suffix_cut h3.symm h2
    have hl := congrArg List.length h1
    simp only [List.length_append, List.length_cons] at hl
    have hg := h.grp
    refine ⟨⟨h.li, h.ll, by simp only [popR_len]; exact h.lg, fun x hx => h.stk x ?_, h.cnt, ?_⟩, rfl, e', h4⟩
    · rw [h1]; exact List.mem_append_right _ (List.mem_cons_of_mem _ hx)
    · simp only; omega

/-- a visit keeps what a visit keeps; f is begun behind it -/
theorem visitM_ok {n : Nat} {g : List (List Int)} (hg : RowsOk n g) (hl : g.length = n) : ∀ (fuel : Nat) (st : TS) (f : Nat), WF n st → f < n → at0 st.index f = 0 → zeros st.index ≤ fuel →
    WF n (visitM g fuel st f) ∧ Kept st (visitM g fuel st f) ∧ at0 (visitM g fuel st f).index f ≠ 0 ∧ zeros (visitM g fuel st f).index + 1 ≤ zeros st.index := by
  intro fuel
  induction fuel with
  | zero =>
    intro st f h hf h0 hz
    have := zeros_pos (by rw [at0_get (by rw [h.li]; exact hf), h0] : st.index[f]? = some 0)
    omega
  | succ fuel ih =>
    intro st f h hf h0 hz
    obtain ⟨b1, b2, b3, b4⟩ := beginV_wf h hf h0
    have fold : ∀ (row : List Int) (s : TS), (∀ x ∈ row, 0 ≤ x ∧ x < (n : Int)) → WF n s → zeros s.index ≤ fuel → WF n (row.foldl (stepV g fuel f) s) ∧ Kept s (row.foldl (stepV g fuel f) s) := by
      intro row
      induction row with
      | nil => intro s _ hs _; exact ⟨hs, Kept.refl s⟩
      | cons t row ihr =>
        intro s hr hs hzs
        have ht := hr t (List.mem_cons_self ..)
        have hstep : WF n (stepV g fuel f s t) ∧ Kept s (stepV g fuel f s t) := by
          unfold stepV
          split
          · rename_i e
            obtain ⟨v1, v2, _, _⟩ := ih s t.toNat hs (by omega) e hzs
            exact ⟨lowerV_wf v1 _ _, v2.trans (lowerV_kept _ _ _)⟩
          · exact ⟨lowerV_wf hs _ _, lowerV_kept _ _ _⟩
        obtain ⟨r1, r2⟩ := ihr _ (fun x hx => hr x (List.mem_cons_of_mem _ hx)) hstep.1 (Nat.le_trans hstep.2.zeros hzs)
        exact ⟨r1, hstep.2.trans r2⟩
    have hrow : ∀ x ∈ g[f]?.getD [], 0 ≤ x ∧ x < (n : Int) := fun x hx => hg.lt _ (by simp [show f < g.length by omega]) x hx
    obtain ⟨f1, f2⟩ := fold _ _ hrow b1 (by omega)
    obtain ⟨ext, hext⟩ := f2.stack
    obtain ⟨c1, c2, e, c3⟩ := closeV_wf f1 (f := f) (ext := ext) (rest := st.stack) hext
    rw [visitM_succ]
    have hz2 := f2.zeros
    refine ⟨c1, ⟨⟨e, c3⟩, fun k hk => ?_, ?_⟩, ?_, ?_⟩
    · rw [c2, f2.index k (by rw [b3 k hk]; exact hk), b3 k hk]
    · rw [c2]; omega
    · rw [c2, f2.index f b4]; exact b4
    · rw [c2]; omega

theorem stepV_ok {n : Nat} {g : List (List Int)} (hg : RowsOk n g) (hl : g.length = n) {fuel : Nat} {s : TS} {t : Int} (f : Nat) (ht : 0 ≤ t ∧ t < (n : Int)) (hs : WF n s) (hz : zeros s.index ≤ fuel) :
    WF n (stepV g fuel f s t) ∧ Kept s (stepV g fuel f s t) := by
  unfold stepV
  split
  · rename_i e
    obtain ⟨v1, v2, _, _⟩ := visitM_ok hg hl fuel s t.toNat hs (by omega) e hz
    exact ⟨lowerV_wf v1 _ _, v2.trans (lowerV_kept _ _ _)⟩
  · exact ⟨lowerV_wf hs _ _, lowerV_kept _ _ _⟩
end Go.Sep

/-
  Walks of layer 13: visit.
-/
set_option linter.unusedVariables false
set_option linter.unusedSimpArgs false
namespace Go.Sep
open Go.Proofs
attribute [local irreducible] TC TO OT TCallX TCall DO DOt thenQ blockQ retQ At

/-- where the pieces of a state lie -/
structure TP where
  tg : Sl
  n : Nat
  bt : Nat
  bi : Nat
  bl : Nat
  bg : Nat

@[reducible] def tcells (p : TP) (s : Sl) (st : TS) : List Value :=
  [.slice p.tg.a p.tg.len p.tg.cap, .slice (some ⟨p.bi, 0, none⟩) p.n p.n, .slice (some ⟨p.bl, 0, none⟩) p.n p.n, .slice (some ⟨p.bg, 0, none⟩) p.n p.n, .slice s.a s.len s.cap, .int .i64 st.count, .int .i64 st.groups]
@[reducible] def tI (p : TP) (st : TS) (s : Sl) (vs : List Value) (L : List Item) : List Item :=
  mcell s vs :: .cells p.bt 0 (tcells p s st) :: .cells p.bi 0 (st.index.map (Value.int .i64)) :: .cells p.bl 0 (st.low.map (Value.int .i64)) :: .cells p.bg 0 (st.group.map (Value.int .i64)) :: L

theorem perm5 {α : Type} {a b c d e : α} {L : List α} : (a :: b :: c :: d :: e :: (L ++ [])).Perm (a :: b :: c :: d :: e :: L) := by rw [List.append_nil]

structure VS where
  j : Nat
  st : TS
  s : Sl
  vs : List Value

structure PS where
  rest : List Int
  grp : List Int
  s : Sl

set_option maxHeartbeats 4000000 in
theorem visit_own (p : TP) (g : List (List Int)) (hg : RowsOk p.n g) (hl : g.length = p.n) (hn : p.n ≤ 4096) : ∀ (fuel : Nat) (m : Mem) (L : List Item) (st : TS) (s : Sl) (vs : List Value) (f : Nat),
    SlRep rInts m p.tg g → MQ (Value.int .i64) s vs st.stack.reverse → WF p.n st → f < p.n → at0 st.index f = 0 → zeros st.index ≤ fuel →
    TCall Try.prog 29 ⟨[.pointer (some ⟨p.bt, 0, none⟩), .int .i64 (f : Int)]⟩ m (tI p st s vs L) (fun _ m' L' => m = m' ∧ ∃ s' vs', MQ (Value.int .i64) s' vs' (visitM g fuel st f).stack.reverse ∧ L' = tI p (visitM g fuel st f) s' vs' L) := by
  intro fuel
  induction fuel with
  | zero =>
    intro m L st s vs f _ _ h hf h0 hz
    have := zeros_pos (by rw [at0_get (by rw [h.li]; exact hf), h0] : st.index[f]? = some 0)
    omega
  | succ fuel ih =>
    intro m L st s vs f htg hq hW hf h0 hz
    obtain ⟨b1, b2, b3, b4⟩ := beginV_wf hW hf h0
    have hcnt := hW.cnt
    have hgrp := hW.grp
    have hli := hW.li
    have hll := hW.ll
    have hlg := hW.lg
    unfold TCall
    refine TCallX.enter Try.func29 rfl 164 rfl ?_
    repeat (first|(first|refine q1 ?_|refine q3 ?_|refine q4 tab rfl rfl ?_)|(refine qs rfl (ql tab 1 rfl rfl rfl rfl rfl rfl ?_)))
    refine TO.step rfl (OT.arith (r' := st.count + 1) rfl rfl rfl rfl rfl rfl rfl (by omega) ?_)
    repeat (refine q4 tab rfl rfl ?_)
    (refine TO.step rfl (OT.storeL tab 1 rfl rfl rfl rfl rfl rfl rfl rfl ?_))
    repeat (first|refine q1 ?_|refine q5 ?_|refine q6 ?_)
    refine TC.draw0 [24, 25, 26, 27, 28] mixed 29 rfl ?_
    refine DO.pure tab (by repeat (first|exact Calm.ret|refine Calm.then ?_)) (by kernel_rfl) [0, 1, 2] (by kernel_rfl) rfl ?_
    (refine DO.loadL tab 3 1 (by repeat (first|exact Calm.ret|refine Calm.then ?_)) (by kernel_rfl) (by kernel_rfl) rfl rfl rfl rfl rfl rfl rfl rfl ?_)
    refine DO.pure tab (by repeat (first|exact Calm.ret|refine Calm.then ?_)) (by kernel_rfl) [4, 5, 6, 7] (by kernel_rfl) rfl ?_
    (refine DO.loadL tab 8 1 (by repeat (first|exact Calm.ret|refine Calm.then ?_)) (by kernel_rfl) (by kernel_rfl) rfl rfl rfl rfl rfl rfl rfl rfl ?_)
    refine DO.pure tab (by repeat (first|exact Calm.ret|refine Calm.then ?_)) (by kernel_rfl) [9, 10, 11, 12] (by kernel_rfl) rfl ?_
    (refine DO.loadL tab 13 1 (by repeat (first|exact Calm.ret|refine Calm.then ?_)) (by kernel_rfl) (by kernel_rfl) rfl rfl rfl rfl rfl rfl rfl rfl ?_)
    refine DO.pure tab (by repeat (first|exact Calm.ret|refine Calm.then ?_)) (by kernel_rfl) [14, 15, 16, 17] (by kernel_rfl) rfl ?_
    (refine DO.loadL tab 18 1 (by repeat (first|exact Calm.ret|refine Calm.then ?_)) (by kernel_rfl) (by kernel_rfl) rfl rfl rfl rfl rfl rfl rfl rfl ?_)
    refine DO.pure tab (by repeat (first|exact Calm.ret|refine Calm.then ?_)) (by kernel_rfl) [19, 20, 21] (by kernel_rfl) rfl ?_
    (refine DO.loadL tab 22 1 (by repeat (first|exact Calm.ret|refine Calm.then ?_)) (by kernel_rfl) (by kernel_rfl) rfl rfl rfl rfl rfl rfl rfl rfl ?_)
    refine DO.indexP (sz := 1) tab 23 f (by repeat (first|exact Calm.ret|refine Calm.then ?_)) (by kernel_rfl) (by kernel_rfl) rfl rfl rfl rfl rfl rfl rfl rfl rfl hf ?_
    refine DO.tail ?_
    refine DOt.run 24 rfl rfl (by kernel_rfl) rfl ?_
    refine OT.storeM (k := f) tab 2 (Value.int .i64) (st.count + 1) rfl rfl rfl rfl rfl rfl rfl (by omega) ?_
    refine DOt.run 25 rfl rfl (by kernel_rfl) rfl ?_
    refine OT.indexP (sz := 1) tab f rfl rfl rfl rfl rfl rfl rfl hf ?_
    refine DOt.run 26 rfl rfl (by kernel_rfl) rfl ?_
    refine OT.storeM (k := f) tab 3 (Value.int .i64) (st.count + 1) rfl rfl rfl rfl rfl rfl rfl (by omega) ?_
    refine DOt.run 27 rfl rfl (by kernel_rfl) rfl ?_
    refine OT.indexP (sz := 1) tab f rfl rfl rfl rfl rfl rfl rfl hf ?_
    refine DOt.run 28 rfl rfl (by kernel_rfl) rfl ?_
    refine OT.storeM (k := f) tab 4 (Value.int .i64) (-1) rfl rfl rfl rfl rfl rfl rfl (by omega) ?_
    refine DOt.nil (by kernel_rfl) ?_
    rotate_left 1
    refine thenQ_n (TC.perm perm5 ?_)
    repeat (first|(first|refine q1 ?_|refine q3 ?_|refine q4 tab rfl rfl ?_)|(refine qs rfl (ql tab 1 rfl rfl rfl rfl rfl rfl ?_)))
    refine TO.step rfl (OT.lit tab rfl rfl rfl rfl (fun bq => ?_))
    have hql := hq.len
    have hsl : st.stack.length ≤ p.n := by omega
    simp only [List.length_reverse] at hql
    refine TO.step rfl (OT.push tab hq.ms rfl rfl rfl rfl rfl rfl rfl (show (s.len + 1) * 8 ≤ 140737488355328 by omega) (fun s1 vs1 g1 g2 g3 => ?_))
    repeat (refine q4 tab rfl rfl ?_)
    (refine TO.step rfl (OT.storeL tab 1 rfl rfl rfl rfl rfl rfl rfl rfl ?_))
    have hq1 : MQ (Value.int .i64) s1 vs1 (beginV st f).stack.reverse := by
      have := hq.push (f : Int) g1 g2 g3
      simpa [beginV] using this
    have hrow := getD_some g f [] (by omega)
    have hmemr := List.mem_of_getElem? hrow
    have hvis := visitM_succ g fuel st f
    generalize hrw : g[f]?.getD [] = row at *
    have hrlt := hg.lt row hmemr
    repeat (first|(first|refine q1 ?_|refine q3 ?_|refine q4 tab rfl rfl ?_|refine q5 ?_|refine q6 ?_)|(refine qs rfl (ql tab 1 rfl rfl rfl rfl rfl rfl ?_)))
    refine TO.step rfl (OT.index tab rInts f htg rfl rfl rfl rfl rfl (by first | rfl | omega) rfl hrow ?_)
    rintro bw iw tr htr hAw
    (refine TO.step rfl (OT.loadA0 tab hAw rfl rfl rfl rfl rfl ?_))
    repeat (first|refine q2 ?_|refine q4 tab rfl rfl ?_|refine q5 ?_|refine q6 ?_)
    have hrl := htr.len
    have hrs := htr.small rfl
    refine TC.loopK (ι := VS) [0, 1, 56, 57] rfl (fun x => [(58, .int .i64 (x.j : Int))]) (fun _ => m) (fun x => tI p x.st x.s x.vs L)
      (fun x => x.j ≤ row.length ∧ x.st = (row.take x.j).foldl (stepV g fuel f) (beginV st f) ∧ WF p.n x.st ∧ Kept (beginV st f) x.st ∧ MQ (Value.int .i64) x.s x.vs x.st.stack.reverse) (fun x => row.length - x.j) ⟨0, beginV st f, s1, vs1⟩ (by repeat (first|exact trivial|refine And.intro rfl ?_)) rfl (List.Sublist.refl _) ⟨Nat.zero_le _, rfl, b1, Kept.refl _, hq1⟩ ?_
    rintro ⟨j, x, s2, vs2⟩ ⟨hj, hx, hWx, hKx, hqx⟩
    simp only at hj hx hWx hKx hqx ⊢
    repeat (first|refine q1 ?_|refine q3 ?_|refine q4 tab rfl rfl ?_|refine q5 ?_|refine q6 ?_)
    refine TC.condP rfl (fun hlj' => ?_) (fun hlj' => ?_)
    · have hlj : j < row.length := by omega
      have hxj : row[j]? = some row[j] := by simp [hlj]
      have hstep := foldl_take (stepV g fuel f) (beginV st f) row hlj
      have hlt := hrlt _ (List.getElem_mem hlj)
      have hzx : zeros x.index ≤ fuel := Nat.le_trans hKx.zeros (by omega)
      have hok := stepV_ok hg hl f hlt hWx hzx
      rw [← hx] at hstep
      have hxi := hWx.li
      repeat (first|refine q1 ?_|refine q2 ?_|refine q3 ?_|refine q6 ?_|refine q13 ?_)
      refine TO.step rfl (OT.index tab rInt j htr rfl rfl rfl rfl rfl (by first | rfl | omega) rfl hxj ?_)
      rintro bt it tv htv hAt
      have htv' : row[j] = (row[j].toNat : Int) := by omega
      generalize hkk : row[j].toNat = kk at *
      obtain rfl := (show tv = row[j] from htv)
      have hsv : stepV g fuel f x row[j] = lowerV f kk (if at0 x.index kk = 0 then visitM g fuel x kk else x) := by unfold stepV; rw [hkk]
      rw [htv'] at hAt
      (refine TO.step rfl (OT.loadA0 tab hAt rfl rfl rfl rfl rfl ?_))
      repeat (first|(first|refine q1 ?_|refine q3 ?_|refine q4 tab rfl rfl ?_|refine q5 ?_|refine q6 ?_)|(refine qs rfl (ql tab 1 rfl rfl rfl rfl rfl rfl ?_)))
      refine TO.step rfl (OT.indexP (sz := 1) tab kk rfl rfl rfl rfl rfl rfl rfl (by omega) ?_)
      have hki : x.index[kk]? = some (at0 x.index kk) := at0_get (by omega)
      refine TO.step rfl (OT.loadM tab 2 (Value.int .i64) hki rfl rfl rfl rfl rfl rfl ?_)
      repeat (first|refine q4 tab rfl rfl ?_|refine q5 ?_|refine q6 ?_)
      have hlow : ∀ (y : TS), WF p.n y → y = (if at0 x.index kk = 0 then visitM g fuel x kk else x) → (at0 y.group kk < 0 → ({ y with low := y.low.set f (if at0 y.low kk < at0 y.low f then at0 y.low kk else at0 y.low f) } : TS) = (row.take (j + 1)).foldl (stepV g fuel f) (beginV st f)) ∧ (¬ at0 y.group kk < 0 → y = (row.take (j + 1)).foldl (stepV g fuel f) (beginV st f)) := fun y _ hy => by
        rw [hstep, hsv, ← hy]
        exact ⟨fun h => by rw [lowerV, if_pos h], fun h => by rw [lowerV, if_neg h]⟩
      have hokx := hok.1
      have hokk := hKx.trans hok.2
      rw [hsv] at hokx hokk
      refine TC.condP rfl (fun hz0 => ?_) (fun hz0 => ?_)
      · repeat (first|refine q3 ?_|refine q4 tab rfl rfl ?_)
        refine TO.step rfl (OT.call rfl rfl rfl rfl rfl rfl goes29 ((ih m L x s2 vs2 kk htg hqx hWx (by omega) hz0 hzx).x ?_));
        rintro _ _ _ ⟨rfl, s3, vs3, hq3, rfl⟩
        obtain ⟨hWy, _, _, _⟩ := visitM_ok hg hl fuel x kk hWx (by omega) hz0 hzx
        rw [if_pos hz0] at hlow hokx hokk
        generalize visitM g fuel x kk = y at *
        have hlw := hlow y hWy rfl
        have hyg := hWy.lg
        have hyl := hWy.ll
        repeat (first|(first|refine q1 ?_|refine q3 ?_|refine q4 tab rfl rfl ?_|refine q5 ?_|refine q6 ?_)|(refine qs rfl (ql tab 1 rfl rfl rfl rfl rfl rfl ?_)))
        refine TO.step rfl (OT.indexP (sz := 1) tab kk rfl rfl rfl rfl rfl rfl rfl (by omega) ?_)
        have hkg : y.group[kk]? = some (at0 y.group kk) := at0_get (by omega)
        have hkl : y.low[kk]? = some (at0 y.low kk) := at0_get (by omega)
        have hfl : y.low[f]? = some (at0 y.low f) := at0_get (by omega)
        refine TO.step rfl (OT.loadM tab 4 (Value.int .i64) hkg rfl rfl rfl rfl rfl rfl ?_)
        repeat (first|refine q4 tab rfl rfl ?_|refine q5 ?_|refine q6 ?_)
        refine TC.condP rfl (fun hneg => ?_) (fun hneg => ?_)
        · rw [lowerV, if_pos hneg] at hokx hokk
          skip
          refine TC.draw0 [21] mixed 22 rfl ?_
          refine DO.pure tab (by repeat (first|exact Calm.ret|refine Calm.then ?_|refine Calm.block ?_)) (by kernel_rfl) [0, 1, 2] (by kernel_rfl) rfl ?_
          (refine DO.loadL tab 3 1 (by repeat (first|exact Calm.ret|refine Calm.then ?_|refine Calm.block ?_)) (by kernel_rfl) (by kernel_rfl) rfl rfl rfl rfl rfl rfl rfl rfl ?_)
          refine DO.pure tab (by repeat (first|exact Calm.ret|refine Calm.then ?_|refine Calm.block ?_)) (by kernel_rfl) [4, 5, 6, 7] (by kernel_rfl) rfl ?_
          (refine DO.loadL tab 8 1 (by repeat (first|exact Calm.ret|refine Calm.then ?_|refine Calm.block ?_)) (by kernel_rfl) (by kernel_rfl) rfl rfl rfl rfl rfl rfl rfl rfl ?_)
          refine DO.pure tab (by repeat (first|exact Calm.ret|refine Calm.then ?_|refine Calm.block ?_)) (by kernel_rfl) [9] (by kernel_rfl) rfl ?_
          refine DO.indexP (sz := 1) tab 10 f (by repeat (first|exact Calm.ret|refine Calm.then ?_|refine Calm.block ?_)) (by kernel_rfl) (by kernel_rfl) rfl rfl rfl rfl rfl rfl rfl rfl rfl hf ?_
          refine DO.loadM tab 11 3 (Value.int .i64) hfl (by repeat (first|exact Calm.ret|refine Calm.then ?_|refine Calm.block ?_)) (by kernel_rfl) (by kernel_rfl) rfl rfl rfl rfl rfl rfl rfl rfl ?_
          refine DO.pure tab (by repeat (first|exact Calm.ret|refine Calm.then ?_|refine Calm.block ?_)) (by kernel_rfl) [12, 13, 14] (by kernel_rfl) rfl ?_
          (refine DO.loadL tab 15 1 (by repeat (first|exact Calm.ret|refine Calm.then ?_|refine Calm.block ?_)) (by kernel_rfl) (by kernel_rfl) rfl rfl rfl rfl rfl rfl rfl rfl ?_)
          refine DO.pure tab (by repeat (first|exact Calm.ret|refine Calm.then ?_|refine Calm.block ?_)) (by kernel_rfl) [16] (by kernel_rfl) rfl ?_
          refine DO.indexP (sz := 1) tab 17 kk (by repeat (first|exact Calm.ret|refine Calm.then ?_|refine Calm.block ?_)) (by kernel_rfl) (by kernel_rfl) rfl rfl rfl rfl rfl rfl rfl rfl rfl (by omega) ?_
          refine DO.loadM tab 18 3 (Value.int .i64) hkl (by repeat (first|exact Calm.ret|refine Calm.then ?_|refine Calm.block ?_)) (by kernel_rfl) (by kernel_rfl) rfl rfl rfl rfl rfl rfl rfl rfl ?_
          refine DO.pure tab (by repeat (first|exact Calm.ret|refine Calm.then ?_|refine Calm.block ?_)) (by kernel_rfl) [19] (by kernel_rfl) rfl ?_
          refine DO.indexP (sz := 1) tab 20 f (by repeat (first|exact Calm.ret|refine Calm.then ?_|refine Calm.block ?_)) (by kernel_rfl) (by kernel_rfl) rfl rfl rfl rfl rfl rfl rfl rfl rfl hf ?_
          refine DO.tail ?_
          refine DOt.run 21 rfl rfl (by kernel_rfl) rfl ?_
          refine OT.storeM (k := f) tab 3 (Value.int .i64) (if at0 y.low kk < at0 y.low f then at0 y.low kk else at0 y.low f) rfl rfl rfl rfl rfl rfl rfl (by omega) ?_
          refine DOt.nil (by kernel_rfl) ?_
          rotate_left 1
          repeat (first|refine q3 ?_|refine q6 ?_|refine q7 ?_)
          refine TO.perm perm5 ?_
          refine TO.step rfl (OT.arith (r' := ((j + 1 : Nat) : Int)) rfl rfl rfl rfl rfl rfl rfl (by omega) ?_)
          repeat (first|refine q4 tab rfl rfl ?_|refine q5 ?_|refine q6 ?_)
          exact ⟨⟨j + 1, { y with low := y.low.set f (if at0 y.low kk < at0 y.low f then at0 y.low kk else at0 y.low f) }, s3, vs3⟩, (by repeat (first|exact trivial|refine And.intro rfl ?_)), (by repeat (first|exact trivial|refine And.intro rfl ?_)), rfl, rfl, List.Sublist.refl _, ⟨by simp only; omega, hlw.1 hneg, hokx, hokk, hq3⟩, by simp only; omega⟩
        · rw [lowerV, if_neg hneg] at hokx hokk
          repeat (first|refine q3 ?_|refine q6 ?_|refine q7 ?_|refine q13 ?_)
          refine TO.step rfl (OT.arith (r' := ((j + 1 : Nat) : Int)) rfl rfl rfl rfl rfl rfl rfl (by omega) ?_)
          repeat (first|refine q4 tab rfl rfl ?_|refine q5 ?_|refine q6 ?_)
          exact ⟨⟨j + 1, y, s3, vs3⟩, (by repeat (first|exact trivial|refine And.intro rfl ?_)), (by repeat (first|exact trivial|refine And.intro rfl ?_)), rfl, rfl, List.Sublist.refl _, ⟨by simp only; omega, hlw.2 hneg, hokx, hokk, hq3⟩, by simp only; omega⟩
      · have hlw := hlow x hWx (by rw [if_neg hz0])
        rw [if_neg hz0] at hokx hokk
        have hWy := hWx
        have hq3 := hqx
        clear hlow
        generalize x = y at hlw hokx hokk hWy hq3 ⊢
        generalize s2 = s3 at hq3 ⊢
        generalize vs2 = vs3 at hq3 ⊢
        have hyg := hWy.lg
        have hyl := hWy.ll
        repeat (first|(first|refine q1 ?_|refine q3 ?_|refine q4 tab rfl rfl ?_|refine q6 ?_|refine q13 ?_)|(refine qs rfl (ql tab 1 rfl rfl rfl rfl rfl rfl ?_)))
        refine TO.step rfl (OT.indexP (sz := 1) tab kk rfl rfl rfl rfl rfl rfl rfl (by omega) ?_)
        have hkg : y.group[kk]? = some (at0 y.group kk) := at0_get (by omega)
        have hkl : y.low[kk]? = some (at0 y.low kk) := at0_get (by omega)
        have hfl : y.low[f]? = some (at0 y.low f) := at0_get (by omega)
        refine TO.step rfl (OT.loadM tab 4 (Value.int .i64) hkg rfl rfl rfl rfl rfl rfl ?_)
        repeat (first|refine q4 tab rfl rfl ?_|refine q5 ?_|refine q6 ?_)
        refine TC.condP rfl (fun hneg => ?_) (fun hneg => ?_)
        · rw [lowerV, if_pos hneg] at hokx hokk
          skip
          refine TC.draw0 [21] mixed 22 rfl ?_
          refine DO.pure tab (by repeat (first|exact Calm.ret|refine Calm.then ?_|refine Calm.block ?_)) (by kernel_rfl) [0, 1, 2] (by kernel_rfl) rfl ?_
          (refine DO.loadL tab 3 1 (by repeat (first|exact Calm.ret|refine Calm.then ?_|refine Calm.block ?_)) (by kernel_rfl) (by kernel_rfl) rfl rfl rfl rfl rfl rfl rfl rfl ?_)
          refine DO.pure tab (by repeat (first|exact Calm.ret|refine Calm.then ?_|refine Calm.block ?_)) (by kernel_rfl) [4, 5, 6, 7] (by kernel_rfl) rfl ?_
          (refine DO.loadL tab 8 1 (by repeat (first|exact Calm.ret|refine Calm.then ?_|refine Calm.block ?_)) (by kernel_rfl) (by kernel_rfl) rfl rfl rfl rfl rfl rfl rfl rfl ?_)
          refine DO.pure tab (by repeat (first|exact Calm.ret|refine Calm.then ?_|refine Calm.block ?_)) (by kernel_rfl) [9] (by kernel_rfl) rfl ?_
          refine DO.indexP (sz := 1) tab 10 f (by repeat (first|exact Calm.ret|refine Calm.then ?_|refine Calm.block ?_)) (by kernel_rfl) (by kernel_rfl) rfl rfl rfl rfl rfl rfl rfl rfl rfl hf ?_
          refine DO.loadM tab 11 3 (Value.int .i64) hfl (by repeat (first|exact Calm.ret|refine Calm.then ?_|refine Calm.block ?_)) (by kernel_rfl) (by kernel_rfl) rfl rfl rfl rfl rfl rfl rfl rfl ?_
          refine DO.pure tab (by repeat (first|exact Calm.ret|refine Calm.then ?_|refine Calm.block ?_)) (by kernel_rfl) [12, 13, 14] (by kernel_rfl) rfl ?_
          (refine DO.loadL tab 15 1 (by repeat (first|exact Calm.ret|refine Calm.then ?_|refine Calm.block ?_)) (by kernel_rfl) (by kernel_rfl) rfl rfl rfl rfl rfl rfl rfl rfl ?_)
          refine DO.pure tab (by repeat (first|exact Calm.ret|refine Calm.then ?_|refine Calm.block ?_)) (by kernel_rfl) [16] (by kernel_rfl) rfl ?_
          refine DO.indexP (sz := 1) tab 17 kk (by repeat (first|exact Calm.ret|refine Calm.then ?_|refine Calm.block ?_)) (by kernel_rfl) (by kernel_rfl) rfl rfl rfl rfl rfl rfl rfl rfl rfl (by omega) ?_
          refine DO.loadM tab 18 3 (Value.int .i64) hkl (by repeat (first|exact Calm.ret|refine Calm.then ?_|refine Calm.block ?_)) (by kernel_rfl) (by kernel_rfl) rfl rfl rfl rfl rfl rfl rfl rfl ?_
          refine DO.pure tab (by repeat (first|exact Calm.ret|refine Calm.then ?_|refine Calm.block ?_)) (by kernel_rfl) [19] (by kernel_rfl) rfl ?_
          refine DO.indexP (sz := 1) tab 20 f (by repeat (first|exact Calm.ret|refine Calm.then ?_|refine Calm.block ?_)) (by kernel_rfl) (by kernel_rfl) rfl rfl rfl rfl rfl rfl rfl rfl rfl hf ?_
          refine DO.tail ?_
          refine DOt.run 21 rfl rfl (by kernel_rfl) rfl ?_
          refine OT.storeM (k := f) tab 3 (Value.int .i64) (if at0 y.low kk < at0 y.low f then at0 y.low kk else at0 y.low f) rfl rfl rfl rfl rfl rfl rfl (by omega) ?_
          refine DOt.nil (by kernel_rfl) ?_
          rotate_left 1
          repeat (first|refine q3 ?_|refine q6 ?_|refine q7 ?_)
          refine TO.perm perm5 ?_
          refine TO.step rfl (OT.arith (r' := ((j + 1 : Nat) : Int)) rfl rfl rfl rfl rfl rfl rfl (by omega) ?_)
          repeat (first|refine q4 tab rfl rfl ?_|refine q5 ?_|refine q6 ?_)
          exact ⟨⟨j + 1, { y with low := y.low.set f (if at0 y.low kk < at0 y.low f then at0 y.low kk else at0 y.low f) }, s3, vs3⟩, (by repeat (first|exact trivial|refine And.intro rfl ?_)), (by repeat (first|exact trivial|refine And.intro rfl ?_)), rfl, rfl, List.Sublist.refl _, ⟨by simp only; omega, hlw.1 hneg, hokx, hokk, hq3⟩, by simp only; omega⟩
        · rw [lowerV, if_neg hneg] at hokx hokk
          repeat (first|refine q3 ?_|refine q6 ?_|refine q7 ?_|refine q13 ?_)
          refine TO.step rfl (OT.arith (r' := ((j + 1 : Nat) : Int)) rfl rfl rfl rfl rfl rfl rfl (by omega) ?_)
          repeat (first|refine q4 tab rfl rfl ?_|refine q5 ?_|refine q6 ?_)
          exact ⟨⟨j + 1, y, s3, vs3⟩, (by repeat (first|exact trivial|refine And.intro rfl ?_)), (by repeat (first|exact trivial|refine And.intro rfl ?_)), rfl, rfl, List.Sublist.refl _, ⟨by simp only; omega, hlw.2 hneg, hokx, hokk, hq3⟩, by simp only; omega⟩
    · have hfull : x = row.foldl (stepV g fuel f) (beginV st f) := by rw [hx, List.take_of_length_le (by omega)]
      rw [← hfull] at hvis
      rw [hvis]
      have hxl := hWx.ll
      have hxi := hWx.li
      have hxg := hWx.lg
      have hfl : x.low[f]? = some (at0 x.low f) := at0_get (by omega)
      have hfi : x.index[f]? = some (at0 x.index f) := at0_get (by omega)
      obtain ⟨ext, hext⟩ := hKx.stack
      have hfm : (f : Int) ∈ x.stack := by rw [hext]; simp [beginV]
      have hxgr := hWx.grp
      repeat (first|refine q1 ?_|refine q6 ?_|refine q10 ?_|refine q11 ?_|refine q14 ?_)
      refine TC.draw0 [] mixed 15 rfl ?_
      refine DO.pure tab (by repeat (first|exact Calm.ret|refine Calm.then ?_)) (by kernel_rfl) [0, 1, 2] (by kernel_rfl) rfl ?_
      (refine DO.loadL tab 3 1 (by repeat (first|exact Calm.ret|refine Calm.then ?_)) (by kernel_rfl) (by kernel_rfl) rfl rfl rfl rfl rfl rfl rfl rfl ?_)
      refine DO.pure tab (by repeat (first|exact Calm.ret|refine Calm.then ?_)) (by kernel_rfl) [4] (by kernel_rfl) rfl ?_
      refine DO.indexP (sz := 1) tab 5 f (by repeat (first|exact Calm.ret|refine Calm.then ?_)) (by kernel_rfl) (by kernel_rfl) rfl rfl rfl rfl rfl rfl rfl rfl rfl hf ?_
      refine DO.loadM tab 6 3 (Value.int .i64) hfl (by repeat (first|exact Calm.ret|refine Calm.then ?_)) (by kernel_rfl) (by kernel_rfl) rfl rfl rfl rfl rfl rfl rfl rfl ?_
      refine DO.pure tab (by repeat (first|exact Calm.ret|refine Calm.then ?_)) (by kernel_rfl) [7, 8, 9] (by kernel_rfl) rfl ?_
      (refine DO.loadL tab 10 1 (by repeat (first|exact Calm.ret|refine Calm.then ?_)) (by kernel_rfl) (by kernel_rfl) rfl rfl rfl rfl rfl rfl rfl rfl ?_)
      refine DO.pure tab (by repeat (first|exact Calm.ret|refine Calm.then ?_)) (by kernel_rfl) [11] (by kernel_rfl) rfl ?_
      refine DO.indexP (sz := 1) tab 12 f (by repeat (first|exact Calm.ret|refine Calm.then ?_)) (by kernel_rfl) (by kernel_rfl) rfl rfl rfl rfl rfl rfl rfl rfl rfl hf ?_
      refine DO.loadM tab 13 2 (Value.int .i64) hfi (by repeat (first|exact Calm.ret|refine Calm.then ?_)) (by kernel_rfl) (by kernel_rfl) rfl rfl rfl rfl rfl rfl rfl rfl ?_
      refine DO.pure tab (by repeat (first|exact Calm.ret|refine Calm.then ?_)) (by kernel_rfl) [14] (by kernel_rfl) rfl ?_
      (refine DO.nil0 (by kernel_rfl) ?_)
      rotate_left 1
      repeat (refine q6 ?_)
      refine TC.condN rfl (fun hne => ?_) (fun hne => ?_)
      · repeat (first|refine q8 ?_|refine q15 ?_)
        refine retQ_ret rfl (List.Sublist.refl _) ⟨rfl, s2, vs2, ?_⟩
        rw [closeV, if_pos hne]
        exact ⟨hqx, rfl⟩
      · have hcl : closeV f x = { x with stack := (popR f x.groups x.stack x.group).1, group := (popR f x.groups x.stack x.group).2, groups := x.groups + 1 } := by rw [closeV, if_neg (by simpa using hne)]
        rw [hcl]
        repeat (first|refine q1 ?_|refine q2 ?_|refine q6 ?_|refine q13 ?_)
        refine TC.loopK (ι := PS) [0, 1] rfl (fun q => []) (fun _ => m) (fun q => tI p { x with stack := q.rest, group := q.grp } q.s vs2 L)
          (fun q => popR f x.groups q.rest q.grp = popR f x.groups x.stack x.group ∧ (f : Int) ∈ q.rest ∧ MQ (Value.int .i64) q.s vs2 q.rest.reverse ∧ q.grp.length = p.n ∧ (∀ y ∈ q.rest, 0 ≤ y ∧ y < (p.n : Int)) ∧ q.rest.length ≤ p.n) (fun q => q.rest.length) ⟨x.stack, x.group, s2⟩ (by repeat (exact trivial)) rfl (List.Sublist.refl _) ⟨rfl, hfm, hqx, hxg, hWx.stk, by simp only; omega⟩ ?_
        rintro ⟨rest, grp, s4⟩ ⟨hp1, hp2, hq4, hp3, hp4, hp5⟩
        simp only at hp1 hp2 hq4 hp3 hp4 hp5 ⊢
        cases rest with
        | nil => cases hp2
        | cons y rest =>
          have hrl : (y :: rest).reverse.length = rest.length + 1 := by simp
          obtain ⟨bk, ok, c, rfl, hc1, hc2⟩ := hq4.ne (by omega)
          rw [hrl] at hq4 hc1
          have hylt := hp4 y (List.mem_cons_self ..)
          have hyv : y = (y.toNat : Int) := by omega
          have hget : ((y :: rest).reverse)[rest.length]? = some y := by
            rw [List.reverse_cons, List.getElem?_append_right (by simp)]; simp
          have hpop := hq4.pop (k := rest.length) (by omega)
          have htk : ((y :: rest).reverse).take rest.length = rest.reverse := by
            rw [List.reverse_cons, List.take_append_of_le_length (by simp), List.take_of_length_le (by simp)]
          rw [htk] at hpop
          have hstep : popR f x.groups (y :: rest) grp = if y = f then (rest, grp.set y.toNat x.groups) else popR f x.groups rest (grp.set y.toNat x.groups) := rfl
          simp only [List.length_cons] at hp5
          have hv1 := hq4.get hget
          rw [hrl]
          repeat (first|refine q1 ?_|refine q2 ?_)
          refine TC.draw0 [] mixed 13 rfl ?_
          refine DO.pure tab (by repeat (first|exact Calm.ret|refine Calm.then ?_|refine Calm.block ?_)) (by kernel_rfl) [0, 1, 2] (by kernel_rfl) rfl ?_
          (refine DO.loadL tab 3 1 (by repeat (first|exact Calm.ret|refine Calm.then ?_|refine Calm.block ?_)) (by kernel_rfl) (by kernel_rfl) rfl rfl rfl rfl rfl rfl rfl rfl ?_)
          refine DO.pure tab (by repeat (first|exact Calm.ret|refine Calm.then ?_|refine Calm.block ?_)) (by kernel_rfl) [4, 5, 6] (by kernel_rfl) rfl ?_
          (refine DO.loadL tab 7 1 (by repeat (first|exact Calm.ret|refine Calm.then ?_|refine Calm.block ?_)) (by kernel_rfl) (by kernel_rfl) rfl rfl rfl rfl rfl rfl rfl rfl ?_)
          refine DO.pure tab (by repeat (first|exact Calm.ret|refine Calm.then ?_|refine Calm.block ?_)) (by kernel_rfl) [8] (by kernel_rfl) rfl ?_
          refine DO.arith 9 (r' := ((rest.length : Nat) : Int)) (by repeat (first|exact Calm.ret|refine Calm.then ?_|refine Calm.block ?_)) (by kernel_rfl) (by kernel_rfl) rfl rfl rfl rfl rfl rfl rfl rfl (by first | rfl | omega | (simp only; omega)) (by omega) ?_
          refine DO.indexP (sz := 1) tab 10 rest.length (by repeat (first|exact Calm.ret|refine Calm.then ?_|refine Calm.block ?_)) (by kernel_rfl) (by kernel_rfl) rfl rfl rfl rfl rfl rfl rfl rfl rfl (Nat.lt_succ_self _) ?_
          refine DO.loadR tab 11 0 hv1 (by repeat (first|exact Calm.ret|refine Calm.then ?_|refine Calm.block ?_)) (by kernel_rfl) (by kernel_rfl) rfl rfl rfl rfl rfl rfl rfl rfl ?_
          refine DO.pure tab (by repeat (first|exact Calm.ret|refine Calm.then ?_|refine Calm.block ?_)) (by kernel_rfl) [12] (by kernel_rfl) rfl ?_
          (refine DO.nil0 (by kernel_rfl) ?_)
          rotate_left 1
          repeat (first|refine q1 ?_|refine q6 ?_)
          refine TC.draw0 [14] mixed 15 rfl ?_
          refine DO.pure tab (by repeat (first|exact Calm.ret|refine Calm.then ?_|refine Calm.block ?_)) (by kernel_rfl) [0, 1, 2, 3] (by kernel_rfl) rfl ?_
          (refine DO.loadL tab 4 1 (by repeat (first|exact Calm.ret|refine Calm.then ?_|refine Calm.block ?_)) (by kernel_rfl) (by kernel_rfl) rfl rfl rfl rfl rfl rfl rfl rfl ?_)
          refine DO.pure tab (by repeat (first|exact Calm.ret|refine Calm.then ?_|refine Calm.block ?_)) (by kernel_rfl) [5, 6, 7] (by kernel_rfl) rfl ?_
          (refine DO.loadL tab 8 1 (by repeat (first|exact Calm.ret|refine Calm.then ?_|refine Calm.block ?_)) (by kernel_rfl) (by kernel_rfl) rfl rfl rfl rfl rfl rfl rfl rfl ?_)
          refine DO.pure tab (by repeat (first|exact Calm.ret|refine Calm.then ?_|refine Calm.block ?_)) (by kernel_rfl) [9] (by kernel_rfl) rfl ?_
          refine DO.arith 10 (r' := ((rest.length : Nat) : Int)) (by repeat (first|exact Calm.ret|refine Calm.then ?_|refine Calm.block ?_)) (by kernel_rfl) (by kernel_rfl) rfl rfl rfl rfl rfl rfl rfl rfl (by first | rfl | omega | (simp only; omega)) (by omega) ?_
          refine DO.takeM tab 11 rest.length rfl (show rest.length ≤ c by omega) (by repeat (first|exact Calm.ret|refine Calm.then ?_|refine Calm.block ?_)) (by kernel_rfl) (by kernel_rfl) rfl rfl rfl rfl rfl rfl rfl rfl ?_
          refine DO.pure tab (by repeat (first|exact Calm.ret|refine Calm.then ?_|refine Calm.block ?_)) (by kernel_rfl) [12, 13] (by kernel_rfl) rfl ?_
          refine DO.tail ?_
          refine DOt.run 14 rfl rfl (by kernel_rfl) rfl ?_
          refine OT.storeL tab 1 rfl rfl rfl rfl rfl rfl rfl rfl ?_
          refine DOt.nil (by kernel_rfl) ?_
          rotate_left 1
          refine thenQ_n (TC.perm perm5 ?_)
          repeat (refine q1 ?_)
          refine TC.draw0 [10] mixed 11 rfl ?_
          refine DO.pure tab (by repeat (first|exact Calm.ret|refine Calm.then ?_|refine Calm.block ?_)) (by kernel_rfl) [0, 1, 2] (by kernel_rfl) rfl ?_
          (refine DO.loadL tab 3 1 (by repeat (first|exact Calm.ret|refine Calm.then ?_|refine Calm.block ?_)) (by kernel_rfl) (by kernel_rfl) rfl rfl rfl rfl rfl rfl rfl rfl ?_)
          refine DO.pure tab (by repeat (first|exact Calm.ret|refine Calm.then ?_|refine Calm.block ?_)) (by kernel_rfl) [4, 5, 6, 7] (by kernel_rfl) rfl ?_
          (refine DO.loadL tab 8 1 (by repeat (first|exact Calm.ret|refine Calm.then ?_|refine Calm.block ?_)) (by kernel_rfl) (by kernel_rfl) rfl rfl rfl rfl rfl rfl rfl rfl ?_)
          refine DO.indexP (sz := 1) tab 9 y.toNat (by repeat (first|exact Calm.ret|refine Calm.then ?_|refine Calm.block ?_)) (by kernel_rfl) (by kernel_rfl) rfl rfl rfl rfl rfl rfl rfl hyv rfl (by omega) ?_
          refine DO.tail ?_
          refine DOt.run 10 rfl rfl (by kernel_rfl) rfl ?_
          refine OT.storeM (k := y.toNat) tab 4 (Value.int .i64) x.groups rfl rfl rfl rfl rfl rfl rfl (show y.toNat < grp.length by omega) ?_
          refine DOt.nil (by kernel_rfl) ?_
          rotate_left 1
          refine thenQ_n (TC.perm perm5 ?_)
          repeat (first|refine q1 ?_|refine q3 ?_|refine q4 tab rfl rfl ?_|refine q5 ?_|refine q6 ?_)
          refine TC.condP rfl (fun heq => ?_) (fun heq => ?_)
          · repeat (first|(first|refine q3 ?_|refine q4 tab rfl rfl ?_|refine q6 ?_|refine q10 ?_|refine q11 ?_|refine q12 rfl ?_|refine q14 ?_)|(refine qs rfl (ql tab 1 rfl rfl rfl rfl rfl rfl ?_)))
            refine TO.step rfl (OT.arith (r' := x.groups + 1) rfl rfl rfl rfl rfl rfl rfl (by omega) ?_)
            repeat (refine q4 tab rfl rfl ?_)
            (refine TO.step rfl (OT.storeL tab 1 rfl rfl rfl rfl rfl rfl rfl rfl ?_))
            repeat (refine q5 ?_)
            rw [if_pos heq] at hstep
            rw [← hp1, hstep]

            refine retQ_n rfl (List.Sublist.refl _) ⟨rfl, ⟨some ⟨bk, ok, none⟩, rest.length, c⟩, vs2, ?_, ?_⟩
            · exact hpop
            · rfl
          · repeat (first|refine q6 ?_|refine q7 ?_|refine q13 ?_)
            refine ⟨⟨rest, grp.set y.toNat x.groups, ⟨some ⟨bk, ok, none⟩, rest.length, c⟩⟩, (by repeat (exact trivial)), (by repeat (first|exact trivial|refine And.intro rfl ?_)), rfl, rfl, List.Sublist.refl _, ⟨?_, ?_, hpop, by simp [hp3], fun z hz => hp4 z (List.mem_cons_of_mem _ hz), by simp only; omega⟩, by simp⟩
            · simp only
              rw [← hp1, hstep, if_neg heq]
            · rcases List.mem_cons.1 hp2 with h1 | h1
              · exact absurd h1.symm heq
              · exact h1
end Go.Sep

/-
  The stand-in for slices.overlaps: two owned rows that lie apart.
-/
set_option linter.unusedVariables false
set_option linter.unusedSimpArgs false
namespace Go.Sep
section
variable {P : Program} {m : Mem} {L : List Item}
/-! ### the stand-in for overlaps -/
theorem stringish_of {P : Program} {w : World} {b k : Nat} (h : ∀ i, w.frozen? ⟨b, i, none⟩ = false) : (stringish ⟨b, k, none⟩).run P w = .ok false w := by
  have h1 : w.frozen? ⟨b, k, none⟩ = false := h k
  cases hs : w.shape? b with
  | none => simp [Go.stringish, frozen, shape, Sem.run, h1, hs]
  | some p =>
    obtain ⟨t, n⟩ := p
    have h2 : w.frozen? { block := b, off := n } = false := h n
    simp [Go.stringish, frozen, shape, Sem.run, h1, hs, h2]

theorem shape_of_cell {w : World} {b i : Nat} {v : Value} (h : w.cell? ⟨b, i, none⟩ = some v) : (w.shape? b).isSome = true := by
  unfold World.cell? at h
  unfold World.shape?
  cases hh : w.heap[b]? with
  | none => simp [hh] at h
  | some x => cases x <;> simp_all

theorem run_overlaps {w : World} (T : Tab P) {tS tR e : TypeId} {ei : TI} (he : T.elem tS = some (e, ei)) (hsz : ei.size = 1) {b b2 k k2 la ca lb cb : Nat} {v v2 : Value}
    (h1 : w.cell? ⟨b, k, none⟩ = some v ∧ ∀ i, w.frozen? ⟨b, i, none⟩ = false) (h2 : ∃ j, w.cell? ⟨b2, j, none⟩ = some v2 ∧ ∀ i, w.frozen? ⟨b2, i, none⟩ = false) (hd : b ≠ b2 ∨ k + la ≤ k2 ∨ k2 + lb ≤ k) :
    (Extern.SlicesOverlaps.overlaps #[tS, tS] #[tR] #[.slice (some ⟨b, k, none⟩) la ca, .slice (some ⟨b2, k2, none⟩) lb cb]).run P w = .ok (.bool false) w := by
  obtain ⟨ti, h4, h5, h6⟩ := elem_get he
  have hu := T.run_underlying w h4
  rw [h5] at hu
  have hes := T.run_sizeOf w h6
  rw [hsz] at hes
  obtain ⟨j, h2⟩ := h2
  have hs1 := shape_of_cell h1.1
  have hs2 := shape_of_cell h2.1
  have hf1 : w.frozen? ⟨b, k, none⟩ = false := h1.2 k
  have hg1 := stringish_of (P := P) (k := k) h1.2
  have hg2 := stringish_of (P := P) (k := k2) h2.2
  obtain ⟨s1, hs1'⟩ := Option.isSome_iff_exists.1 hs1
  obtain ⟨s2, hs2'⟩ := Option.isSome_iff_exists.1 hs2
  change Sem.run P (α := Value) (do
    let some t := (#[tS, tS] : Array TypeId)[0]? | stuck "slices.overlaps: no parameter types"
    let .slice elem ← underlying t | stuck "slices.overlaps: slice type expected"
    let size ← sizeOf elem
    match (some ⟨b, k, none⟩ : Option Addr), (some ⟨b2, k2, none⟩ : Option Addr) with
    | some a, some b =>
      if la = 0 ∨ lb = 0 ∨ size = 0 then pure (Value.bool false)
      else if a.block != b.block && (← frozen a) && (← frozen b) then unsupported .addressObserved
      else do
        if a.block != b.block then do
          noView a; noView b
          if ← mayBeOne a b then return Value.bool ((← choose (.extern "sameAddr.stringBytes" 2)) == 1)
        pure (Value.bool (a.block == b.block && a.off < b.off + lb * size && b.off < a.off + la * size))
    | _, _ => pure (Value.bool false)) w = _
  by_cases h0 : la = 0 ∨ lb = 0
  · rcases h0 with h0 | h0 <;> simp [hu, hes, h0]
  · simp only [not_or] at h0
    by_cases hb : b = b2
    · subst hb
      rcases hd with hd | hd | hd
      · exact absurd rfl hd
      · simp [hu, hes, h0.1, h0.2]; omega
      · simp [hu, hes, h0.1, h0.2]; omega
    · have hbb : (b != b2) = true := by simpa using hb
      have hbb' : (b == b2) = false := by simpa using hb
      simp [hu, hes, h0.1, h0.2, hb, hbb, hbb', frozen, noView, viewAt, mayBeOne, shape, Sem.run, hs1', hs2', hf1, hg1, hg2]
end
end Go.Sep

/-
  Walks of layer 13: slices.Insert of one number.
-/
set_option linter.unusedVariables false
set_option linter.unusedSimpArgs false
namespace Go.Sep
open Go.Proofs
attribute [local irreducible] TC TO OT TCallX TCall DO DOt thenQ blockQ retQ At

theorem putAt_eq {vs news : List Value} {k : Nat} (h : k + news.length ≤ vs.length) : putAt vs k news = vs.take k ++ news ++ vs.drop (k + news.length) := by
  have e := putAt_front news (vs.drop k) (by simp; omega) (vs.take k)
  rw [List.take_append_drop, show (vs.take k).length = k by simp; omega, List.drop_drop] at e
  exact e

theorem ins_cells {vs xs : List Value} {n i : Nat} {x : Value} (hn : xs.length = n) (hx : vs.take n = xs) (hi : i ≤ n) (hc : n + 1 ≤ vs.length) :
    (putAt (putAt vs (i + 1) (xs.drop i)) i [x]).take (n + 1) = xs.take i ++ x :: xs.drop i := by
  have hd : (xs.drop i).length = n - i := by simp [hn]
  have h1 : (putAt vs (i + 1) (xs.drop i)).length = vs.length := putAt_length _ _ _
  rw [putAt_eq (by simp [h1]; omega), putAt_eq (by omega)]
  have e1 : (vs.take (i + 1) ++ xs.drop i ++ vs.drop (i + 1 + (xs.drop i).length)).take i = xs.take i := by
    rw [List.append_assoc, List.take_append_of_le_length (by simp; omega), List.take_take, ← hx, List.take_take]
    congr 1; omega
  have e2 : (vs.take (i + 1) ++ xs.drop i ++ vs.drop (i + 1 + (xs.drop i).length)).drop (i + [x].length) = xs.drop i ++ vs.drop (n + 1) := by
    rw [List.append_assoc, List.drop_append_of_le_length (by simp; omega), List.drop_eq_nil_of_le (by simp; omega), List.nil_append, hd]
    congr 2; omega
  rw [e1, e2, List.append_assoc]
  have h3 : (xs.take i ++ ([x] ++ xs.drop i)).length = n + 1 := by simp [hn]; omega
  rw [show xs.take i ++ ([x] ++ (xs.drop i ++ vs.drop (n + 1))) = (xs.take i ++ ([x] ++ xs.drop i)) ++ vs.drop (n + 1) by simp, List.take_append_of_le_length (by omega), List.take_of_length_le (by omega)]
  rfl

theorem ins_cells2 {vs2 ys r : List Value} {n i : Nat} {x : Value} (hi : i ≤ n) (hr : r.length = n - i) (hx : vs2.take i = ys) (hc : n + 1 ≤ vs2.length) :
    (putAt (putAt vs2 i [x]) (i + 1) r).take (n + 1) = ys ++ x :: r := by
  have h1 : (putAt vs2 i [x]).length = vs2.length := putAt_length _ _ _
  have hyl : ys.length = i := by rw [← hx]; simp; omega
  rw [putAt_eq (by omega), putAt_eq (by simp; omega)]
  have e1 : (vs2.take i ++ [x] ++ vs2.drop (i + [x].length)).take (i + 1) = ys ++ [x] := by
    rw [hx, List.take_append_of_le_length (by simp [hyl]), List.take_of_length_le (by simp [hyl])]
  rw [e1]
  rw [List.take_append_of_le_length (by simp [hyl, hr]; omega), List.take_of_length_le (by simp [hyl, hr]; omega)]
  simp

theorem allOne_map (xs : List Int) : allOne (xs.map (Value.int .i64)) = true := by
  induction xs with
  | nil => rfl
  | cons x xs ih => exact ih

theorem allOne_drop (xs : List Int) (k : Nat) : allOne ((xs.map (Value.int .i64)).drop k) = true := by
  rw [← List.map_drop]; exact allOne_map _

set_option maxHeartbeats 4000000 in
theorem insert_own (m : Mem) (L : List Item) (b : Nat) (s : Sl) (vs : List Value) (xs : List Int) (x : Int) (i : Nat) (hq : MQ (Value.int .i64) s vs xs) (hi : i ≤ xs.length) (hfit : (xs.length + 1) * 8 ≤ 140737488355328) :
    TCall Try.prog 41 ⟨[s.v, .int .i64 (i : Int), .slice (some ⟨b, 0, none⟩) 1 1]⟩ m (.cells b 0 [.int .i64 x] :: mcell s vs :: L)
      (fun r m' L' => m = m' ∧ ∃ s' vs', r = s'.v ∧ MQ (Value.int .i64) s' vs' (xs.take i ++ x :: xs.drop i) ∧ L' = mcell s' vs' :: L) := by
  have hl := hq.len
  have hcap := hq.ms.len
  have hall := hq.ms.all
  unfold TCall
  refine TCallX.enter Try.func41 rfl 95 rfl ?_
  repeat (first|refine q1 ?_|refine q3 ?_|refine q4 tab rfl rfl ?_|refine q5 ?_|refine q6 ?_)
  refine TO.step rfl (OT.cutS tab i s.len rfl rfl rfl rfl rfl rfl rfl (.inr rfl) (.inl ⟨rfl, rfl⟩) (by omega) hcap ?_)
  repeat (first|refine q1 ?_|refine q3 ?_|refine q4 tab rfl rfl ?_|refine q5 ?_|refine q6 ?_|refine q13 ?_|refine q17 rfl ?_)
  refine TC.condP rfl (fun hin => ?_) (fun hin => ?_)
  · have hin' : i = xs.length := by omega
    repeat (first|refine q1 ?_|refine q3 ?_|refine q4 tab rfl rfl ?_)
    refine TO.step rfl (OT.push tab hq.ms rfl rfl rfl rfl rfl rfl rfl (show (s.len + 1) * 8 ≤ 140737488355328 by omega) (fun s2 vs2 g1 g2 g3 => ?_))
    repeat (first|refine q4 tab rfl rfl ?_|refine q5 ?_|refine q6 ?_|refine q8 ?_|refine q15 ?_)
    refine retQ_ret rfl (List.Sublist.refl _) ⟨rfl, s2, vs2, rfl, ?_, rfl⟩
    have := hq.push x g1 g2 g3
    rw [hin', List.take_length, List.drop_length]
    exact this
  · obtain ⟨bs, o, c, hse, hc1, hc2⟩ := hq.ne (by omega)
    subst hse
    simp only at hl hcap hall hin ⊢
    simp only [mcell]
    repeat (first|refine q1 ?_|refine q3 ?_|refine q4 tab rfl rfl ?_|refine q6 ?_|refine q13 ?_)
    refine TO.step rfl (OT.arith (r' := ((xs.length + 1 : Nat) : Int)) rfl rfl rfl rfl rfl rfl rfl (by omega) ?_)
    repeat (refine q4 tab rfl rfl ?_)
    obtain ⟨ei, e1, e2, e3, e4⟩ : ∃ (ei : TI), tab.elem 27 = some (3, ei) ∧ cellsF ei.zero = some [.int .i64 0] ∧ Nat.beq ei.size 1 = true ∧ ei.bytes = 8 := ⟨_, rfl, rfl, rfl, rfl⟩
    refine TO.step rfl (OT.cap tab rfl rfl rfl rfl e1 ?_)
    have hxd : ((xs.map (Value.int .i64)).drop i).length = xs.length - i := by simp
    have hsrcv : ∀ w LL, St m w LL → (.cells bs o vs) ∈ LL → Cells w bs (o + i) ((xs.map (Value.int .i64)).drop i) := fun w LL hw hm j v hv => by
      obtain ⟨k, hk⟩ := List.getElem?_of_mem hm
      have hc := hw.cells hk
      have := hc (i + j) v (by
        rw [List.getElem?_drop, ← hq.eq, List.getElem?_take] at hv
        split at hv
        · exact hv
        · cases hv)
      rwa [← Nat.add_assoc] at this
    repeat (first|refine q4 tab rfl rfl ?_|refine q5 ?_|refine q6 ?_)
    refine TC.condP rfl (fun hgr => ?_) (fun hgr => ?_)
    · simp only at hgr
      have hgr' : c < xs.length + 1 := by omega
      repeat (first|refine q1 ?_|refine q3 ?_|refine q4 tab rfl rfl ?_)
      refine TO.step rfl (OT.takeM (c := c) tab i rfl (by omega) rfl rfl rfl rfl rfl rfl ?_)
      repeat (refine q4 tab rfl rfl ?_)
      refine TO.step rfl (OT.arith (r' := ((xs.length + 1 : Nat) : Int)) rfl rfl rfl rfl rfl rfl rfl (by omega) ?_)
      repeat (refine q4 tab rfl rfl ?_)
      refine TO.step rfl (OT.arith (r' := ((xs.length + 1 - i : Nat) : Int)) rfl rfl rfl rfl rfl rfl (by omega) (by omega) ?_)
      refine TO.perm (List.Perm.swap _ _ _) ?_
      refine TO.step rfl (OT.growZ (s := ⟨some ⟨bs, o, none⟩, i, c⟩) (z := xs.length + 1 - i) (zv := .int .i64 0) tab (by simp only; omega) (.inr ⟨bs, o, rfl⟩) (by omega) rfl rfl rfl rfl rfl rfl e1 rfl e3 (by rw [e4]; rfl) e2 (by rw [e4]; simp only; omega) (by simp only; omega) (fun b2 vs2 g1 g2 => ?_))
      simp only at g1 g2 ⊢
      rw [show i + (xs.length + 1 - i) = xs.length + 1 by omega] at g1 g2 ⊢
      repeat (first|refine q1 ?_|refine q3 ?_|refine q4 tab rfl rfl ?_|refine q5 ?_|refine q6 ?_)
      refine TO.step rfl (OT.cutQ tab i (xs.length + 1) rfl rfl rfl rfl rfl rfl rfl (.inr rfl) (.inl ⟨rfl, rfl⟩) (by omega) (by omega) (by omega) ?_)
      repeat (refine q4 tab rfl rfl ?_)
      refine TO.step rfl (OT.copy tab 0 (off := 0) (k := i) (s2 := ⟨some ⟨b, 0, none⟩, 1, 1⟩) (news := [.int .i64 x]) rfl rfl rfl rfl rfl e1 e3 (fun w hw => ⟨by simp only [List.length_singleton]; omega, .inr ⟨b, 0, rfl, hw.cells (i := 2) rfl⟩⟩) rfl rfl (by simp only [List.length_singleton]; omega) ?_)
      repeat (first|refine q1 ?_|refine q5 ?_|refine q6 ?_)
      refine TC.draw [] mixed 9 rfl [] (.cells b2 0 (putAt vs2 i [.int .i64 x]) :: .cells bs o vs :: .cells b 0 [.int .i64 x] :: L) (by first | exact List.Perm.refl _ | (rw [List.append_nil]; exact List.Perm.refl _)) ?_
      refine DO.pure tab (by repeat (first|exact Calm.ret|refine Calm.then ?_)) (by kernel_rfl) [0, 1, 2] (by kernel_rfl) rfl ?_
      refine DO.arith 3 (r' := ((i + 1 : Nat) : Int)) (by repeat (first|exact Calm.ret|refine Calm.then ?_)) (by kernel_rfl) (by kernel_rfl) rfl rfl rfl rfl rfl rfl rfl rfl (by first | rfl | omega | (simp only; omega)) (by omega) ?_
      refine DO.cutP tab 4 (i + 1) (xs.length + 1) (by repeat (first|exact Calm.ret|refine Calm.then ?_)) (by kernel_rfl) (by kernel_rfl) rfl rfl rfl rfl rfl rfl rfl rfl rfl (.inr rfl) (.inl ⟨rfl, rfl⟩) (by omega) (by omega) (by omega) ?_
      refine DO.pure tab (by repeat (first|exact Calm.ret|refine Calm.then ?_)) (by kernel_rfl) [5, 6] (by kernel_rfl) rfl ?_
      refine DO.cutP (c := c) tab 7 i xs.length (by repeat (first|exact Calm.ret|refine Calm.then ?_)) (by kernel_rfl) (by kernel_rfl) rfl rfl rfl rfl rfl rfl rfl rfl rfl (.inr rfl) (.inl ⟨rfl, rfl⟩) (by omega) (by omega) (by omega) ?_
      refine DO.run 8 rfl rfl (by kernel_rfl) rfl ?_
      refine OT.copy tab 0 (off := 0) (k := i + 1) (n := xs.length + 1 - (i + 1)) (s2 := ⟨some ⟨bs, o + i, none⟩, xs.length - i, c - i⟩) (news := (xs.map (Value.int .i64)).drop i) rfl rfl rfl rfl rfl e1 e3 (fun w hw => ⟨by simp only [hxd]; omega, .inr ⟨bs, o + i, rfl, hsrcv w _ hw (by simp)⟩⟩) (allOne_drop _ _) rfl (by rw [hxd, putAt_length]; omega) ?_; refine ⟨Mem.le_refl _, _, List.Perm.refl _, ?_⟩
      (refine DO.nil (by kernel_rfl) ?_)
      rotate_left 1
      repeat (first|refine q1 ?_|refine q3 ?_|refine q4 tab rfl rfl ?_|refine q5 ?_|refine q6 ?_|refine q8 ?_|refine q15 ?_)
      have hv2 : vs2.take i = (xs.map (Value.int .i64)).take i := by
        have := congrArg (List.take i) g2
        rw [List.take_take, List.take_append_of_le_length (by simp; omega), List.take_take, Nat.min_self, show min i (xs.length + 1) = i by omega] at this
        rw [this, ← hq.eq, List.take_take]
        congr 1
        simp only
        omega
      refine retQ_ret rfl (L' := .cells b2 0 (putAt (putAt vs2 i [.int .i64 x]) (i + 1) ((xs.map (Value.int .i64)).drop i)) :: L) (by repeat (first|exact List.Sublist.refl _|refine List.Sublist.cons_cons _ ?_|refine List.Sublist.cons _ ?_)) ⟨rfl, ⟨some ⟨b2, 0, none⟩, xs.length + 1, vs2.length⟩, _, rfl, ⟨MS.at_ _ _ _ _ _ g1 (by rw [putAt_length, putAt_length]), ?_⟩, rfl⟩
      simp only
      rw [ins_cells2 (by omega) hxd hv2 g1, List.map_append, List.map_cons, List.map_take, List.map_drop]
    · simp only at hgr
      have hgr' : xs.length + 1 ≤ c := by omega
      have hil : i < xs.length := by omega
      have hic : i < c := by omega
      repeat (first|refine q1 ?_|refine q3 ?_|refine q4 tab rfl rfl ?_|refine q6 ?_|refine q13 ?_)
      refine TO.step rfl (OT.arith (r' := ((xs.length + 1 : Nat) : Int)) rfl rfl rfl rfl rfl rfl rfl (by omega) ?_)
      refine TO.step rfl (OT.takeM (c := c) tab (xs.length + 1) rfl (by omega) rfl rfl rfl rfl rfl rfl ?_)
      repeat (first|refine q1 ?_|refine q3 ?_|refine q4 tab rfl rfl ?_|refine q5 ?_|refine q6 ?_)
      refine TO.step rfl (OT.arith (r' := ((i + 1 : Nat) : Int)) rfl rfl rfl rfl rfl rfl rfl (by omega) ?_)
      refine TO.step rfl (OT.cutQ tab (i + 1) (xs.length + 1) rfl rfl rfl rfl rfl rfl rfl (.inr rfl) (.inl ⟨rfl, rfl⟩) (by omega) (by omega) (by omega) ?_)
      refine TO.step rfl (OT.callX  (E := Extern.SlicesOverlaps.overlaps #[27, 27] #[4]) rfl rfl rfl rfl rfl rfl (by kernel_rfl) (by kernel_rfl) (by kernel_rfl) (by kernel_rfl) (fun w hw => run_overlaps tab e1 (Nat.eq_of_beq_eq_true e3) (v := .int .i64 x) (v2 := vs[0]'(by omega)) ?_ ?_ ?_) ?_)
      · have := hw.items _ (List.mem_cons_self ..) 0 _ rfl
        simpa using this
      · exact ⟨o + 0, hw.items (.cells bs o vs) (by simp) 0 _ (by simp [show 0 < vs.length by omega])⟩
      · have := (List.pairwise_cons.1 hw.disj).1 (.cells bs o vs) (by simp)
        simp only [Item.Disj, Item.len, Item.blk, Item.off, List.length_singleton] at this
        omega
      repeat (first|refine q1 ?_|refine q4 tab rfl rfl ?_|refine q5 ?_|refine q6 ?_|refine q16 rfl ?_)
      refine TC.draw [] mixed 9 rfl [] (.cells bs o vs :: .cells b 0 [.int .i64 x] :: L) (List.Perm.swap _ _ _) ?_
      refine DO.pure tab (by repeat (first|exact Calm.ret|refine Calm.then ?_)) (by kernel_rfl) [0, 1, 2] (by kernel_rfl) rfl ?_
      refine DO.arith 3 (r' := ((i + 1 : Nat) : Int)) (by repeat (first|exact Calm.ret|refine Calm.then ?_)) (by kernel_rfl) (by kernel_rfl) rfl rfl rfl rfl rfl rfl rfl rfl (by first | rfl | omega | (simp only; omega)) (by omega) ?_
      refine DO.cutP (c := c) tab 4 (i + 1) (xs.length + 1) (by repeat (first|exact Calm.ret|refine Calm.then ?_)) (by kernel_rfl) (by kernel_rfl) rfl rfl rfl rfl rfl rfl rfl rfl rfl (.inr rfl) (.inl ⟨rfl, rfl⟩) (by omega) (by omega) (by omega) ?_
      refine DO.pure tab (by repeat (first|exact Calm.ret|refine Calm.then ?_)) (by kernel_rfl) [5, 6] (by kernel_rfl) rfl ?_
      refine DO.cutP (c := c) tab 7 i (xs.length + 1) (by repeat (first|exact Calm.ret|refine Calm.then ?_)) (by kernel_rfl) (by kernel_rfl) rfl rfl rfl rfl rfl rfl rfl rfl rfl (.inr rfl) (.inl ⟨rfl, rfl⟩) (by omega) (by omega) (by omega) ?_
      refine DO.run 8 rfl rfl (by kernel_rfl) rfl ?_
      refine OT.copy tab 0 (off := o) (k := i + 1) (n := xs.length + 1 - (i + 1)) (s2 := ⟨some ⟨bs, o + i, none⟩, xs.length + 1 - i, c - i⟩) (news := (xs.map (Value.int .i64)).drop i) rfl rfl rfl rfl rfl e1 e3 (fun w hw => ⟨by simp only [hxd]; omega, .inr ⟨bs, o + i, rfl, hsrcv w _ hw (by simp)⟩⟩) (allOne_drop _ _) rfl (by rw [hxd]; omega) ?_; refine ⟨Mem.le_refl _, _, List.Perm.refl _, ?_⟩
      (refine DO.nil (by kernel_rfl) ?_)
      rotate_left 1
      repeat (first|refine q1 ?_|refine q3 ?_|refine q4 tab rfl rfl ?_|refine q6 ?_)
      refine TO.step rfl (OT.cutQ (c := c) tab i (xs.length + 1) rfl rfl rfl rfl rfl rfl rfl (.inr rfl) (.inl ⟨rfl, rfl⟩) (by omega) (by omega) (by omega) ?_)
      repeat (refine q4 tab rfl rfl ?_)
      refine TO.step rfl (OT.copy tab 0 (off := o) (k := i) (s2 := ⟨some ⟨b, 0, none⟩, 1, 1⟩) (news := [.int .i64 x]) rfl rfl rfl rfl rfl e1 e3 (fun w hw => ⟨by simp only [List.length_singleton]; omega, .inr ⟨b, 0, rfl, hw.cells (i := 1) rfl⟩⟩) rfl rfl (by rw [putAt_length]; simp only [List.length_singleton]; omega) ?_)
      repeat (first|refine q1 ?_|refine q3 ?_|refine q4 tab rfl rfl ?_|refine q5 ?_|refine q6 ?_|refine q8 ?_|refine q15 ?_)
      refine retQ_ret rfl (L' := .cells bs o (putAt (putAt vs (i + 1) ((xs.map (Value.int .i64)).drop i)) i [.int .i64 x]) :: L) (by repeat (first|exact List.Sublist.refl _|refine List.Sublist.cons_cons _ ?_|refine List.Sublist.cons _ ?_)) ⟨rfl, ⟨some ⟨bs, o, none⟩, xs.length + 1, c⟩, _, rfl, ⟨MS.at_ _ _ _ _ _ hgr' (by rw [putAt_length, putAt_length]; exact hc2), ?_⟩, rfl⟩
      simp only
      rw [ins_cells (n := xs.length) (by simp) hq.eq (by omega) (by omega), List.map_append, List.map_cons, List.map_take, List.map_drop]
end Go.Sep

/-
  What visit keeps, in full: the groups that are closed are the classes of 'each comes to the other'.
-/
set_option linter.unusedVariables false
set_option linter.unusedSimpArgs false
namespace Go.Sep

theorem Path.trans {g : List (List Int)} {a b c : Nat} (h : Path g a b) (k : Path g b c) : Path g a c := by
  induction k with
  | refl => exact h
  | step _ he ih => exact .step ih he

theorem Path.one {g : List (List Int)} {a b : Nat} (h : Edge g a b) : Path g a b := .step .refl h

def Vis (st : TS) (v : Nat) : Prop := at0 st.index v ≠ 0
def On (st : TS) (v : Nat) : Prop := (v : Int) ∈ st.stack

structure TIv (g : List (List Int)) (n : Nat) (st : TS) (gray : Nat → Prop) : Prop where
  wf : WF n st
  idx : ∀ v, Vis st v → 1 ≤ at0 st.index v ∧ at0 st.index v ≤ st.count
  inj : ∀ u v, Vis st u → Vis st v → at0 st.index u = at0 st.index v → u = v
  on : ∀ v, On st v ↔ Vis st v ∧ at0 st.group v < 0
  off : ∀ v, Vis st v → ¬ On st v → 0 ≤ at0 st.group v ∧ at0 st.group v < st.groups
  grey : ∀ v, gray v → On st v
  sorted : st.stack.Pairwise fun a b => at0 st.index b.toNat < at0 st.index a.toNat
  path : ∀ u v, On st u → On st v → at0 st.index u ≤ at0 st.index v → Path g u v
  back : ∀ v, On st v → ∃ u, gray u ∧ at0 st.index u ≤ at0 st.index v ∧ Path g v u
  black : ∀ v w, Vis st v → ¬ gray v → Edge g v w → Vis st w
  closed : ∀ v w, Vis st v → ¬ On st v → Edge g v w → Vis st w ∧ ¬ On st w ∧ at0 st.group w ≤ at0 st.group v
  scc : ∀ u v, Vis st u → ¬ On st u → Vis st v → ¬ On st v → (at0 st.group u = at0 st.group v ↔ Path g u v ∧ Path g v u)
  low : ∀ v, On st v → ∃ u, On st u ∧ at0 st.low v = at0 st.index u ∧ Path g v u
  lowle : ∀ v, On st v → at0 st.low v ≤ at0 st.index v

theorem Vis.lt {n : Nat} {st : TS} (hw : WF n st) {v : Nat} (h : Vis st v) : v < n := by
  rw [← hw.li]
  apply Decidable.byContradiction
  intro hn
  exact h (by simp [at0, List.getElem?_eq_none (Nat.le_of_not_lt hn)])

theorem TIv.vis {g : List (List Int)} {n : Nat} {st : TS} {gray : Nat → Prop} (h : TIv g n st gray) {v : Nat} (hv : On st v) : Vis st v := ((h.on v).1 hv).1

/-- behind a visit of f -/
structure VPost (g : List (List Int)) (n : Nat) (st st' : TS) (f : Nat) (gray : Nat → Prop) : Prop where
  inv : TIv g n st' gray
  kept : Kept st st'
  vis : Vis st' f
  frame : ∀ v, Vis st v → at0 st'.low v = at0 st.low v ∧ at0 st'.group v = at0 st.group v
  exit : ∀ w y, ¬ Vis st w → On st' w → Edge g w y → On st' y → at0 st'.low f ≤ at0 st'.index y
  lowf : On st' f → at0 st'.low f < at0 st'.index f

/-- a function is begun -/
theorem TIv.begin {g : List (List Int)} {n : Nat} {st : TS} {gray : Nat → Prop} (h : TIv g n st gray) {f : Nat} (hf : f < n) (hv : ¬ Vis st f) (hp : ∀ u, gray u → Path g u f) :
    TIv g n (beginV st f) (fun v => gray v ∨ v = f) := by
  have h0 : at0 st.index f = 0 := Decidable.byContradiction hv
  obtain ⟨b1, b2, b3, b4⟩ := beginV_wf h.wf hf h0
  have hli := h.wf.li
  have hll := h.wf.ll
  have hlg := h.wf.lg
  have hcnt := h.wf.cnt
  have ei : ∀ v, at0 (beginV st f).index v = if f = v then st.count + 1 else at0 st.index v := fun v => by
    have h1 : f < st.index.length := by omega
    have h2 : f < st.low.length := by omega
    have h3 : f < st.group.length := by omega
    simp only [beginV, at0_set, h1, h2, h3, and_true]
  have el : ∀ v, at0 (beginV st f).low v = if f = v then st.count + 1 else at0 st.low v := fun v => by
    have h1 : f < st.index.length := by omega
    have h2 : f < st.low.length := by omega
    have h3 : f < st.group.length := by omega
    simp only [beginV, at0_set, h1, h2, h3, and_true]
  have eg : ∀ v, at0 (beginV st f).group v = if f = v then -1 else at0 st.group v := fun v => by
    have h1 : f < st.index.length := by omega
    have h2 : f < st.low.length := by omega
    have h3 : f < st.group.length := by omega
    simp only [beginV, at0_set, h1, h2, h3, and_true]
  have eo : ∀ v, On (beginV st f) v ↔ v = f ∨ On st v := fun v => by
    unfold On
    simp only [beginV, List.mem_cons]
    constructor
    · rintro (h1 | h1)
      · exact .inl (by omega)
      · exact .inr h1
    · rintro (h1 | h1)
      · exact .inl (by omega)
      · exact .inr h1
  have ev : ∀ v, Vis (beginV st f) v ↔ v = f ∨ Vis st v := fun v => by
    unfold Vis; rw [ei]
    by_cases e : f = v
    · subst e; simp; omega
    · rw [if_neg e]; constructor
      · exact .inr
      · rintro (h1 | h1)
        · exact absurd h1.symm e
        · exact h1
  have hnf : ¬ On st f := fun ho => hv (h.vis ho)
  have hne : ∀ {v}, Vis st v → f ≠ v := fun {v} h1 e => by subst e; exact hv h1
  have eiV : ∀ {v}, Vis st v → at0 (beginV st f).index v = at0 st.index v := fun {v} h1 => by rw [ei, if_neg (hne h1)]
  have elV : ∀ {v}, Vis st v → at0 (beginV st f).low v = at0 st.low v := fun {v} h1 => by rw [el, if_neg (hne h1)]
  have egV : ∀ {v}, Vis st v → at0 (beginV st f).group v = at0 st.group v := fun {v} h1 => by rw [eg, if_neg (hne h1)]
  have eif : at0 (beginV st f).index f = st.count + 1 := by rw [ei, if_pos rfl]
  have ecl : ∀ {v}, Vis (beginV st f) v → ¬ On (beginV st f) v → Vis st v ∧ ¬ On st v := fun {v} h1 h2 => by
    rw [eo] at h2
    rcases (ev v).1 h1 with h3 | h3
    · exact absurd (.inl h3) h2
    · exact ⟨h3, fun h4 => h2 (.inr h4)⟩
  have efp : ∀ {v}, On st v → Path g v f := fun {v} h1 => by
    obtain ⟨u, u1, u2, u3⟩ := h.back v h1
    exact u3.trans (hp u u1)
  refine ⟨b1, ?_, ?_, ?_, ?_, ?_, ?_, ?_, ?_, ?_, ?_, ?_, ?_, ?_⟩
  · intro v h1
    rcases (ev v).1 h1 with h2 | h2
    · subst h2; rw [eif]; exact ⟨by omega, by simp [beginV]⟩
    · rw [eiV h2]
      have := h.idx v h2
      exact ⟨this.1, by simp only [beginV]; omega⟩
  · intro u v h1 h2 h3
    rcases (ev u).1 h1 with h4 | h4 <;> rcases (ev v).1 h2 with h5 | h5
    · rw [h4, h5]
    · subst h4; rw [eif, eiV h5] at h3; have := h.idx v h5; omega
    · subst h5; rw [eif, eiV h4] at h3; have := h.idx u h4; omega
    · rw [eiV h4, eiV h5] at h3; exact h.inj u v h4 h5 h3
  · intro v
    rw [eo, ev]
    constructor
    · rintro (h1 | h1)
      · subst h1; exact ⟨.inl rfl, by rw [eg, if_pos rfl]; decide⟩
      · have := (h.on v).1 h1
        exact ⟨.inr this.1, by rw [egV this.1]; exact this.2⟩
    · rintro ⟨h1 | h1, h2⟩
      · exact .inl h1
      · rw [egV h1] at h2; exact .inr ((h.on v).2 ⟨h1, h2⟩)
  · intro v h1 h2
    obtain ⟨h3, h4⟩ := ecl h1 h2
    rw [egV h3]; exact h.off v h3 h4
  · rintro v (h1 | h1)
    · exact (eo v).2 (.inr (h.grey v h1))
    · exact (eo v).2 (.inl h1)
  · have hs : ∀ x ∈ st.stack, Vis st x.toNat := fun x hx => by
      have := h.wf.stk x hx
      exact h.vis (v := x.toNat) (by unfold On; rw [show ((x.toNat : Nat) : Int) = x by omega]; exact hx)
    refine List.pairwise_cons.2 ⟨fun x hx => ?_, ?_⟩
    · rw [Int.toNat_natCast, eif, eiV (hs x hx)]
      have := h.idx _ (hs x hx); omega
    · refine h.sorted.imp_of_mem fun {a b} ha hb hab => ?_
      rw [eiV (hs a ha), eiV (hs b hb)]; exact hab
  · intro u v h1 h2 h3
    rcases (eo u).1 h1 with h4 | h4 <;> rcases (eo v).1 h2 with h5 | h5
    · rw [h4, h5]; exact .refl
    · subst h4; rw [eif, eiV (h.vis h5)] at h3; have := h.idx v (h.vis h5); omega
    · rw [h5]; exact efp h4
    · rw [eiV (h.vis h4), eiV (h.vis h5)] at h3; exact h.path u v h4 h5 h3
  · intro v h1
    rcases (eo v).1 h1 with h2 | h2
    · exact ⟨v, .inr h2, Int.le_refl _, .refl⟩
    · obtain ⟨u, u1, u2, u3⟩ := h.back v h2
      exact ⟨u, .inl u1, by rw [eiV (h.vis (h.grey u u1)), eiV (h.vis h2)]; exact u2, u3⟩
  · intro v w h1 h2 h3
    rcases (ev v).1 h1 with h4 | h4
    · exact absurd (.inr h4) h2
    · exact (ev w).2 (.inr (h.black v w h4 (fun hh => h2 (.inl hh)) h3))
  · intro v w h1 h2 h3
    obtain ⟨h4, h5⟩ := ecl h1 h2
    obtain ⟨c1, c2, c3⟩ := h.closed v w h4 h5 h3
    refine ⟨(ev w).2 (.inr c1), fun h6 => ?_, by rw [egV c1, egV h4]; exact c3⟩
    rcases (eo w).1 h6 with h7 | h7
    · exact hne c1 h7.symm
    · exact c2 h7
  · intro u v h1 h2 h3 h4
    obtain ⟨h5, h6⟩ := ecl h1 h2
    obtain ⟨h7, h8⟩ := ecl h3 h4
    rw [egV h5, egV h7]; exact h.scc u v h5 h6 h7 h8
  · intro v h1
    rcases (eo v).1 h1 with h2 | h2
    · subst h2; exact ⟨v, h1, by rw [eif, el, if_pos rfl], .refl⟩
    · obtain ⟨u, u1, u2, u3⟩ := h.low v h2
      exact ⟨u, (eo u).2 (.inr u1), by rw [elV (h.vis h2), eiV (h.vis u1)]; exact u2, u3⟩
  · intro v h1
    rcases (eo v).1 h1 with h2 | h2
    · subst h2; rw [eif, el, if_pos rfl]; exact Int.le_refl _
    · rw [elV (h.vis h2), eiV (h.vis h2)]; exact h.lowle v h2

/-- a lower one is seen -/
theorem TIv.lower {g : List (List Int)} {n : Nat} {st : TS} {gray : Nat → Prop} (h : TIv g n st gray) {f k : Nat} (hf : On st f) (he : Edge g f k) (hk : Vis st k) : TIv g n (lowerV f k st) gray := by
  unfold lowerV
  split
  · rename_i hk0
    have hko := (h.on k).2 ⟨hk, hk0⟩
    have hfn := (h.vis hf).lt h.wf
    have hll := h.wf.ll
    have el : ∀ v, at0 (st.low.set f (if at0 st.low k < at0 st.low f then at0 st.low k else at0 st.low f)) v = if f = v then (if at0 st.low k < at0 st.low f then at0 st.low k else at0 st.low f) else at0 st.low v := fun v => by
      have h2 : f < st.low.length := by omega
      simp only [at0_set, h2, and_true]
    refine ⟨⟨h.wf.li, by simp [h.wf.ll], h.wf.lg, h.wf.stk, h.wf.cnt, h.wf.grp⟩, h.idx, h.inj, h.on, h.off, h.grey, h.sorted, h.path, h.back, h.black, h.closed, h.scc, ?_, ?_⟩
    · intro v hv
      simp only [el]
      by_cases e : f = v
      · subst e
        rw [if_pos rfl]
        split
        · obtain ⟨u, u1, u2, u3⟩ := h.low k hko
          exact ⟨u, u1, u2, (Path.one he).trans u3⟩
        · exact h.low f hv
      · rw [if_neg e]; exact h.low v hv
    · intro v hv
      simp only [el]
      have := h.lowle v hv
      by_cases e : f = v
      · subst e
        rw [if_pos rfl]
        split
        · omega
        · exact this
      · rw [if_neg e]; exact this
  · exact h

theorem popR_group (f gr : Int) : ∀ (ext rest grp : List Int), f ∉ ext → popR f gr (ext ++ f :: rest) grp = (rest, (ext ++ [f]).foldl (fun a x => a.set x.toNat gr) grp)
  | [], rest, grp, _ => by simp [popR]
  | x :: xs, rest, grp, h => by
    simp only [List.cons_append, List.foldl_cons]
    rw [popR, if_neg (fun e => h (by simp [e]))]
    exact popR_group f gr xs rest _ (fun e => h (by simp [e]))

theorem setAll_at (gr : Int) : ∀ (l : List Int) (grp : List Int) (v : Nat), (∀ x ∈ l, 0 ≤ x ∧ x < (grp.length : Int)) → at0 (l.foldl (fun a x => a.set x.toNat gr) grp) v = if (v : Int) ∈ l then gr else at0 grp v
  | [], grp, v, _ => by simp
  | x :: xs, grp, v, h => by
    have hx := h x (List.mem_cons_self ..)
    rw [List.foldl_cons, setAll_at gr xs _ v (fun y hy => by rw [List.length_set]; exact h y (List.mem_cons_of_mem _ hy)), at0_set]
    by_cases e : (v : Int) ∈ xs
    · simp [e]
    · by_cases e2 : x.toNat = v
      · have : (v : Int) = x := by omega
        rw [if_neg e, if_pos ⟨e2, by omega⟩, if_pos (by simp [this])]
      · have : (v : Int) ≠ x := by omega
        rw [if_neg e, if_neg (fun hh => e2 hh.1), if_neg (by simp [e, this])]

/-- what is left when f stays open -/
theorem TIv.keep {g : List (List Int)} {n : Nat} {st : TS} {gray : Nat → Prop} {f : Nat} (h : TIv g n st (fun v => gray v ∨ v = f)) (hne : at0 st.low f ≠ at0 st.index f) (hb : ∀ w, Edge g f w → Vis st w) : TIv g n st gray := by
  refine ⟨h.wf, h.idx, h.inj, h.on, h.off, fun v hv => h.grey v (.inl hv), h.sorted, h.path, ?_, ?_, h.closed, h.scc, h.low, h.lowle⟩
  · intro v hv
    obtain ⟨u, u1, u2, u3⟩ := h.back v hv
    rcases u1 with u1 | u1
    · exact ⟨u, u1, u2, u3⟩
    · subst u1
      have hf := h.grey u (.inr rfl)
      obtain ⟨u0, a1, a2, a3⟩ := h.low u hf
      have hle := h.lowle u hf
      obtain ⟨u1, c1, c2, c3⟩ := h.back u0 a1
      have hlt : at0 st.index u1 < at0 st.index u := by omega
      rcases c1 with c1 | c1
      · exact ⟨u1, c1, by omega, u3.trans (a3.trans c3)⟩
      · subst c1; omega
  · intro v w h1 h2 h3
    by_cases e : v = f
    · subst e; exact hb w h3
    · exact h.black v w h1 (fun hh => hh.elim h2 e) h3

/-- what is left when f is closed with all above it -/
theorem TIv.close {g : List (List Int)} {n : Nat} {st : TS} {gray : Nat → Prop} {f : Nat} (h : TIv g n st (fun v => gray v ∨ v = f)) (heq : at0 st.low f = at0 st.index f) (hgf : ¬ gray f) {ext rest : List Int} (hs : st.stack = ext ++ (f : Int) :: rest)
    (hb : ∀ w, Edge g f w → Vis st w ∧ (On st w → at0 st.low f ≤ at0 st.index w)) (hgr : ∀ u, gray u → at0 st.index u < at0 st.index f)
    (hx : ∀ w y, On st w → at0 st.index f < at0 st.index w → Edge g w y → On st y → at0 st.low f ≤ at0 st.index y) :
    TIv g n (closeV f st) gray ∧ (closeV f st).stack = rest ∧ (∀ v : Nat, (v : Int) ∉ ext → v ≠ f → at0 (closeV f st).group v = at0 st.group v) := by
  have hsrt := h.sorted
  rw [hs] at hsrt
  obtain ⟨s1, s2, s3⟩ := List.pairwise_append.1 hsrt
  obtain ⟨s4, s5⟩ := List.pairwise_cons.1 s2
  have hext : ∀ v : Nat, (v : Int) ∈ ext → at0 st.index f < at0 st.index v := fun v hv => by
    have := s3 _ hv _ (List.mem_cons_self ..); simpa using this
  have hrest : ∀ v : Nat, (v : Int) ∈ rest → at0 st.index v < at0 st.index f := fun v hv => by
    have := s4 _ hv; simpa using this
  have hfe : (f : Int) ∉ ext := fun hh => by have := hext f hh; omega
  have hon : ∀ v : Nat, On st v ↔ ((v : Int) ∈ ext ∨ v = f) ∨ (v : Int) ∈ rest := fun v => by
    unfold On; rw [hs]; simp only [List.mem_append, List.mem_cons]
    constructor
    · rintro (h1 | h1 | h1)
      · exact .inl (.inl h1)
      · exact .inl (.inr (by omega))
      · exact .inr h1
    · rintro ((h1 | h1) | h1)
      · exact .inl h1
      · exact .inr (.inl (by omega))
      · exact .inr (.inr h1)
  have hcl : closeV f st = { st with stack := rest, group := (ext ++ [(f : Int)]).foldl (fun a x => a.set x.toNat st.groups) st.group, groups := st.groups + 1 } := by
    rw [closeV, if_neg (by simpa using heq), hs, popR_group _ _ _ _ _ hfe]
  have eg : ∀ v : Nat, at0 ((ext ++ [(f : Int)]).foldl (fun a x => a.set x.toNat st.groups) st.group) v = if (v : Int) ∈ ext ∨ v = f then st.groups else at0 st.group v := fun v => by
    rw [setAll_at]
    · have : ((v : Int) ∈ ext ++ [(f : Int)]) ↔ ((v : Int) ∈ ext ∨ v = f) := by
        simp only [List.mem_append, List.mem_singleton]
        constructor <;> (rintro (h1 | h1); exact .inl h1; exact .inr (by omega))
      simp only [this]
    · intro x hx
      rw [h.wf.lg]
      refine h.wf.stk x ?_
      rw [hs]
      rcases List.mem_append.1 hx with h1 | h1
      · exact List.mem_append_left _ h1
      · simp only [List.mem_singleton] at h1; subst h1; simp
  obtain ⟨w1, _, _⟩ := closeV_wf h.wf hs
  rw [hcl] at w1 ⊢
  have hgp := h.wf.grp
  have pop_le : ∀ {v : Nat}, ((v : Int) ∈ ext ∨ v = f) → at0 st.index f ≤ at0 st.index v := fun {v} hv => by
    rcases hv with h1 | h1
    · have := hext v h1; omega
    · rw [h1]; exact Int.le_refl _
  have pop_on : ∀ {v : Nat}, ((v : Int) ∈ ext ∨ v = f) → On st v := fun {v} hv => (hon v).2 (.inl hv)
  have hfo : On st f := pop_on (.inr rfl)
  have rest_on : ∀ {v : Nat}, (v : Int) ∈ rest → On st v := fun {v} hv => (hon v).2 (.inr hv)
  have rest_np : ∀ {v : Nat}, (v : Int) ∈ rest → ¬ ((v : Int) ∈ ext ∨ v = f) := fun {v} hv hp => by
    have := hrest v hv; have := pop_le hp; omega
  have grey_np : ∀ {v : Nat}, gray v → ¬ ((v : Int) ∈ ext ∨ v = f) := fun {v} hv hp => by
    have := hgr v hv; have := pop_le hp; omega
  have toF : ∀ {u : Nat}, ((u : Int) ∈ ext ∨ u = f) → Path g u f := fun {u} hu => by
    obtain ⟨u1, c1, c2, c3⟩ := h.back u (pop_on hu)
    rcases c1 with c1 | c1
    · exact c3.trans (h.path u1 f (h.grey u1 (.inl c1)) hfo (by have := hgr u1 c1; omega))
    · rw [c1] at c3; exact c3
  have ofF : ∀ {v : Nat}, ((v : Int) ∈ ext ∨ v = f) → Path g f v := fun {v} hv => h.path f v hfo (pop_on hv) (pop_le hv)
  have shut : ∀ {v w : Nat}, Vis st v → ¬ On st v → Path g v w → Vis st w ∧ ¬ On st w := fun {v w} h1 h2 h3 => by
    induction h3 with
    | refl => exact ⟨h1, h2⟩
    | step _ he ih =>
      obtain ⟨a1, a2, _⟩ := h.closed _ _ ih.1 ih.2 he
      exact ⟨a1, a2⟩
  have notOn : ∀ {v : Nat}, ¬ (v : Int) ∈ rest → ¬ ((v : Int) ∈ ext ∨ v = f) → ¬ On st v := fun {v} h1 h2 h3 => ((hon v).1 h3).elim h2 h1
  refine ⟨⟨w1, h.idx, h.inj, ?_, ?_, ?_, s5, fun u v h1 h2 h3 => h.path u v (rest_on h1) (rest_on h2) h3, ?_, ?_, ?_, ?_, ?_, fun v hv => h.lowle v (rest_on hv)⟩, rfl, fun v h1 h2 => ?_⟩
  · intro v
    constructor
    · intro hv
      have h1 := (h.on v).1 (rest_on hv)
      refine ⟨h1.1, ?_⟩
      simp only [eg, if_neg (rest_np hv)]; exact h1.2
    · rintro ⟨h1, h2⟩
      simp only [eg] at h2
      split at h2
      · omega
      · rename_i hnp
        rcases (hon v).1 ((h.on v).2 ⟨h1, h2⟩) with h3 | h3
        · exact absurd h3 hnp
        · exact h3
  · intro v h1 h2
    simp only [eg]
    split
    · exact ⟨hgp.1, by omega⟩
    · rename_i hnp
      have := h.off v h1 (notOn h2 hnp)
      exact ⟨this.1, by omega⟩
  · intro v hv
    rcases (hon v).1 (h.grey v (.inl hv)) with h3 | h3
    · exact absurd h3 (grey_np hv)
    · exact h3
  · intro v hv
    obtain ⟨u, u1, u2, u3⟩ := h.back v (rest_on hv)
    rcases u1 with u1 | u1
    · exact ⟨u, u1, u2, u3⟩
    · subst u1; have := hrest v hv; omega
  · intro v w h1 h2 h3
    by_cases e : v = f
    · subst e; exact (hb w h3).1
    · exact h.black v w h1 (fun hh => hh.elim h2 e) h3
  · intro v w h1 h2 h3
    by_cases hp : (v : Int) ∈ ext ∨ v = f
    · have hvw : Vis st w := by
        by_cases e : v = f
        · subst e; exact (hb w h3).1
        · exact h.black v w h1 (fun hh => hh.elim (fun hg => grey_np hg hp) e) h3
      have hnr : ¬ (w : Int) ∈ rest := fun hw => by
        have h5 := hrest w hw
        by_cases e : v = f
        · subst e; have := (hb w h3).2 (rest_on hw); omega
        · have h6 : at0 st.index f < at0 st.index v := hext v (hp.elim id (fun hh => absurd hh e))
          have := hx v w (pop_on hp) h6 h3 (rest_on hw); omega
      refine ⟨hvw, hnr, ?_⟩
      simp only [eg, if_pos hp]
      split
      · exact Int.le_refl _
      · rename_i hnp
        have := h.off w hvw (notOn hnr hnp); omega
    · have hno := notOn h2 hp
      obtain ⟨a1, a2, a3⟩ := h.closed v w h1 hno h3
      have hnw : ¬ ((w : Int) ∈ ext ∨ w = f) := fun hh => a2 (pop_on hh)
      refine ⟨a1, fun hh => a2 (rest_on hh), ?_⟩
      simp only [eg, if_neg hp, if_neg hnw]; exact a3
  · intro u v h1 h2 h3 h4
    by_cases hu : (u : Int) ∈ ext ∨ u = f
    · by_cases hv : (v : Int) ∈ ext ∨ v = f
      · simp only [eg, if_pos hu, if_pos hv, true_iff]
        exact ⟨(toF hu).trans (ofF hv), (toF hv).trans (ofF hu)⟩
      · have hno := notOn h4 hv
        have hgv := h.off v h3 hno
        simp only [eg, if_pos hu, if_neg hv]
        constructor
        · intro hh; omega
        · rintro ⟨_, hh⟩; exact absurd (pop_on hu) (shut h3 hno hh).2
    · have hnu := notOn h2 hu
      have hgu := h.off u h1 hnu
      by_cases hv : (v : Int) ∈ ext ∨ v = f
      · simp only [eg, if_neg hu, if_pos hv]
        constructor
        · intro hh; omega
        · rintro ⟨hh, _⟩; exact absurd (pop_on hv) (shut h1 hnu hh).2
      · simp only [eg, if_neg hu, if_neg hv]
        exact h.scc u v h1 hnu h3 (notOn h4 hv)
  · intro v hv
    obtain ⟨u, u1, u2, u3⟩ := h.low v (rest_on hv)
    have hle := h.lowle v (rest_on hv)
    have hlt := hrest v hv
    refine ⟨u, ?_, u2, u3⟩
    rcases (hon u).1 u1 with h5 | h5
    · have := pop_le h5; omega
    · exact h5
  · simp only [eg]
    rw [if_neg (fun hh => hh.elim h1 h2)]
end Go.Sep

/-
  Tarjan's visits, in plain terms: what a visit keeps, what all visits come to.
-/
set_option linter.unusedVariables false
set_option linter.unusedSimpArgs false
namespace Go.Sep

def Sur (st : TS) : Prop := ∀ i : Int, 0 ≤ i → i < st.groups → ∃ v, Vis st v ∧ ¬ On st v ∧ at0 st.group v = i

structure VPost2 (g : List (List Int)) (n : Nat) (st st' : TS) (f : Nat) (gray : Nat → Prop) : Prop where
  post : VPost g n st st' f gray
  shut : ¬ On st' f → st'.stack = st.stack
  sur : Sur st → Sur st'

theorem Kept.vis {a b : TS} (h : Kept a b) {v : Nat} (hv : Vis a v) : Vis b v := by
  unfold Vis; rw [h.index v hv]; exact hv

/-- in the midst of the row of f -/
structure FoldI (g : List (List Int)) (n : Nat) (st s : TS) (f : Nat) (gray : Nat → Prop) (pre : List Int) : Prop where
  inv : TIv g n s (fun v => gray v ∨ v = f)
  kept : Kept (beginV st f) s
  frame : ∀ v, Vis st v → at0 s.low v = at0 st.low v ∧ at0 s.group v = at0 st.group v
  exit : ∀ w y, ¬ Vis st w → w ≠ f → On s w → Edge g w y → On s y → at0 s.low f ≤ at0 s.index y
  row : ∀ t : Nat, (t : Int) ∈ pre → Vis s t ∧ (On s t → at0 s.low f ≤ at0 s.index t)
  sur : Sur st → Sur s

theorem lowerV_same (f k : Nat) (s : TS) : (lowerV f k s).index = s.index ∧ (lowerV f k s).stack = s.stack ∧ (lowerV f k s).group = s.group ∧ (lowerV f k s).groups = s.groups := by
  unfold lowerV; split <;> exact ⟨rfl, rfl, rfl, rfl⟩
theorem lowerV_other {f k v : Nat} {s : TS} (h : v ≠ f) : at0 (lowerV f k s).low v = at0 s.low v := by
  unfold lowerV; split
  · simp only [at0_set]; rw [if_neg (fun hh => h hh.1.symm)]
  · rfl
theorem lowerV_self {f k n : Nat} {s : TS} (hw : WF n s) (hf : f < n) : at0 (lowerV f k s).low f ≤ at0 s.low f ∧ (at0 s.group k < 0 → at0 (lowerV f k s).low f ≤ at0 s.low k) := by
  have hl : f < s.low.length := by rw [hw.ll]; exact hf
  unfold lowerV; split
  · simp only [at0_set, hl, and_self, if_true]
    constructor
    · split <;> omega
    · intro _; split <;> omega
  · rename_i h
    exact ⟨Int.le_refl _, fun hh => absurd hh h⟩

theorem visitM_inv {g : List (List Int)} {n : Nat} (hg : RowsOk n g) (hl : g.length = n) : ∀ (fuel : Nat) (st : TS) (f : Nat) (gray : Nat → Prop), TIv g n st gray → f < n → ¬ Vis st f → (∀ u, gray u → Path g u f) → zeros st.index ≤ fuel →
    VPost2 g n st (visitM g fuel st f) f gray := by
  intro fuel
  induction fuel with
  | zero =>
    intro st f gray h hf hv hp hz
    have h0 : at0 st.index f = 0 := by unfold Vis at hv; omega
    have := zeros_pos (by rw [at0_get (by rw [h.wf.li]; exact hf), h0] : st.index[f]? = some 0)
    omega
  | succ fuel ih =>
    intro st f gray h hf hv hp hz
    have h0 : at0 st.index f = 0 := by unfold Vis at hv; omega
    obtain ⟨b1, b2, b3, b4⟩ := beginV_wf h.wf hf h0
    have hbeg := h.begin hf hv hp
    have hfl : f < st.index.length := by rw [h.wf.li]; exact hf
    have hne : ∀ v, Vis st v → v ≠ f := fun v hv' e => hv (e ▸ hv')
    have hgl : g[f]? = some (g[f]?.getD []) := by simp [show f < g.length by omega]
    have hrow : ∀ x ∈ g[f]?.getD [], 0 ≤ x ∧ x < (n : Int) := fun x hx => hg.lt _ (by simp [show f < g.length by omega]) x hx
    have hbfr : ∀ v, Vis st v → at0 (beginV st f).low v = at0 st.low v ∧ at0 (beginV st f).group v = at0 st.group v := fun v hv' => by
      have := hne v hv'
      simp only [beginV, at0_set]
      rw [if_neg (fun hh => this hh.1.symm), if_neg (fun hh => this hh.1.symm)]; exact ⟨rfl, rfl⟩
    have hidxf : at0 (beginV st f).index f = st.count + 1 := by simp only [beginV, at0_set, hfl, and_self, if_true]
    have grayVis : ∀ u, gray u → Vis st u := fun u hu => h.vis (h.grey u hu)
    have start : FoldI g n st (beginV st f) f gray [] := by
      refine ⟨hbeg, Kept.refl _, hbfr, ?_, ?_, ?_⟩
      · intro w y hw hwf hon
        have : (w : Int) ∈ (f : Int) :: st.stack := hon
        rcases List.mem_cons.1 this with e | e
        · exact absurd (by omega : w = f) hwf
        · exact absurd (h.vis e) hw
      · intro t ht; cases ht
      · intro hs i h1 h2
        obtain ⟨v, v1, v2, v3⟩ := hs i h1 h2
        refine ⟨v, by unfold Vis; rw [b3 v v1]; exact v1, ?_, ?_⟩
        · intro hon
          have : (v : Int) ∈ (f : Int) :: st.stack := hon
          rcases List.mem_cons.1 this with e | e
          · exact hne v v1 (by omega)
          · exact v2 e
        · rw [(hbfr v v1).2]; exact v3
    have step : ∀ (pre : List Int) (s : TS) (t : Int), FoldI g n st s f gray pre → t ∈ g[f]?.getD [] → zeros s.index ≤ fuel → FoldI g n st (stepV g fuel f s t) f gray (pre ++ [t]) := by
      intro pre s t hI ht hzs
      have htn := hrow t ht
      have htt : ((t.toNat : Nat) : Int) = t := by omega
      have hedge : Edge g f t.toNat := ⟨_, hgl, by rw [htt]; exact ht⟩
      have hfon : On s f := hI.inv.grey f (.inr rfl)
      have hfvis : Vis s f := hI.inv.vis hfon
      -- behind a visit, if any
      have mid : ∃ s', (if at0 s.index t.toNat = 0 then visitM g fuel s t.toNat else s) = s' ∧ TIv g n s' (fun v => gray v ∨ v = f) ∧ Kept s s' ∧ Vis s' t.toNat ∧ (∀ v, Vis s v → at0 s'.low v = at0 s.low v ∧ at0 s'.group v = at0 s.group v) ∧
          (∀ w y, ¬ Vis s w → On s' w → Edge g w y → On s' y → On s' t.toNat ∧ at0 s'.low t.toNat ≤ at0 s'.index y) ∧ (Sur s → Sur s') := by
        by_cases e : at0 s.index t.toNat = 0
        · have hnv : ¬ Vis s t.toNat := fun hh => hh e
          obtain ⟨⟨p1, p2, p3, p4, p5, p6⟩, hq1, hq2⟩ := ih s t.toNat (fun v => gray v ∨ v = f) hI.inv (by omega) hnv (fun u hu => by
            rcases hu with hu | rfl
            · exact (hp u hu).step hedge
            · exact Path.one hedge) hzs
          refine ⟨_, if_pos e, p1, p2, p3, p4, ?_, hq2⟩
          intro w y hw hon he hy
          refine ⟨?_, p5 w y hw hon he hy⟩
          apply Classical.byContradiction
          intro hno
          have := hq1 hno
          unfold On at hon
          rw [this] at hon
          exact hw (hI.inv.vis hon)
        · exact ⟨s, if_neg e, hI.inv, Kept.refl s, e, fun _ _ => ⟨rfl, rfl⟩, fun w y hw hon => absurd (hI.inv.vis hon) hw, id⟩
      obtain ⟨s', e', i1, i2, i3, i4, i5, i6⟩ := mid
      have onBack : ∀ v, Vis s v → On s' v → On s v := fun v h1 h2 => by
        refine (hI.inv.on v).2 ⟨h1, ?_⟩
        rw [← (i4 v h1).2]; exact ((i1.on v).1 h2).2
      unfold stepV
      rw [e']
      obtain ⟨l1, l2, l3, l4⟩ := lowerV_same f t.toNat s'
      have ls := lowerV_self (k := t.toNat) i1.wf hf
      have lon : ∀ v, On (lowerV f t.toNat s') v ↔ On s' v := fun v => by unfold On; rw [l2]
      have lvis : ∀ v, Vis (lowerV f t.toNat s') v ↔ Vis s' v := fun v => by unfold Vis; rw [l1]
      have hlf : at0 s'.low f = at0 s.low f := (i4 f hfvis).1
      have hfon' : On s' f := i1.grey f (.inr rfl)
      refine ⟨i1.lower hfon' hedge i3, (hI.kept.trans i2).trans (lowerV_kept _ _ _), ?_, ?_, ?_, ?_⟩
      · intro v hv'
        have hvs : Vis s v := hI.kept.vis (by unfold Vis; rw [b3 v hv']; exact hv')
        rw [lowerV_other (hne v hv'), l3, (i4 v hvs).1, (i4 v hvs).2]
        exact hI.frame v hv'
      · intro w y hw hwf hon he hy
        rw [lon] at hon hy
        rw [l1]
        by_cases hws : Vis s w
        · have hys : Vis s y := hI.inv.black w y hws (fun hh => hh.elim (fun hgr => hw (grayVis w hgr)) hwf) he
          have := hI.exit w y hw hwf (onBack w hws hon) he (onBack y hys hy)
          rw [i2.index y hys]
          have := ls.1
          omega
        · obtain ⟨h1, h2⟩ := i5 w y hws hon he hy
          have := ls.2 ((i1.on _).1 h1).2
          omega
      · intro u hu
        rw [lvis, lon, l1]
        rcases List.mem_append.1 hu with hu | hu
        · obtain ⟨r1, r2⟩ := hI.row u hu
          refine ⟨i2.vis r1, fun hon => ?_⟩
          have := r2 (onBack u r1 hon)
          rw [i2.index u r1]
          have := ls.1
          omega
        · have : u = t.toNat := by simp at hu; omega
          subst this
          refine ⟨i3, fun hon => ?_⟩
          have := ls.2 ((i1.on _).1 hon).2
          have := i1.lowle _ hon
          omega
      · intro hs i h1 h2
        rw [l4] at h2
        obtain ⟨v, v1, v2, v3⟩ := i6 (hI.sur hs) i h1 h2
        exact ⟨v, (lvis v).2 v1, fun hh => v2 ((lon v).1 hh), by rw [l3]; exact v3⟩
    have fold : ∀ (row pre : List Int) (s : TS), (∀ x ∈ row, x ∈ g[f]?.getD []) → FoldI g n st s f gray pre → zeros s.index ≤ fuel → FoldI g n st (row.foldl (stepV g fuel f) s) f gray (pre ++ row) := by
      intro row
      induction row with
      | nil => intro pre s _ hs _; simpa using hs
      | cons t row ihr =>
        intro pre s hr hs hzs
        have ht := hr t (List.mem_cons_self ..)
        have hs1 := step pre s t hs ht hzs
        have hk := (stepV_ok hg hl f (hrow t ht) hs.inv.wf hzs).2
        have := ihr (pre ++ [t]) _ (fun x hx => hr x (List.mem_cons_of_mem _ hx)) hs1 (Nat.le_trans hk.zeros hzs)
        simpa using this
    have hend := fold (g[f]?.getD []) [] _ (fun _ hx => hx) start (by omega)
    simp only [List.nil_append] at hend
    rw [visitM_succ]
    generalize (g[f]?.getD []).foldl (stepV g fuel f) (beginV st f) = s at hend
    have hfon : On s f := hend.inv.grey f (.inr rfl)
    have hrowE : ∀ w, Edge g f w → (w : Int) ∈ g[f]?.getD [] := by
      rintro w ⟨r, h1, h2⟩
      rw [h1]; exact h2
    obtain ⟨ext, hext⟩ := hend.kept.stack
    have hstk : s.stack = ext ++ (f : Int) :: st.stack := hext
    have hvs : ∀ v, Vis st v → at0 s.index v = at0 st.index v := fun v hv' => by
      rw [hend.kept.index v (by rw [b3 v hv']; exact hv'), b3 v hv']
    have hvis : ∀ v, Vis st v → Vis s v := fun v hv' => by unfold Vis; rw [hvs v hv']; exact hv'
    have hif : at0 s.index f = st.count + 1 := by rw [hend.kept.index f b4, hidxf]
    have hkeptS : Kept st s := ⟨⟨ext ++ [(f : Int)], by rw [hstk]; simp⟩, fun k hk => hvs k hk, by have := hend.kept.zeros; omega⟩
    by_cases hlow : at0 s.low f = at0 s.index f
    · -- a class is closed
      have hgf : ¬ gray f := fun hh => hv (grayVis f hh)
      obtain ⟨c1, c2, c3⟩ := hend.inv.close hlow hgf hstk
        (fun w hw => hend.row w (hrowE w hw))
        (fun u hu => by rw [hvs u (grayVis u hu), hif]; have := (h.idx u (grayVis u hu)).2; omega)
        (fun w y hw hlt he hy => by
          by_cases hws : Vis st w
          · rw [hvs w hws, hif] at hlt
            have := (h.idx w hws).2
            omega
          · exact hend.exit w y hws (fun e => by subst e; omega) hw he hy)
      have hci : (closeV f s).index = s.index := by unfold closeV; split <;> rfl
      have hcl : (closeV f s).low = s.low := by unfold closeV; split <;> rfl
      have hcg : (closeV f s).groups = s.groups + 1 := by unfold closeV; rw [if_neg (by simp [hlow])]
      have hnext : ∀ v, Vis st v → (v : Int) ∉ ext := fun v hv' hm => by
        have hso := hend.inv.sorted
        rw [hstk] at hso
        have := (List.pairwise_append.1 hso).2.2 (v : Int) hm (f : Int) (List.mem_cons_self ..)
        simp only [Int.toNat_natCast] at this
        rw [hvs v hv', hif] at this
        have := (h.idx v hv').2
        omega
      have hnof : ¬ On (closeV f s) f := fun hh => by
        unfold On at hh
        rw [c2] at hh
        exact hv (h.vis hh)
      have hfv : Vis (closeV f s) f := by unfold Vis; rw [hci, hif]; have := h.wf.cnt; omega
      refine ⟨⟨c1, ⟨⟨[], by rw [c2]; rfl⟩, fun k hk => by rw [hci]; exact hvs k hk, by rw [hci]; exact hkeptS.zeros⟩, hfv, ?_, ?_, fun hh => absurd hh hnof⟩, fun _ => c2, ?_⟩
      · intro v hv'
        rw [hcl, c3 v (hnext v hv') (hne v hv')]
        exact hend.frame v hv'
      · intro w y hw hon
        unfold On at hon
        rw [c2] at hon
        exact absurd (h.vis hon) hw
      · intro hs i h1 h2
        rw [hcg] at h2
        by_cases hi : i < s.groups
        · obtain ⟨v, v1, v2, v3⟩ := hend.sur hs i h1 hi
          have hve : (v : Int) ∉ ext := fun hm => v2 (by unfold On; rw [hstk]; exact List.mem_append_left _ hm)
          have hvf : v ≠ f := fun e => by subst e; exact v2 hfon
          refine ⟨v, by unfold Vis; rw [hci]; exact v1, fun hh => v2 ?_, by rw [c3 v hve hvf]; exact v3⟩
          unfold On at hh ⊢
          rw [c2] at hh
          rw [hstk]; simp [hh]
        · refine ⟨f, hfv, hnof, ?_⟩
          have : i = s.groups := by omega
          subst this
          have hne' : f ∉ ([] : List Nat) := by simp
          obtain ⟨e1, h1', h2'⟩ := popR_suffix f s.groups s.stack s.group (by rw [hstk]; simp)
          have hpr : (closeV f s).group = (popR f s.groups s.stack s.group).2 := by unfold closeV; rw [if_neg (by simp [hlow])]
          rw [hpr, h1', popR_group _ _ _ _ _ h2']
          simp only
          rw [setAll_at]
          · simp
          · intro x hx
            have hx' : x ∈ s.stack := by
              rw [h1']
              rcases List.mem_append.1 hx with hx | hx
              · exact List.mem_append_left _ hx
              · simp at hx; rw [hx]; simp
            have := hend.inv.wf.stk x hx'
            rw [hend.inv.wf.lg]; exact this
    · have hcl : closeV f s = s := by unfold closeV; rw [if_pos hlow]
      rw [hcl]
      refine ⟨⟨hend.inv.keep hlow (fun w hw => (hend.row w (hrowE w hw)).1), hkeptS, hend.inv.vis hfon, hend.frame, ?_, ?_⟩, fun hh => absurd hfon hh, hend.sur⟩
      · intro w y hw hon he hy
        by_cases e : w = f
        · subst e; exact (hend.row y (hrowE y he)).2 hy
        · exact hend.exit w y hw e hon he hy
      · intro _
        have := hend.inv.lowle f hfon
        omega

def st0 (n : Nat) : TS := ⟨List.replicate n 0, List.replicate n 0, List.replicate n 0, [], 0, 0⟩

/-- the first k functions visited -/
def visitAll (g : List (List Int)) (n : Nat) (k : Nat) : TS := (List.range k).foldl (fun st f => if at0 st.index f = 0 then visitM g n st f else st) (st0 n)

theorem visitAll_succ (g : List (List Int)) (n k : Nat) : visitAll g n (k + 1) = (if at0 (visitAll g n k).index k = 0 then visitM g n (visitAll g n k) k else visitAll g n k) := by
  rw [visitAll, List.range_succ, List.foldl_append]; rfl

theorem zeros_le (l : List Int) : zeros l ≤ l.length := List.length_filter_le _ _

theorem st0_wf (n : Nat) : WF n (st0 n) := by
  refine ⟨by simp [st0], by simp [st0], by simp [st0], fun x hx => by simp [st0] at hx, ?_, ?_⟩
  · have := zeros_le (List.replicate n 0); simp [st0] at this ⊢; omega
  · have := zeros_le (List.replicate n 0); simp [st0] at this ⊢; omega

theorem visitAll_wf {n : Nat} {g : List (List Int)} (hg : RowsOk n g) (hl : g.length = n) : ∀ k, k ≤ n → WF n (visitAll g n k)
  | 0, _ => by simpa [visitAll] using st0_wf n
  | k + 1, hk => by
    have ih := visitAll_wf hg hl k (by omega)
    rw [visitAll_succ]
    split
    · rename_i h0
      exact (visitM_ok hg hl n _ k ih (by omega) h0 (by have := zeros_le (visitAll g n k).index; rw [ih.li] at this; exact this)).1
    · exact ih

theorem st0_vis {n v : Nat} : ¬ Vis (st0 n) v := by
  unfold Vis st0 at0
  simp only [List.getElem?_replicate]
  split <;> simp

theorem visitAll_inv {n : Nat} {g : List (List Int)} (hg : RowsOk n g) (hl : g.length = n) : ∀ k, k ≤ n → TIv g n (visitAll g n k) (fun _ => False) ∧ Sur (visitAll g n k) ∧ ∀ j, j < k → Vis (visitAll g n k) j
  | 0, _ => by
    have hv : ∀ v, ¬ Vis (st0 n) v := fun v => st0_vis
    have ho : ∀ v, ¬ On (st0 n) v := fun v h => by simp [On, st0] at h
    refine ⟨⟨st0_wf n, fun v h => absurd h (hv v), fun u v h => absurd h (hv u), fun v => ⟨fun h => absurd h (ho v), fun h => absurd h.1 (hv v)⟩, fun v h => absurd h (hv v), fun v h => h.elim, by simp [visitAll, st0],
      fun u v h => absurd h (ho u), fun v h => absurd h (ho v), fun v w h => absurd h (hv v), fun v w h => absurd h (hv v), fun u v h => absurd h (hv u), fun v h => absurd h (ho v), fun v h => absurd h (ho v)⟩, ?_, fun j hj => by omega⟩
    intro i h1 h2
    simp [visitAll, st0] at h2; omega
  | k + 1, hk => by
    obtain ⟨i1, i2, i3⟩ := visitAll_inv hg hl k (by omega)
    rw [visitAll_succ]
    split
    · rename_i h0
      have := visitM_inv hg hl n _ k (fun _ => False) i1 (by omega) (fun h => h h0) (fun _ h => h.elim) (by have := zeros_le (visitAll g n k).index; rw [i1.wf.li] at this; exact this)
      refine ⟨this.post.inv, this.sur i2, fun j hj => ?_⟩
      by_cases e : j = k
      · subst e; exact this.post.vis
      · exact this.post.kept.vis (i3 j (by omega))
    · rename_i h0
      refine ⟨i1, i2, fun j hj => ?_⟩
      by_cases e : j = k
      · subst e; exact h0
      · exact i3 j (by omega)

/-- what the groups are -/
structure GroupsOk (g : List (List Int)) (n : Nat) (grp : List Int) (ng : Nat) : Prop where
  len : grp.length = n
  lt : ∀ v, v < n → 0 ≤ at0 grp v ∧ at0 grp v < ng
  sur : ∀ i : Nat, i < ng → ∃ v, v < n ∧ at0 grp v = i
  edge : ∀ v w, v < n → Edge g v w → w < n ∧ at0 grp w ≤ at0 grp v
  scc : ∀ u v, u < n → v < n → (at0 grp u = at0 grp v ↔ Path g u v ∧ Path g v u)
  few : ng ≤ n

theorem visitAll_groups {n : Nat} {g : List (List Int)} (hg : RowsOk n g) (hl : g.length = n) : 0 ≤ (visitAll g n n).groups ∧ GroupsOk g n (visitAll g n n).group (visitAll g n n).groups.toNat := by
  obtain ⟨i1, i2, i3⟩ := visitAll_inv hg hl n (Nat.le_refl _)
  have ho : ∀ v, ¬ On (visitAll g n n) v := fun v h => by
    obtain ⟨u, hu, _⟩ := i1.back v h
    exact hu
  have hgp := i1.wf.grp
  refine ⟨hgp.1, ⟨i1.wf.lg, fun v hv => ?_, fun i hi => ?_, fun v w hv he => ?_, fun u v hu hv => i1.scc u v (i3 u hu) (ho u) (i3 v hv) (ho v), by omega⟩⟩
  · have := i1.off v (i3 v hv) (ho v)
    omega
  · obtain ⟨v, v1, v2, v3⟩ := i2 i (by omega) (by omega)
    exact ⟨v, v1.lt i1.wf, v3⟩
  · obtain ⟨h1, h2, h3⟩ := i1.closed v w (i3 v hv) (ho v) he
    exact ⟨h1.lt i1.wf, h3⟩
end Go.Sep

/-
  The order of the groups, in plain terms: the members, who waits for whom, the order in which they come.
-/
set_option linter.unusedVariables false
set_option linter.unusedSimpArgs false
namespace Go.Sep

def row (l : List (List Int)) (k : Nat) : List Int := l[k]?.getD []
def pushAt (l : List (List Int)) (k : Nat) (x : Int) : List (List Int) := l.set k (row l k ++ [x])

theorem row_set {l : List (List Int)} {k i : Nat} {r : List Int} : row (l.set k r) i = if k = i ∧ k < l.length then r else row l i := by
  unfold row
  rw [List.getElem?_set]
  by_cases e : k = i
  · subst e
    by_cases h : k < l.length <;> simp [h]
  · simp [e]
theorem row_get {l : List (List Int)} {k : Nat} (h : k < l.length) : l[k]? = some (row l k) := by simp [row, h]
theorem row_mem {l : List (List Int)} {k : Nat} (h : k < l.length) : row l k ∈ l := List.mem_of_getElem? (row_get h)
theorem row_push {l : List (List Int)} {k i : Nat} {x : Int} : row (pushAt l k x) i = if k = i ∧ k < l.length then row l k ++ [x] else row l i := row_set
theorem row_empty (n k : Nat) : row (List.replicate n []) k = [] := by
  unfold row
  rw [List.getElem?_replicate]
  split <;> rfl

/-! ### members -/
def membersM (grp : List Int) (ng k : Nat) : List (List Int) := (List.range k).foldl (fun ms f => pushAt ms (at0 grp f).toNat f) (List.replicate ng [])
theorem membersM_succ (grp : List Int) (ng k : Nat) : membersM grp ng (k + 1) = pushAt (membersM grp ng k) (at0 grp k).toNat k := by
  rw [membersM, List.range_succ, List.foldl_append]; rfl
/-- the functions of a group -/
def cls (grp : List Int) (n : Nat) (i : Int) : List Int := ((List.range n).filter fun v => decide (at0 grp v = i)).map fun v : Nat => (v : Int)
theorem cls_mem {grp : List Int} {n : Nat} {i x : Int} : x ∈ cls grp n i ↔ ∃ v : Nat, v < n ∧ at0 grp v = i ∧ (v : Int) = x := by
  simp only [cls, List.mem_map, List.mem_filter, List.mem_range, decide_eq_true_eq, and_assoc]
theorem membersM_len (grp : List Int) (ng : Nat) : ∀ k, (membersM grp ng k).length = ng
  | 0 => by simp [membersM]
  | k + 1 => by rw [membersM_succ]; simp [pushAt, membersM_len grp ng k]
theorem membersM_row {grp : List Int} {ng n : Nat} (h : ∀ v, v < n → 0 ≤ at0 grp v ∧ at0 grp v < ng) : ∀ k, k ≤ n → ∀ i : Nat, i < ng → row (membersM grp ng k) i = cls grp k i
  | 0, _, i, _ => by simp [membersM, row_empty, cls]
  | k + 1, hk, i, hi => by
    have ih := membersM_row h k (by omega) i hi
    have hv := h k (by omega)
    rw [membersM_succ, row_push, membersM_len]
    simp only [cls, List.range_succ, List.filter_append, List.map_append]
    by_cases e : (at0 grp k).toNat = i
    · rw [if_pos ⟨e, by omega⟩]
      have e2 : at0 grp k = (i : Int) := by omega
      rw [e, ih]
      simp [cls, e2]
    · rw [if_neg (fun hh => e hh.1), ih]
      have e2 : ¬ at0 grp k = (i : Int) := by omega
      simp [cls, e2]

/-! ### who waits for whom -/
structure WA where
  w : List (List Int)
  a : List (List Int)

def askStep (grp : List Int) (f : Nat) (st : WA) (t : Int) : WA :=
  if at0 grp f = at0 grp t.toNat then st
  else if at0 grp t.toNat ∈ row st.w (at0 grp f).toNat then st
  else ⟨pushAt st.w (at0 grp f).toNat (at0 grp t.toNat), pushAt st.a (at0 grp t.toNat).toNat (at0 grp f)⟩

def askAll (g : List (List Int)) (grp : List Int) (ng k : Nat) : WA := (List.range k).foldl (fun st f => (row g f).foldl (askStep grp f) st) ⟨List.replicate ng [], List.replicate ng []⟩
theorem askAll_succ (g : List (List Int)) (grp : List Int) (ng k : Nat) : askAll g grp ng (k + 1) = (row g k).foldl (askStep grp k) (askAll g grp ng k) := by
  rw [askAll, List.range_succ, List.foldl_append]; rfl

/-- E: the pairs of groups seen so far -/
structure AskI (ng : Nat) (E : Int → Int → Prop) (st : WA) : Prop where
  lw : st.w.length = ng
  la : st.a.length = ng
  okw : RowsOk ng st.w
  oka : RowsOk ng st.a
  mem : ∀ (a : Nat) (b : Int), a < ng → (b ∈ row st.w a ↔ E a b)
  ask : ∀ (a : Int) (b : Nat), b < ng → (a ∈ row st.a b ↔ E a b)

theorem RowsOk.push {n : Nat} {g : List (List Int)} (h : RowsOk n g) (i : Nat) {t : Int} (ht : 0 ≤ t ∧ t < (n : Int)) (hi : i < g.length) (hn : t ∉ row g i) : RowsOk n (pushAt g i t) := by
  have hm := row_mem hi
  refine ⟨fun r hr => ?_, fun r hr x hx => ?_⟩
  · rcases List.mem_or_eq_of_mem_set hr with hr | hr
    · exact h.nodup r hr
    · rw [hr]
      refine List.nodup_append.2 ⟨h.nodup _ hm, by simp, fun a ha b hb => ?_⟩
      simp only [List.mem_singleton] at hb
      subst hb
      exact fun e => hn (e ▸ ha)
  · rcases List.mem_or_eq_of_mem_set hr with hr | hr
    · exact h.lt r hr x hx
    · rw [hr] at hx
      rcases List.mem_append.1 hx with hx | hx
      · exact h.lt _ hm x hx
      · simp only [List.mem_singleton] at hx
        rw [hx]; exact ht

theorem AskI.step {ng n : Nat} {grp : List Int} (hlt : ∀ v, v < n → 0 ≤ at0 grp v ∧ at0 grp v < ng) {E : Int → Int → Prop} {st : WA} (h : AskI ng E st) {f : Nat} {t : Int} (hf : f < n) (ht : t.toNat < n) :
    AskI ng (fun a b => E a b ∨ (at0 grp f ≠ at0 grp t.toNat ∧ a = at0 grp f ∧ b = at0 grp t.toNat)) (askStep grp f st t) := by
  have h1 := hlt f hf
  have h2 := hlt _ ht
  generalize hA : at0 grp f = A at *
  generalize hB : at0 grp t.toNat = B at *
  have hlw := h.lw
  have hla := h.la
  have eA : ((A.toNat : Nat) : Int) = A := by omega
  have eB : ((B.toNat : Nat) : Int) = B := by omega
  unfold askStep
  rw [hA, hB]
  by_cases e : A = B
  · rw [if_pos e]
    refine ⟨h.lw, h.la, h.okw, h.oka, fun a b ha => ?_, fun a b hb => ?_⟩
    · rw [h.mem a b ha]; simp [e]
    · rw [h.ask a b hb]; simp [e]
  · rw [if_neg e]
    by_cases hin : B ∈ row st.w A.toNat
    · rw [if_pos hin]
      have hE : E A B := by
        have := (h.mem A.toNat B (by omega)).1 hin
        rwa [eA] at this
      refine ⟨h.lw, h.la, h.okw, h.oka, fun a b ha => ?_, fun a b hb => ?_⟩
      · rw [h.mem a b ha]
        refine ⟨.inl, fun hh => hh.elim id fun hh => ?_⟩
        rw [hh.2.1, hh.2.2]; exact hE
      · rw [h.ask a b hb]
        refine ⟨.inl, fun hh => hh.elim id fun hh => ?_⟩
        rw [hh.2.1, hh.2.2]; exact hE
    · rw [if_neg hin]
      have hE : ¬ E A B := fun hh => hin ((h.mem A.toNat B (by omega)).2 (by rw [eA]; exact hh))
      have hin2 : A ∉ row st.a B.toNat := fun hh => hE (by
        have := (h.ask A B.toNat (by omega)).1 hh
        rwa [eB] at this)
      refine ⟨by simp [pushAt, hlw], by simp [pushAt, hla], h.okw.push _ (by omega) (by omega) hin, h.oka.push _ (by omega) (by omega) hin2, fun a b ha => ?_, fun a b hb => ?_⟩
      · simp only
        rw [row_push]
        split
        · rename_i hh
          rw [List.mem_append, h.mem _ _ (by omega), List.mem_singleton]
          have : (a : Int) = A := by omega
          rw [eA, this]; simp [e]
        · rename_i hh
          rw [h.mem a b ha]
          refine ⟨.inl, fun hh' => hh'.elim id fun hh' => ?_⟩
          exact absurd ⟨by omega, by omega⟩ hh
      · simp only
        rw [row_push]
        split
        · rename_i hh
          rw [List.mem_append, h.ask _ _ (by omega), List.mem_singleton]
          have : (b : Int) = B := by omega
          rw [eB, this]; simp [e]
        · rename_i hh
          rw [h.ask a b hb]
          refine ⟨.inl, fun hh' => hh'.elim id fun hh' => ?_⟩
          exact absurd ⟨by omega, by omega⟩ hh

theorem AskI.mono {ng : Nat} {E E' : Int → Int → Prop} {st : WA} (h : AskI ng E st) (he : ∀ a b, E a b ↔ E' a b) : AskI ng E' st :=
  ⟨h.lw, h.la, h.okw, h.oka, fun a b ha => (h.mem a b ha).trans (he _ _), fun a b hb => (h.ask a b hb).trans (he _ _)⟩

theorem AskI.row {ng n : Nat} {grp : List Int} (hlt : ∀ v, v < n → 0 ≤ at0 grp v ∧ at0 grp v < ng) {f : Nat} (hf : f < n) : ∀ (l : List Int) {E : Int → Int → Prop} {st : WA}, AskI ng E st → (∀ t ∈ l, t.toNat < n) →
    AskI ng (fun a b => E a b ∨ ∃ t ∈ l, at0 grp f ≠ at0 grp t.toNat ∧ a = at0 grp f ∧ b = at0 grp t.toNat) (l.foldl (askStep grp f) st)
  | [], E, st, h, _ => h.mono fun a b => by simp
  | t :: l, E, st, h, hl => by
    have h1 := h.step hlt hf (hl t (List.mem_cons_self ..))
    have h2 := AskI.row hlt hf l h1 (fun x hx => hl x (List.mem_cons_of_mem _ hx))
    exact h2.mono fun a b => by simp [or_assoc]

theorem askAll_inv {g : List (List Int)} {ng n : Nat} {grp : List Int} (hg : RowsOk n g) (hgl : g.length = n) (hlt : ∀ v, v < n → 0 ≤ at0 grp v ∧ at0 grp v < ng) : ∀ k, k ≤ n →
    AskI ng (fun a b => ∃ f : Nat, f < k ∧ ∃ t ∈ row g f, at0 grp f ≠ at0 grp t.toNat ∧ a = at0 grp f ∧ b = at0 grp t.toNat) (askAll g grp ng k)
  | 0, _ => ⟨by simp [askAll], by simp [askAll], RowsOk.empty _ _, RowsOk.empty _ _, fun a b _ => by simp [askAll, row_empty], fun a b _ => by simp [askAll, row_empty]⟩
  | k + 1, hk => by
    have ih := askAll_inv hg hgl hlt k (by omega)
    rw [askAll_succ]
    have := ih.row hlt (show k < n by omega) (Go.Sep.row g k) (fun t ht => by
      have := hg.lt _ (row_mem (by omega)) t ht
      omega)
    refine this.mono fun a b => ?_
    constructor
    · rintro (⟨f, hf, t, ht⟩ | ⟨t, ht⟩)
      · exact ⟨f, by omega, t, ht⟩
      · exact ⟨k, by omega, t, ht⟩
    · rintro ⟨f, hf, t, ht⟩
      by_cases e : f = k
      · subst e; exact .inr ⟨t, ht⟩
      · exact .inl ⟨f, by omega, t, ht⟩

/-! ### the order -/
def addL (key : Int → Int) (xs : List Int) (g : Int) : List Int := (xs.filter fun x => decide (key x < key g)) ++ g :: xs.filter fun x => !decide (key x < key g)

theorem addL_mem {key : Int → Int} {xs : List Int} {g x : Int} : x ∈ addL key xs g ↔ x = g ∨ x ∈ xs := by
  simp only [addL, List.mem_append, List.mem_cons, List.mem_filter]
  by_cases h : key x < key g <;> simp [h] <;> constructor <;> rintro (h1 | h1) <;> simp [h1]
theorem addL_perm (key : Int → Int) (xs : List Int) (g : Int) : (addL key xs g).Perm (g :: xs) := by
  unfold addL
  refine List.perm_middle.trans (List.Perm.cons _ ?_)
  exact List.filter_append_perm _ _
theorem addL_sorted {key : Int → Int} {xs : List Int} {g : Int} (h : xs.Pairwise fun a b => key a ≤ key b) : (addL key xs g).Pairwise fun a b => key a ≤ key b := by
  unfold addL
  refine List.pairwise_append.2 ⟨h.filter _, List.pairwise_cons.2 ⟨fun x hx => ?_, h.filter _⟩, fun x hx y hy => ?_⟩
  · simp only [List.mem_filter, Bool.not_eq_true', decide_eq_false_iff_not] at hx; omega
  · simp only [List.mem_filter, decide_eq_true_eq] at hx
    rcases List.mem_cons.1 hy with rfl | hy
    · omega
    · simp only [List.mem_filter, Bool.not_eq_true', decide_eq_false_iff_not] at hy; omega

structure OP (ng : Nat) (w0 sk : List (List Int)) : Prop where
  lw : w0.length = ng
  la : sk.length = ng
  okw : RowsOk ng w0
  oka : RowsOk ng sk
  ask : ∀ a b : Nat, a < ng → b < ng → ((a : Int) ∈ row sk b ↔ (b : Int) ∈ row w0 a)

structure IOS where
  ready : List Int
  waits : List (List Int)
  done : List Int

open Classical in
structure IOI (ng : Nat) (key : Int → Int) (w0 : List (List Int)) (st : IOS) (g : Int) (rest : List Int) : Prop where
  sorted : st.ready.Pairwise fun a b => key a ≤ key b
  nodup : (st.ready ++ st.done).Nodup
  rng : ∀ x ∈ st.ready ++ st.done, 0 ≤ x ∧ x < (ng : Int)
  lw : st.waits.length = ng
  w : ∀ a : Nat, a < ng → row st.waits a = (row w0 a).filter fun x => decide (x ∉ st.done ∨ (x = g ∧ (a : Int) ∈ rest))
  r : ∀ a : Nat, a < ng → ((a : Int) ∈ st.ready ∨ (a : Int) ∈ st.done ↔ row st.waits a = [])
  ord : ∀ d1 x d2, st.done = d1 ++ x :: d2 → (∀ y ∈ row w0 x.toNat, y ∈ d1) ∧ ∀ a : Nat, a < ng → (a : Int) ∉ d1 → (∀ y ∈ row w0 a, y ∈ d1) → key x ≤ key a

theorem IOI.len {ng : Nat} {key : Int → Int} {w0 : List (List Int)} {st : IOS} {g : Int} {rest : List Int} (h : IOI ng key w0 st g rest) : st.ready.length + st.done.length ≤ ng := by
  have := nodup_len (st.ready ++ st.done) ng h.nodup h.rng
  simpa using this

theorem IOI.pop {ng : Nat} {key : Int → Int} {w0 sk : List (List Int)} (hp : OP ng w0 sk) {r d : List Int} {waits : List (List Int)} {g g' : Int} (h : IOI ng key w0 ⟨g :: r, waits, d⟩ g' []) : IOI ng key w0 ⟨r, waits, d ++ [g]⟩ g (row sk g.toNat) := by
  have hg := h.rng g (by simp)
  have hnd := h.nodup
  simp only [List.cons_append, List.nodup_cons] at hnd
  have hgd : g ∉ d := fun hh => hnd.1 (List.mem_append_right _ hh)
  have hgw : ∀ a : Nat, a < ng → (g ∈ row w0 a ↔ (a : Int) ∈ row sk g.toNat) := fun a ha => by
    have := hp.ask a g.toNat ha (by omega)
    rw [show ((g.toNat : Nat) : Int) = g by omega] at this
    exact this.symm
  refine ⟨(List.pairwise_cons.1 h.sorted).2, ?_, fun x hx => h.rng x ?_, h.lw, fun a ha => ?_, fun a ha => ?_, fun d1 x d2 e => ?_⟩
  · simp only
    rw [← List.append_assoc]
    refine List.nodup_append.2 ⟨hnd.2, by simp, fun a ha b hb => ?_⟩
    simp only [List.mem_singleton] at hb
    subst hb
    exact fun e => hnd.1 (e ▸ ha)
  · simp only [List.mem_append, List.mem_cons, List.mem_singleton] at hx ⊢
    rcases hx with hx | hx | hx
    · exact .inl (.inr hx)
    · exact .inr hx
    · exact .inl (.inl (by simpa using hx))
  · have := h.w a ha
    simp only at this ⊢
    rw [this]
    apply List.filter_congr
    intro x hx
    simp only [List.not_mem_nil, and_false, or_false, List.mem_append, List.mem_singleton, not_or, decide_eq_decide]
    constructor
    · intro hn
      by_cases e : x = g
      · subst e; exact .inr ⟨rfl, (hgw a ha).1 hx⟩
      · exact .inl ⟨hn, e⟩
    · rintro (hn | hn)
      · exact hn.1
      · rw [hn.1]; exact hgd
  · have := h.r a ha
    simp only [List.mem_cons, List.mem_append, List.mem_singleton] at this ⊢
    rw [← this]
    constructor
    · rintro (h1 | h1 | h1)
      · exact .inl (.inr h1)
      · exact .inr h1
      · exact .inl (.inl (by simpa using h1))
    · rintro ((h1 | h1) | h1)
      · exact .inr (.inr (by simpa using h1))
      · exact .inl h1
      · exact .inr (.inl h1)
  · simp only at e
    rcases List.eq_nil_or_concat d2 with h2 | ⟨d2', z, h2⟩
    · subst h2
      have e1 : d1 = d ∧ x = g := by
        have := List.append_inj' e rfl
        exact ⟨this.1.symm, by simpa using this.2.symm⟩
      obtain ⟨rfl, rfl⟩ := e1
      constructor
      · intro y hy
        have h0 : row waits x.toNat = [] := (h.r x.toNat (by omega)).1 (.inl (by rw [show ((x.toNat : Nat) : Int) = x by omega]; simp))
        have := h.w x.toNat (by omega)
        simp only at this h0
        rw [h0] at this
        have := List.filter_eq_nil_iff.1 this.symm y hy
        simpa using this
      · intro a ha had hall
        have h0 : row waits a = [] := by
          have := h.w a ha
          simp only at this
          rw [this, List.filter_eq_nil_iff]
          intro y hy
          simpa using hall y hy
        rcases (h.r a ha).2 h0 with h3 | h3
        · simp only [List.mem_cons] at h3
          rcases h3 with h3 | h3
          · rw [← h3]; exact Int.le_refl _
          · exact (List.pairwise_cons.1 h.sorted).1 _ h3
        · exact absurd h3 had
    · have e2 : d = d1 ++ x :: d2' := by
        rw [h2] at e
        have : d ++ [g] = (d1 ++ x :: d2') ++ [z] := by rw [e]; simp
        exact (List.append_inj' this rfl).1
      exact h.ord d1 x d2' e2

theorem IOI.has {ng : Nat} {key : Int → Int} {w0 sk : List (List Int)} (hp : OP ng w0 sk) {st : IOS} {g a : Int} {rest : List Int} (h : IOI ng key w0 st g (a :: rest)) (hg : 0 ≤ g ∧ g < (ng : Int)) (ha : a ∈ row sk g.toNat) : 0 ≤ a ∧ a < (ng : Int) ∧ g ∈ row st.waits a.toNat := by
  have hla := hp.la
  have hr := hp.oka.lt _ (row_mem (show g.toNat < sk.length by omega)) a ha
  have hea : ((a.toNat : Nat) : Int) = a := by omega
  have heg : ((g.toNat : Nat) : Int) = g := by omega
  have h1 := (hp.ask a.toNat g.toNat (by omega) (by omega)).1 (by rw [hea]; exact ha)
  rw [heg] at h1
  refine ⟨hr.1, hr.2, ?_⟩
  rw [h.w a.toNat (by omega), List.mem_filter]
  refine ⟨h1, ?_⟩
  simp [hea]

open Classical in
theorem IOI.ask {ng : Nat} {key : Int → Int} {w0 sk : List (List Int)} (hp : OP ng w0 sk) {r d : List Int} {waits : List (List Int)} {g a : Int} {rest : List Int} (h : IOI ng key w0 ⟨r, waits, d⟩ g (a :: rest)) (hg : 0 ≤ g ∧ g < (ng : Int)) (hgd : g ∈ d) (ha : a ∈ row sk g.toNat) (hna : a ∉ rest) :
    ((row waits a.toNat).filter fun x => decide (x ≠ g)) = [] ∧ IOI ng key w0 ⟨addL key r a, waits.set a.toNat [], d⟩ g rest ∨
    ((row waits a.toNat).filter fun x => decide (x ≠ g)) ≠ [] ∧ IOI ng key w0 ⟨r, waits.set a.toNat ((row waits a.toNat).filter fun x => decide (x ≠ g)), d⟩ g rest := by
  obtain ⟨h1, h2, h3⟩ := h.has hp hg ha
  simp only at h3
  have hlw := h.lw
  simp only at hlw
  have hea : ((a.toNat : Nat) : Int) = a := by omega
  have hne : row waits a.toNat ≠ [] := fun e => by rw [e] at h3; cases h3
  have hnr : ¬ (a ∈ r ∨ a ∈ d) := fun hh => hne ((h.r a.toNat (by omega)).1 (by rw [hea]; exact hh))
  have hw : ∀ b : Nat, b < ng → row (waits.set a.toNat ((row waits a.toNat).filter fun x => decide (x ≠ g))) b = (row w0 b).filter fun x => decide (x ∉ d ∨ (x = g ∧ (b : Int) ∈ rest)) := fun b hb => by
    have hb' := h.w b hb
    simp only at hb'
    rw [row_set]
    split
    · rename_i hh
      obtain ⟨e, _⟩ := hh
      subst e
      rw [hb', List.filter_filter]
      apply List.filter_congr
      intro x _
      rw [hea]
      simp only [List.mem_cons, true_or, and_true, hna, and_false, or_false]
      by_cases e : x = g
      · subst e; simp [hgd]
      · simp [e]
    · rename_i hh
      rw [hb']
      apply List.filter_congr
      intro x _
      have : ¬ (b : Int) = a := fun e => hh ⟨by omega, by omega⟩
      simp [this]
  have hr : ∀ b : Nat, b ≠ a.toNat → b < ng → ((b : Int) ∈ r ∨ (b : Int) ∈ d ↔ row (waits.set a.toNat ((row waits a.toNat).filter fun x => decide (x ≠ g))) b = []) := fun b hb hbn => by
    rw [row_set, if_neg (fun hh => hb hh.1.symm)]
    exact h.r b hbn
  have hsa : row (waits.set a.toNat ((row waits a.toNat).filter fun x => decide (x ≠ g))) a.toNat = (row waits a.toNat).filter fun x => decide (x ≠ g) := by
    rw [row_set, if_pos ⟨rfl, by omega⟩]
  by_cases he : ((row waits a.toNat).filter fun x => decide (x ≠ g)) = []
  · left
    refine ⟨he, ?_⟩
    rw [he] at hw hr hsa
    refine ⟨addL_sorted h.sorted, ?_, fun x hx => ?_, by simp [hlw], hw, fun b hb => ?_, h.ord⟩
    · have hperm : (addL key r a ++ d).Perm (a :: (r ++ d)) := (addL_perm key r a).append_right d
      refine hperm.nodup_iff.2 (List.nodup_cons.2 ⟨fun hh => hnr (List.mem_append.1 hh), h.nodup⟩)
    · rcases List.mem_append.1 hx with hx | hx
      · rcases addL_mem.1 hx with rfl | hx
        · exact ⟨h1, h2⟩
        · exact h.rng x (List.mem_append_left _ hx)
      · exact h.rng x (List.mem_append_right _ hx)
    · simp only
      by_cases e : b = a.toNat
      · subst e
        rw [hsa]
        simp only [addL_mem, hea, true_or]
      · rw [← hr b e hb, addL_mem]
        have : ¬ (b : Int) = a := by omega
        simp [this]
  · right
    refine ⟨he, h.sorted, h.nodup, h.rng, by simp [hlw], hw, fun b hb => ?_, h.ord⟩
    simp only
    by_cases e : b = a.toNat
    · subst e
      rw [hsa, hea]
      exact ⟨fun hh => absurd hh hnr, fun hh => absurd hh he⟩
    · exact hr b e hb

/-- the first round: who waits for nobody -/
structure II (ng : Nat) (key : Int → Int) (w0 : List (List Int)) (k : Nat) (ready : List Int) : Prop where
  sorted : ready.Pairwise fun a b => key a ≤ key b
  nodup : ready.Nodup
  rng : ∀ x ∈ ready, 0 ≤ x ∧ x < (k : Int)
  r : ∀ a : Nat, a < k → ((a : Int) ∈ ready ↔ row w0 a = [])

theorem II.zero (ng : Nat) (key : Int → Int) (w0 : List (List Int)) : II ng key w0 0 [] := ⟨List.Pairwise.nil, List.nodup_nil, fun x hx => (by cases hx), fun a ha => (by omega)⟩
theorem II.add {ng : Nat} {key : Int → Int} {w0 : List (List Int)} {k : Nat} {ready : List Int} (h : II ng key w0 k ready) (he : row w0 k = []) : II ng key w0 (k + 1) (addL key ready k) := by
  have hn : (k : Int) ∉ ready := fun hh => by have := (h.rng _ hh).2; omega
  refine ⟨addL_sorted h.sorted, (addL_perm key ready k).nodup_iff.2 (List.nodup_cons.2 ⟨hn, h.nodup⟩), fun x hx => ?_, fun a ha => ?_⟩
  · rcases addL_mem.1 hx with rfl | hx
    · omega
    · have := h.rng x hx; omega
  · by_cases e : a = k
    · subst e; simp [addL_mem, he]
    · rw [addL_mem, ← h.r a (by omega)]
      have : ¬ (a : Int) = (k : Int) := by omega
      simp [this]
theorem II.skip {ng : Nat} {key : Int → Int} {w0 : List (List Int)} {k : Nat} {ready : List Int} (h : II ng key w0 k ready) (he : row w0 k ≠ []) : II ng key w0 (k + 1) ready := by
  refine ⟨h.sorted, h.nodup, fun x hx => by have := h.rng x hx; omega, fun a ha => ?_⟩
  by_cases e : a = k
  · subst e
    exact ⟨fun hh => by have := (h.rng _ hh).2; omega, fun hh => absurd hh he⟩
  · exact h.r a (by omega)
theorem II.start {ng : Nat} {key : Int → Int} {w0 sk : List (List Int)} (hp : OP ng w0 sk) {ready : List Int} (h : II ng key w0 ng ready) : IOI ng key w0 ⟨ready, w0, []⟩ 0 [] := by
  refine ⟨h.sorted, by simpa using h.nodup, by simpa using h.rng, hp.lw, fun a ha => (List.filter_eq_self.2 fun x _ => by simp).symm, fun a ha => by simpa using h.r a ha, fun d1 x d2 e => by simp at e⟩

/-- what comes out -/
structure OrdOut (ng : Nat) (key : Int → Int) (w0 : List (List Int)) (done : List Int) : Prop where
  nodup : done.Nodup
  rng : ∀ x ∈ done, 0 ≤ x ∧ x < (ng : Int)
  ord : ∀ d1 x d2, done = d1 ++ x :: d2 → (∀ y ∈ row w0 x.toNat, y ∈ d1) ∧ ∀ a : Nat, a < ng → (a : Int) ∉ d1 → (∀ y ∈ row w0 a, y ∈ d1) → key x ≤ key a
  fin : ∀ a : Nat, a < ng → (∀ y ∈ row w0 a, y ∈ done) → (a : Int) ∈ done

theorem IOI.out {ng : Nat} {key : Int → Int} {w0 : List (List Int)} {waits : List (List Int)} {d : List Int} {g : Int} (h : IOI ng key w0 ⟨[], waits, d⟩ g []) : OrdOut ng key w0 d := by
  refine ⟨by simpa using h.nodup, by simpa using h.rng, h.ord, fun a ha hall => ?_⟩
  have h0 : row waits a = [] := by
    have := h.w a ha
    simp only at this
    rw [this, List.filter_eq_nil_iff]
    intro y hy
    simpa using hall y hy
  rcases (h.r a ha).2 h0 with h1 | h1
  · cases h1
  · exact h1
end Go.Sep

/-
  Walks of layer 13: the sorted row of what is ready: BinarySearchFunc, the comparison, the insertion.
-/
set_option linter.unusedVariables false
set_option linter.unusedSimpArgs false
namespace Go.Sep
open Go.Proofs
attribute [local irreducible] TC TO OT TCallX TCall DO DOt thenQ blockQ retQ At

theorem count_split (key : Int → Int) (t : Int) : ∀ (xs : List Int) (k : Nat), k ≤ xs.length → (∀ j x, j < k → xs[j]? = some x → key x < t) → (∀ j x, k ≤ j → xs[j]? = some x → t ≤ key x) →
    (xs.filter fun x => decide (key x < t)) = xs.take k ∧ (xs.filter fun x => !decide (key x < t)) = xs.drop k
  | [], k, hk, _, _ => by simp
  | x :: xs, 0, _, _, h2 => by
    have h := h2 0 x (Nat.le_refl _) rfl
    have ih := count_split key t xs 0 (Nat.zero_le _) (fun j y hj => by omega) (fun j y _ hy => h2 (j + 1) y (by omega) (by simpa using hy))
    have hn : ¬ (key x < t) := by omega
    simp only [List.filter_cons, hn, decide_false, Bool.not_false, List.take_zero, List.drop_zero] at ih ⊢
    exact ⟨by simpa using ih.1, by simpa using ih.2⟩
  | x :: xs, k + 1, hk, h1, h2 => by
    have h := h1 0 x (by omega) rfl
    have ih := count_split key t xs k (by simpa using hk) (fun j y hj hy => h1 (j + 1) y (by omega) (by simpa using hy)) (fun j y hj hy => h2 (j + 1) y (by omega) (by simpa using hy))
    simp only [List.filter_cons, h, decide_true, Bool.not_true, List.take_succ_cons, List.drop_succ_cons] at ih ⊢
    exact ⟨by simpa using ih.1, by simpa using ih.2⟩

theorem sorted_at {key : Int → Int} {xs : List Int} (h : xs.Pairwise fun a b => key a ≤ key b) {i j : Nat} {x y : Int} (hij : i ≤ j) (hx : xs[i]? = some x) (hy : xs[j]? = some y) : key x ≤ key y := by
  rcases Nat.lt_or_ge i j with hlt | hge
  · have hi := (List.getElem?_eq_some_iff.1 hx)
    have hj := (List.getElem?_eq_some_iff.1 hy)
    obtain ⟨h1, rfl⟩ := hi
    obtain ⟨h2, rfl⟩ := hj
    exact List.pairwise_iff_getElem.1 h i j h1 h2 hlt
  · have : i = j := by omega
    subst this
    rw [hx] at hy
    simp only [Option.some.injEq] at hy
    subst hy
    exact Int.le_refl _

set_option maxHeartbeats 1000000 in
theorem bsearch_own (m : Mem) (L : List Item) (s : Sl) (vs : List Value) (xs : List Int) (i : Nat) (hi : L[i]? = some (mcell s vs)) (hq : MQ (Value.int .i64) s vs xs) (key : Int → Int) (t : Int) (fn : FuncId) (cap : List Value) (hg : Goes Try.prog fn)
    (hsort : xs.Pairwise fun a b => key a ≤ key b) (hlen : xs.length ≤ 4611686018427387904)
    (hp : ∀ x ∈ xs, TCall Try.prog fn ⟨.int .i64 x :: .int .i64 t :: cap⟩ m L (Ret (.int .i64 (key x - t)) m L)) :
    TCall Try.prog 39 ⟨[s.v, .int .i64 t, .func (.func fn) ⟨[]⟩ ⟨cap⟩]⟩ m L (fun r m' L' => m = m' ∧ L = L' ∧ ∃ (k : Nat) (bv : Bool), k ≤ xs.length ∧ r = .tuple ⟨[.int .i64 (k : Int), .bool bv]⟩ ∧ (xs.filter fun x => decide (key x < t)) = xs.take k ∧ (xs.filter fun x => !decide (key x < t)) = xs.drop k) := by
  have hl := hq.len
  unfold TCall
  refine TCallX.enter Try.func39 rfl 49 rfl ?_
  repeat (first|refine q1 ?_|refine q2 ?_|refine q3 ?_|refine q4 tab rfl rfl ?_|refine q5 ?_|refine q6 ?_)
  refine TC.loopK (ι := Nat × Nat) [0, 1, 2, 8] rfl (fun k => [(9, .int .i64 (k.1 : Int)), (10, .int .i64 (k.2 : Int))]) (fun _ => m) (fun _ => L)
    (fun k => k.1 ≤ k.2 ∧ k.2 ≤ xs.length ∧ (∀ j x, j < k.1 → xs[j]? = some x → key x < t) ∧ (∀ j x, k.2 ≤ j → xs[j]? = some x → t ≤ key x)) (fun k => k.2 - k.1) (0, xs.length) ?_ rfl (by repeat (exact List.Sublist.refl _)) ⟨Nat.zero_le _, Nat.le_refl _, fun j x hj => by omega, fun j x hj hx => by simp only at hj; have := (List.getElem?_eq_some_iff.1 hx).1; omega⟩ ?_
  · exact ⟨rfl, by rw [← hl]; exact ⟨rfl, trivial⟩⟩
  rintro ⟨lo, hi2⟩ ⟨h1, h2, h3, h4⟩
  simp only at h1 h2 h3 h4 ⊢
  repeat (first|refine q1 ?_|refine q3 ?_|refine q4 tab rfl rfl ?_|refine q5 ?_|refine q6 ?_)
  refine TC.condP rfl (fun hlt' => ?_) (fun hlt' => ?_)
  · have hlt : lo < hi2 := by omega
    obtain ⟨bs, o, c, hse, hc1, hc2⟩ := hq.ne (by omega)
    subst hse
    repeat (first|refine q1 ?_|refine q2 ?_|refine q3 ?_|refine q4 tab rfl rfl ?_|refine q6 ?_|refine q13 ?_)
    refine TO.step rfl (OT.arith (r' := ((lo + hi2 : Nat) : Int)) rfl rfl rfl rfl rfl rfl (by omega) (by omega) ?_)
    refine TO.step rfl (OT.conv (r := ((lo + hi2 : Nat) : Int)) tab rfl rfl rfl rfl rfl rfl (IntWalk.u64_in _ ⟨by omega, by omega⟩) ?_)
    refine TO.step rfl (OT.half (r := (((lo + hi2) / 2 : Nat) : Int)) rfl rfl rfl rfl rfl (by decide) (by rw [Int.fdiv_eq_ediv_of_nonneg _ (by omega)]; omega) ?_)
    refine TO.step rfl (OT.conv (r := (((lo + hi2) / 2 : Nat) : Int)) tab rfl rfl rfl rfl rfl rfl (wrap64_in (by omega) (by omega)) ?_)
    have hm1 : lo ≤ (lo + hi2) / 2 := by omega
    have hm2 : (lo + hi2) / 2 < hi2 := by omega
    generalize (lo + hi2) / 2 = mid at hm1 hm2
    have hxm : xs[mid]? = some (xs[mid]'(by omega)) := by simp [show mid < xs.length by omega]
    have hmem : xs[mid]'(by omega) ∈ xs := List.getElem_mem _
    generalize xs[mid]'(by omega) = x at hxm hmem
    repeat (first|refine q1 ?_|refine q3 ?_|refine q4 tab rfl rfl ?_|refine q5 ?_|refine q6 ?_)
    refine TO.step rfl (OT.indexP (sz := 1) tab mid rfl rfl rfl rfl rfl rfl rfl (by omega) ?_)
    refine TO.step rfl (OT.loadR tab i (hq.get hxm) rfl rfl rfl rfl hi rfl ?_)
    repeat (refine q4 tab rfl rfl ?_)
    refine TO.step rfl (OT.call (all := .int .i64 x :: .int .i64 t :: cap) rfl rfl rfl rfl rfl (by rw [fl_eq]; rfl) hg ((hp x hmem).x ?_))
    rintro _ _ _ ⟨rfl, rfl, rfl⟩
    repeat (first|refine q4 tab rfl rfl ?_|refine q5 ?_|refine q6 ?_)
    refine TC.condP rfl (fun hlt2 => ?_) (fun hlt2 => ?_)
    · repeat (first|refine q3 ?_|refine q4 tab rfl rfl ?_)
      refine TO.step rfl (OT.arith (r' := ((mid + 1 : Nat) : Int)) rfl rfl rfl rfl rfl rfl rfl (by omega) ?_)
      repeat (first|refine q4 tab rfl rfl ?_|refine q5 ?_|refine q6 ?_|refine q7 ?_)
      refine ⟨(mid + 1, hi2), (by repeat (first|exact trivial|refine And.intro rfl ?_)), (by repeat (first|exact trivial|refine And.intro rfl ?_)), rfl, rfl, (by repeat (exact List.Sublist.refl _)), ⟨by simp only; omega, h2, fun j y hj hy => ?_, h4⟩, by simp only; omega⟩
      have := sorted_at hsort (show j ≤ mid by simp only at hj; omega) hy hxm
      omega
    · repeat (first|refine q3 ?_|refine q4 tab rfl rfl ?_|refine q5 ?_|refine q6 ?_|refine q7 ?_)
      refine ⟨(lo, mid), (by repeat (first|exact trivial|refine And.intro rfl ?_)), (by repeat (first|exact trivial|refine And.intro rfl ?_)), rfl, rfl, (by repeat (exact List.Sublist.refl _)), ⟨hm1, by simp only; omega, h3, fun j y hj hy => ?_⟩, by simp only; omega⟩
      have := sorted_at hsort (show mid ≤ j from hj) hxm hy
      omega
  · have hlo : lo = hi2 := by omega
    subst hlo
    obtain ⟨c1, c2⟩ := count_split key t xs lo h2 h3 h4
    repeat (first|refine q1 ?_|refine q3 ?_|refine q4 tab rfl rfl ?_|refine q6 ?_|refine q10 ?_|refine q11 ?_|refine q14 ?_)
    (refine TO.splitP rfl rfl (fun hb => ?_) (fun hb => ?_))
    · have hlx : lo < xs.length := by omega
      obtain ⟨bs, o, c, hse, hc1, hc2⟩ := hq.ne (by omega)
      subst hse
      have hxm : xs[lo]? = some (xs[lo]'(by omega)) := by simp [hlx]
      have hmem : xs[lo]'(by omega) ∈ xs := List.getElem_mem _
      generalize xs[lo]'(by omega) = x at hxm hmem
      repeat (refine q4 tab rfl rfl ?_)
      refine TO.step rfl (OT.indexP (sz := 1) tab lo rfl rfl rfl rfl rfl rfl rfl (by omega) ?_)
      refine TO.step rfl (OT.loadR tab i (hq.get hxm) rfl rfl rfl rfl hi rfl ?_)
      repeat (refine q4 tab rfl rfl ?_)
      refine TO.step rfl (OT.call (all := .int .i64 x :: .int .i64 t :: cap) rfl rfl rfl rfl rfl (by rw [fl_eq]; rfl) hg ((hp x hmem).x ?_))
      rintro _ _ _ ⟨rfl, rfl, rfl⟩
      repeat (first|refine q4 tab rfl rfl ?_|refine q5 ?_|refine q6 ?_|refine q15 ?_)
      refine retQ_ret rfl (List.Sublist.refl _) ⟨rfl, rfl, lo, _, h2, rfl, c1, c2⟩
    · repeat (first|refine q4 tab rfl rfl ?_|refine q5 ?_|refine q6 ?_|refine q15 ?_)
      refine retQ_ret rfl (List.Sublist.refl _) ⟨rfl, rfl, lo, _, h2, rfl, c1, c2⟩

def leastAt (ms : List (List Int)) (k : Int) : Int := at0 (ms[k.toNat]?.getD []) 0

/-- the comparison: the least member of a group, less a number -/
theorem cmp_cl (m : Mem) (L : List Item) (b : Nat) (tm : Sl) (ms : List (List Int)) (hr : SlRep rInts m tm ms) (i : Nat) (hi : L[i]? = some (.cells b 0 [tm.v])) (k : Nat) (hk : k < ms.length) (t : Int) (hne : ∀ l ∈ ms, l ≠ [])
    (hlt : ∀ l ∈ ms, ∀ x ∈ l, 0 ≤ x ∧ x < 4096) (ht : 0 ≤ t ∧ t < 4096) :
    TCall Try.prog 40 ⟨[.int .i64 (k : Int), .int .i64 t, .pointer (some ⟨b, 0, none⟩)]⟩ m L (Ret (.int .i64 (leastAt ms k - t)) m L) := by
  unfold TCall
  refine TCallX.enter Try.func40 rfl 14 rfl ?_
  repeat (first|refine q1 ?_|refine q3 ?_|refine q4 tab rfl rfl ?_|refine q5 ?_|refine q6 ?_)
  refine TO.step rfl (OT.loadL0 tab i rfl rfl rfl rfl hi rfl ?_)
  repeat (refine q4 tab rfl rfl ?_)
  have hx : ms[k]? = some ms[k] := by simp [hk]
  refine TO.step rfl (OT.index tab rInts k hr rfl rfl rfl rfl rfl (by first | rfl | omega) rfl hx ?_)
  rintro b1 i1 hd hrd hA
  (refine TO.step rfl (OT.loadA0 tab hA rfl rfl rfl rfl rfl ?_))
  have hmem : ms[k] ∈ ms := List.getElem_mem hk
  have hn := hne _ hmem
  have h0 : ms[k][0]? = some (at0 ms[k] 0) := by
    cases hc : ms[k] with
    | nil => exact absurd hc hn
    | cons x xs => rfl
  have hle : leastAt ms (k : Int) = at0 ms[k] 0 := by simp [leastAt, hx]
  have hb := hlt _ hmem _ (List.mem_of_getElem? h0)
  refine TO.step rfl (OT.index tab rInt 0 hrd rfl rfl rfl rfl rfl (by first | rfl | omega) rfl h0 ?_)
  rintro b2 i2 hd2 hrd2 hA2
  (refine TO.step rfl (OT.loadA0 tab hA2 rfl rfl rfl rfl rfl ?_))
  repeat (refine q4 tab rfl rfl ?_)
  refine TO.step rfl (OT.arith (r' := (at0 ms[k] 0 - t)) rfl rfl rfl rfl rfl rfl ?_ (by omega) ?_)
  · rw [show hd2 = at0 ms[k] 0 from hrd2]
  repeat (first|refine q4 tab rfl rfl ?_|refine q5 ?_|refine q6 ?_|refine q15 ?_)
  refine retQ_ret rfl (by repeat (exact List.Sublist.refl _)) ⟨rfl, rfl, ?_⟩
  rw [hle]

set_option maxHeartbeats 1000000 in
theorem add_cl (m : Mem) (L : List Item) (b br : Nat) (tm : Sl) (ms : List (List Int)) (hr : SlRep rInts m tm ms) (s : Sl) (vs : List Value) (xs : List Int) (hq : MQ (Value.int .i64) s vs xs)
    (hsort : xs.Pairwise fun a b => leastAt ms a ≤ leastAt ms b) (hrg : ∀ x ∈ xs, 0 ≤ x ∧ x < (ms.length : Int)) (hlen : xs.length ≤ 4096) (k : Nat) (hk : k < ms.length) (hne : ∀ l ∈ ms, l ≠ []) (hlt : ∀ l ∈ ms, ∀ x ∈ l, 0 ≤ x ∧ x < 4096) :
    TCall Try.prog 38 ⟨[.int .i64 (k : Int), .pointer (some ⟨br, 0, none⟩), .pointer (some ⟨b, 0, none⟩)]⟩ m (.cells br 0 [s.v] :: mcell s vs :: .cells b 0 [tm.v] :: L)
      (fun _ m' L' => m = m' ∧ ∃ s' vs', MQ (Value.int .i64) s' vs' (addL (leastAt ms) xs k) ∧ L' = .cells br 0 [s'.v] :: mcell s' vs' :: .cells b 0 [tm.v] :: L) := by
  unfold TCall
  refine TCallX.enter Try.func38 rfl 23 rfl ?_
  have hx : ms[k]? = some ms[k] := by simp [hk]
  have hmem : ms[k] ∈ ms := List.getElem_mem hk
  have hn := hne _ hmem
  have h0 : ms[k][0]? = some (at0 ms[k] 0) := by
    cases hc : ms[k] with
    | nil => exact absurd hc hn
    | cons x xs => rfl
  have hle : leastAt ms (k : Int) = at0 ms[k] 0 := by simp [leastAt, hx]
  have hb := hlt _ hmem _ (List.mem_of_getElem? h0)
  repeat (refine q1 ?_)
  have hcmp : ∀ LL : List Item, LL[2]? = some (.cells b 0 [tm.v]) → ∀ x ∈ xs, TCall Try.prog 40 ⟨.int .i64 x :: .int .i64 (at0 ms[k] 0) :: [.pointer (some ⟨b, 0, none⟩)]⟩ m LL (Ret (.int .i64 (leastAt ms x - at0 ms[k] 0)) m LL) := fun LL hLL x hx' => by
    obtain ⟨g1, g2⟩ := hrg x hx'
    have := cmp_cl m LL b tm ms hr 2 hLL x.toNat (by omega) (at0 ms[k] 0) hne hlt hb
    rwa [show ((x.toNat : Nat) : Int) = x by omega] at this
  have hql := hq.len
  refine TC.draw0 [] mixed 14 rfl ?_
  (refine DO.loadL (k := 0) tab 0 0 (by repeat (first|exact Calm.ret|refine Calm.then ?_)) (by kernel_rfl) (by kernel_rfl) rfl rfl rfl rfl rfl rfl rfl rfl ?_)
  (refine DO.loadL (k := 0) tab 1 2 (by repeat (first|exact Calm.ret|refine Calm.then ?_)) (by kernel_rfl) (by kernel_rfl) rfl rfl rfl rfl rfl rfl rfl rfl ?_)
  refine DO.pure tab (by repeat (first|exact Calm.ret|refine Calm.then ?_)) (by kernel_rfl) [2] (by kernel_rfl) rfl ?_
  refine DO.index tab rInts 3 k hr (by repeat (first|exact Calm.ret|refine Calm.then ?_)) (by kernel_rfl) (by kernel_rfl) rfl rfl rfl rfl rfl rfl rfl (by first | rfl | omega) rfl hx ?_
  rintro b1 i1 hd hrd hA
  (refine DO.loadA (k := 0) tab 4 hA (by repeat (first|exact Calm.ret|refine Calm.then ?_)) (by kernel_rfl) (by kernel_rfl) rfl rfl rfl rfl rfl rfl rfl ?_)
  refine DO.index tab rInt 5 0 hrd (by repeat (first|exact Calm.ret|refine Calm.then ?_)) (by kernel_rfl) (by kernel_rfl) rfl rfl rfl rfl rfl rfl rfl (by first | rfl | omega) rfl h0 ?_
  rintro b2 i2 hd2 hrd2 hA2; obtain rfl := (show hd2 = at0 ms[k] 0 from hrd2)
  (refine DO.loadA (k := 0) tab 6 hA2 (by repeat (first|exact Calm.ret|refine Calm.then ?_)) (by kernel_rfl) (by kernel_rfl) rfl rfl rfl rfl rfl rfl rfl ?_)
  refine DO.pure tab (by repeat (first|exact Calm.ret|refine Calm.then ?_)) (by kernel_rfl) [7] (by kernel_rfl) rfl ?_
  refine DO.run 8 rfl rfl (by kernel_rfl) rfl (OT.call rfl rfl rfl rfl rfl rfl goes39 ((bsearch_own m _ s vs xs 1 rfl hq (leastAt ms) (at0 ms[k] 0) 40 [.pointer (some ⟨b, 0, none⟩)] goes40 hsort (by omega) (hcmp _ rfl)).x ?_))
  rintro _ _ _ ⟨rfl, rfl, j, bv, hj, rfl, c1, c2⟩; refine ⟨Mem.le_refl _, _, List.Perm.refl _, ?_⟩
  refine DO.pure tab (by repeat (first|exact Calm.ret|refine Calm.then ?_)) (by kernel_rfl) [9, 10, 11, 12, 13] (by kernel_rfl) rfl ?_
  (refine DO.nil0 (by kernel_rfl) ?_)
  rotate_left 1
  repeat (first|refine q3 ?_|refine q6 ?_)
  (refine qs rfl (qz tab 0 rfl rfl rfl rfl rfl rfl ?_))
  repeat (refine q4 tab rfl rfl ?_)
  refine TO.step rfl (OT.lit tab rfl rfl rfl rfl (fun bl => ?_))
  refine TO.perm ((List.Perm.swap _ _ _).cons _) ?_
  refine TO.step rfl (OT.call rfl rfl rfl rfl rfl rfl goes41 ((insert_own m _ bl s vs xs (k : Int) j hq hj (by omega)).x ?_));
  rintro _ _ _ ⟨rfl, s2, vs2, rfl, hq2, rfl⟩
  refine TO.step rfl (OT.storeL0 tab 1 rfl rfl rfl rfl rfl rfl rfl rfl ?_)
  refine TO.perm (List.Perm.swap _ _ _) ?_
  repeat (refine q5 ?_)
  refine retQ_n rfl (List.Sublist.refl _) ⟨rfl, s2, vs2, ?_, rfl⟩
  rw [addL, hle, c1, c2]
  exact hq2
end Go.Sep

/-
  Walks of layer 13: inOrder.
-/
set_option linter.unusedVariables false
set_option linter.unusedSimpArgs false
namespace Go.Sep
open Go.Proofs
attribute [local irreducible] TC TO OT TCallX TCall DO DOt thenQ blockQ retQ At

structure OS where
  k : Nat
  g : Int
  s : Sl
  vs : List Value
  xs : List Int
  ws : List MapH
  done : List Int
  so : Sl
  m : Mem

theorem row_mkeys {ws : List MapH} {k : Nat} {x : MapH} (h : ws[k]? = some x) : row (ws.map mkeys) k = mkeys x := by simp [row, h]
theorem mtoks_at {ws : List MapH} {k : Nat} {x : MapH} (L : List Item) (h : ws[k]? = some x) : (mtoks ws ++ L)[k]? = some (mitem x) := by
  have hk := (List.getElem?_eq_some_iff.1 h).1
  rw [List.getElem?_append_left (by simpa [mtoks] using hk)]
  exact map_get _ h

theorem set_selfV {α : Type} {l : List α} {k : Nat} {v : α} (h : l[k]? = some v) : l.set k v = l := by
  obtain ⟨hk, rfl⟩ := List.getElem?_eq_some_iff.1 h
  exact List.set_getElem_self hk

set_option maxHeartbeats 4000000 in
theorem inOrder_own (m : Mem) (L : List Item) (tm ta : Sl) (ms sk : List (List Int)) (ng bw : Nat) (ws : List MapH) (hms : SlRep rInts m tm ms) (hsk : SlRep rInts m ta sk) (hml : ms.length = ng) (hng : ng ≤ 4096)
    (hp : OP ng (ws.map mkeys) sk) (hne : ∀ l ∈ ms, l ≠ []) (hlt : ∀ l ∈ ms, ∀ x ∈ l, 0 ≤ x ∧ x < 4096) :
    TCall Try.prog 30 ⟨[tm.v, .slice (some ⟨bw, 0, none⟩) ng ng, ta.v]⟩ m (.cells bw 0 (ws.map mv) :: (mtoks ws ++ L)) (fun r m' L' => m ≤ m' ∧ L' = L ∧ ∃ (t : Sl) (done : List Int), r = t.v ∧ SlRep rInts m' t (done.map fun i => row ms i.toNat) ∧ OrdOut ng (leastAt ms) (ws.map mkeys) done) := by
  have hwl : ws.length = ng := by simpa using hp.lw
  have hml2 := hms.len
  unfold TCall
  refine TCallX.enter Try.func30 rfl 70 rfl ?_
  repeat (first|refine q1 ?_|refine q3 ?_)
  refine TO.step rfl (OT.box rfl rfl rfl rfl rfl (fun b => ?_))
  repeat (first|refine q1 ?_|refine q3 ?_|refine q4 tab rfl rfl ?_|refine q5 ?_|refine q6 ?_)
  refine TO.step rfl (OT.alloc tab rfl rfl rfl rfl (fun br => ?_))
  repeat (first|refine q1 ?_|refine q3 ?_|refine q4 tab rfl rfl ?_|refine q5 ?_|refine q6 ?_)
  (refine qs rfl (qz tab 1 rfl rfl rfl rfl rfl rfl ?_))
  repeat (first|refine q2 ?_|refine q4 tab rfl rfl ?_|refine q5 ?_|refine q6 ?_)
  refine TC.mcell0 ?_
  refine TC.perm (List.Perm.swap _ _ _) ?_
  refine TC.loopK (ι := OS) [1, 2, 3, 7, 8, 16] rfl (fun x => [(17, .int .i64 (x.k : Int))]) (fun _ => m) (fun x => .cells br 0 [x.s.v] :: mcell x.s x.vs :: .cells b 0 [tm.v] :: .cells bw 0 (ws.map mv) :: (mtoks ws ++ L))
    (fun x => x.k ≤ ng ∧ MQ (Value.int .i64) x.s x.vs x.xs ∧ II ng (leastAt ms) (ws.map mkeys) x.k x.xs) (fun x => ng - x.k) ⟨0, 0, ⟨none, 0, 0⟩, [], [], [], [], ⟨none, 0, 0⟩, m⟩ (by repeat (first|exact trivial|refine And.intro rfl ?_)) rfl (List.Sublist.refl _) ⟨Nat.zero_le _, MQ.nil _, II.zero _ _ _⟩ ?_
  rintro ⟨k, _, s, vs, xs, _, _, _, _⟩ ⟨hk, hq, hII⟩
  simp only at hk hq hII ⊢
  repeat (first|refine q1 ?_|refine q3 ?_|refine q4 tab rfl rfl ?_|refine q5 ?_|refine q6 ?_)
  refine TC.condP rfl (fun hlt' => ?_) (fun hlt' => ?_)
  · have hklt : k < ng := by omega
    have hwx : ws[k]? = some (ws[k]'(by omega)) := by simp [show k < ws.length by omega]
    generalize ws[k]'(by omega) = x at hwx
    have hrk := row_mkeys hwx
    have hxl : xs.length ≤ ng := nodup_len xs ng hII.nodup fun y hy => by have := hII.rng y hy; omega
    repeat (first|refine q1 ?_|refine q2 ?_|refine q3 ?_|refine q4 tab rfl rfl ?_|refine q5 ?_|refine q6 ?_|refine q13 ?_)
    refine TO.step rfl (OT.indexP (sz := 1) tab k rfl rfl rfl rfl rfl rfl rfl (by omega) ?_)
    refine TO.step rfl (OT.loadM tab 3 mv hwx rfl rfl rfl rfl rfl rfl ?_)
    refine TO.step rfl (OT.lenMap tab (4 + k) x rfl rfl rfl rfl rfl (by rw [show 4 + k = k + 1 + 1 + 1 + 1 by omega]; exact mtoks_at L hwx) ?_)
    repeat (first|refine q4 tab rfl rfl ?_|refine q5 ?_|refine q6 ?_)
    refine TC.condP rfl (fun he => ?_) (fun he => ?_)
    · have he' : row (ws.map mkeys) k = [] := by rw [hrk]; exact List.eq_nil_of_length_eq_zero (by omega)
      repeat (first|refine q3 ?_|refine q4 tab rfl rfl ?_)
      refine TO.step rfl (OT.call rfl rfl rfl rfl rfl rfl goes38 ((add_cl m (.cells bw 0 (ws.map mv) :: (mtoks ws ++ L)) b br tm ms hms s vs xs hq hII.sorted (fun y hy => by have := hII.rng y hy; omega) (by omega) k (by omega) hne hlt).x ?_));
      rintro _ _ _ ⟨rfl, s2, vs2, hq2, rfl⟩
      repeat (first|refine q3 ?_|refine q5 ?_|refine q6 ?_|refine q7 ?_)
      refine TO.step rfl (OT.arith (r' := ((k + 1 : Nat) : Int)) rfl rfl rfl rfl rfl rfl rfl (by omega) ?_)
      repeat (first|refine q4 tab rfl rfl ?_|refine q5 ?_|refine q6 ?_)
      exact ⟨⟨k + 1, 0, s2, vs2, addL (leastAt ms) xs k, [], [], ⟨none, 0, 0⟩, m⟩, (by repeat (first|exact trivial|refine And.intro rfl ?_)), (by repeat (first|exact trivial|refine And.intro rfl ?_)), rfl, rfl, List.Sublist.refl _, ⟨by simp only; omega, hq2, hII.add he'⟩, by simp only; omega⟩
    · have he' : row (ws.map mkeys) k ≠ [] := by rw [hrk]; intro e; rw [e] at he; exact he rfl
      repeat (first|refine q3 ?_|refine q6 ?_|refine q7 ?_|refine q13 ?_)
      refine TO.step rfl (OT.arith (r' := ((k + 1 : Nat) : Int)) rfl rfl rfl rfl rfl rfl rfl (by omega) ?_)
      repeat (first|refine q4 tab rfl rfl ?_|refine q5 ?_|refine q6 ?_)
      exact ⟨⟨k + 1, 0, s, vs, xs, [], [], ⟨none, 0, 0⟩, m⟩, (by repeat (first|exact trivial|refine And.intro rfl ?_)), (by repeat (first|exact trivial|refine And.intro rfl ?_)), rfl, rfl, List.Sublist.refl _, ⟨by simp only; omega, hq, hII.skip he'⟩, by simp only; omega⟩
  have hkn : k = ng := by omega
  subst hkn
  have hI0 := hII.start hp
  repeat (first|refine q1 ?_|refine q2 ?_|refine q3 ?_|refine q4 tab rfl rfl ?_|refine q5 ?_|refine q6 ?_|refine q10 ?_|refine q11 ?_|refine q14 ?_)
  refine TC.grow0 (size := 1) ?_
  refine TC.perm pf4.symm ?_
  refine TC.loopK (ι := OS) [1, 2, 3, 7, 8] rfl (fun x => [(10, x.so.v)]) (fun x => x.m) (fun x => .cells br 0 [x.s.v] :: mcell x.s x.vs :: .cells b 0 [tm.v] :: .cells bw 0 (x.ws.map mv) :: tok x.so 1 :: (mtoks x.ws ++ L))
    (fun x => m ≤ x.m ∧ MQ (Value.int .i64) x.s x.vs x.xs ∧ x.ws.length = k ∧ Own x.so ∧ SlRep rInts x.m x.so (x.done.map fun i => row ms i.toNat) ∧ IOI k (leastAt ms) (ws.map mkeys) ⟨x.xs, x.ws.map mkeys, x.done⟩ x.g []) (fun x => k - x.done.length) ⟨0, 0, s, vs, xs, ws, [], ⟨none, 0, 0⟩, m⟩ (by repeat (first|exact trivial|refine And.intro rfl ?_)) rfl (List.Sublist.refl _) ⟨Mem.le_refl _, hq, hwl, Own.nil, SlRep.nil _ _, hI0⟩ ?_
  clear hq hII hlt' hI0
  rintro ⟨_, g0, s, vs, xs, ws1, done, so, m1⟩ ⟨hm1, hq, hwl1, hown, hso, hI⟩
  simp only at hm1 hq hwl1 hown hso hI ⊢
  have hlen := hI.len
  simp only at hlen
  have hql := hq.len
  repeat (first|(first|refine q1 ?_|refine q3 ?_|refine q4 tab rfl rfl ?_|refine q5 ?_|refine q6 ?_)|(refine qs rfl (qz tab 0 rfl rfl rfl rfl rfl rfl ?_)))
  refine TC.condP rfl (fun hpos' => ?_) (fun hpos' => ?_)
  · rcases xs with _ | ⟨g, r⟩
    · simp at hql; omega
    obtain ⟨bs, o, c, hse, hc1, hc2⟩ := hq.ne (by simp)
    have hg := hI.rng g (by simp)
    have hIp := hI.pop hp
    simp only [List.length_cons] at hlen hql
    have hdl : done.length < k := by omega
    repeat (first|(first|refine q1 ?_|refine q2 ?_|refine q3 ?_|refine q6 ?_|refine q13 ?_)|(refine qs rfl (qz tab 0 rfl rfl rfl rfl rfl rfl ?_)))
    subst hse
    refine TO.step rfl (OT.indexP (sz := 1) tab 0 rfl rfl rfl rfl rfl rfl rfl (by omega) ?_)
    refine TO.step rfl (OT.loadR tab 1 (hq.get (k := 0) (x := g) rfl) rfl rfl rfl rfl rfl rfl ?_)
    repeat (first|(first|refine q1 ?_|refine q3 ?_|refine q4 tab rfl rfl ?_|refine q5 ?_|refine q6 ?_)|(refine qs rfl (qz tab 0 rfl rfl rfl rfl rfl rfl ?_)))
    refine TO.perm (List.Perm.swap _ _ _) ?_
    refine TO.step rfl (OT.behead tab hq rfl rfl rfl rfl rfl rfl (fun s2 vs2 hq2 => ?_))
    (refine TO.step rfl (OT.storeL0 tab 1 rfl rfl rfl rfl rfl rfl rfl rfl ?_))
    refine TO.perm (List.Perm.swap _ _ _) ?_
    repeat (first|(first|refine q1 ?_|refine q3 ?_|refine q4 tab rfl rfl ?_|refine q5 ?_|refine q6 ?_)|(refine qs rfl (qz tab 2 rfl rfl rfl rfl rfl rfl ?_)))
    have hms1 := hms.mono hm1
    have hxg : ms[g.toNat]? = some (row ms g.toNat) := row_get (by omega)
    refine TO.step rfl (OT.index tab rInts g.toNat hms1 rfl rfl rfl rfl rfl (by first | rfl | omega) rfl hxg ?_)
    rintro b1 i1 hd hrd hA
    (refine TO.step rfl (OT.loadA0 tab hA rfl rfl rfl rfl rfl ?_))
    refine TO.step rfl (OT.lit tab rfl rfl rfl rfl (fun bl => ?_))
    refine TO.step rfl (OT.append1 tab rInts 4 (hd' := hd) (a := row ms g.toNat) hso hown hrd rfl rfl rfl rfl rfl rfl rfl (by simp only [List.length_map, rInts, rSl]; omega) (fun so2 m2 hm2 hso2 hown2 => ?_))
    repeat (first|refine q1 ?_|refine q3 ?_|refine q4 tab rfl rfl ?_|refine q5 ?_|refine q6 ?_)
    have hsk2 := (hsk.mono hm1).mono hm2
    have hxs : sk[g.toNat]? = some (row sk g.toNat) := row_get (by have := hp.la; omega)
    have hskr := row_mem (l := sk) (k := g.toNat) (by have := hp.la; omega)
    have hrnd := hp.oka.nodup _ hskr
    refine TO.step rfl (OT.index tab rInts g.toNat hsk2 rfl rfl rfl rfl rfl (by first | rfl | omega) rfl hxs ?_)
    rintro b3 i3 hd3 hrd3 hA3
    (refine TO.step rfl (OT.loadA0 tab hA3 rfl rfl rfl rfl rfl ?_))
    have hrl := hrd3.len
    have hrs := hrd3.small rfl
    repeat (first|refine q2 ?_|refine q4 tab rfl rfl ?_|refine q5 ?_|refine q6 ?_)
    refine TC.loopK (ι := OS) [1, 2, 3, 7, 8, 10, 11, 48, 49] rfl (fun x => [(50, .int .i64 (x.k : Int))]) (fun _ => m2) (fun x => .cells br 0 [x.s.v] :: mcell x.s x.vs :: .cells b 0 [tm.v] :: .cells bw 0 (x.ws.map mv) :: tok so2 1 :: (mtoks x.ws ++ L))
      (fun x => x.k ≤ (row sk g.toNat).length ∧ MQ (Value.int .i64) x.s x.vs x.xs ∧ x.ws.length = k ∧ IOI k (leastAt ms) (ws.map mkeys) ⟨x.xs, x.ws.map mkeys, done ++ [g]⟩ g ((row sk g.toNat).drop x.k)) (fun x => (row sk g.toNat).length - x.k) ⟨0, 0, s2, vs2, r, ws1, [], ⟨none, 0, 0⟩, m⟩ (by repeat (first|exact trivial|refine And.intro rfl ?_)) rfl (List.Sublist.refl _) ⟨Nat.zero_le _, hq2, hwl1, hIp⟩ ?_
    clear hq hq2 hIp hI
    rintro ⟨j, _, s, vs, xs, ws2, _, _, _⟩ ⟨hj, hq, hwl2, hI⟩
    simp only at hj hq hwl2 hI ⊢
    have hlen2 := hI.len
    simp only [List.length_append, List.length_singleton] at hlen2
    repeat (first|refine q1 ?_|refine q3 ?_|refine q4 tab rfl rfl ?_|refine q5 ?_|refine q6 ?_)
    refine TC.condP rfl (fun hlj' => ?_) (fun hlj' => ?_)
    · have hlj : j < (row sk g.toNat).length := by omega
      have hxj : (row sk g.toNat)[j]? = some (row sk g.toNat)[j] := by simp [hlj]
      have hdrop := List.drop_eq_getElem_cons hlj
      have hamem : (row sk g.toNat)[j] ∈ row sk g.toNat := List.getElem_mem hlj
      have hna : (row sk g.toNat)[j] ∉ (row sk g.toNat).drop (j + 1) := by
        have := hrnd.sublist (List.drop_sublist j _)
        rw [hdrop] at this
        exact (List.nodup_cons.1 this).1
      rw [hdrop] at hI
      generalize (row sk g.toNat)[j] = a at hxj hamem hna hI
      repeat (first|refine q1 ?_|refine q2 ?_|refine q3 ?_|refine q6 ?_|refine q13 ?_)
      refine TO.step rfl (OT.index tab rInt j hrd3 rfl rfl rfl rfl rfl (by first | rfl | omega) rfl hxj ?_)
      rintro b4 i4 hd4 hrd4 hA4
      obtain rfl := (show hd4 = a from hrd4)
      (refine TO.step rfl (OT.loadA0 tab hA4 rfl rfl rfl rfl rfl ?_))
      repeat (first|refine q1 ?_|refine q3 ?_|refine q4 tab rfl rfl ?_|refine q5 ?_|refine q6 ?_)
      obtain ⟨ha0, ha1, hhas⟩ := hI.has hp hg hamem
      have hask := hI.ask hp hg (by simp) hamem hna
      have hwx : ws2[hd4.toNat]? = some (ws2[hd4.toNat]'(by omega)) := by simp [show hd4.toNat < ws2.length by omega]
      generalize ws2[hd4.toNat]'(by omega) = x at hwx
      have hrk := row_mkeys hwx
      simp only at hhas
      rw [hrk] at hhas hask
      rcases x with _ | ⟨bm, es, c0⟩
      · cases hhas
      have hknd : (mkeys (some (bm, es, c0))).Nodup := by
        rw [← hrk, hI.w hd4.toNat (by omega)]
        exact (hp.okw.nodup _ (row_mem (by simp; omega))).filter _
      have hdel := mdel_keys (x := g) hknd
      refine TO.step rfl (OT.indexP (sz := 1) tab hd4.toNat rfl rfl rfl rfl rfl (by omega) rfl (by omega) ?_)
      refine TO.step rfl (OT.loadM tab 3 mv hwx rfl rfl rfl rfl rfl rfl ?_)
      repeat (refine q4 tab rfl rfl ?_)
      refine TO.perm (((((mtoks_out L hwx).cons _).cons _).cons _).cons _ |>.cons _) ?_
      refine TO.step rfl (OT.mapDel0 tab kInt 5 g rfl rfl rfl rfl rfl rfl ?_)
      have hwk : (ws2.set hd4.toNat (some (bm, mdel es g, c0))).map mkeys = (ws2.map mkeys).set hd4.toNat ((mkeys (some (bm, es, c0))).filter fun x => decide (x ≠ g)) := by
        rw [List.map_set]; congr 1
      have hwx3 : (ws2.set hd4.toNat (some (bm, mdel es g, c0)))[hd4.toNat]? = some (some (bm, mdel es g, c0)) := by simp [show hd4.toNat < ws2.length by omega]
      have hws3 : (ws2.set hd4.toNat (some (bm, mdel es g, c0))).map mv = ws2.map mv := by
        rw [List.map_set]
        have h5 := map_get mv hwx
        exact set_selfV h5
      have hwl3 : (ws2.set hd4.toNat (some (bm, mdel es g, c0))).length = k := by simp [hwl2]
      refine TO.perm ((((((mtoks_in (x := some (bm, mdel es g, c0)) L (show hd4.toNat < ws2.length by omega)).cons _).cons _).cons _).cons _).cons _) ?_
      rw [← hws3]
      have hwk0 : ((mkeys (some (bm, es, c0))).filter fun x => decide (x ≠ g)) = [] → (ws2.map mkeys).set hd4.toNat [] = (ws2.set hd4.toNat (some (bm, mdel es g, c0))).map mkeys := fun e => by rw [hwk, e]
      rw [← hwk] at hask
      have hemp : ((mkeys (some (bm, es, c0))).filter fun x => decide (x ≠ g)) = mkeys (some (bm, mdel es g, c0)) := hdel.symm
      rw [hemp] at hask hwk0
      generalize (ws2.set hd4.toNat (some (bm, mdel es g, c0))) = ws3 at *
      repeat (first|refine q1 ?_|refine q3 ?_|refine q4 tab rfl rfl ?_|refine q5 ?_|refine q6 ?_)
      refine TO.step rfl (OT.indexP (sz := 1) tab hd4.toNat rfl rfl rfl rfl rfl (by omega) rfl (by omega) ?_)
      refine TO.step rfl (OT.loadM tab 3 mv hwx3 rfl rfl rfl rfl rfl rfl ?_)
      refine TO.step rfl (OT.lenMap tab (5 + hd4.toNat) (some (bm, mdel es g, c0)) rfl rfl rfl rfl rfl (by rw [show 5 + hd4.toNat = hd4.toNat + 1 + 1 + 1 + 1 + 1 by omega]; exact mtoks_at L hwx3) ?_)
      repeat (first|refine q4 tab rfl rfl ?_|refine q5 ?_|refine q6 ?_)
      refine TC.condP rfl (fun he => ?_) (fun he => ?_)
      · have he' : mkeys (some (bm, mdel es g, c0)) = [] := List.eq_nil_of_length_eq_zero (by omega)
        rcases hask with ⟨_, hI2⟩ | ⟨hne2, _⟩
        · repeat (first|refine q3 ?_|refine q4 tab rfl rfl ?_)
          rw [hwk0 he'] at hI2
          have hst := hI.sorted
          simp only at hst
          have hrg := hI.rng
          simp only at hrg
          have hadd := add_cl m2 (.cells bw 0 (ws3.map mv) :: tok so2 1 :: (mtoks ws3 ++ L)) b br tm ms (hms1.mono hm2) s vs xs hq hst (fun y hy => by rw [hml]; exact hrg y (List.mem_append_left _ hy)) (by omega) hd4.toNat (by omega) hne hlt
          rw [show ((hd4.toNat : Nat) : Int) = hd4 by omega] at hadd
          refine TO.step rfl (OT.call rfl rfl rfl rfl rfl rfl goes38 ((hadd).x ?_));
          rintro _ _ _ ⟨rfl, s3, vs3, hq3, rfl⟩
          repeat (first|refine q3 ?_|refine q5 ?_|refine q6 ?_|refine q7 ?_)
          refine TO.step rfl (OT.arith (r' := ((j + 1 : Nat) : Int)) rfl rfl rfl rfl rfl rfl rfl (by omega) ?_)
          repeat (first|refine q4 tab rfl rfl ?_|refine q5 ?_|refine q6 ?_)
          exact ⟨⟨j + 1, 0, s3, vs3, addL (leastAt ms) xs hd4, ws3, [], ⟨none, 0, 0⟩, m⟩, (by repeat (first|exact trivial|refine And.intro rfl ?_)), (by repeat (first|exact trivial|refine And.intro rfl ?_)), rfl, rfl, List.Sublist.refl _, ⟨by simp only; omega, hq3, hwl3, hI2⟩, by simp only; omega⟩
        · exact absurd he' hne2
      · rcases hask with ⟨he2, _⟩ | ⟨_, hI2⟩
        · rw [he2] at he; exact absurd rfl he
        · repeat (first|refine q3 ?_|refine q6 ?_|refine q7 ?_|refine q13 ?_)
          refine TO.step rfl (OT.arith (r' := ((j + 1 : Nat) : Int)) rfl rfl rfl rfl rfl rfl rfl (by omega) ?_)
          repeat (first|refine q4 tab rfl rfl ?_|refine q5 ?_|refine q6 ?_)
          exact ⟨⟨j + 1, 0, s, vs, xs, ws3, [], ⟨none, 0, 0⟩, m⟩, (by repeat (first|exact trivial|refine And.intro rfl ?_)), (by repeat (first|exact trivial|refine And.intro rfl ?_)), rfl, rfl, List.Sublist.refl _, ⟨by simp only; omega, hq, hwl3, hI2⟩, by simp only; omega⟩
    · repeat (first|refine q6 ?_|refine q7 ?_|refine q10 ?_|refine q11 ?_|refine q14 ?_)
      have hdn : (row sk g.toNat).drop j = [] := List.drop_eq_nil_of_le (by omega)
      rw [hdn] at hI
      exact ⟨⟨0, g, s, vs, xs, ws2, done ++ [g], so2, m2⟩, (by repeat (first|exact trivial|refine And.intro rfl ?_)), (by repeat (first|exact trivial|refine And.intro rfl ?_)), rfl, rfl, List.Sublist.refl _, ⟨Mem.le_trans hm1 hm2, hq, hwl2, hown2, by simp only [List.map_append, List.map_cons, List.map_nil]; exact hso2, hI⟩, by simp only [List.length_append, List.length_singleton]; omega⟩
  · have hx0 : xs = [] := List.eq_nil_of_length_eq_zero (by omega)
    subst hx0
    repeat (first|refine q1 ?_|refine q3 ?_|refine q4 tab rfl rfl ?_|refine q5 ?_|refine q6 ?_|refine q10 ?_|refine q11 ?_|refine q14 ?_|refine q15 ?_)
    refine retQ_ret rfl ?_ ⟨hm1, rfl, so, done, rfl, hso, hI.out⟩
    exact (((((List.sublist_append_right _ L).cons _).cons _).cons _).cons _).cons _
end Go.Sep
