/-
  Walks of layer 13: graph.
-/
import Derived.Test.YtopkiglcemcjnaaCxWalk6
import Derived.Test.YtopkiglcemcjnaaSepJ
set_option linter.unusedVariables false
set_option linter.unusedSimpArgs false
namespace Go.Sep
open Go.Proofs
attribute [local irreducible] TC TO OT TCallX TCall DO DOt thenQ blockQ retQ At

/-- one more call out of a function -/
def addTo (g : List (List Int)) (i : Nat) (t : Int) : List (List Int) := if t ∈ g[i]?.getD [] then g else g.set i (g[i]?.getD [] ++ [t])
def siteG (h : Hier) (g : List (List Int)) (s : Site) : List (List Int) := (targetsM h s).foldl (fun g t => addTo g s.frm.toNat t) g
def graphM (h : Hier) : List (List Int) := h.sites.foldl (siteG h) (List.replicate h.funcs.toNat [])

/-- all rows are of distinct numbers below n -/
structure RowsOk (n : Nat) (g : List (List Int)) : Prop where
  nodup : ∀ r ∈ g, r.Nodup
  lt : ∀ r ∈ g, ∀ x ∈ r, 0 ≤ x ∧ x < (n : Int)

theorem nodup_len : ∀ (l : List Int) (n : Nat), l.Nodup → (∀ x ∈ l, 0 ≤ x ∧ x < (n : Int)) → l.length ≤ n := by
  intro l n hn hl
  have h1 : (l.map Int.toNat).Nodup := by
    rw [List.nodup_iff_pairwise_ne, List.pairwise_map]
    refine (List.nodup_iff_pairwise_ne.1 hn).imp_of_mem ?_
    intro a b ha hb hab h
    have := hl a ha; have := hl b hb; omega
  have h2 : (l.map Int.toNat).length ≤ (List.range n).length := by
    refine h1.length_le_of_subset ?_
    intro x hx
    obtain ⟨y, hy, rfl⟩ := List.mem_map.1 hx
    have := hl y hy
    simp; omega
  simpa using h2

theorem RowsOk.len {n : Nat} {g : List (List Int)} (h : RowsOk n g) {r : List Int} (hr : r ∈ g) : r.length ≤ n := nodup_len r n (h.nodup r hr) (h.lt r hr)
theorem RowsOk.empty (n k : Nat) : RowsOk n (List.replicate k []) :=
  ⟨fun r hr => by rw [List.eq_of_mem_replicate hr]; exact List.nodup_nil, fun r hr x hx => by rw [List.eq_of_mem_replicate hr] at hx; cases hx⟩
theorem RowsOk.add {n : Nat} {g : List (List Int)} (h : RowsOk n g) (i : Nat) {t : Int} (ht : 0 ≤ t ∧ t < (n : Int)) (hi : i < g.length) : RowsOk n (addTo g i t) := by
  unfold addTo
  split
  · exact h
  · rename_i hm
    have hr : g[i]?.getD [] ∈ g := by simp [hi]
    refine ⟨fun r hr' => ?_, fun r hr' x hx => ?_⟩
    · rcases List.mem_or_eq_of_mem_set hr' with h1 | h1
      · exact h.nodup r h1
      · subst h1
        rw [List.nodup_append]
        refine ⟨h.nodup _ hr, by simp, ?_⟩
        intro a ha b hb hab
        simp only [List.mem_singleton] at hb
        subst hab; subst hb; exact hm ha
    · rcases List.mem_or_eq_of_mem_set hr' with h1 | h1
      · exact h.lt r h1 x hx
      · subst h1
        rcases List.mem_append.1 hx with h2 | h2
        · exact h.lt _ hr x h2
        · simp only [List.mem_singleton] at h2; subst h2; exact ht
theorem addTo_len (g : List (List Int)) (i : Nat) (t : Int) : (addTo g i t).length = g.length := by
  unfold addTo; split <;> simp

/-- the targets of a sound site are functions -/
theorem stepT_lt {h : Hier} {s : Site} {c : Class} (hc : ClassOk h c) {out : List Int} (hf : 0 < h.funcs) (ho : ∀ x ∈ out, 0 ≤ x ∧ x < h.funcs) : ∀ x ∈ stepT h s out c, 0 ≤ x ∧ x < h.funcs := by
  intro x hx
  unfold stepT at hx
  split at hx
  · simp only at hx
    split at hx
    · exact ho x hx
    · rcases List.mem_append.1 hx with h1 | h1
      · exact ho x h1
      · simp only [List.mem_singleton] at h1
        subst h1
        cases hk : c.funcs[(idx c.methods s.method 0).toNat]? with
        | none => simp; exact hf
        | some f => simp; exact hc.funcs f (List.mem_of_getElem? hk)
  · exact ho x hx
theorem targets_lt {h : Hier} (hg : Good h) {s : Site} (hs : SiteOk h s) : ∀ x ∈ targetsM h s, 0 ≤ x ∧ x < h.funcs := by
  unfold targetsM
  split
  · intro x hx
    simp only [List.mem_singleton] at hx
    subst hx
    rcases hs.how with e | e <;> omega
  · have hf : 0 < h.funcs := by have := hs.frm; omega
    have : ∀ (l : List Class) (out : List Int), (∀ c ∈ l, ClassOk h c) → (∀ x ∈ out, 0 ≤ x ∧ x < h.funcs) → ∀ x ∈ l.foldl (stepT h s) out, 0 ≤ x ∧ x < h.funcs := by
      intro l
      induction l with
      | nil => intro out _ ho; exact ho
      | cons c l ih =>
        intro out hl ho
        exact ih _ (fun c' hc' => hl c' (List.mem_cons_of_mem _ hc')) (stepT_lt (hl c (List.mem_cons_self ..)) hf ho)
    exact this _ _ hg.classes (fun x hx => by cases hx)

structure GS where
  k : Nat
  j : Nat
  g : List (List Int)
  ss : List Sl
  m : Mem

set_option maxHeartbeats 2000000 in
theorem graph_own (m : Mem) (L : List Item) (hh : HHier) (h : Hier) (hr : HierRep m hh h) (hsm : Small h) (hg : Good h) :
    TCall Try.prog 21 ⟨[hierV hh]⟩ m L (Made m L fun r m' => ∃ t : Sl, r = t.v ∧ SlRep rInts m' t (graphM h)) := by
  have h3 := hr.sites.len
  have q3 := hr.sites.small rfl
  have hfu := hr.funcs
  have hn := hg.funcs
  have hn2 := hsm.1
  have hnn : ((h.funcs.toNat : Nat) : Int) = h.funcs := Int.toNat_of_nonneg hn
  unfold TCall
  refine TCallX.enter Try.func21 rfl 49 rfl ?_
  repeat (first | refine TC.seq ?_ | refine TC.block ?_ | refine TC.region ?_ | refine TO.pureP tab rfl rfl ?_ | refine TO.nil ?_ | refine thenQ_n ?_ | refine blockQ_n ?_ | refine thenQ_r ?_ | refine blockQ_r ?_ | refine thenQ_x ?_ | refine blockQ_hit ?_ | refine blockQ_miss rfl ?_ | refine TC.skip ?_ | refine TC.exit ?_ | refine TC.ret ?_ | refine TC.cond_t rfl ?_ | refine TC.cond_f rfl ?_)
  refine TO.step rfl (OT.box rfl rfl rfl rfl rfl (fun b => ?_))
  repeat (first | (first | refine TC.seq ?_ | refine TC.block ?_ | refine TC.region ?_ | refine TO.pureP tab rfl rfl ?_ | refine TO.nil ?_ | refine thenQ_n ?_ | refine blockQ_n ?_ | refine thenQ_r ?_ | refine blockQ_r ?_ | refine thenQ_x ?_ | refine blockQ_hit ?_ | refine blockQ_miss rfl ?_ | refine TC.skip ?_ | refine TC.exit ?_ | refine TC.ret ?_ | refine TC.cond_t rfl ?_ | refine TC.cond_f rfl ?_) | (first | refine TO.step rfl (OT.loadL tab 0 rfl rfl rfl rfl rfl rfl ?_) | refine TO.step rfl (OT.loadL0 tab 0 rfl rfl rfl rfl rfl rfl ?_) | refine TO.step rfl (OT.loadL tab 1 rfl rfl rfl rfl rfl rfl ?_) | refine TO.step rfl (OT.loadL0 tab 1 rfl rfl rfl rfl rfl rfl ?_) | refine TO.step rfl (OT.loadL tab 2 rfl rfl rfl rfl rfl rfl ?_) | refine TO.step rfl (OT.loadL0 tab 2 rfl rfl rfl rfl rfl rfl ?_) | refine TO.step rfl (OT.loadL tab 3 rfl rfl rfl rfl rfl rfl ?_) | refine TO.step rfl (OT.loadL0 tab 3 rfl rfl rfl rfl rfl rfl ?_) | refine TO.step rfl (OT.loadL tab 4 rfl rfl rfl rfl rfl rfl ?_) | refine TO.step rfl (OT.loadL0 tab 4 rfl rfl rfl rfl rfl rfl ?_) | refine TO.step rfl (OT.loadL tab 5 rfl rfl rfl rfl rfl rfl ?_) | refine TO.step rfl (OT.loadL0 tab 5 rfl rfl rfl rfl rfl rfl ?_) | refine TO.step rfl (OT.loadL tab 6 rfl rfl rfl rfl rfl rfl ?_) | refine TO.step rfl (OT.loadL0 tab 6 rfl rfl rfl rfl rfl rfl ?_) | refine TO.step rfl (OT.loadL tab 7 rfl rfl rfl rfl rfl rfl ?_) | refine TO.step rfl (OT.loadL0 tab 7 rfl rfl rfl rfl rfl rfl ?_) | refine TO.step rfl (OT.loadL tab 8 rfl rfl rfl rfl rfl rfl ?_) | refine TO.step rfl (OT.loadL0 tab 8 rfl rfl rfl rfl rfl rfl ?_) | refine TO.step rfl (OT.loadL tab 9 rfl rfl rfl rfl rfl rfl ?_) | refine TO.step rfl (OT.loadL0 tab 9 rfl rfl rfl rfl rfl rfl ?_)))
  refine TO.step rfl (OT.makeM tab Sl.v ⟨none, 0, 0⟩ h.funcs.toNat (by omega) rfl rfl rfl rfl rfl rfl rfl rfl (show h.funcs.toNat * 24 ≤ 281474976710656 by omega) rfl (fun bg => ?_))
  repeat (first | (first | refine TC.seq ?_ | refine TC.block ?_ | refine TC.region ?_ | refine TO.pureP tab rfl rfl ?_ | refine TO.nil ?_ | refine thenQ_n ?_ | refine blockQ_n ?_ | refine thenQ_r ?_ | refine blockQ_r ?_ | refine thenQ_x ?_ | refine blockQ_hit ?_ | refine blockQ_miss rfl ?_ | refine TC.skip ?_ | refine TC.exit ?_ | refine TC.ret ?_ | refine TC.cond_t rfl ?_ | refine TC.cond_f rfl ?_) | (first | refine TO.step rfl (OT.loadL tab 0 rfl rfl rfl rfl rfl rfl ?_) | refine TO.step rfl (OT.loadL0 tab 0 rfl rfl rfl rfl rfl rfl ?_) | refine TO.step rfl (OT.loadL tab 1 rfl rfl rfl rfl rfl rfl ?_) | refine TO.step rfl (OT.loadL0 tab 1 rfl rfl rfl rfl rfl rfl ?_) | refine TO.step rfl (OT.loadL tab 2 rfl rfl rfl rfl rfl rfl ?_) | refine TO.step rfl (OT.loadL0 tab 2 rfl rfl rfl rfl rfl rfl ?_) | refine TO.step rfl (OT.loadL tab 3 rfl rfl rfl rfl rfl rfl ?_) | refine TO.step rfl (OT.loadL0 tab 3 rfl rfl rfl rfl rfl rfl ?_) | refine TO.step rfl (OT.loadL tab 4 rfl rfl rfl rfl rfl rfl ?_) | refine TO.step rfl (OT.loadL0 tab 4 rfl rfl rfl rfl rfl rfl ?_) | refine TO.step rfl (OT.loadL tab 5 rfl rfl rfl rfl rfl rfl ?_) | refine TO.step rfl (OT.loadL0 tab 5 rfl rfl rfl rfl rfl rfl ?_) | refine TO.step rfl (OT.loadL tab 6 rfl rfl rfl rfl rfl rfl ?_) | refine TO.step rfl (OT.loadL0 tab 6 rfl rfl rfl rfl rfl rfl ?_) | refine TO.step rfl (OT.loadL tab 7 rfl rfl rfl rfl rfl rfl ?_) | refine TO.step rfl (OT.loadL0 tab 7 rfl rfl rfl rfl rfl rfl ?_) | refine TO.step rfl (OT.loadL tab 8 rfl rfl rfl rfl rfl rfl ?_) | refine TO.step rfl (OT.loadL0 tab 8 rfl rfl rfl rfl rfl rfl ?_) | refine TO.step rfl (OT.loadL tab 9 rfl rfl rfl rfl rfl rfl ?_) | refine TO.step rfl (OT.loadL0 tab 9 rfl rfl rfl rfl rfl rfl ?_)))
  refine TC.toks0 h.funcs.toNat 1 ?_
  refine TC.perm (List.perm_middle.trans (List.perm_middle.cons _)) ?_
  refine TC.loopK (ι := GS) [1, 3, 12, 13] rfl (fun x => [(14, .int .i64 (x.k : Int))]) (fun x => x.m) (fun x => .cells bg 0 (x.ss.map Sl.v) :: .cells b 0 (hierC hh) :: (toks x.ss 1 ++ L)) (fun x => x.k ≤ h.sites.length ∧ m ≤ x.m ∧ x.g = (h.sites.take x.k).foldl (siteG h) (List.replicate h.funcs.toNat []) ∧ x.g.length = h.funcs.toNat ∧ RowsOk h.funcs.toNat x.g ∧ OwnRows rInt x.m x.ss x.g) (fun x => h.sites.length - x.k) ⟨0, 0, List.replicate h.funcs.toNat [], List.replicate h.funcs.toNat ⟨none, 0, 0⟩, m⟩ (by repeat (first | exact trivial | refine And.intro rfl ?_)) rfl (List.Sublist.refl _) ⟨Nat.zero_le _, Mem.le_refl _, rfl, by simp, RowsOk.empty _ _, OwnRows.empty _ _ _⟩ ?_
  rintro ⟨k, _, g, ss, m1⟩ ⟨hk, hm, hgk, hgl, hok, hrows⟩
  simp only at hk hm hgk hgl hok hrows ⊢
  have hr1 := hr.mono hm
  repeat (first | refine TC.seq ?_ | refine TC.block ?_ | refine TC.region ?_ | refine TO.pureP tab rfl rfl ?_ | refine TO.nil ?_ | refine thenQ_n ?_ | refine blockQ_n ?_ | refine thenQ_r ?_ | refine blockQ_r ?_ | refine thenQ_x ?_ | refine blockQ_hit ?_ | refine blockQ_miss rfl ?_ | refine TC.skip ?_ | refine TC.exit ?_ | refine TC.ret ?_ | refine TC.cond_t rfl ?_ | refine TC.cond_f rfl ?_)
  refine TC.condP rfl (fun hlt' => ?_) (fun hlt' => ?_)
  · have hlt : k < h.sites.length := by omega
    have hx : h.sites[k]? = some h.sites[k] := by simp [hlt]
    have hsk := hg.sites _ (List.getElem_mem hlt)
    have hstep : (h.sites.take (k + 1)).foldl (siteG h) (List.replicate h.funcs.toNat []) = siteG h g h.sites[k] := by rw [foldl_take _ _ _ hlt, hgk]
    repeat (first | refine TC.seq ?_ | refine TC.block ?_ | refine TC.region ?_ | refine TO.pureP tab rfl rfl ?_ | refine TO.nil ?_ | refine thenQ_n ?_ | refine blockQ_n ?_ | refine thenQ_r ?_ | refine blockQ_r ?_ | refine thenQ_x ?_ | refine blockQ_hit ?_ | refine blockQ_miss rfl ?_ | refine TC.skip ?_ | refine TC.exit ?_ | refine TC.ret ?_ | refine TC.cond_t rfl ?_ | refine TC.cond_f rfl ?_)
    refine TO.step rfl (OT.index tab rSite k hr1.sites rfl rfl rfl rfl rfl (by first | rfl | omega) rfl hx ?_)
    rintro b' i s hsx hA
    obtain rfl := (show s = h.sites[k] from hsx)
    (first | refine TO.step rfl (OT.loadA tab hA rfl rfl rfl rfl rfl ?_) | refine TO.step rfl (OT.loadA0 tab hA rfl rfl rfl rfl rfl ?_))
    refine TO.step rfl (OT.alloc tab rfl rfl rfl rfl (fun bs => ?_))
    (first | refine TO.step rfl (OT.storeL tab 0 rfl rfl rfl rfl rfl rfl rfl rfl ?_) | refine TO.step rfl (OT.storeL0 tab 0 rfl rfl rfl rfl rfl rfl rfl rfl ?_) | refine TO.step rfl (OT.storeL tab 1 rfl rfl rfl rfl rfl rfl rfl rfl ?_) | refine TO.step rfl (OT.storeL0 tab 1 rfl rfl rfl rfl rfl rfl rfl rfl ?_) | refine TO.step rfl (OT.storeL tab 2 rfl rfl rfl rfl rfl rfl rfl rfl ?_) | refine TO.step rfl (OT.storeL0 tab 2 rfl rfl rfl rfl rfl rfl rfl rfl ?_) | refine TO.step rfl (OT.storeL tab 3 rfl rfl rfl rfl rfl rfl rfl rfl ?_) | refine TO.step rfl (OT.storeL0 tab 3 rfl rfl rfl rfl rfl rfl rfl rfl ?_) | refine TO.step rfl (OT.storeL tab 4 rfl rfl rfl rfl rfl rfl rfl rfl ?_) | refine TO.step rfl (OT.storeL0 tab 4 rfl rfl rfl rfl rfl rfl rfl rfl ?_) | refine TO.step rfl (OT.storeL tab 5 rfl rfl rfl rfl rfl rfl rfl rfl ?_) | refine TO.step rfl (OT.storeL0 tab 5 rfl rfl rfl rfl rfl rfl rfl rfl ?_) | refine TO.step rfl (OT.storeL tab 6 rfl rfl rfl rfl rfl rfl rfl rfl ?_) | refine TO.step rfl (OT.storeL0 tab 6 rfl rfl rfl rfl rfl rfl rfl rfl ?_) | refine TO.step rfl (OT.storeL tab 7 rfl rfl rfl rfl rfl rfl rfl rfl ?_) | refine TO.step rfl (OT.storeL0 tab 7 rfl rfl rfl rfl rfl rfl rfl rfl ?_) | refine TO.step rfl (OT.storeL tab 8 rfl rfl rfl rfl rfl rfl rfl rfl ?_) | refine TO.step rfl (OT.storeL0 tab 8 rfl rfl rfl rfl rfl rfl rfl rfl ?_) | refine TO.step rfl (OT.storeL tab 9 rfl rfl rfl rfl rfl rfl rfl rfl ?_) | refine TO.step rfl (OT.storeL0 tab 9 rfl rfl rfl rfl rfl rfl rfl rfl ?_))
    repeat (first | (first | refine TC.seq ?_ | refine TC.block ?_ | refine TC.region ?_ | refine TO.pureP tab rfl rfl ?_ | refine TO.nil ?_ | refine thenQ_n ?_ | refine blockQ_n ?_ | refine thenQ_r ?_ | refine blockQ_r ?_ | refine thenQ_x ?_ | refine blockQ_hit ?_ | refine blockQ_miss rfl ?_ | refine TC.skip ?_ | refine TC.exit ?_ | refine TC.ret ?_ | refine TC.cond_t rfl ?_ | refine TC.cond_f rfl ?_) | (first | refine TO.step rfl (OT.loadL tab 0 rfl rfl rfl rfl rfl rfl ?_) | refine TO.step rfl (OT.loadL0 tab 0 rfl rfl rfl rfl rfl rfl ?_) | refine TO.step rfl (OT.loadL tab 1 rfl rfl rfl rfl rfl rfl ?_) | refine TO.step rfl (OT.loadL0 tab 1 rfl rfl rfl rfl rfl rfl ?_) | refine TO.step rfl (OT.loadL tab 2 rfl rfl rfl rfl rfl rfl ?_) | refine TO.step rfl (OT.loadL0 tab 2 rfl rfl rfl rfl rfl rfl ?_) | refine TO.step rfl (OT.loadL tab 3 rfl rfl rfl rfl rfl rfl ?_) | refine TO.step rfl (OT.loadL0 tab 3 rfl rfl rfl rfl rfl rfl ?_) | refine TO.step rfl (OT.loadL tab 4 rfl rfl rfl rfl rfl rfl ?_) | refine TO.step rfl (OT.loadL0 tab 4 rfl rfl rfl rfl rfl rfl ?_) | refine TO.step rfl (OT.loadL tab 5 rfl rfl rfl rfl rfl rfl ?_) | refine TO.step rfl (OT.loadL0 tab 5 rfl rfl rfl rfl rfl rfl ?_) | refine TO.step rfl (OT.loadL tab 6 rfl rfl rfl rfl rfl rfl ?_) | refine TO.step rfl (OT.loadL0 tab 6 rfl rfl rfl rfl rfl rfl ?_) | refine TO.step rfl (OT.loadL tab 7 rfl rfl rfl rfl rfl rfl ?_) | refine TO.step rfl (OT.loadL0 tab 7 rfl rfl rfl rfl rfl rfl ?_) | refine TO.step rfl (OT.loadL tab 8 rfl rfl rfl rfl rfl rfl ?_) | refine TO.step rfl (OT.loadL0 tab 8 rfl rfl rfl rfl rfl rfl ?_) | refine TO.step rfl (OT.loadL tab 9 rfl rfl rfl rfl rfl rfl ?_) | refine TO.step rfl (OT.loadL0 tab 9 rfl rfl rfl rfl rfl rfl ?_)))
    generalize hsd : h.sites[k] = s at *
    refine TO.step rfl (OT.call rfl rfl rfl rfl rfl rfl goes24 ((targets_own m1 _ hh h hr1 s hg.classes hsk).x ?_));
    rintro _ m2 _ ⟨hm2, rfl, t2, rfl, ht2⟩
    repeat (first | refine TC.seq ?_ | refine TC.block ?_ | refine TC.region ?_ | refine TO.pureP tab rfl rfl ?_ | refine TO.nil ?_ | refine thenQ_n ?_ | refine blockQ_n ?_ | refine thenQ_r ?_ | refine blockQ_r ?_ | refine thenQ_x ?_ | refine blockQ_hit ?_ | refine blockQ_miss rfl ?_ | refine TC.skip ?_ | refine TC.exit ?_ | refine TC.ret ?_ | refine TC.cond_t rfl ?_ | refine TC.cond_f rfl ?_)
    have ht2l := ht2.len
    have q5 := ht2.small rfl
    have htlt := targets_lt hg hsk
    have hfr := hsk.frm
    refine TC.loopK (ι := GS) [1, 3, 5, 12, 13, 14, 20, 21] rfl (fun x => [(22, .int .i64 (x.j : Int))]) (fun x => x.m) (fun x => .cells bs 0 (siteC s) :: .cells bg 0 (x.ss.map Sl.v) :: .cells b 0 (hierC hh) :: (toks x.ss 1 ++ L)) (fun x => x.j ≤ (targetsM h s).length ∧ m2 ≤ x.m ∧ x.g = ((targetsM h s).take x.j).foldl (fun g t => addTo g s.frm.toNat t) g ∧ x.g.length = h.funcs.toNat ∧ RowsOk h.funcs.toNat x.g ∧ OwnRows rInt x.m x.ss x.g) (fun x => (targetsM h s).length - x.j) ⟨k, 0, g, ss, m2⟩ (by repeat (first | exact trivial | refine And.intro rfl ?_)) rfl (List.Sublist.refl _) ⟨Nat.zero_le _, Mem.le_refl _, rfl, hgl, hok, hrows.mono hm2⟩ ?_
    rintro ⟨_, j, g1, ss1, m3⟩ ⟨hj, hm3, hg1, hgl1, hok1, hrows1⟩
    simp only at hj hm3 hg1 hgl1 hok1 hrows1 ⊢
    have hss1 := All2.length hrows1
    repeat (first | refine TC.seq ?_ | refine TC.block ?_ | refine TC.region ?_ | refine TO.pureP tab rfl rfl ?_ | refine TO.nil ?_ | refine thenQ_n ?_ | refine blockQ_n ?_ | refine thenQ_r ?_ | refine blockQ_r ?_ | refine thenQ_x ?_ | refine blockQ_hit ?_ | refine blockQ_miss rfl ?_ | refine TC.skip ?_ | refine TC.exit ?_ | refine TC.ret ?_ | refine TC.cond_t rfl ?_ | refine TC.cond_f rfl ?_)
    refine TC.condP rfl (fun hlj' => ?_) (fun hlj' => ?_)
    · have hlj : j < (targetsM h s).length := by omega
      have hxj : (targetsM h s)[j]? = some (targetsM h s)[j] := by simp [hlj]
      have hj1 := foldl_take (fun g t => addTo g s.frm.toNat t) g (targetsM h s) hlj
      have htj := htlt _ (List.getElem_mem hlj)
      have ht3 := ht2.mono hm3
      generalize htx : (targetsM h s)[j] = tv at *
      repeat (first | refine TC.seq ?_ | refine TC.block ?_ | refine TC.region ?_ | refine TO.pureP tab rfl rfl ?_ | refine TO.nil ?_ | refine thenQ_n ?_ | refine blockQ_n ?_ | refine thenQ_r ?_ | refine blockQ_r ?_ | refine thenQ_x ?_ | refine blockQ_hit ?_ | refine blockQ_miss rfl ?_ | refine TC.skip ?_ | refine TC.exit ?_ | refine TC.ret ?_ | refine TC.cond_t rfl ?_ | refine TC.cond_f rfl ?_)
      refine TO.step rfl (OT.index tab rInt j ht3 rfl rfl rfl rfl rfl (by first | rfl | omega) rfl hxj ?_)
      rintro bt it tv' htv hAt
      obtain rfl := (show tv = tv' from htv.symm)
      (first | refine TO.step rfl (OT.loadA tab hAt rfl rfl rfl rfl rfl ?_) | refine TO.step rfl (OT.loadA0 tab hAt rfl rfl rfl rfl rfl ?_))
      repeat (first | (first | refine TC.seq ?_ | refine TC.block ?_ | refine TC.region ?_ | refine TO.pureP tab rfl rfl ?_ | refine TO.nil ?_ | refine thenQ_n ?_ | refine blockQ_n ?_ | refine thenQ_r ?_ | refine blockQ_r ?_ | refine thenQ_x ?_ | refine blockQ_hit ?_ | refine blockQ_miss rfl ?_ | refine TC.skip ?_ | refine TC.exit ?_ | refine TC.ret ?_ | refine TC.cond_t rfl ?_ | refine TC.cond_f rfl ?_) | (first | refine TO.step rfl (OT.loadL tab 0 rfl rfl rfl rfl rfl rfl ?_) | refine TO.step rfl (OT.loadL0 tab 0 rfl rfl rfl rfl rfl rfl ?_) | refine TO.step rfl (OT.loadL tab 1 rfl rfl rfl rfl rfl rfl ?_) | refine TO.step rfl (OT.loadL0 tab 1 rfl rfl rfl rfl rfl rfl ?_) | refine TO.step rfl (OT.loadL tab 2 rfl rfl rfl rfl rfl rfl ?_) | refine TO.step rfl (OT.loadL0 tab 2 rfl rfl rfl rfl rfl rfl ?_) | refine TO.step rfl (OT.loadL tab 3 rfl rfl rfl rfl rfl rfl ?_) | refine TO.step rfl (OT.loadL0 tab 3 rfl rfl rfl rfl rfl rfl ?_) | refine TO.step rfl (OT.loadL tab 4 rfl rfl rfl rfl rfl rfl ?_) | refine TO.step rfl (OT.loadL0 tab 4 rfl rfl rfl rfl rfl rfl ?_) | refine TO.step rfl (OT.loadL tab 5 rfl rfl rfl rfl rfl rfl ?_) | refine TO.step rfl (OT.loadL0 tab 5 rfl rfl rfl rfl rfl rfl ?_) | refine TO.step rfl (OT.loadL tab 6 rfl rfl rfl rfl rfl rfl ?_) | refine TO.step rfl (OT.loadL0 tab 6 rfl rfl rfl rfl rfl rfl ?_) | refine TO.step rfl (OT.loadL tab 7 rfl rfl rfl rfl rfl rfl ?_) | refine TO.step rfl (OT.loadL0 tab 7 rfl rfl rfl rfl rfl rfl ?_) | refine TO.step rfl (OT.loadL tab 8 rfl rfl rfl rfl rfl rfl ?_) | refine TO.step rfl (OT.loadL0 tab 8 rfl rfl rfl rfl rfl rfl ?_) | refine TO.step rfl (OT.loadL tab 9 rfl rfl rfl rfl rfl rfl ?_) | refine TO.step rfl (OT.loadL0 tab 9 rfl rfl rfl rfl rfl rfl ?_)))
      have hfl : s.frm.toNat < g1.length := by omega
      have hgi := getD_some g1 s.frm.toNat [] hfl
      obtain ⟨sr, hsr, hro, hrr⟩ := All2.get hrows1 hgi
      have hadd : addTo g1 s.frm.toNat tv = if tv ∈ g1[s.frm.toNat]?.getD [] then g1 else g1.set s.frm.toNat (g1[s.frm.toNat]?.getD [] ++ [tv]) := rfl
      have hmemr := List.mem_of_getElem? hgi
      generalize g1[s.frm.toNat]?.getD [] = row at *
      have hrl := hok1.len hmemr
      refine TO.step rfl (OT.indexP tab s.frm.toNat rfl rfl rfl rfl rfl (by omega) rfl (by omega) ?_)
      refine TO.step rfl (OT.loadM tab 1 Sl.v hsr rfl rfl rfl rfl rfl rfl ?_)
      repeat (first | refine TC.seq ?_ | refine TC.block ?_ | refine TC.region ?_ | refine TO.pureP tab rfl rfl ?_ | refine TO.nil ?_ | refine thenQ_n ?_ | refine blockQ_n ?_ | refine thenQ_r ?_ | refine blockQ_r ?_ | refine thenQ_x ?_ | refine blockQ_hit ?_ | refine blockQ_miss rfl ?_ | refine TC.skip ?_ | refine TC.exit ?_ | refine TC.ret ?_ | refine TC.cond_t rfl ?_ | refine TC.cond_f rfl ?_)
      refine TO.step rfl (OT.call rfl rfl rfl rfl rfl rfl goes35 ((contains_int m3 _ sr row tv hrr).x ?_));
      rintro _ _ _ ⟨rfl, rfl, rfl⟩
      repeat (first | refine TC.seq ?_ | refine TC.block ?_ | refine TC.region ?_ | refine TO.pureP tab rfl rfl ?_ | refine TO.nil ?_ | refine thenQ_n ?_ | refine blockQ_n ?_ | refine thenQ_r ?_ | refine blockQ_r ?_ | refine thenQ_x ?_ | refine blockQ_hit ?_ | refine blockQ_miss rfl ?_ | refine TC.skip ?_ | refine TC.exit ?_ | refine TC.ret ?_ | refine TC.cond_t rfl ?_ | refine TC.cond_f rfl ?_)
      refine TC.cond rfl (fun hin => ?_) (fun hin => ?_)
      · repeat (first | refine TC.seq ?_ | refine TC.block ?_ | refine TC.region ?_ | refine TO.pureP tab rfl rfl ?_ | refine TO.nil ?_ | refine thenQ_n ?_ | refine blockQ_n ?_ | refine thenQ_r ?_ | refine blockQ_r ?_ | refine thenQ_x ?_ | refine blockQ_hit ?_ | refine blockQ_miss rfl ?_ | refine TC.skip ?_ | refine TC.exit ?_ | refine TC.ret ?_ | refine TC.cond_t rfl ?_ | refine TC.cond_f rfl ?_)
        refine TC.perm ((((toks_out L hsr).cons _).cons _).cons _) ?_
        refine TC.perm (((perm_last.cons _).cons _).cons _) ?_
        refine TC.draw [12] mixed 13 rfl (_::_::_::(toks (ss1.eraseIdx s.frm.toNat) 1++L)) [tok sr 1] (by first | exact List.Perm.refl _ | (rw [List.append_nil]; exact List.Perm.refl _)) ?_
        refine DO.pure tab (by repeat (first | exact Calm.ret | refine Calm.then ?_ | refine Calm.block ?_ | assumption)) (by kernel_rfl) [0, 1] (by kernel_rfl) rfl ?_
        (first | refine DO.loadL tab 2 0 (by repeat (first | exact Calm.ret | refine Calm.then ?_ | refine Calm.block ?_ | assumption)) (by kernel_rfl) (by kernel_rfl) rfl rfl rfl rfl rfl rfl rfl rfl ?_ | refine DO.loadL tab 2 1 (by repeat (first | exact Calm.ret | refine Calm.then ?_ | refine Calm.block ?_ | assumption)) (by kernel_rfl) (by kernel_rfl) rfl rfl rfl rfl rfl rfl rfl rfl ?_ | refine DO.loadL tab 2 2 (by repeat (first | exact Calm.ret | refine Calm.then ?_ | refine Calm.block ?_ | assumption)) (by kernel_rfl) (by kernel_rfl) rfl rfl rfl rfl rfl rfl rfl rfl ?_ | refine DO.loadL (k := 0) tab 2 0 (by repeat (first | exact Calm.ret | refine Calm.then ?_ | refine Calm.block ?_ | assumption)) (by kernel_rfl) (by kernel_rfl) rfl rfl rfl rfl rfl rfl rfl rfl ?_ | refine DO.loadL (k := 0) tab 2 1 (by repeat (first | exact Calm.ret | refine Calm.then ?_ | refine Calm.block ?_ | assumption)) (by kernel_rfl) (by kernel_rfl) rfl rfl rfl rfl rfl rfl rfl rfl ?_ | refine DO.loadL (k := 0) tab 2 2 (by repeat (first | exact Calm.ret | refine Calm.then ?_ | refine Calm.block ?_ | assumption)) (by kernel_rfl) (by kernel_rfl) rfl rfl rfl rfl rfl rfl rfl rfl ?_)
        refine DO.pure tab (by repeat (first | exact Calm.ret | refine Calm.then ?_ | refine Calm.block ?_ | assumption)) (by kernel_rfl) [3, 4] (by kernel_rfl) rfl ?_
        (first | refine DO.loadL tab 5 0 (by repeat (first | exact Calm.ret | refine Calm.then ?_ | refine Calm.block ?_ | assumption)) (by kernel_rfl) (by kernel_rfl) rfl rfl rfl rfl rfl rfl rfl rfl ?_ | refine DO.loadL tab 5 1 (by repeat (first | exact Calm.ret | refine Calm.then ?_ | refine Calm.block ?_ | assumption)) (by kernel_rfl) (by kernel_rfl) rfl rfl rfl rfl rfl rfl rfl rfl ?_ | refine DO.loadL tab 5 2 (by repeat (first | exact Calm.ret | refine Calm.then ?_ | refine Calm.block ?_ | assumption)) (by kernel_rfl) (by kernel_rfl) rfl rfl rfl rfl rfl rfl rfl rfl ?_ | refine DO.loadL (k := 0) tab 5 0 (by repeat (first | exact Calm.ret | refine Calm.then ?_ | refine Calm.block ?_ | assumption)) (by kernel_rfl) (by kernel_rfl) rfl rfl rfl rfl rfl rfl rfl rfl ?_ | refine DO.loadL (k := 0) tab 5 1 (by repeat (first | exact Calm.ret | refine Calm.then ?_ | refine Calm.block ?_ | assumption)) (by kernel_rfl) (by kernel_rfl) rfl rfl rfl rfl rfl rfl rfl rfl ?_ | refine DO.loadL (k := 0) tab 5 2 (by repeat (first | exact Calm.ret | refine Calm.then ?_ | refine Calm.block ?_ | assumption)) (by kernel_rfl) (by kernel_rfl) rfl rfl rfl rfl rfl rfl rfl rfl ?_)
        refine DO.indexP tab 6 s.frm.toNat (by repeat (first | exact Calm.ret | refine Calm.then ?_ | refine Calm.block ?_ | assumption)) (by kernel_rfl) (by kernel_rfl) rfl rfl rfl rfl rfl rfl rfl (by omega) rfl (by omega) ?_
        refine DO.loadM tab 7 1 Sl.v hsr (by repeat (first | exact Calm.ret | refine Calm.then ?_ | refine Calm.block ?_ | assumption)) (by kernel_rfl) (by kernel_rfl) rfl rfl rfl rfl rfl rfl rfl rfl ?_
        refine DO.pure tab (by repeat (first | exact Calm.ret | refine Calm.then ?_ | refine Calm.block ?_ | assumption)) (by kernel_rfl) [8] (by kernel_rfl) rfl ?_
        refine DO.run 9 rfl rfl (by kernel_rfl) rfl ?_
        refine OT.lit tab rfl rfl rfl rfl (fun bl => ?_); refine ⟨Mem.le_refl _, _, perm_mid, ?_⟩
        refine DO.run 10 rfl rfl (by kernel_rfl) rfl ?_
        refine OT.perm List.perm_append_comm (OT.append1 tab rInt 0 (hd' := tv) (a := tv) hrr hro rfl rfl rfl rfl rfl rfl rfl rfl (by simp only [rInt]; omega) (fun t' m4 hm4 ht' ho' => ?_)); refine ⟨hm4, _, perm_last, ?_⟩
        refine DO.indexP tab 11 s.frm.toNat (by repeat (first | exact Calm.ret | refine Calm.then ?_ | refine Calm.block ?_ | assumption)) (by kernel_rfl) (by kernel_rfl) rfl rfl rfl rfl rfl rfl rfl (by omega) rfl (by omega) ?_
        refine DO.tail ?_
        refine DOt.run 12 rfl rfl (by kernel_rfl) rfl ?_
        refine OT.storeM tab 1 Sl.v t' rfl rfl rfl rfl rfl rfl rfl (by omega) ?_
        refine DOt.nil (by kernel_rfl) ?_
        rotate_left 1
        repeat (first | refine TC.seq ?_ | refine TC.block ?_ | refine TC.region ?_ | refine TO.pureP tab rfl rfl ?_ | refine TO.nil ?_ | refine thenQ_n ?_ | refine blockQ_n ?_ | refine thenQ_r ?_ | refine blockQ_r ?_ | refine thenQ_x ?_ | refine blockQ_hit ?_ | refine blockQ_miss rfl ?_ | refine TC.skip ?_ | refine TC.exit ?_ | refine TC.ret ?_ | refine TC.cond_t rfl ?_ | refine TC.cond_f rfl ?_)
        refine TO.perm (((perm_first.cons _).cons _).cons _) ?_
        refine TO.perm ((((toks_in L (by omega)).cons _).cons _).cons _) ?_
        refine TO.step rfl (OT.arith (r' := ((j + 1 : Nat) : Int)) rfl rfl rfl rfl rfl rfl rfl (by omega) ?_)
        repeat (first | refine TC.seq ?_ | refine TC.block ?_ | refine TC.region ?_ | refine TO.pureP tab rfl rfl ?_ | refine TO.nil ?_ | refine thenQ_n ?_ | refine blockQ_n ?_ | refine thenQ_r ?_ | refine blockQ_r ?_ | refine thenQ_x ?_ | refine blockQ_hit ?_ | refine blockQ_miss rfl ?_ | refine TC.skip ?_ | refine TC.exit ?_ | refine TC.ret ?_ | refine TC.cond_t rfl ?_ | refine TC.cond_f rfl ?_)
        have hni : tv ∉ row := by simpa using hin
        rw [if_neg hni] at hadd
        refine ⟨⟨k, j + 1, g1.set s.frm.toNat (row ++ [tv]), ss1.set s.frm.toNat t', m4⟩, (by repeat (first | exact trivial | refine And.intro rfl ?_)), (by repeat (first | exact trivial | refine And.intro rfl ?_)), rfl, rfl, List.Sublist.refl _, ⟨by simp only; omega, Mem.le_trans hm3 hm4, ?_, by simp [hgl1], ?_, All2.set _ (hrows1.mono hm4) ⟨ho', ht'⟩⟩, by simp only; omega⟩
        · simp only
          rw [hj1, ← hg1, hadd]
        · have := hok1.add s.frm.toNat (t := tv) ⟨by omega, by omega⟩ hfl
          rw [hadd] at this; exact this
      · repeat (first | refine TC.seq ?_ | refine TC.block ?_ | refine TC.region ?_ | refine TO.pureP tab rfl rfl ?_ | refine TO.nil ?_ | refine thenQ_n ?_ | refine blockQ_n ?_ | refine thenQ_r ?_ | refine blockQ_r ?_ | refine thenQ_x ?_ | refine blockQ_hit ?_ | refine blockQ_miss rfl ?_ | refine TC.skip ?_ | refine TC.exit ?_ | refine TC.ret ?_ | refine TC.cond_t rfl ?_ | refine TC.cond_f rfl ?_)
        refine TO.step rfl (OT.arith (r' := ((j + 1 : Nat) : Int)) rfl rfl rfl rfl rfl rfl rfl (by omega) ?_)
        repeat (first | refine TC.seq ?_ | refine TC.block ?_ | refine TC.region ?_ | refine TO.pureP tab rfl rfl ?_ | refine TO.nil ?_ | refine thenQ_n ?_ | refine blockQ_n ?_ | refine thenQ_r ?_ | refine blockQ_r ?_ | refine thenQ_x ?_ | refine blockQ_hit ?_ | refine blockQ_miss rfl ?_ | refine TC.skip ?_ | refine TC.exit ?_ | refine TC.ret ?_ | refine TC.cond_t rfl ?_ | refine TC.cond_f rfl ?_)
        have hni : tv ∈ row := by simpa using hin
        rw [if_pos hni] at hadd
        refine ⟨⟨k, j + 1, g1, ss1, m3⟩, (by repeat (first | exact trivial | refine And.intro rfl ?_)), (by repeat (first | exact trivial | refine And.intro rfl ?_)), rfl, rfl, List.Sublist.refl _, ⟨by simp only; omega, hm3, ?_, hgl1, hok1, hrows1⟩, by simp only; omega⟩
        simp only
        rw [hj1, ← hg1, hadd]
    · repeat (first | refine TC.seq ?_ | refine TC.block ?_ | refine TC.region ?_ | refine TO.pureP tab rfl rfl ?_ | refine TO.nil ?_ | refine thenQ_n ?_ | refine blockQ_n ?_ | refine thenQ_r ?_ | refine blockQ_r ?_ | refine thenQ_x ?_ | refine blockQ_hit ?_ | refine blockQ_miss rfl ?_ | refine TC.skip ?_ | refine TC.exit ?_ | refine TC.ret ?_ | refine TC.cond_t rfl ?_ | refine TC.cond_f rfl ?_)
      refine TO.step rfl (OT.arith (r' := ((k + 1 : Nat) : Int)) rfl rfl rfl rfl rfl rfl rfl (by omega) ?_)
      repeat (first | refine TC.seq ?_ | refine TC.block ?_ | refine TC.region ?_ | refine TO.pureP tab rfl rfl ?_ | refine TO.nil ?_ | refine thenQ_n ?_ | refine blockQ_n ?_ | refine thenQ_r ?_ | refine blockQ_r ?_ | refine thenQ_x ?_ | refine blockQ_hit ?_ | refine blockQ_miss rfl ?_ | refine TC.skip ?_ | refine TC.exit ?_ | refine TC.ret ?_ | refine TC.cond_t rfl ?_ | refine TC.cond_f rfl ?_)
      refine ⟨⟨k + 1, 0, g1, ss1, m3⟩, (by repeat (first | exact trivial | refine And.intro rfl ?_)), (by repeat (first | exact trivial | refine And.intro rfl ?_)), rfl, rfl, (by repeat (first | exact List.Sublist.refl _ | refine List.Sublist.cons_cons _ ?_ | refine List.Sublist.cons _ ?_)), ⟨by simp only; omega, Mem.le_trans hm (Mem.le_trans hm2 hm3), ?_, hgl1, hok1, hrows1⟩, by simp only; omega⟩
      simp only
      rw [hstep, hg1, List.take_of_length_le (by omega)]
      rfl
  · refine TC.freeze fun m2 hm2 hA => ?_
    repeat (first | refine TC.seq ?_ | refine TC.block ?_ | refine TC.region ?_ | refine TO.pureP tab rfl rfl ?_ | refine TO.nil ?_ | refine thenQ_n ?_ | refine blockQ_n ?_ | refine thenQ_r ?_ | refine blockQ_r ?_ | refine thenQ_x ?_ | refine blockQ_hit ?_ | refine blockQ_miss rfl ?_ | refine TC.skip ?_ | refine TC.exit ?_ | refine TC.ret ?_ | refine TC.cond_t rfl ?_ | refine TC.cond_f rfl ?_)
    refine retQ_ret rfl ((List.sublist_append_right _ L).cons _) ⟨Mem.le_trans hm hm2, rfl, ⟨some ⟨bg, 0, none⟩, h.funcs.toNat, h.funcs.toNat⟩, rfl, ?_⟩
    rw [graphM, ← List.take_of_length_le (l := h.sites) (i := k) (by omega), ← hgk]
    exact (hrows.mono hm2).whole hA (by omega) (by omega)
end Go.Sep
