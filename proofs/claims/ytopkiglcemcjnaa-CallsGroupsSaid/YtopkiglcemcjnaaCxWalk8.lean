/-
  Walks of layer 13: Reach.
-/
import Derived.Test.YtopkiglcemcjnaaCxWalk7
import Derived.Test.YtopkiglcemcjnaaSepK
set_option linter.unusedVariables false
set_option linter.unusedSimpArgs false
namespace Go.Sep
open Go.Proofs
attribute [local irreducible] TC TO OT TCallX TCall DO DOt thenQ blockQ retQ At

/-- the calls of a graph, and what comes to what -/
def Edge (g : List (List Int)) (i j : Nat) : Prop := ∃ r, g[i]? = some r ∧ (j : Int) ∈ r
inductive Path (g : List (List Int)) (i : Nat) : Nat → Prop
  | refl : Path g i i
  | step {j k : Nat} : Path g i j → Edge g j k → Path g i k

theorem siteG_ok {h : Hier} (hg : Good h) {g : List (List Int)} (ho : RowsOk h.funcs.toNat g) (hl : g.length = h.funcs.toNat) {s : Site} (hs : SiteOk h s) : RowsOk h.funcs.toNat (siteG h g s) ∧ (siteG h g s).length = h.funcs.toNat := by
  have hn := hg.funcs
  have hfr := hs.frm
  have : ∀ (l : List Int) (g : List (List Int)), (∀ x ∈ l, 0 ≤ x ∧ x < h.funcs) → RowsOk h.funcs.toNat g → g.length = h.funcs.toNat → RowsOk h.funcs.toNat (l.foldl (fun g t => addTo g s.frm.toNat t) g) ∧ (l.foldl (fun g t => addTo g s.frm.toNat t) g).length = h.funcs.toNat := by
    intro l
    induction l with
    | nil => intro g _ h1 h2; exact ⟨h1, h2⟩
    | cons x l ih =>
      intro g hx h1 h2
      have := hx x (List.mem_cons_self ..)
      exact ih _ (fun y hy => hx y (List.mem_cons_of_mem _ hy)) (h1.add _ ⟨by omega, by omega⟩ (by omega)) (by rw [addTo_len]; exact h2)
  exact this _ _ (targets_lt hg hs) ho hl

theorem graphM_ok {h : Hier} (hg : Good h) : RowsOk h.funcs.toNat (graphM h) ∧ (graphM h).length = h.funcs.toNat := by
  have : ∀ (l : List Site) (g : List (List Int)), (∀ s ∈ l, SiteOk h s) → RowsOk h.funcs.toNat g → g.length = h.funcs.toNat → RowsOk h.funcs.toNat (l.foldl (siteG h) g) ∧ (l.foldl (siteG h) g).length = h.funcs.toNat := by
    intro l
    induction l with
    | nil => intro g _ h1 h2; exact ⟨h1, h2⟩
    | cons s l ih =>
      intro g hx h1 h2
      obtain ⟨h3, h4⟩ := siteG_ok hg h1 h2 (hx s (List.mem_cons_self ..))
      exact ih _ (fun y hy => hx y (List.mem_cons_of_mem _ hy)) h3 h4
  exact this _ _ hg.sites (RowsOk.empty _ _) (by simp)

noncomputable def reachE (h : Hier) (frm : Int) : Int := if soundM h ≠ 0 then soundM h else if frm < 0 ∨ frm ≥ h.funcs then 6 else 0

/-- what Reach answers -/
def ReachOk (h : Hier) (frm : Int) (bs : List Bool) : Prop :=
  if reachE h frm ≠ 0 then bs = [] else bs.length = h.funcs.toNat ∧ ∀ i : Nat, bs[i]? = some true ↔ Path (graphM h) frm.toNat i

def falses (out : List Bool) : Nat := (out.filter (! ·)).length

theorem falses_set {out : List Bool} {k : Nat} (h : out[k]? = some false) : falses (out.set k true) + 1 = falses out := by
  unfold falses
  induction out generalizing k with
  | nil => simp at h
  | cons x xs ih =>
    cases k with
    | zero => simp at h; subst h; simp
    | succ k =>
      simp at h
      have := ih h
      simp only [List.set_cons_succ, List.filter_cons]
      split
      · simp only [List.length_cons]; omega
      · exact this

theorem set_true {out : List Bool} {k i : Nat} (hk : k < out.length) : (out.set k true)[i]? = some true ↔ i = k ∨ out[i]? = some true := by
  by_cases e : k = i
  · subst e; simp [hk]
  · simp [List.getElem?_set, e]; intro h; exact absurd h.symm e

structure RS where
  j : Nat
  out : List Bool
  s : Sl
  vs : List Value
  xs : List Int

/-- all the rounds keep: what is marked is reached; what waits is marked; there is room -/
structure RI (g : List (List Int)) (n frm : Nat) (x : RS) : Prop where
  q : MQ (Value.int .i64) x.s x.vs x.xs
  len : x.out.length = n
  mark : x.out[frm]? = some true
  sound : ∀ i : Nat, x.out[i]? = some true → Path g frm i
  wait : ∀ y ∈ x.xs, ∃ i : Nat, y = (i : Int) ∧ x.out[i]? = some true
  room : falses x.out + x.xs.length ≤ n

def RDone (g : List (List Int)) (out : List Bool) (i : Nat) : Prop := ∀ k, Edge g i k → out[k]? = some true

set_option maxHeartbeats 2000000 in
theorem reach_own (m : Mem) (L : List Item) (hh : HHier) (h : Hier) (hr : HierRep m hh h) (frm : Int) :
    TCall Try.prog 12 ⟨[hierV hh, .int .i64 frm]⟩ m L (Made m L fun r m' => ∃ (t : Sl) (bs : List Bool), r = .tuple ⟨[t.v, .int .i64 (reachE h frm)]⟩ ∧ SlRep rBool m' t bs ∧ ReachOk h frm bs) := by
  have hfu := hr.funcs
  unfold TCall
  refine TCallX.enter Try.func12 rfl 73 rfl ?_
  repeat (first | refine TC.seq ?_ | refine TC.block ?_ | refine TC.region ?_ | refine TO.pureP tab rfl rfl ?_ | refine TO.nil ?_ | refine thenQ_n ?_ | refine blockQ_n ?_ | refine thenQ_r ?_ | refine blockQ_r ?_ | refine thenQ_x ?_ | refine blockQ_hit ?_ | refine blockQ_miss rfl ?_ | refine TC.skip ?_ | refine TC.exit ?_ | refine TC.ret ?_ | refine TC.cond_t rfl ?_ | refine TC.cond_f rfl ?_)
  refine TO.step rfl (OT.box rfl rfl rfl rfl rfl (fun b => ?_))
  repeat (first | (first | refine TC.seq ?_ | refine TC.block ?_ | refine TC.region ?_ | refine TO.pureP tab rfl rfl ?_ | refine TO.nil ?_ | refine thenQ_n ?_ | refine blockQ_n ?_ | refine thenQ_r ?_ | refine blockQ_r ?_ | refine thenQ_x ?_ | refine blockQ_hit ?_ | refine blockQ_miss rfl ?_ | refine TC.skip ?_ | refine TC.exit ?_ | refine TC.ret ?_ | refine TC.cond_t rfl ?_ | refine TC.cond_f rfl ?_) | (first | refine TO.step rfl (OT.loadL tab 0 rfl rfl rfl rfl rfl rfl ?_) | refine TO.step rfl (OT.loadL0 tab 0 rfl rfl rfl rfl rfl rfl ?_) | refine TO.step rfl (OT.loadL tab 1 rfl rfl rfl rfl rfl rfl ?_) | refine TO.step rfl (OT.loadL0 tab 1 rfl rfl rfl rfl rfl rfl ?_) | refine TO.step rfl (OT.loadL tab 2 rfl rfl rfl rfl rfl rfl ?_) | refine TO.step rfl (OT.loadL0 tab 2 rfl rfl rfl rfl rfl rfl ?_) | refine TO.step rfl (OT.loadL tab 3 rfl rfl rfl rfl rfl rfl ?_) | refine TO.step rfl (OT.loadL0 tab 3 rfl rfl rfl rfl rfl rfl ?_) | refine TO.step rfl (OT.loadL tab 4 rfl rfl rfl rfl rfl rfl ?_) | refine TO.step rfl (OT.loadL0 tab 4 rfl rfl rfl rfl rfl rfl ?_) | refine TO.step rfl (OT.loadL tab 5 rfl rfl rfl rfl rfl rfl ?_) | refine TO.step rfl (OT.loadL0 tab 5 rfl rfl rfl rfl rfl rfl ?_) | refine TO.step rfl (OT.loadL tab 6 rfl rfl rfl rfl rfl rfl ?_) | refine TO.step rfl (OT.loadL0 tab 6 rfl rfl rfl rfl rfl rfl ?_) | refine TO.step rfl (OT.loadL tab 7 rfl rfl rfl rfl rfl rfl ?_) | refine TO.step rfl (OT.loadL0 tab 7 rfl rfl rfl rfl rfl rfl ?_) | refine TO.step rfl (OT.loadL tab 8 rfl rfl rfl rfl rfl rfl ?_) | refine TO.step rfl (OT.loadL0 tab 8 rfl rfl rfl rfl rfl rfl ?_) | refine TO.step rfl (OT.loadL tab 9 rfl rfl rfl rfl rfl rfl ?_) | refine TO.step rfl (OT.loadL0 tab 9 rfl rfl rfl rfl rfl rfl ?_)))
  refine TO.step rfl (OT.call rfl rfl rfl rfl rfl rfl goes19 ((sound_own m _ hh h hr).x ?_));
  rintro _ _ _ ⟨rfl, rfl, rfl⟩
  repeat (first | refine TC.seq ?_ | refine TC.block ?_ | refine TC.region ?_ | refine TO.pureP tab rfl rfl ?_ | refine TO.nil ?_ | refine thenQ_n ?_ | refine blockQ_n ?_ | refine thenQ_r ?_ | refine blockQ_r ?_ | refine thenQ_x ?_ | refine blockQ_hit ?_ | refine blockQ_miss rfl ?_ | refine TC.skip ?_ | refine TC.exit ?_ | refine TC.ret ?_ | refine TC.cond_t rfl ?_ | refine TC.cond_f rfl ?_)
  refine TC.condN rfl (fun hb => ?_) (fun hb => ?_)
  · repeat (first | refine TC.seq ?_ | refine TC.block ?_ | refine TC.region ?_ | refine TO.pureP tab rfl rfl ?_ | refine TO.nil ?_ | refine thenQ_n ?_ | refine blockQ_n ?_ | refine thenQ_r ?_ | refine blockQ_r ?_ | refine thenQ_x ?_ | refine blockQ_hit ?_ | refine blockQ_miss rfl ?_ | refine TC.skip ?_ | refine TC.exit ?_ | refine TC.ret ?_ | refine TC.cond_t rfl ?_ | refine TC.cond_f rfl ?_)
    refine retQ_ret rfl (by repeat (first | exact List.Sublist.refl _ | refine List.Sublist.cons_cons _ ?_ | refine List.Sublist.cons _ ?_)) ⟨Mem.le_refl _, rfl, ⟨none, 0, 0⟩, [], ?_, SlRep.nil _ _, ?_⟩
    · rw [reachE, if_pos hb]
    · rw [ReachOk, if_pos]
      rw [reachE, if_pos hb]; exact hb
  · have hs0 : soundM h = 0 := by simpa using hb
    have hsg := soundM_ok.1 hs0
    obtain ⟨hsm, hg⟩ := hsg
    have hn := hg.funcs
    have hn2 := hsm.1
    have e6 : ∀ (hc : frm < 0 ∨ frm ≥ h.funcs), reachE h frm = 6 := fun hc => by rw [reachE, if_neg (by simpa using hs0), if_pos hc]
    have e0 : ∀ (hc : ¬ (frm < 0 ∨ frm ≥ h.funcs)), reachE h frm = 0 := fun hc => by rw [reachE, if_neg (by simpa using hs0), if_neg hc]
    repeat' (first | (first | refine TC.seq ?_ | refine TC.block ?_ | refine TC.region ?_ | refine TO.pureP tab rfl rfl ?_ | refine TO.nil ?_ | refine thenQ_n ?_ | refine blockQ_n ?_ | refine thenQ_r ?_ | refine blockQ_r ?_ | refine thenQ_x ?_ | refine blockQ_hit ?_ | refine blockQ_miss rfl ?_ | refine TC.skip ?_ | refine TC.exit ?_ | refine TC.ret ?_ | refine TC.cond_t rfl ?_ | refine TC.cond_f rfl ?_) | (first | refine TO.step rfl (OT.loadL tab 0 rfl rfl rfl rfl rfl rfl ?_) | refine TO.step rfl (OT.loadL0 tab 0 rfl rfl rfl rfl rfl rfl ?_) | refine TO.step rfl (OT.loadL tab 1 rfl rfl rfl rfl rfl rfl ?_) | refine TO.step rfl (OT.loadL0 tab 1 rfl rfl rfl rfl rfl rfl ?_) | refine TO.step rfl (OT.loadL tab 2 rfl rfl rfl rfl rfl rfl ?_) | refine TO.step rfl (OT.loadL0 tab 2 rfl rfl rfl rfl rfl rfl ?_) | refine TO.step rfl (OT.loadL tab 3 rfl rfl rfl rfl rfl rfl ?_) | refine TO.step rfl (OT.loadL0 tab 3 rfl rfl rfl rfl rfl rfl ?_) | refine TO.step rfl (OT.loadL tab 4 rfl rfl rfl rfl rfl rfl ?_) | refine TO.step rfl (OT.loadL0 tab 4 rfl rfl rfl rfl rfl rfl ?_) | refine TO.step rfl (OT.loadL tab 5 rfl rfl rfl rfl rfl rfl ?_) | refine TO.step rfl (OT.loadL0 tab 5 rfl rfl rfl rfl rfl rfl ?_) | refine TO.step rfl (OT.loadL tab 6 rfl rfl rfl rfl rfl rfl ?_) | refine TO.step rfl (OT.loadL0 tab 6 rfl rfl rfl rfl rfl rfl ?_) | refine TO.step rfl (OT.loadL tab 7 rfl rfl rfl rfl rfl rfl ?_) | refine TO.step rfl (OT.loadL0 tab 7 rfl rfl rfl rfl rfl rfl ?_) | refine TO.step rfl (OT.loadL tab 8 rfl rfl rfl rfl rfl rfl ?_) | refine TO.step rfl (OT.loadL0 tab 8 rfl rfl rfl rfl rfl rfl ?_) | refine TO.step rfl (OT.loadL tab 9 rfl rfl rfl rfl rfl rfl ?_) | refine TO.step rfl (OT.loadL0 tab 9 rfl rfl rfl rfl rfl rfl ?_)) | (first | refine TO.splitP rfl rfl (fun hb => ?_) (fun hb => ?_) | refine TO.splitN rfl rfl (fun hb => ?_) (fun hb => ?_)))
    · refine retQ_ret rfl (by repeat (first | exact List.Sublist.refl _ | refine List.Sublist.cons_cons _ ?_ | refine List.Sublist.cons _ ?_)) ⟨Mem.le_refl _, rfl, ⟨none, 0, 0⟩, [], by rw [e6 (.inl (by assumption))], SlRep.nil _ _, ?_⟩
      rw [ReachOk, if_pos]
      rw [e6 (.inl (by assumption))]; decide
    refine TC.condP rfl (fun hge => ?_) (fun hge => ?_)
    · repeat (first | refine TC.seq ?_ | refine TC.block ?_ | refine TC.region ?_ | refine TO.pureP tab rfl rfl ?_ | refine TO.nil ?_ | refine thenQ_n ?_ | refine blockQ_n ?_ | refine thenQ_r ?_ | refine blockQ_r ?_ | refine thenQ_x ?_ | refine blockQ_hit ?_ | refine blockQ_miss rfl ?_ | refine TC.skip ?_ | refine TC.exit ?_ | refine TC.ret ?_ | refine TC.cond_t rfl ?_ | refine TC.cond_f rfl ?_)
      refine retQ_ret rfl (by repeat (first | exact List.Sublist.refl _ | refine List.Sublist.cons_cons _ ?_ | refine List.Sublist.cons _ ?_)) ⟨Mem.le_refl _, rfl, ⟨none, 0, 0⟩, [], by rw [e6 (.inr (by omega))], SlRep.nil _ _, ?_⟩
      rw [ReachOk, if_pos]
      rw [e6 (.inr (by omega))]; decide
    have hfr : 0 ≤ frm ∧ frm < h.funcs := by omega
    have hE := e0 (by omega)
    repeat (first | (first | refine TC.seq ?_ | refine TC.block ?_ | refine TC.region ?_ | refine TO.pureP tab rfl rfl ?_ | refine TO.nil ?_ | refine thenQ_n ?_ | refine blockQ_n ?_ | refine thenQ_r ?_ | refine blockQ_r ?_ | refine thenQ_x ?_ | refine blockQ_hit ?_ | refine blockQ_miss rfl ?_ | refine TC.skip ?_ | refine TC.exit ?_ | refine TC.ret ?_ | refine TC.cond_t rfl ?_ | refine TC.cond_f rfl ?_) | (first | refine TO.step rfl (OT.loadL tab 0 rfl rfl rfl rfl rfl rfl ?_) | refine TO.step rfl (OT.loadL0 tab 0 rfl rfl rfl rfl rfl rfl ?_) | refine TO.step rfl (OT.loadL tab 1 rfl rfl rfl rfl rfl rfl ?_) | refine TO.step rfl (OT.loadL0 tab 1 rfl rfl rfl rfl rfl rfl ?_) | refine TO.step rfl (OT.loadL tab 2 rfl rfl rfl rfl rfl rfl ?_) | refine TO.step rfl (OT.loadL0 tab 2 rfl rfl rfl rfl rfl rfl ?_) | refine TO.step rfl (OT.loadL tab 3 rfl rfl rfl rfl rfl rfl ?_) | refine TO.step rfl (OT.loadL0 tab 3 rfl rfl rfl rfl rfl rfl ?_) | refine TO.step rfl (OT.loadL tab 4 rfl rfl rfl rfl rfl rfl ?_) | refine TO.step rfl (OT.loadL0 tab 4 rfl rfl rfl rfl rfl rfl ?_) | refine TO.step rfl (OT.loadL tab 5 rfl rfl rfl rfl rfl rfl ?_) | refine TO.step rfl (OT.loadL0 tab 5 rfl rfl rfl rfl rfl rfl ?_) | refine TO.step rfl (OT.loadL tab 6 rfl rfl rfl rfl rfl rfl ?_) | refine TO.step rfl (OT.loadL0 tab 6 rfl rfl rfl rfl rfl rfl ?_) | refine TO.step rfl (OT.loadL tab 7 rfl rfl rfl rfl rfl rfl ?_) | refine TO.step rfl (OT.loadL0 tab 7 rfl rfl rfl rfl rfl rfl ?_) | refine TO.step rfl (OT.loadL tab 8 rfl rfl rfl rfl rfl rfl ?_) | refine TO.step rfl (OT.loadL0 tab 8 rfl rfl rfl rfl rfl rfl ?_) | refine TO.step rfl (OT.loadL tab 9 rfl rfl rfl rfl rfl rfl ?_) | refine TO.step rfl (OT.loadL0 tab 9 rfl rfl rfl rfl rfl rfl ?_)))
    refine TO.step rfl (OT.call rfl rfl rfl rfl rfl rfl goes21 ((graph_own m _ hh h hr hsm hg).x ?_));
    rintro _ m1 _ ⟨hm1, rfl, tg, rfl, htg⟩
    repeat (first | (first | refine TC.seq ?_ | refine TC.block ?_ | refine TC.region ?_ | refine TO.pureP tab rfl rfl ?_ | refine TO.nil ?_ | refine thenQ_n ?_ | refine blockQ_n ?_ | refine thenQ_r ?_ | refine blockQ_r ?_ | refine thenQ_x ?_ | refine blockQ_hit ?_ | refine blockQ_miss rfl ?_ | refine TC.skip ?_ | refine TC.exit ?_ | refine TC.ret ?_ | refine TC.cond_t rfl ?_ | refine TC.cond_f rfl ?_) | (first | refine TO.step rfl (OT.loadL tab 0 rfl rfl rfl rfl rfl rfl ?_) | refine TO.step rfl (OT.loadL0 tab 0 rfl rfl rfl rfl rfl rfl ?_) | refine TO.step rfl (OT.loadL tab 1 rfl rfl rfl rfl rfl rfl ?_) | refine TO.step rfl (OT.loadL0 tab 1 rfl rfl rfl rfl rfl rfl ?_) | refine TO.step rfl (OT.loadL tab 2 rfl rfl rfl rfl rfl rfl ?_) | refine TO.step rfl (OT.loadL0 tab 2 rfl rfl rfl rfl rfl rfl ?_) | refine TO.step rfl (OT.loadL tab 3 rfl rfl rfl rfl rfl rfl ?_) | refine TO.step rfl (OT.loadL0 tab 3 rfl rfl rfl rfl rfl rfl ?_) | refine TO.step rfl (OT.loadL tab 4 rfl rfl rfl rfl rfl rfl ?_) | refine TO.step rfl (OT.loadL0 tab 4 rfl rfl rfl rfl rfl rfl ?_) | refine TO.step rfl (OT.loadL tab 5 rfl rfl rfl rfl rfl rfl ?_) | refine TO.step rfl (OT.loadL0 tab 5 rfl rfl rfl rfl rfl rfl ?_) | refine TO.step rfl (OT.loadL tab 6 rfl rfl rfl rfl rfl rfl ?_) | refine TO.step rfl (OT.loadL0 tab 6 rfl rfl rfl rfl rfl rfl ?_) | refine TO.step rfl (OT.loadL tab 7 rfl rfl rfl rfl rfl rfl ?_) | refine TO.step rfl (OT.loadL0 tab 7 rfl rfl rfl rfl rfl rfl ?_) | refine TO.step rfl (OT.loadL tab 8 rfl rfl rfl rfl rfl rfl ?_) | refine TO.step rfl (OT.loadL0 tab 8 rfl rfl rfl rfl rfl rfl ?_) | refine TO.step rfl (OT.loadL tab 9 rfl rfl rfl rfl rfl rfl ?_) | refine TO.step rfl (OT.loadL0 tab 9 rfl rfl rfl rfl rfl rfl ?_)))
    refine TO.step rfl (OT.makeM tab Value.bool false h.funcs.toNat (by omega) rfl rfl rfl rfl rfl rfl rfl rfl (show h.funcs.toNat * 1 ≤ 281474976710656 by omega) rfl (fun bo => ?_))
    repeat (first | refine TC.seq ?_ | refine TC.block ?_ | refine TC.region ?_ | refine TO.pureP tab rfl rfl ?_ | refine TO.nil ?_ | refine thenQ_n ?_ | refine blockQ_n ?_ | refine thenQ_r ?_ | refine blockQ_r ?_ | refine thenQ_x ?_ | refine blockQ_hit ?_ | refine blockQ_miss rfl ?_ | refine TC.skip ?_ | refine TC.exit ?_ | refine TC.ret ?_ | refine TC.cond_t rfl ?_ | refine TC.cond_f rfl ?_)
    refine TO.step rfl (OT.indexP tab frm.toNat rfl rfl rfl rfl rfl (by omega) rfl (by omega) ?_)
    refine TO.step rfl (OT.storeM tab 0 Value.bool true rfl rfl rfl rfl rfl rfl rfl (by simp; omega) ?_)
    repeat (first | refine TC.seq ?_ | refine TC.block ?_ | refine TC.region ?_ | refine TO.pureP tab rfl rfl ?_ | refine TO.nil ?_ | refine thenQ_n ?_ | refine blockQ_n ?_ | refine thenQ_r ?_ | refine blockQ_r ?_ | refine thenQ_x ?_ | refine blockQ_hit ?_ | refine blockQ_miss rfl ?_ | refine TC.skip ?_ | refine TC.exit ?_ | refine TC.ret ?_ | refine TC.cond_t rfl ?_ | refine TC.cond_f rfl ?_)
    refine TO.step rfl (OT.lit tab rfl rfl rfl rfl (fun bl => ?_))
    repeat (first | refine TC.seq ?_ | refine TC.block ?_ | refine TC.region ?_ | refine TO.pureP tab rfl rfl ?_ | refine TO.nil ?_ | refine thenQ_n ?_ | refine blockQ_n ?_ | refine thenQ_r ?_ | refine blockQ_r ?_ | refine thenQ_x ?_ | refine blockQ_hit ?_ | refine blockQ_miss rfl ?_ | refine TC.skip ?_ | refine TC.exit ?_ | refine TC.ret ?_ | refine TC.cond_t rfl ?_ | refine TC.cond_f rfl ?_)
    have hgl := (graphM_ok hg).2
    have hgo := (graphM_ok hg).1
    have htl := htg.len
    generalize hgg : graphM h = g at *
    have hinit : RI g h.funcs.toNat frm.toNat ⟨0, (List.replicate h.funcs.toNat false).set frm.toNat true, ⟨some ⟨bl, 0, none⟩, 1, 1⟩, [.int .i64 frm], [frm]⟩ := by
      have hlt : frm.toNat < h.funcs.toNat := by omega
      refine ⟨⟨MS.at_ _ _ _ _ _ (Nat.le_refl _) rfl, rfl⟩, by simp, by simp [hlt], fun i hi => ?_, fun y hy => ?_, ?_⟩
      · by_cases e : frm.toNat = i
        · subst e; exact .refl
        · simp [List.getElem?_set, e, List.getElem?_replicate] at hi
      · simp only [List.mem_singleton] at hy
        subst hy
        exact ⟨y.toNat, by omega, by simp [hlt]⟩
      · have h1 : (List.replicate h.funcs.toNat false)[frm.toNat]? = some false := by simp [hlt]
        have h2 := falses_set h1
        have h3 : falses (List.replicate h.funcs.toNat false) = h.funcs.toNat := by simp [falses]
        simp only [List.length_cons, List.length_nil]
        omega
    refine TC.loopK (ι := RS) [1, 2, 7, 8] rfl (fun x => [(9, x.s.v)]) (fun _ => m1) (fun x => mcell x.s x.vs :: .cells bo 0 (x.out.map Value.bool) :: .cells b 0 (hierC hh) :: L)
      (fun x => RI g h.funcs.toNat frm.toNat x ∧ ∀ i : Nat, x.out[i]? = some true → ((i : Int) ∈ x.xs ∨ RDone g x.out i)) (fun x => 2 * falses x.out + x.xs.length) ⟨0, _, _, _, _⟩ (by repeat (first | exact trivial | refine And.intro rfl ?_)) rfl (by repeat (first | exact List.Sublist.refl _ | refine List.Sublist.cons_cons _ ?_ | refine List.Sublist.cons _ ?_)) ⟨hinit, fun i hi => ?_⟩ ?_
    · left
      by_cases e : frm.toNat = i
      · subst e; simp; omega
      · simp [List.getElem?_set, e, List.getElem?_replicate] at hi
    rintro ⟨_, out, s, vs, xs⟩ ⟨hI, hD⟩
    have hq : MQ (Value.int .i64) s vs xs := hI.q
    have hql := hq.len
    have hroom := hI.room
    simp only at hql hroom hD ⊢
    repeat (first | refine TC.seq ?_ | refine TC.block ?_ | refine TC.region ?_ | refine TO.pureP tab rfl rfl ?_ | refine TO.nil ?_ | refine thenQ_n ?_ | refine blockQ_n ?_ | refine thenQ_r ?_ | refine blockQ_r ?_ | refine thenQ_x ?_ | refine blockQ_hit ?_ | refine blockQ_miss rfl ?_ | refine TC.skip ?_ | refine TC.exit ?_ | refine TC.ret ?_ | refine TC.cond_t rfl ?_ | refine TC.cond_f rfl ?_)
    refine TC.condP rfl (fun hne => ?_) (fun hne => ?_)
    · have hpos : 0 < xs.length := by omega
      obtain ⟨bk, ok, c, rfl, hc1, hc2⟩ := hq.ne hpos
      have hlast : xs[xs.length - 1]? = some (xs[xs.length - 1]'(by omega)) := by simp [hpos]
      obtain ⟨f, hf1, hf2⟩ := hI.wait _ (List.getElem_mem (show xs.length - 1 < xs.length by omega))
      simp only at hf2
      have hfn : f < h.funcs.toNat := by
        have := (List.getElem?_eq_some_iff.1 hf2).1
        have := hI.len
        simp only at this; omega
      have hrow := getD_some g f [] (by omega)
      have hmemr := List.mem_of_getElem? hrow
      generalize hge : g[f]?.getD [] = row at *
      rw [hf1] at hlast
      have hsplit : xs = xs.take (xs.length - 1) ++ [(f : Int)] := by
        conv => lhs; rw [← List.take_append_drop (xs.length - 1) xs]
        congr 1
        rw [List.drop_eq_getElem_cons (by omega), hf1, List.drop_eq_nil_of_le (by omega)]
      repeat (first | refine TC.seq ?_ | refine TC.block ?_ | refine TC.region ?_ | refine TO.pureP tab rfl rfl ?_ | refine TO.nil ?_ | refine thenQ_n ?_ | refine blockQ_n ?_ | refine thenQ_r ?_ | refine blockQ_r ?_ | refine thenQ_x ?_ | refine blockQ_hit ?_ | refine blockQ_miss rfl ?_ | refine TC.skip ?_ | refine TC.exit ?_ | refine TC.ret ?_ | refine TC.cond_t rfl ?_ | refine TC.cond_f rfl ?_)
      refine TO.step rfl (OT.arith (r' := ((xs.length - 1 : Nat) : Int)) rfl rfl rfl rfl rfl rfl (by simp only; omega) (by omega) ?_)
      refine TO.step rfl (OT.indexP tab (xs.length - 1) rfl rfl rfl rfl rfl (by omega) rfl (by omega) ?_)
      refine TO.step rfl (OT.loadR tab 0 (hq.get hlast) rfl rfl rfl rfl rfl rfl ?_)
      repeat (first | refine TC.seq ?_ | refine TC.block ?_ | refine TC.region ?_ | refine TO.pureP tab rfl rfl ?_ | refine TO.nil ?_ | refine thenQ_n ?_ | refine blockQ_n ?_ | refine thenQ_r ?_ | refine blockQ_r ?_ | refine thenQ_x ?_ | refine blockQ_hit ?_ | refine blockQ_miss rfl ?_ | refine TC.skip ?_ | refine TC.exit ?_ | refine TC.ret ?_ | refine TC.cond_t rfl ?_ | refine TC.cond_f rfl ?_)
      refine TO.step rfl (OT.arith (r' := ((xs.length - 1 : Nat) : Int)) rfl rfl rfl rfl rfl rfl (by simp only; omega) (by omega) ?_)
      refine TO.step rfl (OT.takeM tab (xs.length - 1) rfl (show xs.length - 1 ≤ c by omega) rfl rfl rfl rfl rfl rfl ?_)
      repeat (first | refine TC.seq ?_ | refine TC.block ?_ | refine TC.region ?_ | refine TO.pureP tab rfl rfl ?_ | refine TO.nil ?_ | refine thenQ_n ?_ | refine blockQ_n ?_ | refine thenQ_r ?_ | refine blockQ_r ?_ | refine thenQ_x ?_ | refine blockQ_hit ?_ | refine blockQ_miss rfl ?_ | refine TC.skip ?_ | refine TC.exit ?_ | refine TC.ret ?_ | refine TC.cond_t rfl ?_ | refine TC.cond_f rfl ?_)
      refine TO.step rfl (OT.index tab rInts f htg rfl rfl rfl rfl rfl (by first | rfl | omega) rfl hrow ?_)
      rintro bw iw tr htr hAw
      (first | refine TO.step rfl (OT.loadA tab hAw rfl rfl rfl rfl rfl ?_) | refine TO.step rfl (OT.loadA0 tab hAw rfl rfl rfl rfl rfl ?_))
      repeat (first | refine TC.seq ?_ | refine TC.block ?_ | refine TC.region ?_ | refine TO.pureP tab rfl rfl ?_ | refine TO.nil ?_ | refine thenQ_n ?_ | refine blockQ_n ?_ | refine thenQ_r ?_ | refine blockQ_r ?_ | refine thenQ_x ?_ | refine blockQ_hit ?_ | refine blockQ_miss rfl ?_ | refine TC.skip ?_ | refine TC.exit ?_ | refine TC.ret ?_ | refine TC.cond_t rfl ?_ | refine TC.cond_f rfl ?_)
      have hrl := htr.len
      have hrs := htr.small rfl
      have hq2 := hq.pop (k := xs.length - 1) (by omega)
      refine TC.loopK (ι := RS) [1, 2, 7, 8, 53, 54] rfl (fun x => [(55, .int .i64 (x.j : Int)), (9, x.s.v)]) (fun _ => m1) (fun x => mcell x.s x.vs :: .cells bo 0 (x.out.map Value.bool) :: .cells b 0 (hierC hh) :: L)
        (fun x => x.j ≤ row.length ∧ RI g h.funcs.toNat frm.toNat x ∧ x.out[f]? = some true ∧ (∀ i : Nat, x.out[i]? = some true → ((i : Int) ∈ x.xs ∨ i = f ∨ RDone g x.out i)) ∧ (∀ k : Nat, (k : Int) ∈ row.take x.j → x.out[k]? = some true) ∧ 2 * falses x.out + x.xs.length < 2 * falses out + xs.length) (fun x => row.length - x.j) ⟨0, out, ⟨some ⟨bk, ok, none⟩, xs.length - 1, c⟩, vs, xs.take (xs.length - 1)⟩ (by repeat (first | exact trivial | refine And.intro rfl ?_)) rfl (by repeat (first | exact List.Sublist.refl _ | refine List.Sublist.cons_cons _ ?_ | refine List.Sublist.cons _ ?_)) ⟨Nat.zero_le _, ⟨hq2, hI.len, hI.mark, hI.sound, fun y hy => hI.wait y (List.mem_of_mem_take hy), by simp only [List.length_take]; omega⟩, hf2, fun i hi => ?_, fun k hk => by simp at hk, by simp only [List.length_take]; omega⟩ ?_
      · rcases hD i hi with h1 | h1
        · rw [hsplit] at h1
          rcases List.mem_append.1 h1 with h2 | h2
          · exact .inl h2
          · simp only [List.mem_singleton] at h2
            exact .inr (.inl (by omega))
        · exact .inr (.inr h1)
      rintro ⟨j, out1, s1, vs1, xs1⟩ ⟨hj, hI1, hf1', hD1, hT1, hmu⟩
      have hq1 : MQ (Value.int .i64) s1 vs1 xs1 := hI1.q
      have hql1 := hq1.len
      have hroom1 := hI1.room
      have hlen1 := hI1.len
      simp only at hj hql1 hroom1 hlen1 hf1' hD1 hT1 hmu ⊢
      repeat (first | refine TC.seq ?_ | refine TC.block ?_ | refine TC.region ?_ | refine TO.pureP tab rfl rfl ?_ | refine TO.nil ?_ | refine thenQ_n ?_ | refine blockQ_n ?_ | refine thenQ_r ?_ | refine blockQ_r ?_ | refine thenQ_x ?_ | refine blockQ_hit ?_ | refine blockQ_miss rfl ?_ | refine TC.skip ?_ | refine TC.exit ?_ | refine TC.ret ?_ | refine TC.cond_t rfl ?_ | refine TC.cond_f rfl ?_)
      refine TC.condP rfl (fun hlj' => ?_) (fun hlj' => ?_)
      · have hlj : j < row.length := by omega
        have hxj : row[j]? = some row[j] := by simp [hlj]
        have hlt := hgo.lt row hmemr _ (List.getElem_mem hlj)
        repeat (first | refine TC.seq ?_ | refine TC.block ?_ | refine TC.region ?_ | refine TO.pureP tab rfl rfl ?_ | refine TO.nil ?_ | refine thenQ_n ?_ | refine blockQ_n ?_ | refine thenQ_r ?_ | refine blockQ_r ?_ | refine thenQ_x ?_ | refine blockQ_hit ?_ | refine blockQ_miss rfl ?_ | refine TC.skip ?_ | refine TC.exit ?_ | refine TC.ret ?_ | refine TC.cond_t rfl ?_ | refine TC.cond_f rfl ?_)
        refine TO.step rfl (OT.index tab rInt j htr rfl rfl rfl rfl rfl (by first | rfl | omega) rfl hxj ?_)
        rintro bt it tv htv hAt
        have htv' : row[j] = (row[j].toNat : Int) := by omega
        generalize hkk : row[j].toNat = kk at *
        obtain rfl := (show tv = row[j] from htv)
        (first | refine TO.step rfl (OT.loadA tab hAt rfl rfl rfl rfl rfl ?_) | refine TO.step rfl (OT.loadA0 tab hAt rfl rfl rfl rfl rfl ?_))
        repeat (first | refine TC.seq ?_ | refine TC.block ?_ | refine TC.region ?_ | refine TO.pureP tab rfl rfl ?_ | refine TO.nil ?_ | refine thenQ_n ?_ | refine blockQ_n ?_ | refine thenQ_r ?_ | refine blockQ_r ?_ | refine thenQ_x ?_ | refine blockQ_hit ?_ | refine blockQ_miss rfl ?_ | refine TC.skip ?_ | refine TC.exit ?_ | refine TC.ret ?_ | refine TC.cond_t rfl ?_ | refine TC.cond_f rfl ?_)
        refine TO.step rfl (OT.indexP tab kk rfl rfl rfl rfl rfl (by omega) rfl (by omega) ?_)
        have hkn : kk < out1.length := by omega
        have hok : out1[kk]? = some out1[kk] := by simp [hkn]
        refine TO.step rfl (OT.loadM tab 1 Value.bool hok rfl rfl rfl rfl rfl rfl ?_)
        repeat (first | refine TC.seq ?_ | refine TC.block ?_ | refine TC.region ?_ | refine TO.pureP tab rfl rfl ?_ | refine TO.nil ?_ | refine thenQ_n ?_ | refine blockQ_n ?_ | refine thenQ_r ?_ | refine blockQ_r ?_ | refine thenQ_x ?_ | refine blockQ_hit ?_ | refine blockQ_miss rfl ?_ | refine TC.skip ?_ | refine TC.exit ?_ | refine TC.ret ?_ | refine TC.cond_t rfl ?_ | refine TC.cond_f rfl ?_)
        have hedge : Edge g f kk := ⟨row, hrow, by rw [← htv']; exact List.getElem_mem hlj⟩
        have htake : ∀ k : Nat, (k : Int) ∈ row.take (j + 1) → (k : Int) ∈ row.take j ∨ k = kk := fun k hk => by
          rw [List.take_succ_eq_append_getElem hlj] at hk
          rcases List.mem_append.1 hk with h1 | h1
          · exact .inl h1
          · simp only [List.mem_singleton] at h1; exact .inr (by omega)
        refine TC.cond rfl (fun hm => ?_) (fun hm => ?_)
        · have hof : out1[kk]? = some false := by rw [hok]; simpa using hm
          have hfs := falses_set hof
          repeat (first | refine TC.seq ?_ | refine TC.block ?_ | refine TC.region ?_ | refine TO.pureP tab rfl rfl ?_ | refine TO.nil ?_ | refine thenQ_n ?_ | refine blockQ_n ?_ | refine thenQ_r ?_ | refine blockQ_r ?_ | refine thenQ_x ?_ | refine blockQ_hit ?_ | refine blockQ_miss rfl ?_ | refine TC.skip ?_ | refine TC.exit ?_ | refine TC.ret ?_ | refine TC.cond_t rfl ?_ | refine TC.cond_f rfl ?_)
          refine TO.step rfl (OT.indexP tab kk rfl rfl rfl rfl rfl (by omega) rfl (by omega) ?_)
          refine TO.step rfl (OT.storeM tab 1 Value.bool true rfl rfl rfl rfl rfl rfl rfl hkn ?_)
          repeat (first | refine TC.seq ?_ | refine TC.block ?_ | refine TC.region ?_ | refine TO.pureP tab rfl rfl ?_ | refine TO.nil ?_ | refine thenQ_n ?_ | refine blockQ_n ?_ | refine thenQ_r ?_ | refine blockQ_r ?_ | refine thenQ_x ?_ | refine blockQ_hit ?_ | refine blockQ_miss rfl ?_ | refine TC.skip ?_ | refine TC.exit ?_ | refine TC.ret ?_ | refine TC.cond_t rfl ?_ | refine TC.cond_f rfl ?_)
          refine TO.step rfl (OT.lit tab rfl rfl rfl rfl (fun bl => ?_))
          refine TO.step rfl (OT.push tab hq1.ms rfl rfl rfl rfl rfl rfl rfl (show (s1.len + 1) * 8 ≤ 140737488355328 by omega) (fun s2 vs2 g1 g2 g3 => ?_))
          repeat (first | refine TC.seq ?_ | refine TC.block ?_ | refine TC.region ?_ | refine TO.pureP tab rfl rfl ?_ | refine TO.nil ?_ | refine thenQ_n ?_ | refine blockQ_n ?_ | refine thenQ_r ?_ | refine blockQ_r ?_ | refine thenQ_x ?_ | refine blockQ_hit ?_ | refine blockQ_miss rfl ?_ | refine TC.skip ?_ | refine TC.exit ?_ | refine TC.ret ?_ | refine TC.cond_t rfl ?_ | refine TC.cond_f rfl ?_)
          refine TO.step rfl (OT.arith (r' := ((j + 1 : Nat) : Int)) rfl rfl rfl rfl rfl rfl rfl (by omega) ?_)
          repeat (first | refine TC.seq ?_ | refine TC.block ?_ | refine TC.region ?_ | refine TO.pureP tab rfl rfl ?_ | refine TO.nil ?_ | refine thenQ_n ?_ | refine blockQ_n ?_ | refine thenQ_r ?_ | refine blockQ_r ?_ | refine thenQ_x ?_ | refine blockQ_hit ?_ | refine blockQ_miss rfl ?_ | refine TC.skip ?_ | refine TC.exit ?_ | refine TC.ret ?_ | refine TC.cond_t rfl ?_ | refine TC.cond_f rfl ?_)
          refine ⟨⟨j + 1, out1.set kk true, s2, vs2, xs1 ++ [row[j]]⟩, (by repeat (first | exact trivial | refine And.intro rfl ?_)), (by repeat (first | exact trivial | refine And.intro rfl ?_)), rfl, rfl, (by repeat (first | exact List.Sublist.refl _ | refine List.Sublist.cons_cons _ ?_ | refine List.Sublist.cons _ ?_)), ⟨by simp only; omega, ⟨hq1.push _ g1 g2 g3, by simp [hlen1], ?_, ?_, ?_, ?_⟩, ?_, ?_, ?_, ?_⟩, by simp only; omega⟩
          · exact (set_true hkn).2 (.inr hI1.mark)
          · intro i hi
            rcases (set_true hkn).1 hi with h1 | h1
            · subst h1; exact .step (hI1.sound f hf1') hedge
            · exact hI1.sound i h1
          · intro y hy
            rcases List.mem_append.1 hy with h1 | h1
            · obtain ⟨i, h2, h3⟩ := hI1.wait y h1
              exact ⟨i, h2, (set_true hkn).2 (.inr h3)⟩
            · simp only [List.mem_singleton] at h1
              exact ⟨kk, by omega, (set_true hkn).2 (.inl rfl)⟩
          · simp only [List.length_append, List.length_cons, List.length_nil]; omega
          · exact (set_true hkn).2 (.inr hf1')
          · intro i hi
            rcases (set_true hkn).1 hi with h1 | h1
            · subst h1; exact .inl (by simp [htv'])
            · rcases hD1 i h1 with h2 | h2 | h2
              · exact .inl (List.mem_append_left _ h2)
              · exact .inr (.inl h2)
              · exact .inr (.inr fun k hk => (set_true hkn).2 (.inr (h2 k hk)))
          · intro k hk
            rcases htake k hk with h1 | h1
            · exact (set_true hkn).2 (.inr (hT1 k h1))
            · exact (set_true hkn).2 (.inl h1)
          · simp only [List.length_append, List.length_cons, List.length_nil]; omega
        · have hof : out1[kk]? = some true := by rw [hok]; simpa using hm
          repeat (first | refine TC.seq ?_ | refine TC.block ?_ | refine TC.region ?_ | refine TO.pureP tab rfl rfl ?_ | refine TO.nil ?_ | refine thenQ_n ?_ | refine blockQ_n ?_ | refine thenQ_r ?_ | refine blockQ_r ?_ | refine thenQ_x ?_ | refine blockQ_hit ?_ | refine blockQ_miss rfl ?_ | refine TC.skip ?_ | refine TC.exit ?_ | refine TC.ret ?_ | refine TC.cond_t rfl ?_ | refine TC.cond_f rfl ?_)
          refine TO.step rfl (OT.arith (r' := ((j + 1 : Nat) : Int)) rfl rfl rfl rfl rfl rfl rfl (by omega) ?_)
          repeat (first | refine TC.seq ?_ | refine TC.block ?_ | refine TC.region ?_ | refine TO.pureP tab rfl rfl ?_ | refine TO.nil ?_ | refine thenQ_n ?_ | refine blockQ_n ?_ | refine thenQ_r ?_ | refine blockQ_r ?_ | refine thenQ_x ?_ | refine blockQ_hit ?_ | refine blockQ_miss rfl ?_ | refine TC.skip ?_ | refine TC.exit ?_ | refine TC.ret ?_ | refine TC.cond_t rfl ?_ | refine TC.cond_f rfl ?_)
          refine ⟨⟨j + 1, out1, s1, vs1, xs1⟩, (by repeat (first | exact trivial | refine And.intro rfl ?_)), (by repeat (first | exact trivial | refine And.intro rfl ?_)), rfl, rfl, (by repeat (first | exact List.Sublist.refl _ | refine List.Sublist.cons_cons _ ?_ | refine List.Sublist.cons _ ?_)), ⟨by simp only; omega, ⟨hq1, hI1.len, hI1.mark, hI1.sound, hI1.wait, hI1.room⟩, hf1', hD1, ?_, hmu⟩, by simp only; omega⟩
          intro k hk
          rcases htake k hk with h1 | h1
          · exact hT1 k h1
          · rw [h1]; exact hof
      · repeat (first | refine TC.seq ?_ | refine TC.block ?_ | refine TC.region ?_ | refine TO.pureP tab rfl rfl ?_ | refine TO.nil ?_ | refine thenQ_n ?_ | refine blockQ_n ?_ | refine thenQ_r ?_ | refine blockQ_r ?_ | refine thenQ_x ?_ | refine blockQ_hit ?_ | refine blockQ_miss rfl ?_ | refine TC.skip ?_ | refine TC.exit ?_ | refine TC.ret ?_ | refine TC.cond_t rfl ?_ | refine TC.cond_f rfl ?_)
        refine ⟨⟨0, out1, s1, vs1, xs1⟩, (by repeat (first | exact trivial | refine And.intro rfl ?_)), (by repeat (first | exact trivial | refine And.intro rfl ?_)), rfl, rfl, (by repeat (first | exact List.Sublist.refl _ | refine List.Sublist.cons_cons _ ?_ | refine List.Sublist.cons _ ?_)), ⟨⟨hq1, hI1.len, hI1.mark, hI1.sound, hI1.wait, hI1.room⟩, fun i hi => ?_⟩, hmu⟩
        rcases hD1 i hi with h1 | h1 | h1
        · exact .inl h1
        · subst h1
          refine .inr fun k hk => ?_
          obtain ⟨r, hr1, hr2⟩ := hk
          rw [hrow] at hr1
          simp only [Option.some.injEq] at hr1
          subst hr1
          exact hT1 k (by rw [List.take_of_length_le (by omega)]; exact hr2)
        · exact .inr h1
    · have hx0 : xs = [] := List.eq_nil_of_length_eq_zero (by omega)
      subst hx0
      refine TC.drop (List.sublist_cons_self _ _) ?_
      refine TC.freeze fun m2 hm2 hA => ?_
      repeat (first | refine TC.seq ?_ | refine TC.block ?_ | refine TC.region ?_ | refine TO.pureP tab rfl rfl ?_ | refine TO.nil ?_ | refine thenQ_n ?_ | refine blockQ_n ?_ | refine thenQ_r ?_ | refine blockQ_r ?_ | refine thenQ_x ?_ | refine blockQ_hit ?_ | refine blockQ_miss rfl ?_ | refine TC.skip ?_ | refine TC.exit ?_ | refine TC.ret ?_ | refine TC.cond_t rfl ?_ | refine TC.cond_f rfl ?_)
      have hlen := hI.len
      simp only at hlen
      refine retQ_ret rfl (by repeat (first | exact List.Sublist.refl _ | refine List.Sublist.cons_cons _ ?_ | refine List.Sublist.cons _ ?_)) ⟨Mem.le_trans hm1 hm2, rfl, ⟨some ⟨bo, 0, none⟩, h.funcs.toNat, h.funcs.toNat⟩, out, by rw [hE], ?_, ?_⟩
      · refine ⟨by simp only; omega, Nat.le_refl _, by simp only [rBool]; omega, out, ?_, .inr ⟨bo, 0, rfl, ?_⟩⟩
        · clear hlen hD hI hroom hA
          induction out with
          | nil => exact trivial
          | cons x xs ih => exact ⟨rfl, ih⟩
        · have e : encs rBool out = out.map Value.bool := by
            clear hlen hD hI hroom hA
            induction out with
            | nil => rfl
            | cons x xs ih => simpa [encs, rBool] using ih
          rw [e]; exact hA
      · rw [ReachOk, if_neg (by rw [hE]; decide), hgg]
        refine ⟨hlen, fun i => ⟨hI.sound i, fun hp => ?_⟩⟩
        induction hp with
        | refl => exact hI.mark
        | step _ he ih =>
          rcases hD _ ih with h1 | h1
          · cases h1
          · exact h1 _ he
end Go.Sep
