/-
  The walk of CallsReach.
-/
import Derived.Test.YtopkiglcemcjnaaCxPlain2
set_option linter.unusedVariables false
set_option linter.unusedSimpArgs false
namespace Go.Sep
open Go.Proofs
attribute [local irreducible] TC TO OT TCallX TCall DO DOt thenQ blockQ retQ At

theorem reachE_zero {h : Hier} {frm : Int} (e : reachE h frm = 0) : soundM h = 0 ∧ 0 ≤ frm ∧ frm < h.funcs := by
  unfold reachE at e
  split at e
  · rename_i h1; exact absurd e h1
  · rename_i h1
    split at e
    · cases e
    · rename_i h2
      simp only [not_or, ge_iff_le] at h2
      refine ⟨by simpa using h1, by omega, by omega⟩
theorem reachE_in {h : Hier} {i : Int} (hs : soundM h = 0) (h0 : 0 ≤ i) (h1 : i < h.funcs) : reachE h i = 0 := by
  unfold reachE
  rw [if_neg (by rw [hs]; decide), if_neg (by omega)]
theorem reachOk_zero {h : Hier} {frm : Int} {bs : List Bool} (e : reachE h frm = 0) (ho : ReachOk h frm bs) : bs.length = h.funcs.toNat ∧ ∀ i : Nat, bs[i]? = some true ↔ Path (graphM h) frm.toNat i := by
  rw [ReachOk, if_neg (by rw [e]; decide)] at ho
  exact ho

set_option maxHeartbeats 4000000 in
theorem reach_law (m : Mem) (L : List Item) (hh : HHier) (h : Hier) (hr : HierRep m hh h) (frm : Int) :
    TCall Try.prog 5 ⟨[hierV hh, .int .i64 frm]⟩ m L (Made m L fun r m' => r = .bool true) := by
  have hfu := hr.funcs
  unfold TCall
  refine TCallX.enter Try.func5 rfl 124 rfl ?_
  repeat (first | refine TC.seq ?_ | refine TC.block ?_ | refine TC.region ?_ | refine TO.pureP tab rfl rfl ?_ | refine TO.nil ?_ | refine thenQ_n ?_ | refine blockQ_n ?_ | refine thenQ_r ?_ | refine blockQ_r ?_ | refine thenQ_x ?_ | refine blockQ_hit ?_ | refine blockQ_miss rfl ?_ | refine TC.skip ?_ | refine TC.exit ?_ | refine TC.ret ?_ | refine TC.cond_t rfl ?_ | refine TC.cond_f rfl ?_)
  refine TO.step rfl (OT.box rfl rfl rfl rfl rfl (fun b => ?_))
  repeat (first | (first | refine TC.seq ?_ | refine TC.block ?_ | refine TC.region ?_ | refine TO.pureP tab rfl rfl ?_ | refine TO.nil ?_ | refine thenQ_n ?_ | refine blockQ_n ?_ | refine thenQ_r ?_ | refine blockQ_r ?_ | refine thenQ_x ?_ | refine blockQ_hit ?_ | refine blockQ_miss rfl ?_ | refine TC.skip ?_ | refine TC.exit ?_ | refine TC.ret ?_ | refine TC.cond_t rfl ?_ | refine TC.cond_f rfl ?_) | (first | refine TO.step rfl (OT.loadL tab 0 rfl rfl rfl rfl rfl rfl ?_) | refine TO.step rfl (OT.loadL0 tab 0 rfl rfl rfl rfl rfl rfl ?_) | refine TO.step rfl (OT.loadL tab 1 rfl rfl rfl rfl rfl rfl ?_) | refine TO.step rfl (OT.loadL0 tab 1 rfl rfl rfl rfl rfl rfl ?_) | refine TO.step rfl (OT.loadL tab 2 rfl rfl rfl rfl rfl rfl ?_) | refine TO.step rfl (OT.loadL0 tab 2 rfl rfl rfl rfl rfl rfl ?_) | refine TO.step rfl (OT.loadL tab 3 rfl rfl rfl rfl rfl rfl ?_) | refine TO.step rfl (OT.loadL0 tab 3 rfl rfl rfl rfl rfl rfl ?_) | refine TO.step rfl (OT.loadL tab 4 rfl rfl rfl rfl rfl rfl ?_) | refine TO.step rfl (OT.loadL0 tab 4 rfl rfl rfl rfl rfl rfl ?_) | refine TO.step rfl (OT.loadL tab 5 rfl rfl rfl rfl rfl rfl ?_) | refine TO.step rfl (OT.loadL0 tab 5 rfl rfl rfl rfl rfl rfl ?_) | refine TO.step rfl (OT.loadL tab 6 rfl rfl rfl rfl rfl rfl ?_) | refine TO.step rfl (OT.loadL0 tab 6 rfl rfl rfl rfl rfl rfl ?_) | refine TO.step rfl (OT.loadL tab 7 rfl rfl rfl rfl rfl rfl ?_) | refine TO.step rfl (OT.loadL0 tab 7 rfl rfl rfl rfl rfl rfl ?_) | refine TO.step rfl (OT.loadL tab 8 rfl rfl rfl rfl rfl rfl ?_) | refine TO.step rfl (OT.loadL0 tab 8 rfl rfl rfl rfl rfl rfl ?_) | refine TO.step rfl (OT.loadL tab 9 rfl rfl rfl rfl rfl rfl ?_) | refine TO.step rfl (OT.loadL0 tab 9 rfl rfl rfl rfl rfl rfl ?_)))
  refine TO.step rfl (OT.call rfl rfl rfl rfl rfl rfl goes12 ((reach_own m _ hh h hr frm).x ?_));
  rintro _ m1 _ ⟨hm1, rfl, ta, as1, rfl, hta, hoa⟩
  have hr1 := hr.mono hm1
  repeat (first | (first | refine TC.seq ?_ | refine TC.block ?_ | refine TC.region ?_ | refine TO.pureP tab rfl rfl ?_ | refine TO.nil ?_ | refine thenQ_n ?_ | refine blockQ_n ?_ | refine thenQ_r ?_ | refine blockQ_r ?_ | refine thenQ_x ?_ | refine blockQ_hit ?_ | refine blockQ_miss rfl ?_ | refine TC.skip ?_ | refine TC.exit ?_ | refine TC.ret ?_ | refine TC.cond_t rfl ?_ | refine TC.cond_f rfl ?_) | (first | refine TO.step rfl (OT.loadL tab 0 rfl rfl rfl rfl rfl rfl ?_) | refine TO.step rfl (OT.loadL0 tab 0 rfl rfl rfl rfl rfl rfl ?_) | refine TO.step rfl (OT.loadL tab 1 rfl rfl rfl rfl rfl rfl ?_) | refine TO.step rfl (OT.loadL0 tab 1 rfl rfl rfl rfl rfl rfl ?_) | refine TO.step rfl (OT.loadL tab 2 rfl rfl rfl rfl rfl rfl ?_) | refine TO.step rfl (OT.loadL0 tab 2 rfl rfl rfl rfl rfl rfl ?_) | refine TO.step rfl (OT.loadL tab 3 rfl rfl rfl rfl rfl rfl ?_) | refine TO.step rfl (OT.loadL0 tab 3 rfl rfl rfl rfl rfl rfl ?_) | refine TO.step rfl (OT.loadL tab 4 rfl rfl rfl rfl rfl rfl ?_) | refine TO.step rfl (OT.loadL0 tab 4 rfl rfl rfl rfl rfl rfl ?_) | refine TO.step rfl (OT.loadL tab 5 rfl rfl rfl rfl rfl rfl ?_) | refine TO.step rfl (OT.loadL0 tab 5 rfl rfl rfl rfl rfl rfl ?_) | refine TO.step rfl (OT.loadL tab 6 rfl rfl rfl rfl rfl rfl ?_) | refine TO.step rfl (OT.loadL0 tab 6 rfl rfl rfl rfl rfl rfl ?_) | refine TO.step rfl (OT.loadL tab 7 rfl rfl rfl rfl rfl rfl ?_) | refine TO.step rfl (OT.loadL0 tab 7 rfl rfl rfl rfl rfl rfl ?_) | refine TO.step rfl (OT.loadL tab 8 rfl rfl rfl rfl rfl rfl ?_) | refine TO.step rfl (OT.loadL0 tab 8 rfl rfl rfl rfl rfl rfl ?_) | refine TO.step rfl (OT.loadL tab 9 rfl rfl rfl rfl rfl rfl ?_) | refine TO.step rfl (OT.loadL0 tab 9 rfl rfl rfl rfl rfl rfl ?_)))
  refine TO.step rfl (OT.call rfl rfl rfl rfl rfl rfl goes8 ((groups_own m1 _ hh h hr1).x ?_));
  rintro _ m2 _ ⟨hm2, rfl, tg, gs, rfl, htg, hgo⟩
  have hr2 := hr1.mono hm2
  have hta2 := hta.mono hm2
  repeat (first | (first | refine TC.seq ?_ | refine TC.block ?_ | refine TC.region ?_ | refine TO.pureP tab rfl rfl ?_ | refine TO.nil ?_ | refine thenQ_n ?_ | refine blockQ_n ?_ | refine thenQ_r ?_ | refine blockQ_r ?_ | refine thenQ_x ?_ | refine blockQ_hit ?_ | refine blockQ_miss rfl ?_ | refine TC.skip ?_ | refine TC.exit ?_ | refine TC.ret ?_ | refine TC.cond_t rfl ?_ | refine TC.cond_f rfl ?_) | (first | refine TO.step rfl (OT.loadL tab 0 rfl rfl rfl rfl rfl rfl ?_) | refine TO.step rfl (OT.loadL0 tab 0 rfl rfl rfl rfl rfl rfl ?_) | refine TO.step rfl (OT.loadL tab 1 rfl rfl rfl rfl rfl rfl ?_) | refine TO.step rfl (OT.loadL0 tab 1 rfl rfl rfl rfl rfl rfl ?_) | refine TO.step rfl (OT.loadL tab 2 rfl rfl rfl rfl rfl rfl ?_) | refine TO.step rfl (OT.loadL0 tab 2 rfl rfl rfl rfl rfl rfl ?_) | refine TO.step rfl (OT.loadL tab 3 rfl rfl rfl rfl rfl rfl ?_) | refine TO.step rfl (OT.loadL0 tab 3 rfl rfl rfl rfl rfl rfl ?_) | refine TO.step rfl (OT.loadL tab 4 rfl rfl rfl rfl rfl rfl ?_) | refine TO.step rfl (OT.loadL0 tab 4 rfl rfl rfl rfl rfl rfl ?_) | refine TO.step rfl (OT.loadL tab 5 rfl rfl rfl rfl rfl rfl ?_) | refine TO.step rfl (OT.loadL0 tab 5 rfl rfl rfl rfl rfl rfl ?_) | refine TO.step rfl (OT.loadL tab 6 rfl rfl rfl rfl rfl rfl ?_) | refine TO.step rfl (OT.loadL0 tab 6 rfl rfl rfl rfl rfl rfl ?_) | refine TO.step rfl (OT.loadL tab 7 rfl rfl rfl rfl rfl rfl ?_) | refine TO.step rfl (OT.loadL0 tab 7 rfl rfl rfl rfl rfl rfl ?_) | refine TO.step rfl (OT.loadL tab 8 rfl rfl rfl rfl rfl rfl ?_) | refine TO.step rfl (OT.loadL0 tab 8 rfl rfl rfl rfl rfl rfl ?_) | refine TO.step rfl (OT.loadL tab 9 rfl rfl rfl rfl rfl rfl ?_) | refine TO.step rfl (OT.loadL0 tab 9 rfl rfl rfl rfl rfl rfl ?_)))
  refine TO.step rfl (OT.call rfl rfl rfl rfl rfl rfl goes10 ((awake_law m2 _).x ?_));
  rintro _ m3 _ ⟨hm3, rfl, rfl⟩
  have hr3 := hr2.mono hm3
  have hta3 := hta2.mono hm3
  have htg3 := htg.mono hm3
  have hle := Mem.le_trans hm1 (Mem.le_trans hm2 hm3)
  repeat (first | refine TC.seq ?_ | refine TC.block ?_ | refine TC.region ?_ | refine TO.pureP tab rfl rfl ?_ | refine TO.nil ?_ | refine thenQ_n ?_ | refine blockQ_n ?_ | refine thenQ_r ?_ | refine blockQ_r ?_ | refine thenQ_x ?_ | refine blockQ_hit ?_ | refine blockQ_miss rfl ?_ | refine TC.skip ?_ | refine TC.exit ?_ | refine TC.ret ?_ | refine TC.cond_t rfl ?_ | refine TC.cond_f rfl ?_)
  (first | refine TO.splitP rfl rfl (fun he => ?_) (fun he => ?_) | refine TO.splitN rfl rfl (fun he => ?_) (fun he => ?_) | refine TO.split rfl rfl (fun he => ?_) (fun he => ?_))
  · repeat (first | refine TC.seq ?_ | refine TC.block ?_ | refine TC.region ?_ | refine TO.pureP tab rfl rfl ?_ | refine TO.nil ?_ | refine thenQ_n ?_ | refine blockQ_n ?_ | refine thenQ_r ?_ | refine blockQ_r ?_ | refine thenQ_x ?_ | refine blockQ_hit ?_ | refine blockQ_miss rfl ?_ | refine TC.skip ?_ | refine TC.exit ?_ | refine TC.ret ?_ | refine TC.cond_t rfl ?_ | refine TC.cond_f rfl ?_)
    refine TO.step rfl (OT.call rfl rfl rfl rfl rfl rfl goes10 ((awake_law m3 _).x ?_));
    rintro _ m4 _ ⟨hm4, rfl, rfl⟩
    repeat (first | refine TC.seq ?_ | refine TC.block ?_ | refine TC.region ?_ | refine TO.pureP tab rfl rfl ?_ | refine TO.nil ?_ | refine thenQ_n ?_ | refine blockQ_n ?_ | refine thenQ_r ?_ | refine blockQ_r ?_ | refine thenQ_x ?_ | refine blockQ_hit ?_ | refine blockQ_miss rfl ?_ | refine TC.skip ?_ | refine TC.exit ?_ | refine TC.ret ?_ | refine TC.cond_t rfl ?_ | refine TC.cond_f rfl ?_)
    refine retQ_ret rfl (by repeat (first | exact List.Sublist.refl _ | exact List.sublist_append_left _ _ | refine List.Sublist.cons_cons _ ?_ | refine List.Sublist.cons _ ?_)) ⟨Mem.le_trans hle hm4, rfl, rfl⟩
  repeat (first | refine TC.seq ?_ | refine TC.block ?_ | refine TC.region ?_ | refine TO.pureP tab rfl rfl ?_ | refine TO.nil ?_ | refine thenQ_n ?_ | refine blockQ_n ?_ | refine thenQ_r ?_ | refine blockQ_r ?_ | refine thenQ_x ?_ | refine blockQ_hit ?_ | refine blockQ_miss rfl ?_ | refine TC.skip ?_ | refine TC.exit ?_ | refine TC.ret ?_ | refine TC.cond_t rfl ?_ | refine TC.cond_f rfl ?_)
  (first | refine TO.splitP rfl rfl (fun hs => ?_) (fun hs => ?_) | refine TO.splitN rfl rfl (fun hs => ?_) (fun hs => ?_) | refine TO.split rfl rfl (fun hs => ?_) (fun hs => ?_))
  · repeat (first | refine TC.seq ?_ | refine TC.block ?_ | refine TC.region ?_ | refine TO.pureP tab rfl rfl ?_ | refine TO.nil ?_ | refine thenQ_n ?_ | refine blockQ_n ?_ | refine thenQ_r ?_ | refine blockQ_r ?_ | refine thenQ_x ?_ | refine blockQ_hit ?_ | refine blockQ_miss rfl ?_ | refine TC.skip ?_ | refine TC.exit ?_ | refine TC.ret ?_ | refine TC.cond_t rfl ?_ | refine TC.cond_f rfl ?_)
    refine TO.step rfl (OT.call rfl rfl rfl rfl rfl rfl goes10 ((awake_law m3 _).x ?_));
    rintro _ m4 _ ⟨hm4, rfl, rfl⟩
    repeat (first | refine TC.seq ?_ | refine TC.block ?_ | refine TC.region ?_ | refine TO.pureP tab rfl rfl ?_ | refine TO.nil ?_ | refine thenQ_n ?_ | refine blockQ_n ?_ | refine thenQ_r ?_ | refine blockQ_r ?_ | refine thenQ_x ?_ | refine blockQ_hit ?_ | refine blockQ_miss rfl ?_ | refine TC.skip ?_ | refine TC.exit ?_ | refine TC.ret ?_ | refine TC.cond_t rfl ?_ | refine TC.cond_f rfl ?_)
    refine retQ_ret rfl (by repeat (first | exact List.Sublist.refl _ | exact List.sublist_append_left _ _ | refine List.Sublist.cons_cons _ ?_ | refine List.Sublist.cons _ ?_)) ⟨Mem.le_trans hle hm4, rfl, rfl⟩
  repeat (first | (first | refine TC.seq ?_ | refine TC.block ?_ | refine TC.region ?_ | refine TO.pureP tab rfl rfl ?_ | refine TO.nil ?_ | refine thenQ_n ?_ | refine blockQ_n ?_ | refine thenQ_r ?_ | refine blockQ_r ?_ | refine thenQ_x ?_ | refine blockQ_hit ?_ | refine blockQ_miss rfl ?_ | refine TC.skip ?_ | refine TC.exit ?_ | refine TC.ret ?_ | refine TC.cond_t rfl ?_ | refine TC.cond_f rfl ?_) | (first | refine TO.step rfl (OT.loadL tab 0 rfl rfl rfl rfl rfl rfl ?_) | refine TO.step rfl (OT.loadL0 tab 0 rfl rfl rfl rfl rfl rfl ?_) | refine TO.step rfl (OT.loadL tab 1 rfl rfl rfl rfl rfl rfl ?_) | refine TO.step rfl (OT.loadL0 tab 1 rfl rfl rfl rfl rfl rfl ?_) | refine TO.step rfl (OT.loadL tab 2 rfl rfl rfl rfl rfl rfl ?_) | refine TO.step rfl (OT.loadL0 tab 2 rfl rfl rfl rfl rfl rfl ?_) | refine TO.step rfl (OT.loadL tab 3 rfl rfl rfl rfl rfl rfl ?_) | refine TO.step rfl (OT.loadL0 tab 3 rfl rfl rfl rfl rfl rfl ?_) | refine TO.step rfl (OT.loadL tab 4 rfl rfl rfl rfl rfl rfl ?_) | refine TO.step rfl (OT.loadL0 tab 4 rfl rfl rfl rfl rfl rfl ?_) | refine TO.step rfl (OT.loadL tab 5 rfl rfl rfl rfl rfl rfl ?_) | refine TO.step rfl (OT.loadL0 tab 5 rfl rfl rfl rfl rfl rfl ?_) | refine TO.step rfl (OT.loadL tab 6 rfl rfl rfl rfl rfl rfl ?_) | refine TO.step rfl (OT.loadL0 tab 6 rfl rfl rfl rfl rfl rfl ?_) | refine TO.step rfl (OT.loadL tab 7 rfl rfl rfl rfl rfl rfl ?_) | refine TO.step rfl (OT.loadL0 tab 7 rfl rfl rfl rfl rfl rfl ?_) | refine TO.step rfl (OT.loadL tab 8 rfl rfl rfl rfl rfl rfl ?_) | refine TO.step rfl (OT.loadL0 tab 8 rfl rfl rfl rfl rfl rfl ?_) | refine TO.step rfl (OT.loadL tab 9 rfl rfl rfl rfl rfl rfl ?_) | refine TO.step rfl (OT.loadL0 tab 9 rfl rfl rfl rfl rfl rfl ?_)))
  refine TO.step rfl (OT.call rfl rfl rfl rfl rfl rfl goes13 ((small_law m3 _ hh h hr3).x ?_));
  rintro _ _ _ ⟨rfl, rfl, rfl⟩
  repeat (first | refine TC.seq ?_ | refine TC.block ?_ | refine TC.region ?_ | refine TO.pureP tab rfl rfl ?_ | refine TO.nil ?_ | refine thenQ_n ?_ | refine blockQ_n ?_ | refine thenQ_r ?_ | refine blockQ_r ?_ | refine thenQ_x ?_ | refine blockQ_hit ?_ | refine blockQ_miss rfl ?_ | refine TC.skip ?_ | refine TC.exit ?_ | refine TC.ret ?_ | refine TC.cond_t rfl ?_ | refine TC.cond_f rfl ?_)
  refine TC.cond rfl (fun hsm => ?_) (fun hsm => ?_)
  · repeat (first | refine TC.seq ?_ | refine TC.block ?_ | refine TC.region ?_ | refine TO.pureP tab rfl rfl ?_ | refine TO.nil ?_ | refine thenQ_n ?_ | refine blockQ_n ?_ | refine thenQ_r ?_ | refine blockQ_r ?_ | refine thenQ_x ?_ | refine blockQ_hit ?_ | refine blockQ_miss rfl ?_ | refine TC.skip ?_ | refine TC.exit ?_ | refine TC.ret ?_ | refine TC.cond_t rfl ?_ | refine TC.cond_f rfl ?_)
    refine TO.step rfl (OT.call rfl rfl rfl rfl rfl rfl goes10 ((awake_law m3 _).x ?_));
    rintro _ m4 _ ⟨hm4, rfl, rfl⟩
    repeat (first | refine TC.seq ?_ | refine TC.block ?_ | refine TC.region ?_ | refine TO.pureP tab rfl rfl ?_ | refine TO.nil ?_ | refine thenQ_n ?_ | refine blockQ_n ?_ | refine thenQ_r ?_ | refine blockQ_r ?_ | refine thenQ_x ?_ | refine blockQ_hit ?_ | refine blockQ_miss rfl ?_ | refine TC.skip ?_ | refine TC.exit ?_ | refine TC.ret ?_ | refine TC.cond_t rfl ?_ | refine TC.cond_f rfl ?_)
    refine retQ_ret rfl (by repeat (first | exact List.Sublist.refl _ | exact List.sublist_append_left _ _ | refine List.Sublist.cons_cons _ ?_ | refine List.Sublist.cons _ ?_)) ⟨Mem.le_trans hle hm4, rfl, rfl⟩
  obtain ⟨_, hf0, hf1⟩ := reachE_zero he
  obtain ⟨hal, hap⟩ := reachOk_zero he hoa
  obtain ⟨hsml, hg⟩ := soundM_ok.1 hs
  have hn := hg.funcs
  have hn2 := hsml.1
  obtain ⟨hgo1, hgl⟩ := graphM_ok hg
  rw [GroupsOut, if_neg (by rw [hs]; decide)] at hgo
  obtain ⟨pos, hP⟩ := groups_ord hgo1 hgl hgo
  have hgsl := htg3.len
  have hfew := hP.few
  have hfrm : frm = ((frm.toNat : Nat) : Int) := by omega
  repeat (first | refine TC.seq ?_ | refine TC.block ?_ | refine TC.region ?_ | refine TO.pureP tab rfl rfl ?_ | refine TO.nil ?_ | refine thenQ_n ?_ | refine blockQ_n ?_ | refine thenQ_r ?_ | refine blockQ_r ?_ | refine thenQ_x ?_ | refine blockQ_hit ?_ | refine blockQ_miss rfl ?_ | refine TC.skip ?_ | refine TC.exit ?_ | refine TC.ret ?_ | refine TC.cond_t rfl ?_ | refine TC.cond_f rfl ?_)
  refine TC.loopK (ι := Grow) [1, 2, 5, 7] rfl (fun x => [(9, .int .i64 (x.k : Int))]) (fun x => x.m) (fun _ => .cells b 0 (hierC hh) :: L) (fun x => x.k ≤ h.funcs.toNat ∧ m3 ≤ x.m) (fun x => h.funcs.toNat - x.k) ⟨0, ⟨none, 0, 0⟩, m3⟩ (by repeat (first | exact trivial | refine And.intro rfl ?_)) rfl (List.Sublist.refl _) ⟨Nat.zero_le _, Mem.le_refl _⟩ ?_
  rintro ⟨i, _, m4⟩ ⟨hi, hm4⟩
  simp only at hi hm4 ⊢
  have hr4 := hr3.mono hm4
  repeat (first | (first | refine TC.seq ?_ | refine TC.block ?_ | refine TC.region ?_ | refine TO.pureP tab rfl rfl ?_ | refine TO.nil ?_ | refine thenQ_n ?_ | refine blockQ_n ?_ | refine thenQ_r ?_ | refine blockQ_r ?_ | refine thenQ_x ?_ | refine blockQ_hit ?_ | refine blockQ_miss rfl ?_ | refine TC.skip ?_ | refine TC.exit ?_ | refine TC.ret ?_ | refine TC.cond_t rfl ?_ | refine TC.cond_f rfl ?_) | (first | refine TO.step rfl (OT.loadL tab 0 rfl rfl rfl rfl rfl rfl ?_) | refine TO.step rfl (OT.loadL0 tab 0 rfl rfl rfl rfl rfl rfl ?_) | refine TO.step rfl (OT.loadL tab 1 rfl rfl rfl rfl rfl rfl ?_) | refine TO.step rfl (OT.loadL0 tab 1 rfl rfl rfl rfl rfl rfl ?_) | refine TO.step rfl (OT.loadL tab 2 rfl rfl rfl rfl rfl rfl ?_) | refine TO.step rfl (OT.loadL0 tab 2 rfl rfl rfl rfl rfl rfl ?_) | refine TO.step rfl (OT.loadL tab 3 rfl rfl rfl rfl rfl rfl ?_) | refine TO.step rfl (OT.loadL0 tab 3 rfl rfl rfl rfl rfl rfl ?_) | refine TO.step rfl (OT.loadL tab 4 rfl rfl rfl rfl rfl rfl ?_) | refine TO.step rfl (OT.loadL0 tab 4 rfl rfl rfl rfl rfl rfl ?_) | refine TO.step rfl (OT.loadL tab 5 rfl rfl rfl rfl rfl rfl ?_) | refine TO.step rfl (OT.loadL0 tab 5 rfl rfl rfl rfl rfl rfl ?_) | refine TO.step rfl (OT.loadL tab 6 rfl rfl rfl rfl rfl rfl ?_) | refine TO.step rfl (OT.loadL0 tab 6 rfl rfl rfl rfl rfl rfl ?_) | refine TO.step rfl (OT.loadL tab 7 rfl rfl rfl rfl rfl rfl ?_) | refine TO.step rfl (OT.loadL0 tab 7 rfl rfl rfl rfl rfl rfl ?_) | refine TO.step rfl (OT.loadL tab 8 rfl rfl rfl rfl rfl rfl ?_) | refine TO.step rfl (OT.loadL0 tab 8 rfl rfl rfl rfl rfl rfl ?_) | refine TO.step rfl (OT.loadL tab 9 rfl rfl rfl rfl rfl rfl ?_) | refine TO.step rfl (OT.loadL0 tab 9 rfl rfl rfl rfl rfl rfl ?_)))
  refine TC.condP rfl (fun hlt' => ?_) (fun hlt' => ?_)
  · have hlt : i < h.funcs.toNat := by omega
    have hE : reachE h (i : Int) = 0 := reachE_in hs (by omega) (by omega)
    repeat (first | (first | refine TC.seq ?_ | refine TC.block ?_ | refine TC.region ?_ | refine TO.pureP tab rfl rfl ?_ | refine TO.nil ?_ | refine thenQ_n ?_ | refine blockQ_n ?_ | refine thenQ_r ?_ | refine blockQ_r ?_ | refine thenQ_x ?_ | refine blockQ_hit ?_ | refine blockQ_miss rfl ?_ | refine TC.skip ?_ | refine TC.exit ?_ | refine TC.ret ?_ | refine TC.cond_t rfl ?_ | refine TC.cond_f rfl ?_) | (first | refine TO.step rfl (OT.loadL tab 0 rfl rfl rfl rfl rfl rfl ?_) | refine TO.step rfl (OT.loadL0 tab 0 rfl rfl rfl rfl rfl rfl ?_) | refine TO.step rfl (OT.loadL tab 1 rfl rfl rfl rfl rfl rfl ?_) | refine TO.step rfl (OT.loadL0 tab 1 rfl rfl rfl rfl rfl rfl ?_) | refine TO.step rfl (OT.loadL tab 2 rfl rfl rfl rfl rfl rfl ?_) | refine TO.step rfl (OT.loadL0 tab 2 rfl rfl rfl rfl rfl rfl ?_) | refine TO.step rfl (OT.loadL tab 3 rfl rfl rfl rfl rfl rfl ?_) | refine TO.step rfl (OT.loadL0 tab 3 rfl rfl rfl rfl rfl rfl ?_) | refine TO.step rfl (OT.loadL tab 4 rfl rfl rfl rfl rfl rfl ?_) | refine TO.step rfl (OT.loadL0 tab 4 rfl rfl rfl rfl rfl rfl ?_) | refine TO.step rfl (OT.loadL tab 5 rfl rfl rfl rfl rfl rfl ?_) | refine TO.step rfl (OT.loadL0 tab 5 rfl rfl rfl rfl rfl rfl ?_) | refine TO.step rfl (OT.loadL tab 6 rfl rfl rfl rfl rfl rfl ?_) | refine TO.step rfl (OT.loadL0 tab 6 rfl rfl rfl rfl rfl rfl ?_) | refine TO.step rfl (OT.loadL tab 7 rfl rfl rfl rfl rfl rfl ?_) | refine TO.step rfl (OT.loadL0 tab 7 rfl rfl rfl rfl rfl rfl ?_) | refine TO.step rfl (OT.loadL tab 8 rfl rfl rfl rfl rfl rfl ?_) | refine TO.step rfl (OT.loadL0 tab 8 rfl rfl rfl rfl rfl rfl ?_) | refine TO.step rfl (OT.loadL tab 9 rfl rfl rfl rfl rfl rfl ?_) | refine TO.step rfl (OT.loadL0 tab 9 rfl rfl rfl rfl rfl rfl ?_)))
    refine TO.step rfl (OT.call rfl rfl rfl rfl rfl rfl goes12 ((reach_own m4 _ hh h hr4 (i : Int)).x ?_));
    rintro _ m5 _ ⟨hm5, rfl, tb, bs, rfl, htb, hob⟩
    rw [hE]
    obtain ⟨hbl, hbp⟩ := reachOk_zero hE hob
    simp only [Int.toNat_natCast] at hbp
    have hta5 := (hta3.mono hm4).mono hm5
    have htg5 := (htg3.mono hm4).mono hm5
    have hbi : bs[i]? = some true := (hbp i).2 .refl
    repeat (first | refine TC.seq ?_ | refine TC.block ?_ | refine TC.region ?_ | refine TO.pureP tab rfl rfl ?_ | refine TO.nil ?_ | refine thenQ_n ?_ | refine blockQ_n ?_ | refine thenQ_r ?_ | refine blockQ_r ?_ | refine thenQ_x ?_ | refine blockQ_hit ?_ | refine blockQ_miss rfl ?_ | refine TC.skip ?_ | refine TC.exit ?_ | refine TC.ret ?_ | refine TC.cond_t rfl ?_ | refine TC.cond_f rfl ?_)
    refine TO.step rfl (OT.index tab rBool i htb rfl rfl rfl rfl rfl (by first | rfl | omega) rfl hbi ?_)
    rintro b1 i1 hd1 hrd1 hA1
    obtain rfl := (show hd1 = true from hrd1)
    (first | refine TO.step rfl (OT.loadA tab hA1 rfl rfl rfl rfl rfl ?_) | refine TO.step rfl (OT.loadA0 tab hA1 rfl rfl rfl rfl rfl ?_))
    repeat (first | refine TC.seq ?_ | refine TC.block ?_ | refine TC.region ?_ | refine TO.pureP tab rfl rfl ?_ | refine TO.nil ?_ | refine thenQ_n ?_ | refine blockQ_n ?_ | refine thenQ_r ?_ | refine blockQ_r ?_ | refine thenQ_x ?_ | refine blockQ_hit ?_ | refine blockQ_miss rfl ?_ | refine TC.skip ?_ | refine TC.exit ?_ | refine TC.ret ?_ | refine TC.cond_t rfl ?_ | refine TC.cond_f rfl ?_)
    refine TC.loopK (ι := Nat) [1, 2, 5, 7, 9, 10] rfl (fun k => [(12, .int .i64 (k : Int))]) (fun _ => m5) (fun _ => .cells b 0 (hierC hh) :: L) (fun k => k ≤ h.funcs.toNat) (fun k => h.funcs.toNat - k) 0 (by repeat (first | exact trivial | refine And.intro rfl ?_)) rfl (List.Sublist.refl _) (Nat.zero_le _) ?_
    intro j hj
    repeat (first | (first | refine TC.seq ?_ | refine TC.block ?_ | refine TC.region ?_ | refine TO.pureP tab rfl rfl ?_ | refine TO.nil ?_ | refine thenQ_n ?_ | refine blockQ_n ?_ | refine thenQ_r ?_ | refine blockQ_r ?_ | refine thenQ_x ?_ | refine blockQ_hit ?_ | refine blockQ_miss rfl ?_ | refine TC.skip ?_ | refine TC.exit ?_ | refine TC.ret ?_ | refine TC.cond_t rfl ?_ | refine TC.cond_f rfl ?_) | (first | refine TO.step rfl (OT.loadL tab 0 rfl rfl rfl rfl rfl rfl ?_) | refine TO.step rfl (OT.loadL0 tab 0 rfl rfl rfl rfl rfl rfl ?_) | refine TO.step rfl (OT.loadL tab 1 rfl rfl rfl rfl rfl rfl ?_) | refine TO.step rfl (OT.loadL0 tab 1 rfl rfl rfl rfl rfl rfl ?_) | refine TO.step rfl (OT.loadL tab 2 rfl rfl rfl rfl rfl rfl ?_) | refine TO.step rfl (OT.loadL0 tab 2 rfl rfl rfl rfl rfl rfl ?_) | refine TO.step rfl (OT.loadL tab 3 rfl rfl rfl rfl rfl rfl ?_) | refine TO.step rfl (OT.loadL0 tab 3 rfl rfl rfl rfl rfl rfl ?_) | refine TO.step rfl (OT.loadL tab 4 rfl rfl rfl rfl rfl rfl ?_) | refine TO.step rfl (OT.loadL0 tab 4 rfl rfl rfl rfl rfl rfl ?_) | refine TO.step rfl (OT.loadL tab 5 rfl rfl rfl rfl rfl rfl ?_) | refine TO.step rfl (OT.loadL0 tab 5 rfl rfl rfl rfl rfl rfl ?_) | refine TO.step rfl (OT.loadL tab 6 rfl rfl rfl rfl rfl rfl ?_) | refine TO.step rfl (OT.loadL0 tab 6 rfl rfl rfl rfl rfl rfl ?_) | refine TO.step rfl (OT.loadL tab 7 rfl rfl rfl rfl rfl rfl ?_) | refine TO.step rfl (OT.loadL0 tab 7 rfl rfl rfl rfl rfl rfl ?_) | refine TO.step rfl (OT.loadL tab 8 rfl rfl rfl rfl rfl rfl ?_) | refine TO.step rfl (OT.loadL0 tab 8 rfl rfl rfl rfl rfl rfl ?_) | refine TO.step rfl (OT.loadL tab 9 rfl rfl rfl rfl rfl rfl ?_) | refine TO.step rfl (OT.loadL0 tab 9 rfl rfl rfl rfl rfl rfl ?_)))
    refine TC.condP rfl (fun hlj' => ?_) (fun hlj' => ?_)
    · have hlj : j < h.funcs.toNat := by omega
      have hxa : as1[i]? = some (as1[i]'(by omega)) := by simp [show i < as1.length by omega]
      have hxb : bs[j]? = some (bs[j]'(by omega)) := by simp [show j < bs.length by omega]
      have hxc : as1[j]? = some (as1[j]'(by omega)) := by simp [show j < as1.length by omega]
      have himp : as1[i]'(by omega) = true → bs[j]'(by omega) = true → as1[j]'(by omega) = true := fun h1 h2 => by
        have p1 := (hap i).1 (by rw [hxa, h1])
        have p2 := (hbp j).1 (by rw [hxb, h2])
        have p3 := (hap j).2 (p1.trans p2)
        rw [hxc] at p3
        simpa using p3
      generalize as1[i]'(by omega) = va at hxa himp
      generalize bs[j]'(by omega) = vb at hxb himp
      generalize as1[j]'(by omega) = vc at hxc himp
      repeat (first | refine TC.seq ?_ | refine TC.block ?_ | refine TC.region ?_ | refine TO.pureP tab rfl rfl ?_ | refine TO.nil ?_ | refine thenQ_n ?_ | refine blockQ_n ?_ | refine thenQ_r ?_ | refine blockQ_r ?_ | refine thenQ_x ?_ | refine blockQ_hit ?_ | refine blockQ_miss rfl ?_ | refine TC.skip ?_ | refine TC.exit ?_ | refine TC.ret ?_ | refine TC.cond_t rfl ?_ | refine TC.cond_f rfl ?_)
      refine TO.step rfl (OT.index tab rBool i hta5 rfl rfl rfl rfl rfl (by first | rfl | omega) rfl hxa ?_)
      rintro b2 i2 hd2 hrd2 hA2
      obtain rfl := (show hd2 = va from hrd2)
      (first | refine TO.step rfl (OT.loadA tab hA2 rfl rfl rfl rfl rfl ?_) | refine TO.step rfl (OT.loadA0 tab hA2 rfl rfl rfl rfl rfl ?_))
      repeat (first | refine TC.seq ?_ | refine TC.block ?_ | refine TC.region ?_ | refine TO.pureP tab rfl rfl ?_ | refine TO.nil ?_ | refine thenQ_n ?_ | refine blockQ_n ?_ | refine thenQ_r ?_ | refine blockQ_r ?_ | refine thenQ_x ?_ | refine blockQ_hit ?_ | refine blockQ_miss rfl ?_ | refine TC.skip ?_ | refine TC.exit ?_ | refine TC.ret ?_ | refine TC.cond_t rfl ?_ | refine TC.cond_f rfl ?_)
      (first | refine TO.splitP rfl rfl (fun hva => ?_) (fun hva => ?_) | refine TO.splitN rfl rfl (fun hva => ?_) (fun hva => ?_) | refine TO.split rfl rfl (fun hva => ?_) (fun hva => ?_))
      · repeat (first | refine TC.seq ?_ | refine TC.block ?_ | refine TC.region ?_ | refine TO.pureP tab rfl rfl ?_ | refine TO.nil ?_ | refine thenQ_n ?_ | refine blockQ_n ?_ | refine thenQ_r ?_ | refine blockQ_r ?_ | refine thenQ_x ?_ | refine blockQ_hit ?_ | refine blockQ_miss rfl ?_ | refine TC.skip ?_ | refine TC.exit ?_ | refine TC.ret ?_ | refine TC.cond_t rfl ?_ | refine TC.cond_f rfl ?_)
        refine TO.step rfl (OT.index tab rBool j htb rfl rfl rfl rfl rfl (by first | rfl | omega) rfl hxb ?_)
        rintro b3 i3 hd3 hrd3 hA3
        obtain rfl := (show hd3 = vb from hrd3)
        (first | refine TO.step rfl (OT.loadA tab hA3 rfl rfl rfl rfl rfl ?_) | refine TO.step rfl (OT.loadA0 tab hA3 rfl rfl rfl rfl rfl ?_))
        repeat (first | refine TC.seq ?_ | refine TC.block ?_ | refine TC.region ?_ | refine TO.pureP tab rfl rfl ?_ | refine TO.nil ?_ | refine thenQ_n ?_ | refine blockQ_n ?_ | refine thenQ_r ?_ | refine blockQ_r ?_ | refine thenQ_x ?_ | refine blockQ_hit ?_ | refine blockQ_miss rfl ?_ | refine TC.skip ?_ | refine TC.exit ?_ | refine TC.ret ?_ | refine TC.cond_t rfl ?_ | refine TC.cond_f rfl ?_)
        (first | refine TO.splitP rfl rfl (fun hvb => ?_) (fun hvb => ?_) | refine TO.splitN rfl rfl (fun hvb => ?_) (fun hvb => ?_) | refine TO.split rfl rfl (fun hvb => ?_) (fun hvb => ?_))
        · have hvc := himp hva hvb
          repeat (first | refine TC.seq ?_ | refine TC.block ?_ | refine TC.region ?_ | refine TO.pureP tab rfl rfl ?_ | refine TO.nil ?_ | refine thenQ_n ?_ | refine blockQ_n ?_ | refine thenQ_r ?_ | refine blockQ_r ?_ | refine thenQ_x ?_ | refine blockQ_hit ?_ | refine blockQ_miss rfl ?_ | refine TC.skip ?_ | refine TC.exit ?_ | refine TC.ret ?_ | refine TC.cond_t rfl ?_ | refine TC.cond_f rfl ?_)
          refine TO.step rfl (OT.index tab rBool j hta5 rfl rfl rfl rfl rfl (by first | rfl | omega) rfl hxc ?_)
          rintro b4 i4 hd4 hrd4 hA4
          obtain rfl := (show hd4 = vc from hrd4)
          (first | refine TO.step rfl (OT.loadA tab hA4 rfl rfl rfl rfl rfl ?_) | refine TO.step rfl (OT.loadA0 tab hA4 rfl rfl rfl rfl rfl ?_))
          repeat (first | refine TC.seq ?_ | refine TC.block ?_ | refine TC.region ?_ | refine TO.pureP tab rfl rfl ?_ | refine TO.nil ?_ | refine thenQ_n ?_ | refine blockQ_n ?_ | refine thenQ_r ?_ | refine blockQ_r ?_ | refine thenQ_x ?_ | refine blockQ_hit ?_ | refine blockQ_miss rfl ?_ | refine TC.skip ?_ | refine TC.exit ?_ | refine TC.ret ?_ | refine TC.cond_t rfl ?_ | refine TC.cond_f rfl ?_)
          refine TC.cond rfl (fun hbad => ?_) (fun hbad => ?_)
          · rw [hvc] at hbad; cases hbad
          repeat (first | refine TC.seq ?_ | refine TC.block ?_ | refine TC.region ?_ | refine TO.pureP tab rfl rfl ?_ | refine TO.nil ?_ | refine thenQ_n ?_ | refine blockQ_n ?_ | refine thenQ_r ?_ | refine blockQ_r ?_ | refine thenQ_x ?_ | refine blockQ_hit ?_ | refine blockQ_miss rfl ?_ | refine TC.skip ?_ | refine TC.exit ?_ | refine TC.ret ?_ | refine TC.cond_t rfl ?_ | refine TC.cond_f rfl ?_)
          refine TO.step rfl (OT.arith (r' := ((j + 1 : Nat) : Int)) rfl rfl rfl rfl rfl rfl rfl (by omega) ?_)
          repeat (first | refine TC.seq ?_ | refine TC.block ?_ | refine TC.region ?_ | refine TO.pureP tab rfl rfl ?_ | refine TO.nil ?_ | refine thenQ_n ?_ | refine blockQ_n ?_ | refine thenQ_r ?_ | refine blockQ_r ?_ | refine thenQ_x ?_ | refine blockQ_hit ?_ | refine blockQ_miss rfl ?_ | refine TC.skip ?_ | refine TC.exit ?_ | refine TC.ret ?_ | refine TC.cond_t rfl ?_ | refine TC.cond_f rfl ?_)
          exact ⟨j + 1, (by repeat (first | exact trivial | refine And.intro rfl ?_)), (by repeat (first | exact trivial | refine And.intro rfl ?_)), rfl, rfl, (by repeat (first | exact List.Sublist.refl _ | exact List.sublist_append_left _ _ | refine List.Sublist.cons_cons _ ?_ | refine List.Sublist.cons _ ?_)), by omega, by omega⟩
        · repeat (first | refine TC.seq ?_ | refine TC.block ?_ | refine TC.region ?_ | refine TO.pureP tab rfl rfl ?_ | refine TO.nil ?_ | refine thenQ_n ?_ | refine blockQ_n ?_ | refine thenQ_r ?_ | refine blockQ_r ?_ | refine thenQ_x ?_ | refine blockQ_hit ?_ | refine blockQ_miss rfl ?_ | refine TC.skip ?_ | refine TC.exit ?_ | refine TC.ret ?_ | refine TC.cond_t rfl ?_ | refine TC.cond_f rfl ?_)
          refine TO.step rfl (OT.arith (r' := ((j + 1 : Nat) : Int)) rfl rfl rfl rfl rfl rfl rfl (by omega) ?_)
          repeat (first | refine TC.seq ?_ | refine TC.block ?_ | refine TC.region ?_ | refine TO.pureP tab rfl rfl ?_ | refine TO.nil ?_ | refine thenQ_n ?_ | refine blockQ_n ?_ | refine thenQ_r ?_ | refine blockQ_r ?_ | refine thenQ_x ?_ | refine blockQ_hit ?_ | refine blockQ_miss rfl ?_ | refine TC.skip ?_ | refine TC.exit ?_ | refine TC.ret ?_ | refine TC.cond_t rfl ?_ | refine TC.cond_f rfl ?_)
          exact ⟨j + 1, (by repeat (first | exact trivial | refine And.intro rfl ?_)), (by repeat (first | exact trivial | refine And.intro rfl ?_)), rfl, rfl, (by repeat (first | exact List.Sublist.refl _ | exact List.sublist_append_left _ _ | refine List.Sublist.cons_cons _ ?_ | refine List.Sublist.cons _ ?_)), by omega, by omega⟩
      · repeat (first | refine TC.seq ?_ | refine TC.block ?_ | refine TC.region ?_ | refine TO.pureP tab rfl rfl ?_ | refine TO.nil ?_ | refine thenQ_n ?_ | refine blockQ_n ?_ | refine thenQ_r ?_ | refine blockQ_r ?_ | refine thenQ_x ?_ | refine blockQ_hit ?_ | refine blockQ_miss rfl ?_ | refine TC.skip ?_ | refine TC.exit ?_ | refine TC.ret ?_ | refine TC.cond_t rfl ?_ | refine TC.cond_f rfl ?_)
        refine TO.step rfl (OT.arith (r' := ((j + 1 : Nat) : Int)) rfl rfl rfl rfl rfl rfl rfl (by omega) ?_)
        repeat (first | refine TC.seq ?_ | refine TC.block ?_ | refine TC.region ?_ | refine TO.pureP tab rfl rfl ?_ | refine TO.nil ?_ | refine thenQ_n ?_ | refine blockQ_n ?_ | refine thenQ_r ?_ | refine blockQ_r ?_ | refine thenQ_x ?_ | refine blockQ_hit ?_ | refine blockQ_miss rfl ?_ | refine TC.skip ?_ | refine TC.exit ?_ | refine TC.ret ?_ | refine TC.cond_t rfl ?_ | refine TC.cond_f rfl ?_)
        exact ⟨j + 1, (by repeat (first | exact trivial | refine And.intro rfl ?_)), (by repeat (first | exact trivial | refine And.intro rfl ?_)), rfl, rfl, (by repeat (first | exact List.Sublist.refl _ | exact List.sublist_append_left _ _ | refine List.Sublist.cons_cons _ ?_ | refine List.Sublist.cons _ ?_)), by omega, by omega⟩
    · repeat (first | refine TC.seq ?_ | refine TC.block ?_ | refine TC.region ?_ | refine TO.pureP tab rfl rfl ?_ | refine TO.nil ?_ | refine thenQ_n ?_ | refine blockQ_n ?_ | refine thenQ_r ?_ | refine blockQ_r ?_ | refine thenQ_x ?_ | refine blockQ_hit ?_ | refine blockQ_miss rfl ?_ | refine TC.skip ?_ | refine TC.exit ?_ | refine TC.ret ?_ | refine TC.cond_t rfl ?_ | refine TC.cond_f rfl ?_)
      refine TC.loopK (ι := Nat) [1, 2, 5, 7, 9, 10] rfl (fun k => [(13, .int .i64 (k : Int))]) (fun _ => m5) (fun _ => .cells b 0 (hierC hh) :: L) (fun k => k ≤ gs.length) (fun k => gs.length - k) 0 (by repeat (first | exact trivial | refine And.intro rfl ?_)) rfl (List.Sublist.refl _) (Nat.zero_le _) ?_
      intro q hq
      repeat (first | refine TC.seq ?_ | refine TC.block ?_ | refine TC.region ?_ | refine TO.pureP tab rfl rfl ?_ | refine TO.nil ?_ | refine thenQ_n ?_ | refine blockQ_n ?_ | refine thenQ_r ?_ | refine blockQ_r ?_ | refine thenQ_x ?_ | refine blockQ_hit ?_ | refine blockQ_miss rfl ?_ | refine TC.skip ?_ | refine TC.exit ?_ | refine TC.ret ?_ | refine TC.cond_t rfl ?_ | refine TC.cond_f rfl ?_)
      refine TC.condP rfl (fun hlq' => ?_) (fun hlq' => ?_)
      · have hlq : q < gs.length := by omega
        have hrq : gs[q]? = some (row gs q) := row_get hlq
        repeat (first | refine TC.seq ?_ | refine TC.block ?_ | refine TC.region ?_ | refine TO.pureP tab rfl rfl ?_ | refine TO.nil ?_ | refine thenQ_n ?_ | refine blockQ_n ?_ | refine thenQ_r ?_ | refine blockQ_r ?_ | refine thenQ_x ?_ | refine blockQ_hit ?_ | refine blockQ_miss rfl ?_ | refine TC.skip ?_ | refine TC.exit ?_ | refine TC.ret ?_ | refine TC.cond_t rfl ?_ | refine TC.cond_f rfl ?_)
        refine TC.loopK (ι := Nat) [1, 2, 5, 7, 9, 10, 13] rfl (fun k => [(14, .int .i64 (k : Int))]) (fun _ => m5) (fun _ => .cells b 0 (hierC hh) :: L) (fun k => k ≤ (row gs q).length) (fun k => (row gs q).length - k) 0 (by repeat (first | exact trivial | refine And.intro rfl ?_)) rfl (List.Sublist.refl _) (Nat.zero_le _) ?_
        intro k hk
        repeat (first | refine TC.seq ?_ | refine TC.block ?_ | refine TC.region ?_ | refine TO.pureP tab rfl rfl ?_ | refine TO.nil ?_ | refine thenQ_n ?_ | refine blockQ_n ?_ | refine thenQ_r ?_ | refine blockQ_r ?_ | refine thenQ_x ?_ | refine blockQ_hit ?_ | refine blockQ_miss rfl ?_ | refine TC.skip ?_ | refine TC.exit ?_ | refine TC.ret ?_ | refine TC.cond_t rfl ?_ | refine TC.cond_f rfl ?_)
        refine TO.step rfl (OT.index tab rInts q htg5 rfl rfl rfl rfl rfl (by first | rfl | omega) rfl hrq ?_)
        rintro b2 i2 hd2 hrd2 hA2
        (first | refine TO.step rfl (OT.loadA tab hA2 rfl rfl rfl rfl rfl ?_) | refine TO.step rfl (OT.loadA0 tab hA2 rfl rfl rfl rfl rfl ?_))
        have hrl := hrd2.len
        have hrs := hrd2.small rfl
        repeat (first | refine TC.seq ?_ | refine TC.block ?_ | refine TC.region ?_ | refine TO.pureP tab rfl rfl ?_ | refine TO.nil ?_ | refine thenQ_n ?_ | refine blockQ_n ?_ | refine thenQ_r ?_ | refine blockQ_r ?_ | refine thenQ_x ?_ | refine blockQ_hit ?_ | refine blockQ_miss rfl ?_ | refine TC.skip ?_ | refine TC.exit ?_ | refine TC.ret ?_ | refine TC.cond_t rfl ?_ | refine TC.cond_f rfl ?_)
        (first | refine TO.splitP rfl rfl (fun hlk' => ?_) (fun hlk' => ?_) | refine TO.splitN rfl rfl (fun hlk' => ?_) (fun hlk' => ?_) | refine TO.split rfl rfl (fun hlk' => ?_) (fun hlk' => ?_))
        · have hlk : k < (row gs q).length := by omega
          repeat (first | refine TC.seq ?_ | refine TC.block ?_ | refine TC.region ?_ | refine TO.pureP tab rfl rfl ?_ | refine TO.nil ?_ | refine thenQ_n ?_ | refine blockQ_n ?_ | refine thenQ_r ?_ | refine blockQ_r ?_ | refine thenQ_x ?_ | refine blockQ_hit ?_ | refine blockQ_miss rfl ?_ | refine TC.skip ?_ | refine TC.exit ?_ | refine TC.ret ?_ | refine TC.cond_t rfl ?_ | refine TC.cond_f rfl ?_)
          refine TO.step rfl (OT.index tab rInts q htg5 rfl rfl rfl rfl rfl (by first | rfl | omega) rfl hrq ?_)
          rintro b3 i3 hd3 hrd3 hA3
          (first | refine TO.step rfl (OT.loadA tab hA3 rfl rfl rfl rfl rfl ?_) | refine TO.step rfl (OT.loadA0 tab hA3 rfl rfl rfl rfl rfl ?_))
          repeat (first | refine TC.seq ?_ | refine TC.block ?_ | refine TC.region ?_ | refine TO.pureP tab rfl rfl ?_ | refine TO.nil ?_ | refine thenQ_n ?_ | refine blockQ_n ?_ | refine thenQ_r ?_ | refine blockQ_r ?_ | refine thenQ_x ?_ | refine blockQ_hit ?_ | refine blockQ_miss rfl ?_ | refine TC.skip ?_ | refine TC.exit ?_ | refine TC.ret ?_ | refine TC.cond_t rfl ?_ | refine TC.cond_f rfl ?_)
          refine TO.step rfl (OT.call rfl rfl rfl rfl rfl rfl goes17 ((has_int m5 _ hd3 (row gs q) (i : Int) hrd3).x ?_));
          rintro _ _ _ ⟨rfl, rfl, rfl⟩
          repeat (first | refine TC.seq ?_ | refine TC.block ?_ | refine TC.region ?_ | refine TO.pureP tab rfl rfl ?_ | refine TO.nil ?_ | refine thenQ_n ?_ | refine blockQ_n ?_ | refine thenQ_r ?_ | refine blockQ_r ?_ | refine thenQ_x ?_ | refine blockQ_hit ?_ | refine blockQ_miss rfl ?_ | refine TC.skip ?_ | refine TC.exit ?_ | refine TC.ret ?_ | refine TC.cond_t rfl ?_ | refine TC.cond_f rfl ?_)
          refine TC.condP rfl (fun hin => ?_) (fun hin => ?_)
          · have hxk : (row gs q)[k]? = some (row gs q)[k] := by simp [hlk]
            have hxm := List.getElem_mem hlk
            obtain ⟨hx0, hx1, _⟩ := hP.rng q _ hrq _ hxm
            have hp := hP.reach q _ hrq _ hin _ hxm
            generalize (row gs q)[k] = x at *
            simp only [Int.toNat_natCast] at hp
            have hbx : bs[x.toNat]? = some true := (hbp x.toNat).2 hp
            have hxn : x = ((x.toNat : Nat) : Int) := by omega
            repeat (first | refine TC.seq ?_ | refine TC.block ?_ | refine TC.region ?_ | refine TO.pureP tab rfl rfl ?_ | refine TO.nil ?_ | refine thenQ_n ?_ | refine blockQ_n ?_ | refine thenQ_r ?_ | refine blockQ_r ?_ | refine thenQ_x ?_ | refine blockQ_hit ?_ | refine blockQ_miss rfl ?_ | refine TC.skip ?_ | refine TC.exit ?_ | refine TC.ret ?_ | refine TC.cond_t rfl ?_ | refine TC.cond_f rfl ?_)
            refine TO.step rfl (OT.index tab rInts q htg5 rfl rfl rfl rfl rfl (by first | rfl | omega) rfl hrq ?_)
            rintro b4 i4 hd4 hrd4 hA4
            (first | refine TO.step rfl (OT.loadA tab hA4 rfl rfl rfl rfl rfl ?_) | refine TO.step rfl (OT.loadA0 tab hA4 rfl rfl rfl rfl rfl ?_))
            repeat (first | refine TC.seq ?_ | refine TC.block ?_ | refine TC.region ?_ | refine TO.pureP tab rfl rfl ?_ | refine TO.nil ?_ | refine thenQ_n ?_ | refine blockQ_n ?_ | refine thenQ_r ?_ | refine blockQ_r ?_ | refine thenQ_x ?_ | refine blockQ_hit ?_ | refine blockQ_miss rfl ?_ | refine TC.skip ?_ | refine TC.exit ?_ | refine TC.ret ?_ | refine TC.cond_t rfl ?_ | refine TC.cond_f rfl ?_)
            refine TO.step rfl (OT.index tab rInt k hrd4 rfl rfl rfl rfl rfl (by first | rfl | omega) rfl hxk ?_)
            rintro b5 i5 hd5 hrd5 hA5
            obtain rfl := (show hd5 = x from hrd5)
            (first | refine TO.step rfl (OT.loadA tab hA5 rfl rfl rfl rfl rfl ?_) | refine TO.step rfl (OT.loadA0 tab hA5 rfl rfl rfl rfl rfl ?_))
            refine TO.step rfl (OT.index tab rBool hd5.toNat htb rfl rfl rfl rfl rfl (by first | rfl | omega) rfl hbx ?_)
            rintro b6 i6 hd6 hrd6 hA6
            obtain rfl := (show hd6 = true from hrd6)
            (first | refine TO.step rfl (OT.loadA tab hA6 rfl rfl rfl rfl rfl ?_) | refine TO.step rfl (OT.loadA0 tab hA6 rfl rfl rfl rfl rfl ?_))
            repeat (first | refine TC.seq ?_ | refine TC.block ?_ | refine TC.region ?_ | refine TO.pureP tab rfl rfl ?_ | refine TO.nil ?_ | refine thenQ_n ?_ | refine blockQ_n ?_ | refine thenQ_r ?_ | refine blockQ_r ?_ | refine thenQ_x ?_ | refine blockQ_hit ?_ | refine blockQ_miss rfl ?_ | refine TC.skip ?_ | refine TC.exit ?_ | refine TC.ret ?_ | refine TC.cond_t rfl ?_ | refine TC.cond_f rfl ?_)
            refine TO.step rfl (OT.arith (r' := ((k + 1 : Nat) : Int)) rfl rfl rfl rfl rfl rfl rfl (by omega) ?_)
            repeat (first | refine TC.seq ?_ | refine TC.block ?_ | refine TC.region ?_ | refine TO.pureP tab rfl rfl ?_ | refine TO.nil ?_ | refine thenQ_n ?_ | refine blockQ_n ?_ | refine thenQ_r ?_ | refine blockQ_r ?_ | refine thenQ_x ?_ | refine blockQ_hit ?_ | refine blockQ_miss rfl ?_ | refine TC.skip ?_ | refine TC.exit ?_ | refine TC.ret ?_ | refine TC.cond_t rfl ?_ | refine TC.cond_f rfl ?_)
            exact ⟨k + 1, (by repeat (first | exact trivial | refine And.intro rfl ?_)), (by repeat (first | exact trivial | refine And.intro rfl ?_)), rfl, rfl, (by repeat (first | exact List.Sublist.refl _ | exact List.sublist_append_left _ _ | refine List.Sublist.cons_cons _ ?_ | refine List.Sublist.cons _ ?_)), by omega, by omega⟩
          · repeat (first | refine TC.seq ?_ | refine TC.block ?_ | refine TC.region ?_ | refine TO.pureP tab rfl rfl ?_ | refine TO.nil ?_ | refine thenQ_n ?_ | refine blockQ_n ?_ | refine thenQ_r ?_ | refine blockQ_r ?_ | refine thenQ_x ?_ | refine blockQ_hit ?_ | refine blockQ_miss rfl ?_ | refine TC.skip ?_ | refine TC.exit ?_ | refine TC.ret ?_ | refine TC.cond_t rfl ?_ | refine TC.cond_f rfl ?_)
            refine TO.step rfl (OT.arith (r' := ((q + 1 : Nat) : Int)) rfl rfl rfl rfl rfl rfl rfl (by omega) ?_)
            repeat (first | refine TC.seq ?_ | refine TC.block ?_ | refine TC.region ?_ | refine TO.pureP tab rfl rfl ?_ | refine TO.nil ?_ | refine thenQ_n ?_ | refine blockQ_n ?_ | refine thenQ_r ?_ | refine blockQ_r ?_ | refine thenQ_x ?_ | refine blockQ_hit ?_ | refine blockQ_miss rfl ?_ | refine TC.skip ?_ | refine TC.exit ?_ | refine TC.ret ?_ | refine TC.cond_t rfl ?_ | refine TC.cond_f rfl ?_)
            exact ⟨q + 1, (by repeat (first | exact trivial | refine And.intro rfl ?_)), (by repeat (first | exact trivial | refine And.intro rfl ?_)), rfl, rfl, (by repeat (first | exact List.Sublist.refl _ | exact List.sublist_append_left _ _ | refine List.Sublist.cons_cons _ ?_ | refine List.Sublist.cons _ ?_)), by omega, by omega⟩
        · repeat (first | refine TC.seq ?_ | refine TC.block ?_ | refine TC.region ?_ | refine TO.pureP tab rfl rfl ?_ | refine TO.nil ?_ | refine thenQ_n ?_ | refine blockQ_n ?_ | refine thenQ_r ?_ | refine blockQ_r ?_ | refine thenQ_x ?_ | refine blockQ_hit ?_ | refine blockQ_miss rfl ?_ | refine TC.skip ?_ | refine TC.exit ?_ | refine TC.ret ?_ | refine TC.cond_t rfl ?_ | refine TC.cond_f rfl ?_)
          refine TO.step rfl (OT.arith (r' := ((q + 1 : Nat) : Int)) rfl rfl rfl rfl rfl rfl rfl (by omega) ?_)
          repeat (first | refine TC.seq ?_ | refine TC.block ?_ | refine TC.region ?_ | refine TO.pureP tab rfl rfl ?_ | refine TO.nil ?_ | refine thenQ_n ?_ | refine blockQ_n ?_ | refine thenQ_r ?_ | refine blockQ_r ?_ | refine thenQ_x ?_ | refine blockQ_hit ?_ | refine blockQ_miss rfl ?_ | refine TC.skip ?_ | refine TC.exit ?_ | refine TC.ret ?_ | refine TC.cond_t rfl ?_ | refine TC.cond_f rfl ?_)
          exact ⟨q + 1, (by repeat (first | exact trivial | refine And.intro rfl ?_)), (by repeat (first | exact trivial | refine And.intro rfl ?_)), rfl, rfl, (by repeat (first | exact List.Sublist.refl _ | exact List.sublist_append_left _ _ | refine List.Sublist.cons_cons _ ?_ | refine List.Sublist.cons _ ?_)), by omega, by omega⟩
      · repeat (first | refine TC.seq ?_ | refine TC.block ?_ | refine TC.region ?_ | refine TO.pureP tab rfl rfl ?_ | refine TO.nil ?_ | refine thenQ_n ?_ | refine blockQ_n ?_ | refine thenQ_r ?_ | refine blockQ_r ?_ | refine thenQ_x ?_ | refine blockQ_hit ?_ | refine blockQ_miss rfl ?_ | refine TC.skip ?_ | refine TC.exit ?_ | refine TC.ret ?_ | refine TC.cond_t rfl ?_ | refine TC.cond_f rfl ?_)
        refine TO.step rfl (OT.arith (r' := ((i + 1 : Nat) : Int)) rfl rfl rfl rfl rfl rfl rfl (by omega) ?_)
        repeat (first | refine TC.seq ?_ | refine TC.block ?_ | refine TC.region ?_ | refine TO.pureP tab rfl rfl ?_ | refine TO.nil ?_ | refine thenQ_n ?_ | refine blockQ_n ?_ | refine thenQ_r ?_ | refine blockQ_r ?_ | refine thenQ_x ?_ | refine blockQ_hit ?_ | refine blockQ_miss rfl ?_ | refine TC.skip ?_ | refine TC.exit ?_ | refine TC.ret ?_ | refine TC.cond_t rfl ?_ | refine TC.cond_f rfl ?_)
        exact ⟨⟨i + 1, ⟨none, 0, 0⟩, m5⟩, (by repeat (first | exact trivial | refine And.intro rfl ?_)), (by repeat (first | exact trivial | refine And.intro rfl ?_)), rfl, rfl, (by repeat (first | exact List.Sublist.refl _ | exact List.sublist_append_left _ _ | refine List.Sublist.cons_cons _ ?_ | refine List.Sublist.cons _ ?_)), ⟨by simp only; omega, Mem.le_trans hm4 hm5⟩, by simp only; omega⟩
  · have hxf : as1[frm.toNat]? = some true := (hap frm.toNat).2 .refl
    have hta4 := hta3.mono hm4
    repeat (first | refine TC.seq ?_ | refine TC.block ?_ | refine TC.region ?_ | refine TO.pureP tab rfl rfl ?_ | refine TO.nil ?_ | refine thenQ_n ?_ | refine blockQ_n ?_ | refine thenQ_r ?_ | refine blockQ_r ?_ | refine thenQ_x ?_ | refine blockQ_hit ?_ | refine blockQ_miss rfl ?_ | refine TC.skip ?_ | refine TC.exit ?_ | refine TC.ret ?_ | refine TC.cond_t rfl ?_ | refine TC.cond_f rfl ?_)
    refine TO.step rfl (OT.index tab rBool frm.toNat hta4 rfl rfl rfl rfl rfl (by first | rfl | omega) rfl hxf ?_)
    rintro b2 i2 hd2 hrd2 hA2
    obtain rfl := (show hd2 = true from hrd2)
    (first | refine TO.step rfl (OT.loadA tab hA2 rfl rfl rfl rfl rfl ?_) | refine TO.step rfl (OT.loadA0 tab hA2 rfl rfl rfl rfl rfl ?_))
    repeat (first | refine TC.seq ?_ | refine TC.block ?_ | refine TC.region ?_ | refine TO.pureP tab rfl rfl ?_ | refine TO.nil ?_ | refine thenQ_n ?_ | refine blockQ_n ?_ | refine thenQ_r ?_ | refine blockQ_r ?_ | refine thenQ_x ?_ | refine blockQ_hit ?_ | refine blockQ_miss rfl ?_ | refine TC.skip ?_ | refine TC.exit ?_ | refine TC.ret ?_ | refine TC.cond_t rfl ?_ | refine TC.cond_f rfl ?_)
    refine retQ_ret rfl (by repeat (first | exact List.Sublist.refl _ | exact List.sublist_append_left _ _ | refine List.Sublist.cons_cons _ ?_ | refine List.Sublist.cons _ ?_)) ⟨Mem.le_trans hle hm4, rfl, rfl⟩
end Go.Sep
