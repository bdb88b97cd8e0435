/-
  Walks of layer 13: awake.
-/
import Derived.Test.YtopkiglcemcjnaaCxPlain
set_option linter.unusedVariables false
set_option linter.unusedSimpArgs false
namespace Go.Sep
open Go.Proofs
attribute [local irreducible] TC TO OT TCallX TCall DO DOt thenQ blockQ retQ At

def hier0 : Hier := ⟨2, [], [], [⟨0, 1, -1, []⟩]⟩
def hierE : Hier := ⟨0, [], [], []⟩

theorem hier0_ok : soundM hier0 = 0 := by
  refine soundM_ok.2 ⟨⟨by decide, by decide, by decide, by decide⟩, ⟨by decide, fun c hc => (by cases hc), fun c hc => (by cases hc), fun s hs => ?_⟩⟩
  simp only [hier0, List.mem_singleton] at hs
  subst hs
  exact ⟨by decide, .inl (by decide)⟩
theorem hierE_ok : soundM hierE = 0 := by
  refine soundM_ok.2 ⟨⟨by decide, by decide, by decide, by decide⟩, ⟨by decide, fun c hc => (by cases hc), fun c hc => (by cases hc), fun s hs => (by cases hs)⟩⟩
theorem hier0_graph : graphM hier0 = [[1], []] := by decide

theorem edge0 {i j : Nat} : Edge [[1], []] i j ↔ i = 0 ∧ j = 1 := by
  constructor
  · rintro ⟨r, h1, h2⟩
    rcases i with _ | _ | i
    · simp at h1; subst h1; simp at h2; exact ⟨rfl, by omega⟩
    · simp at h1; subst h1; cases h2
    · simp at h1
  · rintro ⟨rfl, rfl⟩
    exact ⟨[1], rfl, by simp⟩
theorem path10 {a b : Nat} (h : Path [[1], []] a b) : a = b ∨ (a = 0 ∧ b = 1) := by
  induction h with
  | refl => exact .inl rfl
  | step h1 h2 ih =>
    have := edge0.1 h2
    rcases ih with e | e
    · exact .inr ⟨by omega, this.2⟩
    · exact .inr ⟨e.1, this.2⟩
theorem groups0 {gs : List (List Int)} (h : GroupsOut hier0 gs) : gs = [[1], [0]] := by
  rw [GroupsOut, if_neg (by rw [hier0_ok]; decide), hier0_graph] at h
  have hR : RowsOk 2 [[1], []] := ⟨by decide, by decide⟩
  have h1 := groups_ref hR rfl h (C := fun i j => decide (i = 0 ∧ j = 1)) (fun i j _ _ => by
    simp only [decide_eq_true_eq]
    constructor
    · intro e; exact ⟨1, edge0.2 ⟨e.1, rfl⟩, by rw [e.2]; exact .refl⟩
    · rintro ⟨c, h1, h2⟩
      have := edge0.1 h1
      rcases path10 h2 with e | e <;> omega) (gs.length + 5) (by omega)
  rw [← h1]
  rfl

set_option maxHeartbeats 1000000 in
theorem awake_law (m : Mem) (L : List Item) : TCall Try.prog 10 ⟨[]⟩ m L (Made m L fun r m' => r = .bool true) := by
  unfold TCall
  refine TCallX.enter Try.func10 rfl 37 rfl ?_
  repeat (first | refine TC.seq ?_ | refine TC.block ?_ | refine TC.region ?_ | refine TO.pureP tab rfl rfl ?_ | refine TO.nil ?_ | refine thenQ_n ?_ | refine blockQ_n ?_ | refine thenQ_r ?_ | refine blockQ_r ?_ | refine thenQ_x ?_ | refine blockQ_hit ?_ | refine blockQ_miss rfl ?_ | refine TC.skip ?_ | refine TC.exit ?_ | refine TC.ret ?_ | refine TC.cond_t rfl ?_ | refine TC.cond_f rfl ?_)
  refine TO.step rfl (OT.lit tab rfl rfl rfl rfl (fun bl => ?_))
  refine TO.freeze fun m1 hm1 hA => ?_
  have hr : HierRep m1 ⟨2, ⟨none, 0, 0⟩, ⟨none, 0, 0⟩, ⟨some ⟨bl, 0, none⟩, 1, 1⟩⟩ hier0 := by
    refine ⟨rfl, SlRep.nil _ _, SlRep.nil _ _, ?_⟩
    exact SlRep.one (h := (⟨0, 1, -1, []⟩ : Site)) hA rfl (by decide)
  repeat (first | refine TC.seq ?_ | refine TC.block ?_ | refine TC.region ?_ | refine TO.pureP tab rfl rfl ?_ | refine TO.nil ?_ | refine thenQ_n ?_ | refine blockQ_n ?_ | refine thenQ_r ?_ | refine blockQ_r ?_ | refine thenQ_x ?_ | refine blockQ_hit ?_ | refine blockQ_miss rfl ?_ | refine TC.skip ?_ | refine TC.exit ?_ | refine TC.ret ?_ | refine TC.cond_t rfl ?_ | refine TC.cond_f rfl ?_)
  refine TO.step rfl (OT.call rfl rfl rfl rfl rfl rfl goes8 ((groups_own m1 L _ hier0 hr).x ?_));
  rintro _ m2 _ ⟨hm2, rfl, t, gs, rfl, ht, hgs⟩
  rw [hier0_ok]
  have := groups0 hgs
  subst this
  obtain ⟨ta, tl, tc⟩ := t
  have hl := ht.len
  simp only [List.length_cons, List.length_nil] at hl
  subst hl
  repeat (first | refine TC.seq ?_ | refine TC.block ?_ | refine TC.region ?_ | refine TO.pureP tab rfl rfl ?_ | refine TO.nil ?_ | refine thenQ_n ?_ | refine blockQ_n ?_ | refine thenQ_r ?_ | refine blockQ_r ?_ | refine thenQ_x ?_ | refine blockQ_hit ?_ | refine blockQ_miss rfl ?_ | refine TC.skip ?_ | refine TC.exit ?_ | refine TC.ret ?_ | refine TC.cond_t rfl ?_ | refine TC.cond_f rfl ?_)
  refine TO.step rfl (OT.index tab rInts 0 ht rfl rfl rfl rfl rfl (by first | rfl | omega) rfl (rfl : ([[1], [0]] : List (List Int))[0]? = some [1]) ?_)
  rintro b1 i1 hd1 hrd1 hA1
  (first | refine TO.step rfl (OT.loadA tab hA1 rfl rfl rfl rfl rfl ?_) | refine TO.step rfl (OT.loadA0 tab hA1 rfl rfl rfl rfl rfl ?_))
  obtain ⟨da, dl, dc⟩ := hd1
  have hl1 := hrd1.len
  simp only [List.length_cons, List.length_nil] at hl1
  subst hl1
  repeat (first | refine TC.seq ?_ | refine TC.block ?_ | refine TC.region ?_ | refine TO.pureP tab rfl rfl ?_ | refine TO.nil ?_ | refine thenQ_n ?_ | refine blockQ_n ?_ | refine thenQ_r ?_ | refine blockQ_r ?_ | refine thenQ_x ?_ | refine blockQ_hit ?_ | refine blockQ_miss rfl ?_ | refine TC.skip ?_ | refine TC.exit ?_ | refine TC.ret ?_ | refine TC.cond_t rfl ?_ | refine TC.cond_f rfl ?_)
  refine TO.step rfl (OT.index tab rInts 0 ht rfl rfl rfl rfl rfl (by first | rfl | omega) rfl (rfl : ([[1], [0]] : List (List Int))[0]? = some [1]) ?_)
  rintro b2 i2 hd2 hrd2 hA2
  (first | refine TO.step rfl (OT.loadA tab hA2 rfl rfl rfl rfl rfl ?_) | refine TO.step rfl (OT.loadA0 tab hA2 rfl rfl rfl rfl rfl ?_))
  refine TO.step rfl (OT.index tab rInt 0 hrd2 rfl rfl rfl rfl rfl (by first | rfl | omega) rfl (rfl : ([1] : List Int)[0]? = some 1) ?_)
  rintro b3 i3 hd3 hrd3 hA3
  obtain rfl := (show hd3 = 1 from hrd3)
  (first | refine TO.step rfl (OT.loadA tab hA3 rfl rfl rfl rfl rfl ?_) | refine TO.step rfl (OT.loadA0 tab hA3 rfl rfl rfl rfl rfl ?_))
  repeat (first | refine TC.seq ?_ | refine TC.block ?_ | refine TC.region ?_ | refine TO.pureP tab rfl rfl ?_ | refine TO.nil ?_ | refine thenQ_n ?_ | refine blockQ_n ?_ | refine thenQ_r ?_ | refine blockQ_r ?_ | refine thenQ_x ?_ | refine blockQ_hit ?_ | refine blockQ_miss rfl ?_ | refine TC.skip ?_ | refine TC.exit ?_ | refine TC.ret ?_ | refine TC.cond_t rfl ?_ | refine TC.cond_f rfl ?_)
  refine TO.step rfl (OT.call rfl rfl rfl rfl rfl rfl goes19 ((sound_own m2 L ⟨0, ⟨none, 0, 0⟩, ⟨none, 0, 0⟩, ⟨none, 0, 0⟩⟩ hierE ⟨rfl, SlRep.nil _ _, SlRep.nil _ _, SlRep.nil _ _⟩).x ?_));
  rintro _ _ _ ⟨rfl, rfl, rfl⟩
  rw [hierE_ok]
  repeat (first | refine TC.seq ?_ | refine TC.block ?_ | refine TC.region ?_ | refine TO.pureP tab rfl rfl ?_ | refine TO.nil ?_ | refine thenQ_n ?_ | refine blockQ_n ?_ | refine thenQ_r ?_ | refine blockQ_r ?_ | refine thenQ_x ?_ | refine blockQ_hit ?_ | refine blockQ_miss rfl ?_ | refine TC.skip ?_ | refine TC.exit ?_ | refine TC.ret ?_ | refine TC.cond_t rfl ?_ | refine TC.cond_f rfl ?_)
  refine retQ_ret rfl (by repeat (first | exact List.Sublist.refl _ | refine List.Sublist.cons_cons _ ?_ | refine List.Sublist.cons _ ?_)) ⟨Mem.le_trans hm1 hm2, rfl, rfl⟩
end Go.Sep
