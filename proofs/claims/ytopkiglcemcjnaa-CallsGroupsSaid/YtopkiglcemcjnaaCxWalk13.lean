/-
  Walks of layer 13: Groups. The tree of region 4 is written by program (every order in which the call and the three makes may come up).
-/
import Derived.Test.YtopkiglcemcjnaaCxWalk12
import Derived.Test.YtopkiglcemcjnaaCxOrd2
set_option linter.unusedVariables false
set_option linter.unusedSimpArgs false
namespace Go.Sep
open Go.Proofs
attribute [local irreducible] TC TO OT TCallX TCall DO DOt thenQ blockQ retQ At

structure G0 where
  m : Mem
  p : TP
  Lx : List Item

structure GA where
  k : Nat
  ws : List MapH
  ss : List Sl
  st : WA
  m : Mem

def mok : MapH → Prop
  | none => True
  | some (_, es, _) => ∀ e ∈ es, e.2.1 = Value.agg ⟨[]⟩
theorem mok_get {es : Ents Int} (h : ∀ e ∈ es, e.2.1 = Value.agg ⟨[]⟩) (x : Int) : (mget es x).getD (.agg ⟨[]⟩) = .agg ⟨[]⟩ := by
  unfold mget
  cases hf : es.find? fun e => decide (e.1 = x) with
  | none => rfl
  | some e => exact h e (List.mem_of_find?_eq_some hf)
theorem mok_set {es : Ents Int} (h : ∀ e ∈ es, e.2.1 = Value.agg ⟨[]⟩) (x : Int) (c : Nat) (hn : mhas es x = false) : ∀ e ∈ mset es x (.agg ⟨[]⟩) c, e.2.1 = Value.agg ⟨[]⟩ := by
  intro e he
  unfold mset at he
  simp only [hn, Bool.false_eq_true, if_false, List.mem_append, List.mem_singleton] at he
  rcases he with he | he
  · exact h e he
  · rw [he]

theorem perm_groups {α : Type} {a w b : α} {T M L : List α} : (T ++ (M ++ (a :: w :: b :: L))).Perm (w :: a :: b :: (M ++ (T ++ L))) := by
  have h1 : (T ++ (M ++ ([a, w, b] ++ L))).Perm ([a, w, b] ++ (M ++ (T ++ L))) := by
    rw [← List.append_assoc, ← List.append_assoc M T L]
    refine List.Perm.trans ?_ (List.Perm.append_left _ (List.Perm.append_right _ List.perm_append_comm))
    exact List.perm_append_comm_assoc _ _ _
  exact h1.trans (List.Perm.swap _ _ _)

theorem set3 {a b c : Item} {ws : List MapH} {L : List Item} {k bm c0 : Nat} {es : Ents Int} (h : k < ws.length) : (a :: b :: c :: (mtoks ws ++ L)).set (3 + k) (.obj bm (mapO kInt es c0)) = a :: b :: c :: (mtoks (ws.set k (some (bm, es, c0))) ++ L) := by
  rw [show 3 + k = k + 1 + 1 + 1 by omega]
  simp only [List.set_cons_succ]
  rw [List.set_append_left _ _ (by simpa [mtoks] using h)]
  congr 4
  simp [mtoks, List.map_set, mitem]
theorem at3 {a b c : Item} {ws : List MapH} {L : List Item} {k : Nat} {x : MapH} (h : ws[k]? = some x) : (a :: b :: c :: (mtoks ws ++ L))[3 + k]? = some (mitem x) := by
  rw [show 3 + k = k + 1 + 1 + 1 by omega]; exact mtoks_at L h
theorem toks_out2 {M : List Item} {ss : List Sl} {size k : Nat} {s : Sl} (L : List Item) (h : ss[k]? = some s) : (M ++ (toks ss size ++ L)).Perm (tok s size :: (M ++ (toks (ss.eraseIdx k) size ++ L))) :=
  (List.Perm.append_left _ (toks_out L h)).trans List.perm_middle
theorem toks_in2 {M : List Item} {ss : List Sl} {size k : Nat} {s : Sl} (L : List Item) (h : k < ss.length) : (tok s size :: (M ++ (toks (ss.eraseIdx k) size ++ L))).Perm (M ++ (toks (ss.set k s) size ++ L)) :=
  List.perm_middle.symm.trans (List.Perm.append_left _ (toks_in L h))

/-- what Groups answers for a sound graph -/
def GroupsRes (g : List (List Int)) (n : Nat) (gs : List (List Int)) : Prop :=
  ∃ (grp : List Int) (ng : Nat) (done : List Int), GroupsOk g n grp ng ∧ OrdOut ng (leastAt (membersM grp ng n)) (askAll g grp ng n).w done ∧ gs = done.map fun i => row (membersM grp ng n) i.toNat
def GroupsOut (h : Hier) (gs : List (List Int)) : Prop := if soundM h ≠ 0 then gs = [] else GroupsRes (graphM h) h.funcs.toNat gs

set_option maxHeartbeats 4000000 in
theorem groups_own (m : Mem) (L : List Item) (hh : HHier) (h : Hier) (hr : HierRep m hh h) :
    TCall Try.prog 8 ⟨[hierV hh]⟩ m L (Made m L fun r m' => ∃ (t : Sl) (gs : List (List Int)), r = .tuple ⟨[t.v, .int .i64 (soundM h)]⟩ ∧ SlRep rInts m' t gs ∧ GroupsOut h gs) := by
  have hfu := hr.funcs
  unfold TCall
  refine TCallX.enter Try.func8 rfl 172 rfl ?_
  repeat (first | refine TC.seq ?_ | refine TC.block ?_ | refine TC.region ?_ | refine TO.pureP tab rfl rfl ?_ | refine TO.nil ?_ | refine thenQ_n ?_ | refine blockQ_n ?_ | refine thenQ_r ?_ | refine blockQ_r ?_ | refine thenQ_x ?_ | refine blockQ_hit ?_ | refine blockQ_miss rfl ?_ | refine TC.skip ?_ | refine TC.exit ?_ | refine TC.ret ?_ | refine TC.cond_t rfl ?_ | refine TC.cond_f rfl ?_)
  refine TO.step rfl (OT.box rfl rfl rfl rfl rfl (fun b => ?_))
  repeat (first | (first | refine TC.seq ?_ | refine TC.block ?_ | refine TC.region ?_ | refine TO.pureP tab rfl rfl ?_ | refine TO.nil ?_ | refine thenQ_n ?_ | refine blockQ_n ?_ | refine thenQ_r ?_ | refine blockQ_r ?_ | refine thenQ_x ?_ | refine blockQ_hit ?_ | refine blockQ_miss rfl ?_ | refine TC.skip ?_ | refine TC.exit ?_ | refine TC.ret ?_ | refine TC.cond_t rfl ?_ | refine TC.cond_f rfl ?_) | (first | refine TO.step rfl (OT.loadL tab 0 rfl rfl rfl rfl rfl rfl ?_) | refine TO.step rfl (OT.loadL0 tab 0 rfl rfl rfl rfl rfl rfl ?_) | refine TO.step rfl (OT.loadL tab 1 rfl rfl rfl rfl rfl rfl ?_) | refine TO.step rfl (OT.loadL0 tab 1 rfl rfl rfl rfl rfl rfl ?_) | refine TO.step rfl (OT.loadL tab 2 rfl rfl rfl rfl rfl rfl ?_) | refine TO.step rfl (OT.loadL0 tab 2 rfl rfl rfl rfl rfl rfl ?_) | refine TO.step rfl (OT.loadL tab 3 rfl rfl rfl rfl rfl rfl ?_) | refine TO.step rfl (OT.loadL0 tab 3 rfl rfl rfl rfl rfl rfl ?_) | refine TO.step rfl (OT.loadL tab 4 rfl rfl rfl rfl rfl rfl ?_) | refine TO.step rfl (OT.loadL0 tab 4 rfl rfl rfl rfl rfl rfl ?_) | refine TO.step rfl (OT.loadL tab 5 rfl rfl rfl rfl rfl rfl ?_) | refine TO.step rfl (OT.loadL0 tab 5 rfl rfl rfl rfl rfl rfl ?_) | refine TO.step rfl (OT.loadL tab 6 rfl rfl rfl rfl rfl rfl ?_) | refine TO.step rfl (OT.loadL0 tab 6 rfl rfl rfl rfl rfl rfl ?_) | refine TO.step rfl (OT.loadL tab 7 rfl rfl rfl rfl rfl rfl ?_) | refine TO.step rfl (OT.loadL0 tab 7 rfl rfl rfl rfl rfl rfl ?_) | refine TO.step rfl (OT.loadL tab 8 rfl rfl rfl rfl rfl rfl ?_) | refine TO.step rfl (OT.loadL0 tab 8 rfl rfl rfl rfl rfl rfl ?_) | refine TO.step rfl (OT.loadL tab 9 rfl rfl rfl rfl rfl rfl ?_) | refine TO.step rfl (OT.loadL0 tab 9 rfl rfl rfl rfl rfl rfl ?_)))
  refine TO.step rfl (OT.call rfl rfl rfl rfl rfl rfl goes19 ((sound_own m _ hh h hr).x ?_));
  rintro _ _ _ ⟨rfl, rfl, rfl⟩
  repeat (first | refine TC.seq ?_ | refine TC.block ?_ | refine TC.region ?_ | refine TO.pureP tab rfl rfl ?_ | refine TO.nil ?_ | refine thenQ_n ?_ | refine blockQ_n ?_ | refine thenQ_r ?_ | refine blockQ_r ?_ | refine thenQ_x ?_ | refine blockQ_hit ?_ | refine blockQ_miss rfl ?_ | refine TC.skip ?_ | refine TC.exit ?_ | refine TC.ret ?_ | refine TC.cond_t rfl ?_ | refine TC.cond_f rfl ?_)
  refine TC.condN rfl (fun hb => ?_) (fun hb => ?_)
  · repeat (first | refine TC.seq ?_ | refine TC.block ?_ | refine TC.region ?_ | refine TO.pureP tab rfl rfl ?_ | refine TO.nil ?_ | refine thenQ_n ?_ | refine blockQ_n ?_ | refine thenQ_r ?_ | refine blockQ_r ?_ | refine thenQ_x ?_ | refine blockQ_hit ?_ | refine blockQ_miss rfl ?_ | refine TC.skip ?_ | refine TC.exit ?_ | refine TC.ret ?_ | refine TC.cond_t rfl ?_ | refine TC.cond_f rfl ?_)
    refine retQ_ret rfl (by repeat (first | exact List.Sublist.refl _ | refine List.Sublist.cons_cons _ ?_ | refine List.Sublist.cons _ ?_)) ⟨Mem.le_refl _, rfl, ⟨none, 0, 0⟩, [], rfl, SlRep.nil _ _, ?_⟩
    rw [GroupsOut, if_pos hb]
  have hs0 : soundM h = 0 := by simpa using hb
  obtain ⟨hsm, hg⟩ := soundM_ok.1 hs0
  have hn := hg.funcs
  have hn2 := hsm.1
  have hfu' : hh.funcs = (h.funcs.toNat : Int) := by omega
  repeat (first | refine TC.seq ?_ | refine TC.block ?_ | refine TC.region ?_ | refine TO.pureP tab rfl rfl ?_ | refine TO.nil ?_ | refine thenQ_n ?_ | refine blockQ_n ?_ | refine thenQ_r ?_ | refine blockQ_r ?_ | refine thenQ_x ?_ | refine blockQ_hit ?_ | refine blockQ_miss rfl ?_ | refine TC.skip ?_ | refine TC.exit ?_ | refine TC.ret ?_ | refine TC.cond_t rfl ?_ | refine TC.cond_f rfl ?_)
  refine TC.cutT (ι := G0) [1] rfl (fun x => [(5, .pointer (some ⟨x.p.bt, 0, none⟩))]) (fun x => x.m) (fun x => x.Lx) (fun x => m ≤ x.m ∧ SlRep rInts x.m x.p.tg (graphM h) ∧ x.p.n = h.funcs.toNat ∧
    x.Lx.Perm ((.cells b 0 (hierC hh) :: L) ++ [.cells x.p.bt 0 (tcells x.p ⟨none, 0, 0⟩ (st0 x.p.n)), .cells x.p.bi 0 ((List.replicate x.p.n 0).map (Value.int .i64)), .cells x.p.bl 0 ((List.replicate x.p.n 0).map (Value.int .i64)), .cells x.p.bg 0 ((List.replicate x.p.n 0).map (Value.int .i64))])) ?_ ?_
  · refine TC.draw0 [] mixed 14 rfl ?_
    (first | refine DO.loadL tab 0 0 (by repeat (first | exact Calm.ret | refine Calm.then ?_ | refine Calm.block ?_ | assumption)) (by kernel_rfl) (by kernel_rfl) rfl rfl rfl rfl rfl rfl rfl rfl ?_ | refine DO.loadL (k := 0) tab 0 0 (by repeat (first | exact Calm.ret | refine Calm.then ?_ | refine Calm.block ?_ | assumption)) (by kernel_rfl) (by kernel_rfl) rfl rfl rfl rfl rfl rfl rfl rfl ?_)
    refine DO.pure tab (by repeat (first | exact Calm.ret | refine Calm.then ?_ | refine Calm.block ?_ | assumption)) (by kernel_rfl) [2] (by kernel_rfl) rfl ?_
    (first | refine DO.loadL tab 3 0 (by repeat (first | exact Calm.ret | refine Calm.then ?_ | refine Calm.block ?_ | assumption)) (by kernel_rfl) (by kernel_rfl) rfl rfl rfl rfl rfl rfl rfl rfl ?_ | refine DO.loadL (k := 0) tab 3 0 (by repeat (first | exact Calm.ret | refine Calm.then ?_ | refine Calm.block ?_ | assumption)) (by kernel_rfl) (by kernel_rfl) rfl rfl rfl rfl rfl rfl rfl rfl ?_)
    refine DO.pure tab (by repeat (first | exact Calm.ret | refine Calm.then ?_ | refine Calm.block ?_ | assumption)) (by kernel_rfl) [5] (by kernel_rfl) rfl ?_
    (first | refine DO.loadL tab 6 0 (by repeat (first | exact Calm.ret | refine Calm.then ?_ | refine Calm.block ?_ | assumption)) (by kernel_rfl) (by kernel_rfl) rfl rfl rfl rfl rfl rfl rfl rfl ?_ | refine DO.loadL (k := 0) tab 6 0 (by repeat (first | exact Calm.ret | refine Calm.then ?_ | refine Calm.block ?_ | assumption)) (by kernel_rfl) (by kernel_rfl) rfl rfl rfl rfl rfl rfl rfl rfl ?_)
    refine DO.pure tab (by repeat (first | exact Calm.ret | refine Calm.then ?_ | refine Calm.block ?_ | assumption)) (by kernel_rfl) [8] (by kernel_rfl) rfl ?_
    (first | refine DO.loadL tab 9 0 (by repeat (first | exact Calm.ret | refine Calm.then ?_ | refine Calm.block ?_ | assumption)) (by kernel_rfl) (by kernel_rfl) rfl rfl rfl rfl rfl rfl rfl rfl ?_ | refine DO.loadL (k := 0) tab 9 0 (by repeat (first | exact Calm.ret | refine Calm.then ?_ | refine Calm.block ?_ | assumption)) (by kernel_rfl) (by kernel_rfl) rfl rfl rfl rfl rfl rfl rfl rfl ?_)
    refine DO.fork 1 [4, 7, 10] (by kernel_rfl) ⟨⟨_, rfl, rfl, rfl, ?_⟩, ⟨_, rfl, rfl, rfl, ?_⟩, ⟨_, rfl, rfl, rfl, ?_⟩, ⟨_, rfl, rfl, rfl, ?_⟩, trivial⟩
    · refine OT.call rfl rfl rfl rfl rfl rfl goes21 ((graph_own m _ hh h hr hsm hg).x ?_); rintro _ m1 _ ⟨hm1, rfl, tg, rfl, htg⟩; refine ⟨hm1, _, List.Perm.refl _, ?_⟩
      refine DO.fork 4 [7, 10] (by kernel_rfl) ⟨⟨_, rfl, rfl, rfl, ?_⟩, ⟨_, rfl, rfl, rfl, ?_⟩, ⟨_, rfl, rfl, rfl, ?_⟩, trivial⟩
      · refine OT.makeM tab (Value.int .i64) 0 h.funcs.toNat hfu' rfl rfl rfl rfl rfl rfl rfl rfl (show h.funcs.toNat * 8 ≤ 281474976710656 by omega) rfl (fun bi => ?_); refine ⟨Mem.le_refl _, _, perm_mid, ?_⟩
        refine DO.fork 7 [10] (by kernel_rfl) ⟨⟨_, rfl, rfl, rfl, ?_⟩, ⟨_, rfl, rfl, rfl, ?_⟩, trivial⟩
        · refine OT.makeM tab (Value.int .i64) 0 h.funcs.toNat hfu' rfl rfl rfl rfl rfl rfl rfl rfl (show h.funcs.toNat * 8 ≤ 281474976710656 by omega) rfl (fun bl => ?_); refine ⟨Mem.le_refl _, _, perm_mid, ?_⟩
          refine DO.fork 10 [] (by kernel_rfl) ⟨⟨_, rfl, rfl, rfl, ?_⟩, trivial⟩
          · refine OT.makeM tab (Value.int .i64) 0 h.funcs.toNat hfu' rfl rfl rfl rfl rfl rfl rfl rfl (show h.funcs.toNat * 8 ≤ 281474976710656 by omega) rfl (fun bg => ?_); refine ⟨Mem.le_refl _, _, perm_mid, ?_⟩
            refine DO.pure tab (by repeat (first | exact Calm.ret | refine Calm.then ?_ | refine Calm.block ?_ | assumption)) (by kernel_rfl) [11] (by kernel_rfl) rfl ?_
            refine DO.run 12 rfl rfl (by kernel_rfl) rfl ?_
            refine OT.box rfl rfl rfl rfl rfl (fun bt => ?_)
            refine ⟨Mem.le_refl _, _, perm_mid, ?_⟩
            refine DO.pure tab (by repeat (first | exact Calm.ret | refine Calm.then ?_ | refine Calm.block ?_ | assumption)) (by kernel_rfl) [13] (by kernel_rfl) rfl ?_
            refine DO.nil (by kernel_rfl) ?_
            refine thenQ_n ?_
            exact ⟨⟨m1, ⟨tg, h.funcs.toNat, bt, bi, bl, bg⟩, _⟩, (by repeat (first | exact trivial | refine And.intro rfl ?_)), (by repeat (first | exact trivial | refine And.intro rfl ?_)), rfl, rfl, List.Sublist.refl _, hm1, htg, rfl, by first | exact List.Perm.append_left _ ((List.Perm.refl _).cons _) | exact List.Perm.append_left _ (pf1.cons _) | exact List.Perm.append_left _ ((pf1.cons _).cons _) | exact List.Perm.append_left _ (pf2.cons _) | exact List.Perm.append_left _ ((pf2.trans (pf1.cons _)).cons _) | exact List.Perm.append_left _ ((pf1.trans (pf1.cons _)).cons _)⟩
        · refine OT.makeM tab (Value.int .i64) 0 h.funcs.toNat hfu' rfl rfl rfl rfl rfl rfl rfl rfl (show h.funcs.toNat * 8 ≤ 281474976710656 by omega) rfl (fun bg => ?_); refine ⟨Mem.le_refl _, _, perm_mid, ?_⟩
          refine DO.fork 7 [] (by kernel_rfl) ⟨⟨_, rfl, rfl, rfl, ?_⟩, trivial⟩
          · refine OT.makeM tab (Value.int .i64) 0 h.funcs.toNat hfu' rfl rfl rfl rfl rfl rfl rfl rfl (show h.funcs.toNat * 8 ≤ 281474976710656 by omega) rfl (fun bl => ?_); refine ⟨Mem.le_refl _, _, perm_mid, ?_⟩
            refine DO.pure tab (by repeat (first | exact Calm.ret | refine Calm.then ?_ | refine Calm.block ?_ | assumption)) (by kernel_rfl) [11] (by kernel_rfl) rfl ?_
            refine DO.run 12 rfl rfl (by kernel_rfl) rfl ?_
            refine OT.box rfl rfl rfl rfl rfl (fun bt => ?_)
            refine ⟨Mem.le_refl _, _, perm_mid, ?_⟩
            refine DO.pure tab (by repeat (first | exact Calm.ret | refine Calm.then ?_ | refine Calm.block ?_ | assumption)) (by kernel_rfl) [13] (by kernel_rfl) rfl ?_
            refine DO.nil (by kernel_rfl) ?_
            refine thenQ_n ?_
            exact ⟨⟨m1, ⟨tg, h.funcs.toNat, bt, bi, bl, bg⟩, _⟩, (by repeat (first | exact trivial | refine And.intro rfl ?_)), (by repeat (first | exact trivial | refine And.intro rfl ?_)), rfl, rfl, List.Sublist.refl _, hm1, htg, rfl, by first | exact List.Perm.append_left _ ((List.Perm.refl _).cons _) | exact List.Perm.append_left _ (pf1.cons _) | exact List.Perm.append_left _ ((pf1.cons _).cons _) | exact List.Perm.append_left _ (pf2.cons _) | exact List.Perm.append_left _ ((pf2.trans (pf1.cons _)).cons _) | exact List.Perm.append_left _ ((pf1.trans (pf1.cons _)).cons _)⟩
      · refine OT.makeM tab (Value.int .i64) 0 h.funcs.toNat hfu' rfl rfl rfl rfl rfl rfl rfl rfl (show h.funcs.toNat * 8 ≤ 281474976710656 by omega) rfl (fun bl => ?_); refine ⟨Mem.le_refl _, _, perm_mid, ?_⟩
        refine DO.fork 4 [10] (by kernel_rfl) ⟨⟨_, rfl, rfl, rfl, ?_⟩, ⟨_, rfl, rfl, rfl, ?_⟩, trivial⟩
        · refine OT.makeM tab (Value.int .i64) 0 h.funcs.toNat hfu' rfl rfl rfl rfl rfl rfl rfl rfl (show h.funcs.toNat * 8 ≤ 281474976710656 by omega) rfl (fun bi => ?_); refine ⟨Mem.le_refl _, _, perm_mid, ?_⟩
          refine DO.fork 10 [] (by kernel_rfl) ⟨⟨_, rfl, rfl, rfl, ?_⟩, trivial⟩
          · refine OT.makeM tab (Value.int .i64) 0 h.funcs.toNat hfu' rfl rfl rfl rfl rfl rfl rfl rfl (show h.funcs.toNat * 8 ≤ 281474976710656 by omega) rfl (fun bg => ?_); refine ⟨Mem.le_refl _, _, perm_mid, ?_⟩
            refine DO.pure tab (by repeat (first | exact Calm.ret | refine Calm.then ?_ | refine Calm.block ?_ | assumption)) (by kernel_rfl) [11] (by kernel_rfl) rfl ?_
            refine DO.run 12 rfl rfl (by kernel_rfl) rfl ?_
            refine OT.box rfl rfl rfl rfl rfl (fun bt => ?_)
            refine ⟨Mem.le_refl _, _, perm_mid, ?_⟩
            refine DO.pure tab (by repeat (first | exact Calm.ret | refine Calm.then ?_ | refine Calm.block ?_ | assumption)) (by kernel_rfl) [13] (by kernel_rfl) rfl ?_
            refine DO.nil (by kernel_rfl) ?_
            refine thenQ_n ?_
            exact ⟨⟨m1, ⟨tg, h.funcs.toNat, bt, bi, bl, bg⟩, _⟩, (by repeat (first | exact trivial | refine And.intro rfl ?_)), (by repeat (first | exact trivial | refine And.intro rfl ?_)), rfl, rfl, List.Sublist.refl _, hm1, htg, rfl, by first | exact List.Perm.append_left _ ((List.Perm.refl _).cons _) | exact List.Perm.append_left _ (pf1.cons _) | exact List.Perm.append_left _ ((pf1.cons _).cons _) | exact List.Perm.append_left _ (pf2.cons _) | exact List.Perm.append_left _ ((pf2.trans (pf1.cons _)).cons _) | exact List.Perm.append_left _ ((pf1.trans (pf1.cons _)).cons _)⟩
        · refine OT.makeM tab (Value.int .i64) 0 h.funcs.toNat hfu' rfl rfl rfl rfl rfl rfl rfl rfl (show h.funcs.toNat * 8 ≤ 281474976710656 by omega) rfl (fun bg => ?_); refine ⟨Mem.le_refl _, _, perm_mid, ?_⟩
          refine DO.fork 4 [] (by kernel_rfl) ⟨⟨_, rfl, rfl, rfl, ?_⟩, trivial⟩
          · refine OT.makeM tab (Value.int .i64) 0 h.funcs.toNat hfu' rfl rfl rfl rfl rfl rfl rfl rfl (show h.funcs.toNat * 8 ≤ 281474976710656 by omega) rfl (fun bi => ?_); refine ⟨Mem.le_refl _, _, perm_mid, ?_⟩
            refine DO.pure tab (by repeat (first | exact Calm.ret | refine Calm.then ?_ | refine Calm.block ?_ | assumption)) (by kernel_rfl) [11] (by kernel_rfl) rfl ?_
            refine DO.run 12 rfl rfl (by kernel_rfl) rfl ?_
            refine OT.box rfl rfl rfl rfl rfl (fun bt => ?_)
            refine ⟨Mem.le_refl _, _, perm_mid, ?_⟩
            refine DO.pure tab (by repeat (first | exact Calm.ret | refine Calm.then ?_ | refine Calm.block ?_ | assumption)) (by kernel_rfl) [13] (by kernel_rfl) rfl ?_
            refine DO.nil (by kernel_rfl) ?_
            refine thenQ_n ?_
            exact ⟨⟨m1, ⟨tg, h.funcs.toNat, bt, bi, bl, bg⟩, _⟩, (by repeat (first | exact trivial | refine And.intro rfl ?_)), (by repeat (first | exact trivial | refine And.intro rfl ?_)), rfl, rfl, List.Sublist.refl _, hm1, htg, rfl, by first | exact List.Perm.append_left _ ((List.Perm.refl _).cons _) | exact List.Perm.append_left _ (pf1.cons _) | exact List.Perm.append_left _ ((pf1.cons _).cons _) | exact List.Perm.append_left _ (pf2.cons _) | exact List.Perm.append_left _ ((pf2.trans (pf1.cons _)).cons _) | exact List.Perm.append_left _ ((pf1.trans (pf1.cons _)).cons _)⟩
      · refine OT.makeM tab (Value.int .i64) 0 h.funcs.toNat hfu' rfl rfl rfl rfl rfl rfl rfl rfl (show h.funcs.toNat * 8 ≤ 281474976710656 by omega) rfl (fun bg => ?_); refine ⟨Mem.le_refl _, _, perm_mid, ?_⟩
        refine DO.fork 4 [7] (by kernel_rfl) ⟨⟨_, rfl, rfl, rfl, ?_⟩, ⟨_, rfl, rfl, rfl, ?_⟩, trivial⟩
        · refine OT.makeM tab (Value.int .i64) 0 h.funcs.toNat hfu' rfl rfl rfl rfl rfl rfl rfl rfl (show h.funcs.toNat * 8 ≤ 281474976710656 by omega) rfl (fun bi => ?_); refine ⟨Mem.le_refl _, _, perm_mid, ?_⟩
          refine DO.fork 7 [] (by kernel_rfl) ⟨⟨_, rfl, rfl, rfl, ?_⟩, trivial⟩
          · refine OT.makeM tab (Value.int .i64) 0 h.funcs.toNat hfu' rfl rfl rfl rfl rfl rfl rfl rfl (show h.funcs.toNat * 8 ≤ 281474976710656 by omega) rfl (fun bl => ?_); refine ⟨Mem.le_refl _, _, perm_mid, ?_⟩
            refine DO.pure tab (by repeat (first | exact Calm.ret | refine Calm.then ?_ | refine Calm.block ?_ | assumption)) (by kernel_rfl) [11] (by kernel_rfl) rfl ?_
            refine DO.run 12 rfl rfl (by kernel_rfl) rfl ?_
            refine OT.box rfl rfl rfl rfl rfl (fun bt => ?_)
            refine ⟨Mem.le_refl _, _, perm_mid, ?_⟩
            refine DO.pure tab (by repeat (first | exact Calm.ret | refine Calm.then ?_ | refine Calm.block ?_ | assumption)) (by kernel_rfl) [13] (by kernel_rfl) rfl ?_
            refine DO.nil (by kernel_rfl) ?_
            refine thenQ_n ?_
            exact ⟨⟨m1, ⟨tg, h.funcs.toNat, bt, bi, bl, bg⟩, _⟩, (by repeat (first | exact trivial | refine And.intro rfl ?_)), (by repeat (first | exact trivial | refine And.intro rfl ?_)), rfl, rfl, List.Sublist.refl _, hm1, htg, rfl, by first | exact List.Perm.append_left _ ((List.Perm.refl _).cons _) | exact List.Perm.append_left _ (pf1.cons _) | exact List.Perm.append_left _ ((pf1.cons _).cons _) | exact List.Perm.append_left _ (pf2.cons _) | exact List.Perm.append_left _ ((pf2.trans (pf1.cons _)).cons _) | exact List.Perm.append_left _ ((pf1.trans (pf1.cons _)).cons _)⟩
        · refine OT.makeM tab (Value.int .i64) 0 h.funcs.toNat hfu' rfl rfl rfl rfl rfl rfl rfl rfl (show h.funcs.toNat * 8 ≤ 281474976710656 by omega) rfl (fun bl => ?_); refine ⟨Mem.le_refl _, _, perm_mid, ?_⟩
          refine DO.fork 4 [] (by kernel_rfl) ⟨⟨_, rfl, rfl, rfl, ?_⟩, trivial⟩
          · refine OT.makeM tab (Value.int .i64) 0 h.funcs.toNat hfu' rfl rfl rfl rfl rfl rfl rfl rfl (show h.funcs.toNat * 8 ≤ 281474976710656 by omega) rfl (fun bi => ?_); refine ⟨Mem.le_refl _, _, perm_mid, ?_⟩
            refine DO.pure tab (by repeat (first | exact Calm.ret | refine Calm.then ?_ | refine Calm.block ?_ | assumption)) (by kernel_rfl) [11] (by kernel_rfl) rfl ?_
            refine DO.run 12 rfl rfl (by kernel_rfl) rfl ?_
            refine OT.box rfl rfl rfl rfl rfl (fun bt => ?_)
            refine ⟨Mem.le_refl _, _, perm_mid, ?_⟩
            refine DO.pure tab (by repeat (first | exact Calm.ret | refine Calm.then ?_ | refine Calm.block ?_ | assumption)) (by kernel_rfl) [13] (by kernel_rfl) rfl ?_
            refine DO.nil (by kernel_rfl) ?_
            refine thenQ_n ?_
            exact ⟨⟨m1, ⟨tg, h.funcs.toNat, bt, bi, bl, bg⟩, _⟩, (by repeat (first | exact trivial | refine And.intro rfl ?_)), (by repeat (first | exact trivial | refine And.intro rfl ?_)), rfl, rfl, List.Sublist.refl _, hm1, htg, rfl, by first | exact List.Perm.append_left _ ((List.Perm.refl _).cons _) | exact List.Perm.append_left _ (pf1.cons _) | exact List.Perm.append_left _ ((pf1.cons _).cons _) | exact List.Perm.append_left _ (pf2.cons _) | exact List.Perm.append_left _ ((pf2.trans (pf1.cons _)).cons _) | exact List.Perm.append_left _ ((pf1.trans (pf1.cons _)).cons _)⟩
    · refine OT.makeM tab (Value.int .i64) 0 h.funcs.toNat hfu' rfl rfl rfl rfl rfl rfl rfl rfl (show h.funcs.toNat * 8 ≤ 281474976710656 by omega) rfl (fun bi => ?_); refine ⟨Mem.le_refl _, _, perm_mid, ?_⟩
      refine DO.fork 1 [7, 10] (by kernel_rfl) ⟨⟨_, rfl, rfl, rfl, ?_⟩, ⟨_, rfl, rfl, rfl, ?_⟩, ⟨_, rfl, rfl, rfl, ?_⟩, trivial⟩
      · refine OT.call rfl rfl rfl rfl rfl rfl goes21 ((graph_own m _ hh h hr hsm hg).x ?_); rintro _ m1 _ ⟨hm1, rfl, tg, rfl, htg⟩; refine ⟨hm1, _, List.Perm.refl _, ?_⟩
        refine DO.fork 7 [10] (by kernel_rfl) ⟨⟨_, rfl, rfl, rfl, ?_⟩, ⟨_, rfl, rfl, rfl, ?_⟩, trivial⟩
        · refine OT.makeM tab (Value.int .i64) 0 h.funcs.toNat hfu' rfl rfl rfl rfl rfl rfl rfl rfl (show h.funcs.toNat * 8 ≤ 281474976710656 by omega) rfl (fun bl => ?_); refine ⟨Mem.le_refl _, _, perm_mid, ?_⟩
          refine DO.fork 10 [] (by kernel_rfl) ⟨⟨_, rfl, rfl, rfl, ?_⟩, trivial⟩
          · refine OT.makeM tab (Value.int .i64) 0 h.funcs.toNat hfu' rfl rfl rfl rfl rfl rfl rfl rfl (show h.funcs.toNat * 8 ≤ 281474976710656 by omega) rfl (fun bg => ?_); refine ⟨Mem.le_refl _, _, perm_mid, ?_⟩
            refine DO.pure tab (by repeat (first | exact Calm.ret | refine Calm.then ?_ | refine Calm.block ?_ | assumption)) (by kernel_rfl) [11] (by kernel_rfl) rfl ?_
            refine DO.run 12 rfl rfl (by kernel_rfl) rfl ?_
            refine OT.box rfl rfl rfl rfl rfl (fun bt => ?_)
            refine ⟨Mem.le_refl _, _, perm_mid, ?_⟩
            refine DO.pure tab (by repeat (first | exact Calm.ret | refine Calm.then ?_ | refine Calm.block ?_ | assumption)) (by kernel_rfl) [13] (by kernel_rfl) rfl ?_
            refine DO.nil (by kernel_rfl) ?_
            refine thenQ_n ?_
            exact ⟨⟨m1, ⟨tg, h.funcs.toNat, bt, bi, bl, bg⟩, _⟩, (by repeat (first | exact trivial | refine And.intro rfl ?_)), (by repeat (first | exact trivial | refine And.intro rfl ?_)), rfl, rfl, List.Sublist.refl _, hm1, htg, rfl, by first | exact List.Perm.append_left _ ((List.Perm.refl _).cons _) | exact List.Perm.append_left _ (pf1.cons _) | exact List.Perm.append_left _ ((pf1.cons _).cons _) | exact List.Perm.append_left _ (pf2.cons _) | exact List.Perm.append_left _ ((pf2.trans (pf1.cons _)).cons _) | exact List.Perm.append_left _ ((pf1.trans (pf1.cons _)).cons _)⟩
        · refine OT.makeM tab (Value.int .i64) 0 h.funcs.toNat hfu' rfl rfl rfl rfl rfl rfl rfl rfl (show h.funcs.toNat * 8 ≤ 281474976710656 by omega) rfl (fun bg => ?_); refine ⟨Mem.le_refl _, _, perm_mid, ?_⟩
          refine DO.fork 7 [] (by kernel_rfl) ⟨⟨_, rfl, rfl, rfl, ?_⟩, trivial⟩
          · refine OT.makeM tab (Value.int .i64) 0 h.funcs.toNat hfu' rfl rfl rfl rfl rfl rfl rfl rfl (show h.funcs.toNat * 8 ≤ 281474976710656 by omega) rfl (fun bl => ?_); refine ⟨Mem.le_refl _, _, perm_mid, ?_⟩
            refine DO.pure tab (by repeat (first | exact Calm.ret | refine Calm.then ?_ | refine Calm.block ?_ | assumption)) (by kernel_rfl) [11] (by kernel_rfl) rfl ?_
            refine DO.run 12 rfl rfl (by kernel_rfl) rfl ?_
            refine OT.box rfl rfl rfl rfl rfl (fun bt => ?_)
            refine ⟨Mem.le_refl _, _, perm_mid, ?_⟩
            refine DO.pure tab (by repeat (first | exact Calm.ret | refine Calm.then ?_ | refine Calm.block ?_ | assumption)) (by kernel_rfl) [13] (by kernel_rfl) rfl ?_
            refine DO.nil (by kernel_rfl) ?_
            refine thenQ_n ?_
            exact ⟨⟨m1, ⟨tg, h.funcs.toNat, bt, bi, bl, bg⟩, _⟩, (by repeat (first | exact trivial | refine And.intro rfl ?_)), (by repeat (first | exact trivial | refine And.intro rfl ?_)), rfl, rfl, List.Sublist.refl _, hm1, htg, rfl, by first | exact List.Perm.append_left _ ((List.Perm.refl _).cons _) | exact List.Perm.append_left _ (pf1.cons _) | exact List.Perm.append_left _ ((pf1.cons _).cons _) | exact List.Perm.append_left _ (pf2.cons _) | exact List.Perm.append_left _ ((pf2.trans (pf1.cons _)).cons _) | exact List.Perm.append_left _ ((pf1.trans (pf1.cons _)).cons _)⟩
      · refine OT.makeM tab (Value.int .i64) 0 h.funcs.toNat hfu' rfl rfl rfl rfl rfl rfl rfl rfl (show h.funcs.toNat * 8 ≤ 281474976710656 by omega) rfl (fun bl => ?_); refine ⟨Mem.le_refl _, _, perm_mid, ?_⟩
        refine DO.fork 1 [10] (by kernel_rfl) ⟨⟨_, rfl, rfl, rfl, ?_⟩, ⟨_, rfl, rfl, rfl, ?_⟩, trivial⟩
        · refine OT.call rfl rfl rfl rfl rfl rfl goes21 ((graph_own m _ hh h hr hsm hg).x ?_); rintro _ m1 _ ⟨hm1, rfl, tg, rfl, htg⟩; refine ⟨hm1, _, List.Perm.refl _, ?_⟩
          refine DO.fork 10 [] (by kernel_rfl) ⟨⟨_, rfl, rfl, rfl, ?_⟩, trivial⟩
          · refine OT.makeM tab (Value.int .i64) 0 h.funcs.toNat hfu' rfl rfl rfl rfl rfl rfl rfl rfl (show h.funcs.toNat * 8 ≤ 281474976710656 by omega) rfl (fun bg => ?_); refine ⟨Mem.le_refl _, _, perm_mid, ?_⟩
            refine DO.pure tab (by repeat (first | exact Calm.ret | refine Calm.then ?_ | refine Calm.block ?_ | assumption)) (by kernel_rfl) [11] (by kernel_rfl) rfl ?_
            refine DO.run 12 rfl rfl (by kernel_rfl) rfl ?_
            refine OT.box rfl rfl rfl rfl rfl (fun bt => ?_)
            refine ⟨Mem.le_refl _, _, perm_mid, ?_⟩
            refine DO.pure tab (by repeat (first | exact Calm.ret | refine Calm.then ?_ | refine Calm.block ?_ | assumption)) (by kernel_rfl) [13] (by kernel_rfl) rfl ?_
            refine DO.nil (by kernel_rfl) ?_
            refine thenQ_n ?_
            exact ⟨⟨m1, ⟨tg, h.funcs.toNat, bt, bi, bl, bg⟩, _⟩, (by repeat (first | exact trivial | refine And.intro rfl ?_)), (by repeat (first | exact trivial | refine And.intro rfl ?_)), rfl, rfl, List.Sublist.refl _, hm1, htg, rfl, by first | exact List.Perm.append_left _ ((List.Perm.refl _).cons _) | exact List.Perm.append_left _ (pf1.cons _) | exact List.Perm.append_left _ ((pf1.cons _).cons _) | exact List.Perm.append_left _ (pf2.cons _) | exact List.Perm.append_left _ ((pf2.trans (pf1.cons _)).cons _) | exact List.Perm.append_left _ ((pf1.trans (pf1.cons _)).cons _)⟩
        · refine OT.makeM tab (Value.int .i64) 0 h.funcs.toNat hfu' rfl rfl rfl rfl rfl rfl rfl rfl (show h.funcs.toNat * 8 ≤ 281474976710656 by omega) rfl (fun bg => ?_); refine ⟨Mem.le_refl _, _, perm_mid, ?_⟩
          refine DO.fork 1 [] (by kernel_rfl) ⟨⟨_, rfl, rfl, rfl, ?_⟩, trivial⟩
          · refine OT.call rfl rfl rfl rfl rfl rfl goes21 ((graph_own m _ hh h hr hsm hg).x ?_); rintro _ m1 _ ⟨hm1, rfl, tg, rfl, htg⟩; refine ⟨hm1, _, List.Perm.refl _, ?_⟩
            refine DO.pure tab (by repeat (first | exact Calm.ret | refine Calm.then ?_ | refine Calm.block ?_ | assumption)) (by kernel_rfl) [11] (by kernel_rfl) rfl ?_
            refine DO.run 12 rfl rfl (by kernel_rfl) rfl ?_
            refine OT.box rfl rfl rfl rfl rfl (fun bt => ?_)
            refine ⟨Mem.le_refl _, _, perm_mid, ?_⟩
            refine DO.pure tab (by repeat (first | exact Calm.ret | refine Calm.then ?_ | refine Calm.block ?_ | assumption)) (by kernel_rfl) [13] (by kernel_rfl) rfl ?_
            refine DO.nil (by kernel_rfl) ?_
            refine thenQ_n ?_
            exact ⟨⟨m1, ⟨tg, h.funcs.toNat, bt, bi, bl, bg⟩, _⟩, (by repeat (first | exact trivial | refine And.intro rfl ?_)), (by repeat (first | exact trivial | refine And.intro rfl ?_)), rfl, rfl, List.Sublist.refl _, hm1, htg, rfl, by first | exact List.Perm.append_left _ ((List.Perm.refl _).cons _) | exact List.Perm.append_left _ (pf1.cons _) | exact List.Perm.append_left _ ((pf1.cons _).cons _) | exact List.Perm.append_left _ (pf2.cons _) | exact List.Perm.append_left _ ((pf2.trans (pf1.cons _)).cons _) | exact List.Perm.append_left _ ((pf1.trans (pf1.cons _)).cons _)⟩
      · refine OT.makeM tab (Value.int .i64) 0 h.funcs.toNat hfu' rfl rfl rfl rfl rfl rfl rfl rfl (show h.funcs.toNat * 8 ≤ 281474976710656 by omega) rfl (fun bg => ?_); refine ⟨Mem.le_refl _, _, perm_mid, ?_⟩
        refine DO.fork 1 [7] (by kernel_rfl) ⟨⟨_, rfl, rfl, rfl, ?_⟩, ⟨_, rfl, rfl, rfl, ?_⟩, trivial⟩
        · refine OT.call rfl rfl rfl rfl rfl rfl goes21 ((graph_own m _ hh h hr hsm hg).x ?_); rintro _ m1 _ ⟨hm1, rfl, tg, rfl, htg⟩; refine ⟨hm1, _, List.Perm.refl _, ?_⟩
          refine DO.fork 7 [] (by kernel_rfl) ⟨⟨_, rfl, rfl, rfl, ?_⟩, trivial⟩
          · refine OT.makeM tab (Value.int .i64) 0 h.funcs.toNat hfu' rfl rfl rfl rfl rfl rfl rfl rfl (show h.funcs.toNat * 8 ≤ 281474976710656 by omega) rfl (fun bl => ?_); refine ⟨Mem.le_refl _, _, perm_mid, ?_⟩
            refine DO.pure tab (by repeat (first | exact Calm.ret | refine Calm.then ?_ | refine Calm.block ?_ | assumption)) (by kernel_rfl) [11] (by kernel_rfl) rfl ?_
            refine DO.run 12 rfl rfl (by kernel_rfl) rfl ?_
            refine OT.box rfl rfl rfl rfl rfl (fun bt => ?_)
            refine ⟨Mem.le_refl _, _, perm_mid, ?_⟩
            refine DO.pure tab (by repeat (first | exact Calm.ret | refine Calm.then ?_ | refine Calm.block ?_ | assumption)) (by kernel_rfl) [13] (by kernel_rfl) rfl ?_
            refine DO.nil (by kernel_rfl) ?_
            refine thenQ_n ?_
            exact ⟨⟨m1, ⟨tg, h.funcs.toNat, bt, bi, bl, bg⟩, _⟩, (by repeat (first | exact trivial | refine And.intro rfl ?_)), (by repeat (first | exact trivial | refine And.intro rfl ?_)), rfl, rfl, List.Sublist.refl _, hm1, htg, rfl, by first | exact List.Perm.append_left _ ((List.Perm.refl _).cons _) | exact List.Perm.append_left _ (pf1.cons _) | exact List.Perm.append_left _ ((pf1.cons _).cons _) | exact List.Perm.append_left _ (pf2.cons _) | exact List.Perm.append_left _ ((pf2.trans (pf1.cons _)).cons _) | exact List.Perm.append_left _ ((pf1.trans (pf1.cons _)).cons _)⟩
        · refine OT.makeM tab (Value.int .i64) 0 h.funcs.toNat hfu' rfl rfl rfl rfl rfl rfl rfl rfl (show h.funcs.toNat * 8 ≤ 281474976710656 by omega) rfl (fun bl => ?_); refine ⟨Mem.le_refl _, _, perm_mid, ?_⟩
          refine DO.fork 1 [] (by kernel_rfl) ⟨⟨_, rfl, rfl, rfl, ?_⟩, trivial⟩
          · refine OT.call rfl rfl rfl rfl rfl rfl goes21 ((graph_own m _ hh h hr hsm hg).x ?_); rintro _ m1 _ ⟨hm1, rfl, tg, rfl, htg⟩; refine ⟨hm1, _, List.Perm.refl _, ?_⟩
            refine DO.pure tab (by repeat (first | exact Calm.ret | refine Calm.then ?_ | refine Calm.block ?_ | assumption)) (by kernel_rfl) [11] (by kernel_rfl) rfl ?_
            refine DO.run 12 rfl rfl (by kernel_rfl) rfl ?_
            refine OT.box rfl rfl rfl rfl rfl (fun bt => ?_)
            refine ⟨Mem.le_refl _, _, perm_mid, ?_⟩
            refine DO.pure tab (by repeat (first | exact Calm.ret | refine Calm.then ?_ | refine Calm.block ?_ | assumption)) (by kernel_rfl) [13] (by kernel_rfl) rfl ?_
            refine DO.nil (by kernel_rfl) ?_
            refine thenQ_n ?_
            exact ⟨⟨m1, ⟨tg, h.funcs.toNat, bt, bi, bl, bg⟩, _⟩, (by repeat (first | exact trivial | refine And.intro rfl ?_)), (by repeat (first | exact trivial | refine And.intro rfl ?_)), rfl, rfl, List.Sublist.refl _, hm1, htg, rfl, by first | exact List.Perm.append_left _ ((List.Perm.refl _).cons _) | exact List.Perm.append_left _ (pf1.cons _) | exact List.Perm.append_left _ ((pf1.cons _).cons _) | exact List.Perm.append_left _ (pf2.cons _) | exact List.Perm.append_left _ ((pf2.trans (pf1.cons _)).cons _) | exact List.Perm.append_left _ ((pf1.trans (pf1.cons _)).cons _)⟩
    · refine OT.makeM tab (Value.int .i64) 0 h.funcs.toNat hfu' rfl rfl rfl rfl rfl rfl rfl rfl (show h.funcs.toNat * 8 ≤ 281474976710656 by omega) rfl (fun bl => ?_); refine ⟨Mem.le_refl _, _, perm_mid, ?_⟩
      refine DO.fork 1 [4, 10] (by kernel_rfl) ⟨⟨_, rfl, rfl, rfl, ?_⟩, ⟨_, rfl, rfl, rfl, ?_⟩, ⟨_, rfl, rfl, rfl, ?_⟩, trivial⟩
      · refine OT.call rfl rfl rfl rfl rfl rfl goes21 ((graph_own m _ hh h hr hsm hg).x ?_); rintro _ m1 _ ⟨hm1, rfl, tg, rfl, htg⟩; refine ⟨hm1, _, List.Perm.refl _, ?_⟩
        refine DO.fork 4 [10] (by kernel_rfl) ⟨⟨_, rfl, rfl, rfl, ?_⟩, ⟨_, rfl, rfl, rfl, ?_⟩, trivial⟩
        · refine OT.makeM tab (Value.int .i64) 0 h.funcs.toNat hfu' rfl rfl rfl rfl rfl rfl rfl rfl (show h.funcs.toNat * 8 ≤ 281474976710656 by omega) rfl (fun bi => ?_); refine ⟨Mem.le_refl _, _, perm_mid, ?_⟩
          refine DO.fork 10 [] (by kernel_rfl) ⟨⟨_, rfl, rfl, rfl, ?_⟩, trivial⟩
          · refine OT.makeM tab (Value.int .i64) 0 h.funcs.toNat hfu' rfl rfl rfl rfl rfl rfl rfl rfl (show h.funcs.toNat * 8 ≤ 281474976710656 by omega) rfl (fun bg => ?_); refine ⟨Mem.le_refl _, _, perm_mid, ?_⟩
            refine DO.pure tab (by repeat (first | exact Calm.ret | refine Calm.then ?_ | refine Calm.block ?_ | assumption)) (by kernel_rfl) [11] (by kernel_rfl) rfl ?_
            refine DO.run 12 rfl rfl (by kernel_rfl) rfl ?_
            refine OT.box rfl rfl rfl rfl rfl (fun bt => ?_)
            refine ⟨Mem.le_refl _, _, perm_mid, ?_⟩
            refine DO.pure tab (by repeat (first | exact Calm.ret | refine Calm.then ?_ | refine Calm.block ?_ | assumption)) (by kernel_rfl) [13] (by kernel_rfl) rfl ?_
            refine DO.nil (by kernel_rfl) ?_
            refine thenQ_n ?_
            exact ⟨⟨m1, ⟨tg, h.funcs.toNat, bt, bi, bl, bg⟩, _⟩, (by repeat (first | exact trivial | refine And.intro rfl ?_)), (by repeat (first | exact trivial | refine And.intro rfl ?_)), rfl, rfl, List.Sublist.refl _, hm1, htg, rfl, by first | exact List.Perm.append_left _ ((List.Perm.refl _).cons _) | exact List.Perm.append_left _ (pf1.cons _) | exact List.Perm.append_left _ ((pf1.cons _).cons _) | exact List.Perm.append_left _ (pf2.cons _) | exact List.Perm.append_left _ ((pf2.trans (pf1.cons _)).cons _) | exact List.Perm.append_left _ ((pf1.trans (pf1.cons _)).cons _)⟩
        · refine OT.makeM tab (Value.int .i64) 0 h.funcs.toNat hfu' rfl rfl rfl rfl rfl rfl rfl rfl (show h.funcs.toNat * 8 ≤ 281474976710656 by omega) rfl (fun bg => ?_); refine ⟨Mem.le_refl _, _, perm_mid, ?_⟩
          refine DO.fork 4 [] (by kernel_rfl) ⟨⟨_, rfl, rfl, rfl, ?_⟩, trivial⟩
          · refine OT.makeM tab (Value.int .i64) 0 h.funcs.toNat hfu' rfl rfl rfl rfl rfl rfl rfl rfl (show h.funcs.toNat * 8 ≤ 281474976710656 by omega) rfl (fun bi => ?_); refine ⟨Mem.le_refl _, _, perm_mid, ?_⟩
            refine DO.pure tab (by repeat (first | exact Calm.ret | refine Calm.then ?_ | refine Calm.block ?_ | assumption)) (by kernel_rfl) [11] (by kernel_rfl) rfl ?_
            refine DO.run 12 rfl rfl (by kernel_rfl) rfl ?_
            refine OT.box rfl rfl rfl rfl rfl (fun bt => ?_)
            refine ⟨Mem.le_refl _, _, perm_mid, ?_⟩
            refine DO.pure tab (by repeat (first | exact Calm.ret | refine Calm.then ?_ | refine Calm.block ?_ | assumption)) (by kernel_rfl) [13] (by kernel_rfl) rfl ?_
            refine DO.nil (by kernel_rfl) ?_
            refine thenQ_n ?_
            exact ⟨⟨m1, ⟨tg, h.funcs.toNat, bt, bi, bl, bg⟩, _⟩, (by repeat (first | exact trivial | refine And.intro rfl ?_)), (by repeat (first | exact trivial | refine And.intro rfl ?_)), rfl, rfl, List.Sublist.refl _, hm1, htg, rfl, by first | exact List.Perm.append_left _ ((List.Perm.refl _).cons _) | exact List.Perm.append_left _ (pf1.cons _) | exact List.Perm.append_left _ ((pf1.cons _).cons _) | exact List.Perm.append_left _ (pf2.cons _) | exact List.Perm.append_left _ ((pf2.trans (pf1.cons _)).cons _) | exact List.Perm.append_left _ ((pf1.trans (pf1.cons _)).cons _)⟩
      · refine OT.makeM tab (Value.int .i64) 0 h.funcs.toNat hfu' rfl rfl rfl rfl rfl rfl rfl rfl (show h.funcs.toNat * 8 ≤ 281474976710656 by omega) rfl (fun bi => ?_); refine ⟨Mem.le_refl _, _, perm_mid, ?_⟩
        refine DO.fork 1 [10] (by kernel_rfl) ⟨⟨_, rfl, rfl, rfl, ?_⟩, ⟨_, rfl, rfl, rfl, ?_⟩, trivial⟩
        · refine OT.call rfl rfl rfl rfl rfl rfl goes21 ((graph_own m _ hh h hr hsm hg).x ?_); rintro _ m1 _ ⟨hm1, rfl, tg, rfl, htg⟩; refine ⟨hm1, _, List.Perm.refl _, ?_⟩
          refine DO.fork 10 [] (by kernel_rfl) ⟨⟨_, rfl, rfl, rfl, ?_⟩, trivial⟩
          · refine OT.makeM tab (Value.int .i64) 0 h.funcs.toNat hfu' rfl rfl rfl rfl rfl rfl rfl rfl (show h.funcs.toNat * 8 ≤ 281474976710656 by omega) rfl (fun bg => ?_); refine ⟨Mem.le_refl _, _, perm_mid, ?_⟩
            refine DO.pure tab (by repeat (first | exact Calm.ret | refine Calm.then ?_ | refine Calm.block ?_ | assumption)) (by kernel_rfl) [11] (by kernel_rfl) rfl ?_
            refine DO.run 12 rfl rfl (by kernel_rfl) rfl ?_
            refine OT.box rfl rfl rfl rfl rfl (fun bt => ?_)
            refine ⟨Mem.le_refl _, _, perm_mid, ?_⟩
            refine DO.pure tab (by repeat (first | exact Calm.ret | refine Calm.then ?_ | refine Calm.block ?_ | assumption)) (by kernel_rfl) [13] (by kernel_rfl) rfl ?_
            refine DO.nil (by kernel_rfl) ?_
            refine thenQ_n ?_
            exact ⟨⟨m1, ⟨tg, h.funcs.toNat, bt, bi, bl, bg⟩, _⟩, (by repeat (first | exact trivial | refine And.intro rfl ?_)), (by repeat (first | exact trivial | refine And.intro rfl ?_)), rfl, rfl, List.Sublist.refl _, hm1, htg, rfl, by first | exact List.Perm.append_left _ ((List.Perm.refl _).cons _) | exact List.Perm.append_left _ (pf1.cons _) | exact List.Perm.append_left _ ((pf1.cons _).cons _) | exact List.Perm.append_left _ (pf2.cons _) | exact List.Perm.append_left _ ((pf2.trans (pf1.cons _)).cons _) | exact List.Perm.append_left _ ((pf1.trans (pf1.cons _)).cons _)⟩
        · refine OT.makeM tab (Value.int .i64) 0 h.funcs.toNat hfu' rfl rfl rfl rfl rfl rfl rfl rfl (show h.funcs.toNat * 8 ≤ 281474976710656 by omega) rfl (fun bg => ?_); refine ⟨Mem.le_refl _, _, perm_mid, ?_⟩
          refine DO.fork 1 [] (by kernel_rfl) ⟨⟨_, rfl, rfl, rfl, ?_⟩, trivial⟩
          · refine OT.call rfl rfl rfl rfl rfl rfl goes21 ((graph_own m _ hh h hr hsm hg).x ?_); rintro _ m1 _ ⟨hm1, rfl, tg, rfl, htg⟩; refine ⟨hm1, _, List.Perm.refl _, ?_⟩
            refine DO.pure tab (by repeat (first | exact Calm.ret | refine Calm.then ?_ | refine Calm.block ?_ | assumption)) (by kernel_rfl) [11] (by kernel_rfl) rfl ?_
            refine DO.run 12 rfl rfl (by kernel_rfl) rfl ?_
            refine OT.box rfl rfl rfl rfl rfl (fun bt => ?_)
            refine ⟨Mem.le_refl _, _, perm_mid, ?_⟩
            refine DO.pure tab (by repeat (first | exact Calm.ret | refine Calm.then ?_ | refine Calm.block ?_ | assumption)) (by kernel_rfl) [13] (by kernel_rfl) rfl ?_
            refine DO.nil (by kernel_rfl) ?_
            refine thenQ_n ?_
            exact ⟨⟨m1, ⟨tg, h.funcs.toNat, bt, bi, bl, bg⟩, _⟩, (by repeat (first | exact trivial | refine And.intro rfl ?_)), (by repeat (first | exact trivial | refine And.intro rfl ?_)), rfl, rfl, List.Sublist.refl _, hm1, htg, rfl, by first | exact List.Perm.append_left _ ((List.Perm.refl _).cons _) | exact List.Perm.append_left _ (pf1.cons _) | exact List.Perm.append_left _ ((pf1.cons _).cons _) | exact List.Perm.append_left _ (pf2.cons _) | exact List.Perm.append_left _ ((pf2.trans (pf1.cons _)).cons _) | exact List.Perm.append_left _ ((pf1.trans (pf1.cons _)).cons _)⟩
      · refine OT.makeM tab (Value.int .i64) 0 h.funcs.toNat hfu' rfl rfl rfl rfl rfl rfl rfl rfl (show h.funcs.toNat * 8 ≤ 281474976710656 by omega) rfl (fun bg => ?_); refine ⟨Mem.le_refl _, _, perm_mid, ?_⟩
        refine DO.fork 1 [4] (by kernel_rfl) ⟨⟨_, rfl, rfl, rfl, ?_⟩, ⟨_, rfl, rfl, rfl, ?_⟩, trivial⟩
        · refine OT.call rfl rfl rfl rfl rfl rfl goes21 ((graph_own m _ hh h hr hsm hg).x ?_); rintro _ m1 _ ⟨hm1, rfl, tg, rfl, htg⟩; refine ⟨hm1, _, List.Perm.refl _, ?_⟩
          refine DO.fork 4 [] (by kernel_rfl) ⟨⟨_, rfl, rfl, rfl, ?_⟩, trivial⟩
          · refine OT.makeM tab (Value.int .i64) 0 h.funcs.toNat hfu' rfl rfl rfl rfl rfl rfl rfl rfl (show h.funcs.toNat * 8 ≤ 281474976710656 by omega) rfl (fun bi => ?_); refine ⟨Mem.le_refl _, _, perm_mid, ?_⟩
            refine DO.pure tab (by repeat (first | exact Calm.ret | refine Calm.then ?_ | refine Calm.block ?_ | assumption)) (by kernel_rfl) [11] (by kernel_rfl) rfl ?_
            refine DO.run 12 rfl rfl (by kernel_rfl) rfl ?_
            refine OT.box rfl rfl rfl rfl rfl (fun bt => ?_)
            refine ⟨Mem.le_refl _, _, perm_mid, ?_⟩
            refine DO.pure tab (by repeat (first | exact Calm.ret | refine Calm.then ?_ | refine Calm.block ?_ | assumption)) (by kernel_rfl) [13] (by kernel_rfl) rfl ?_
            refine DO.nil (by kernel_rfl) ?_
            refine thenQ_n ?_
            exact ⟨⟨m1, ⟨tg, h.funcs.toNat, bt, bi, bl, bg⟩, _⟩, (by repeat (first | exact trivial | refine And.intro rfl ?_)), (by repeat (first | exact trivial | refine And.intro rfl ?_)), rfl, rfl, List.Sublist.refl _, hm1, htg, rfl, by first | exact List.Perm.append_left _ ((List.Perm.refl _).cons _) | exact List.Perm.append_left _ (pf1.cons _) | exact List.Perm.append_left _ ((pf1.cons _).cons _) | exact List.Perm.append_left _ (pf2.cons _) | exact List.Perm.append_left _ ((pf2.trans (pf1.cons _)).cons _) | exact List.Perm.append_left _ ((pf1.trans (pf1.cons _)).cons _)⟩
        · refine OT.makeM tab (Value.int .i64) 0 h.funcs.toNat hfu' rfl rfl rfl rfl rfl rfl rfl rfl (show h.funcs.toNat * 8 ≤ 281474976710656 by omega) rfl (fun bi => ?_); refine ⟨Mem.le_refl _, _, perm_mid, ?_⟩
          refine DO.fork 1 [] (by kernel_rfl) ⟨⟨_, rfl, rfl, rfl, ?_⟩, trivial⟩
          · refine OT.call rfl rfl rfl rfl rfl rfl goes21 ((graph_own m _ hh h hr hsm hg).x ?_); rintro _ m1 _ ⟨hm1, rfl, tg, rfl, htg⟩; refine ⟨hm1, _, List.Perm.refl _, ?_⟩
            refine DO.pure tab (by repeat (first | exact Calm.ret | refine Calm.then ?_ | refine Calm.block ?_ | assumption)) (by kernel_rfl) [11] (by kernel_rfl) rfl ?_
            refine DO.run 12 rfl rfl (by kernel_rfl) rfl ?_
            refine OT.box rfl rfl rfl rfl rfl (fun bt => ?_)
            refine ⟨Mem.le_refl _, _, perm_mid, ?_⟩
            refine DO.pure tab (by repeat (first | exact Calm.ret | refine Calm.then ?_ | refine Calm.block ?_ | assumption)) (by kernel_rfl) [13] (by kernel_rfl) rfl ?_
            refine DO.nil (by kernel_rfl) ?_
            refine thenQ_n ?_
            exact ⟨⟨m1, ⟨tg, h.funcs.toNat, bt, bi, bl, bg⟩, _⟩, (by repeat (first | exact trivial | refine And.intro rfl ?_)), (by repeat (first | exact trivial | refine And.intro rfl ?_)), rfl, rfl, List.Sublist.refl _, hm1, htg, rfl, by first | exact List.Perm.append_left _ ((List.Perm.refl _).cons _) | exact List.Perm.append_left _ (pf1.cons _) | exact List.Perm.append_left _ ((pf1.cons _).cons _) | exact List.Perm.append_left _ (pf2.cons _) | exact List.Perm.append_left _ ((pf2.trans (pf1.cons _)).cons _) | exact List.Perm.append_left _ ((pf1.trans (pf1.cons _)).cons _)⟩
    · refine OT.makeM tab (Value.int .i64) 0 h.funcs.toNat hfu' rfl rfl rfl rfl rfl rfl rfl rfl (show h.funcs.toNat * 8 ≤ 281474976710656 by omega) rfl (fun bg => ?_); refine ⟨Mem.le_refl _, _, perm_mid, ?_⟩
      refine DO.fork 1 [4, 7] (by kernel_rfl) ⟨⟨_, rfl, rfl, rfl, ?_⟩, ⟨_, rfl, rfl, rfl, ?_⟩, ⟨_, rfl, rfl, rfl, ?_⟩, trivial⟩
      · refine OT.call rfl rfl rfl rfl rfl rfl goes21 ((graph_own m _ hh h hr hsm hg).x ?_); rintro _ m1 _ ⟨hm1, rfl, tg, rfl, htg⟩; refine ⟨hm1, _, List.Perm.refl _, ?_⟩
        refine DO.fork 4 [7] (by kernel_rfl) ⟨⟨_, rfl, rfl, rfl, ?_⟩, ⟨_, rfl, rfl, rfl, ?_⟩, trivial⟩
        · refine OT.makeM tab (Value.int .i64) 0 h.funcs.toNat hfu' rfl rfl rfl rfl rfl rfl rfl rfl (show h.funcs.toNat * 8 ≤ 281474976710656 by omega) rfl (fun bi => ?_); refine ⟨Mem.le_refl _, _, perm_mid, ?_⟩
          refine DO.fork 7 [] (by kernel_rfl) ⟨⟨_, rfl, rfl, rfl, ?_⟩, trivial⟩
          · refine OT.makeM tab (Value.int .i64) 0 h.funcs.toNat hfu' rfl rfl rfl rfl rfl rfl rfl rfl (show h.funcs.toNat * 8 ≤ 281474976710656 by omega) rfl (fun bl => ?_); refine ⟨Mem.le_refl _, _, perm_mid, ?_⟩
            refine DO.pure tab (by repeat (first | exact Calm.ret | refine Calm.then ?_ | refine Calm.block ?_ | assumption)) (by kernel_rfl) [11] (by kernel_rfl) rfl ?_
            refine DO.run 12 rfl rfl (by kernel_rfl) rfl ?_
            refine OT.box rfl rfl rfl rfl rfl (fun bt => ?_)
            refine ⟨Mem.le_refl _, _, perm_mid, ?_⟩
            refine DO.pure tab (by repeat (first | exact Calm.ret | refine Calm.then ?_ | refine Calm.block ?_ | assumption)) (by kernel_rfl) [13] (by kernel_rfl) rfl ?_
            refine DO.nil (by kernel_rfl) ?_
            refine thenQ_n ?_
            exact ⟨⟨m1, ⟨tg, h.funcs.toNat, bt, bi, bl, bg⟩, _⟩, (by repeat (first | exact trivial | refine And.intro rfl ?_)), (by repeat (first | exact trivial | refine And.intro rfl ?_)), rfl, rfl, List.Sublist.refl _, hm1, htg, rfl, by first | exact List.Perm.append_left _ ((List.Perm.refl _).cons _) | exact List.Perm.append_left _ (pf1.cons _) | exact List.Perm.append_left _ ((pf1.cons _).cons _) | exact List.Perm.append_left _ (pf2.cons _) | exact List.Perm.append_left _ ((pf2.trans (pf1.cons _)).cons _) | exact List.Perm.append_left _ ((pf1.trans (pf1.cons _)).cons _)⟩
        · refine OT.makeM tab (Value.int .i64) 0 h.funcs.toNat hfu' rfl rfl rfl rfl rfl rfl rfl rfl (show h.funcs.toNat * 8 ≤ 281474976710656 by omega) rfl (fun bl => ?_); refine ⟨Mem.le_refl _, _, perm_mid, ?_⟩
          refine DO.fork 4 [] (by kernel_rfl) ⟨⟨_, rfl, rfl, rfl, ?_⟩, trivial⟩
          · refine OT.makeM tab (Value.int .i64) 0 h.funcs.toNat hfu' rfl rfl rfl rfl rfl rfl rfl rfl (show h.funcs.toNat * 8 ≤ 281474976710656 by omega) rfl (fun bi => ?_); refine ⟨Mem.le_refl _, _, perm_mid, ?_⟩
            refine DO.pure tab (by repeat (first | exact Calm.ret | refine Calm.then ?_ | refine Calm.block ?_ | assumption)) (by kernel_rfl) [11] (by kernel_rfl) rfl ?_
            refine DO.run 12 rfl rfl (by kernel_rfl) rfl ?_
            refine OT.box rfl rfl rfl rfl rfl (fun bt => ?_)
            refine ⟨Mem.le_refl _, _, perm_mid, ?_⟩
            refine DO.pure tab (by repeat (first | exact Calm.ret | refine Calm.then ?_ | refine Calm.block ?_ | assumption)) (by kernel_rfl) [13] (by kernel_rfl) rfl ?_
            refine DO.nil (by kernel_rfl) ?_
            refine thenQ_n ?_
            exact ⟨⟨m1, ⟨tg, h.funcs.toNat, bt, bi, bl, bg⟩, _⟩, (by repeat (first | exact trivial | refine And.intro rfl ?_)), (by repeat (first | exact trivial | refine And.intro rfl ?_)), rfl, rfl, List.Sublist.refl _, hm1, htg, rfl, by first | exact List.Perm.append_left _ ((List.Perm.refl _).cons _) | exact List.Perm.append_left _ (pf1.cons _) | exact List.Perm.append_left _ ((pf1.cons _).cons _) | exact List.Perm.append_left _ (pf2.cons _) | exact List.Perm.append_left _ ((pf2.trans (pf1.cons _)).cons _) | exact List.Perm.append_left _ ((pf1.trans (pf1.cons _)).cons _)⟩
      · refine OT.makeM tab (Value.int .i64) 0 h.funcs.toNat hfu' rfl rfl rfl rfl rfl rfl rfl rfl (show h.funcs.toNat * 8 ≤ 281474976710656 by omega) rfl (fun bi => ?_); refine ⟨Mem.le_refl _, _, perm_mid, ?_⟩
        refine DO.fork 1 [7] (by kernel_rfl) ⟨⟨_, rfl, rfl, rfl, ?_⟩, ⟨_, rfl, rfl, rfl, ?_⟩, trivial⟩
        · refine OT.call rfl rfl rfl rfl rfl rfl goes21 ((graph_own m _ hh h hr hsm hg).x ?_); rintro _ m1 _ ⟨hm1, rfl, tg, rfl, htg⟩; refine ⟨hm1, _, List.Perm.refl _, ?_⟩
          refine DO.fork 7 [] (by kernel_rfl) ⟨⟨_, rfl, rfl, rfl, ?_⟩, trivial⟩
          · refine OT.makeM tab (Value.int .i64) 0 h.funcs.toNat hfu' rfl rfl rfl rfl rfl rfl rfl rfl (show h.funcs.toNat * 8 ≤ 281474976710656 by omega) rfl (fun bl => ?_); refine ⟨Mem.le_refl _, _, perm_mid, ?_⟩
            refine DO.pure tab (by repeat (first | exact Calm.ret | refine Calm.then ?_ | refine Calm.block ?_ | assumption)) (by kernel_rfl) [11] (by kernel_rfl) rfl ?_
            refine DO.run 12 rfl rfl (by kernel_rfl) rfl ?_
            refine OT.box rfl rfl rfl rfl rfl (fun bt => ?_)
            refine ⟨Mem.le_refl _, _, perm_mid, ?_⟩
            refine DO.pure tab (by repeat (first | exact Calm.ret | refine Calm.then ?_ | refine Calm.block ?_ | assumption)) (by kernel_rfl) [13] (by kernel_rfl) rfl ?_
            refine DO.nil (by kernel_rfl) ?_
            refine thenQ_n ?_
            exact ⟨⟨m1, ⟨tg, h.funcs.toNat, bt, bi, bl, bg⟩, _⟩, (by repeat (first | exact trivial | refine And.intro rfl ?_)), (by repeat (first | exact trivial | refine And.intro rfl ?_)), rfl, rfl, List.Sublist.refl _, hm1, htg, rfl, by first | exact List.Perm.append_left _ ((List.Perm.refl _).cons _) | exact List.Perm.append_left _ (pf1.cons _) | exact List.Perm.append_left _ ((pf1.cons _).cons _) | exact List.Perm.append_left _ (pf2.cons _) | exact List.Perm.append_left _ ((pf2.trans (pf1.cons _)).cons _) | exact List.Perm.append_left _ ((pf1.trans (pf1.cons _)).cons _)⟩
        · refine OT.makeM tab (Value.int .i64) 0 h.funcs.toNat hfu' rfl rfl rfl rfl rfl rfl rfl rfl (show h.funcs.toNat * 8 ≤ 281474976710656 by omega) rfl (fun bl => ?_); refine ⟨Mem.le_refl _, _, perm_mid, ?_⟩
          refine DO.fork 1 [] (by kernel_rfl) ⟨⟨_, rfl, rfl, rfl, ?_⟩, trivial⟩
          · refine OT.call rfl rfl rfl rfl rfl rfl goes21 ((graph_own m _ hh h hr hsm hg).x ?_); rintro _ m1 _ ⟨hm1, rfl, tg, rfl, htg⟩; refine ⟨hm1, _, List.Perm.refl _, ?_⟩
            refine DO.pure tab (by repeat (first | exact Calm.ret | refine Calm.then ?_ | refine Calm.block ?_ | assumption)) (by kernel_rfl) [11] (by kernel_rfl) rfl ?_
            refine DO.run 12 rfl rfl (by kernel_rfl) rfl ?_
            refine OT.box rfl rfl rfl rfl rfl (fun bt => ?_)
            refine ⟨Mem.le_refl _, _, perm_mid, ?_⟩
            refine DO.pure tab (by repeat (first | exact Calm.ret | refine Calm.then ?_ | refine Calm.block ?_ | assumption)) (by kernel_rfl) [13] (by kernel_rfl) rfl ?_
            refine DO.nil (by kernel_rfl) ?_
            refine thenQ_n ?_
            exact ⟨⟨m1, ⟨tg, h.funcs.toNat, bt, bi, bl, bg⟩, _⟩, (by repeat (first | exact trivial | refine And.intro rfl ?_)), (by repeat (first | exact trivial | refine And.intro rfl ?_)), rfl, rfl, List.Sublist.refl _, hm1, htg, rfl, by first | exact List.Perm.append_left _ ((List.Perm.refl _).cons _) | exact List.Perm.append_left _ (pf1.cons _) | exact List.Perm.append_left _ ((pf1.cons _).cons _) | exact List.Perm.append_left _ (pf2.cons _) | exact List.Perm.append_left _ ((pf2.trans (pf1.cons _)).cons _) | exact List.Perm.append_left _ ((pf1.trans (pf1.cons _)).cons _)⟩
      · refine OT.makeM tab (Value.int .i64) 0 h.funcs.toNat hfu' rfl rfl rfl rfl rfl rfl rfl rfl (show h.funcs.toNat * 8 ≤ 281474976710656 by omega) rfl (fun bl => ?_); refine ⟨Mem.le_refl _, _, perm_mid, ?_⟩
        refine DO.fork 1 [4] (by kernel_rfl) ⟨⟨_, rfl, rfl, rfl, ?_⟩, ⟨_, rfl, rfl, rfl, ?_⟩, trivial⟩
        · refine OT.call rfl rfl rfl rfl rfl rfl goes21 ((graph_own m _ hh h hr hsm hg).x ?_); rintro _ m1 _ ⟨hm1, rfl, tg, rfl, htg⟩; refine ⟨hm1, _, List.Perm.refl _, ?_⟩
          refine DO.fork 4 [] (by kernel_rfl) ⟨⟨_, rfl, rfl, rfl, ?_⟩, trivial⟩
          · refine OT.makeM tab (Value.int .i64) 0 h.funcs.toNat hfu' rfl rfl rfl rfl rfl rfl rfl rfl (show h.funcs.toNat * 8 ≤ 281474976710656 by omega) rfl (fun bi => ?_); refine ⟨Mem.le_refl _, _, perm_mid, ?_⟩
            refine DO.pure tab (by repeat (first | exact Calm.ret | refine Calm.then ?_ | refine Calm.block ?_ | assumption)) (by kernel_rfl) [11] (by kernel_rfl) rfl ?_
            refine DO.run 12 rfl rfl (by kernel_rfl) rfl ?_
            refine OT.box rfl rfl rfl rfl rfl (fun bt => ?_)
            refine ⟨Mem.le_refl _, _, perm_mid, ?_⟩
            refine DO.pure tab (by repeat (first | exact Calm.ret | refine Calm.then ?_ | refine Calm.block ?_ | assumption)) (by kernel_rfl) [13] (by kernel_rfl) rfl ?_
            refine DO.nil (by kernel_rfl) ?_
            refine thenQ_n ?_
            exact ⟨⟨m1, ⟨tg, h.funcs.toNat, bt, bi, bl, bg⟩, _⟩, (by repeat (first | exact trivial | refine And.intro rfl ?_)), (by repeat (first | exact trivial | refine And.intro rfl ?_)), rfl, rfl, List.Sublist.refl _, hm1, htg, rfl, by first | exact List.Perm.append_left _ ((List.Perm.refl _).cons _) | exact List.Perm.append_left _ (pf1.cons _) | exact List.Perm.append_left _ ((pf1.cons _).cons _) | exact List.Perm.append_left _ (pf2.cons _) | exact List.Perm.append_left _ ((pf2.trans (pf1.cons _)).cons _) | exact List.Perm.append_left _ ((pf1.trans (pf1.cons _)).cons _)⟩
        · refine OT.makeM tab (Value.int .i64) 0 h.funcs.toNat hfu' rfl rfl rfl rfl rfl rfl rfl rfl (show h.funcs.toNat * 8 ≤ 281474976710656 by omega) rfl (fun bi => ?_); refine ⟨Mem.le_refl _, _, perm_mid, ?_⟩
          refine DO.fork 1 [] (by kernel_rfl) ⟨⟨_, rfl, rfl, rfl, ?_⟩, trivial⟩
          · refine OT.call rfl rfl rfl rfl rfl rfl goes21 ((graph_own m _ hh h hr hsm hg).x ?_); rintro _ m1 _ ⟨hm1, rfl, tg, rfl, htg⟩; refine ⟨hm1, _, List.Perm.refl _, ?_⟩
            refine DO.pure tab (by repeat (first | exact Calm.ret | refine Calm.then ?_ | refine Calm.block ?_ | assumption)) (by kernel_rfl) [11] (by kernel_rfl) rfl ?_
            refine DO.run 12 rfl rfl (by kernel_rfl) rfl ?_
            refine OT.box rfl rfl rfl rfl rfl (fun bt => ?_)
            refine ⟨Mem.le_refl _, _, perm_mid, ?_⟩
            refine DO.pure tab (by repeat (first | exact Calm.ret | refine Calm.then ?_ | refine Calm.block ?_ | assumption)) (by kernel_rfl) [13] (by kernel_rfl) rfl ?_
            refine DO.nil (by kernel_rfl) ?_
            refine thenQ_n ?_
            exact ⟨⟨m1, ⟨tg, h.funcs.toNat, bt, bi, bl, bg⟩, _⟩, (by repeat (first | exact trivial | refine And.intro rfl ?_)), (by repeat (first | exact trivial | refine And.intro rfl ?_)), rfl, rfl, List.Sublist.refl _, hm1, htg, rfl, by first | exact List.Perm.append_left _ ((List.Perm.refl _).cons _) | exact List.Perm.append_left _ (pf1.cons _) | exact List.Perm.append_left _ ((pf1.cons _).cons _) | exact List.Perm.append_left _ (pf2.cons _) | exact List.Perm.append_left _ ((pf2.trans (pf1.cons _)).cons _) | exact List.Perm.append_left _ ((pf1.trans (pf1.cons _)).cons _)⟩
  rintro ⟨m1, p, Lx⟩ ⟨hm1, htg, hpn, hperm⟩
  simp only at hm1 htg hpn hperm ⊢
  refine TC.perm (hperm.trans List.perm_append_comm) ?_
  refine TC.mcell0 ?_
  have hr1 := hr.mono hm1
  obtain ⟨hgo, hgl⟩ := graphM_ok hg
  generalize hgraph : graphM h = g at *
  rw [← hpn] at hgo hgl
  repeat (first | (first | refine TC.seq ?_ | refine TC.block ?_ | refine TC.region ?_ | refine TO.pureP tab rfl rfl ?_ | refine TO.nil ?_ | refine thenQ_n ?_ | refine blockQ_n ?_ | refine thenQ_r ?_ | refine blockQ_r ?_ | refine thenQ_x ?_ | refine blockQ_hit ?_ | refine blockQ_miss rfl ?_ | refine TC.skip ?_ | refine TC.exit ?_ | refine TC.ret ?_ | refine TC.cond_t rfl ?_ | refine TC.cond_f rfl ?_) | (first | refine TO.step rfl (OT.loadL tab 0 rfl rfl rfl rfl rfl rfl ?_) | refine TO.step rfl (OT.loadL0 tab 0 rfl rfl rfl rfl rfl rfl ?_) | refine TO.step rfl (OT.loadL tab 1 rfl rfl rfl rfl rfl rfl ?_) | refine TO.step rfl (OT.loadL0 tab 1 rfl rfl rfl rfl rfl rfl ?_) | refine TO.step rfl (OT.loadL tab 2 rfl rfl rfl rfl rfl rfl ?_) | refine TO.step rfl (OT.loadL0 tab 2 rfl rfl rfl rfl rfl rfl ?_) | refine TO.step rfl (OT.loadL tab 3 rfl rfl rfl rfl rfl rfl ?_) | refine TO.step rfl (OT.loadL0 tab 3 rfl rfl rfl rfl rfl rfl ?_) | refine TO.step rfl (OT.loadL tab 4 rfl rfl rfl rfl rfl rfl ?_) | refine TO.step rfl (OT.loadL0 tab 4 rfl rfl rfl rfl rfl rfl ?_) | refine TO.step rfl (OT.loadL tab 5 rfl rfl rfl rfl rfl rfl ?_) | refine TO.step rfl (OT.loadL0 tab 5 rfl rfl rfl rfl rfl rfl ?_) | refine TO.step rfl (OT.loadL tab 6 rfl rfl rfl rfl rfl rfl ?_) | refine TO.step rfl (OT.loadL0 tab 6 rfl rfl rfl rfl rfl rfl ?_) | refine TO.step rfl (OT.loadL tab 7 rfl rfl rfl rfl rfl rfl ?_) | refine TO.step rfl (OT.loadL0 tab 7 rfl rfl rfl rfl rfl rfl ?_) | refine TO.step rfl (OT.loadL tab 8 rfl rfl rfl rfl rfl rfl ?_) | refine TO.step rfl (OT.loadL0 tab 8 rfl rfl rfl rfl rfl rfl ?_) | refine TO.step rfl (OT.loadL tab 9 rfl rfl rfl rfl rfl rfl ?_) | refine TO.step rfl (OT.loadL0 tab 9 rfl rfl rfl rfl rfl rfl ?_)))
  refine TC.loopK (ι := VS) [1, 5, 37] rfl (fun x => [(38, .int .i64 (x.j : Int))]) (fun _ => m1) (fun x => tI p x.st x.s x.vs (.cells b 0 (hierC hh) :: L))
    (fun x => x.j ≤ p.n ∧ x.st = visitAll g p.n x.j ∧ WF p.n x.st ∧ MQ (Value.int .i64) x.s x.vs x.st.stack.reverse) (fun x => p.n - x.j) ⟨0, st0 p.n, ⟨none, 0, 0⟩, []⟩ (by repeat (first | exact trivial | refine And.intro rfl ?_)) rfl (List.Sublist.refl _) ⟨Nat.zero_le _, rfl, st0_wf _, MQ.nil _⟩ ?_
  rintro ⟨j, st, s, vs⟩ ⟨hj, hst, hW, hq⟩
  simp only at hj hst hW hq ⊢
  have hsucc := visitAll_succ g p.n j
  rw [← hst] at hsucc
  have hli := hW.li
  repeat (first | refine TC.seq ?_ | refine TC.block ?_ | refine TC.region ?_ | refine TO.pureP tab rfl rfl ?_ | refine TO.nil ?_ | refine thenQ_n ?_ | refine blockQ_n ?_ | refine thenQ_r ?_ | refine blockQ_r ?_ | refine thenQ_x ?_ | refine blockQ_hit ?_ | refine blockQ_miss rfl ?_ | refine TC.skip ?_ | refine TC.exit ?_ | refine TC.ret ?_ | refine TC.cond_t rfl ?_ | refine TC.cond_f rfl ?_)
  refine TC.condP rfl (fun hlt' => ?_) (fun hlt' => ?_)
  · have hlt : j < p.n := by omega
    have hji : st.index[j]? = some (at0 st.index j) := at0_get (by omega)
    repeat (first | (first | refine TC.seq ?_ | refine TC.block ?_ | refine TC.region ?_ | refine TO.pureP tab rfl rfl ?_ | refine TO.nil ?_ | refine thenQ_n ?_ | refine blockQ_n ?_ | refine thenQ_r ?_ | refine blockQ_r ?_ | refine thenQ_x ?_ | refine blockQ_hit ?_ | refine blockQ_miss rfl ?_ | refine TC.skip ?_ | refine TC.exit ?_ | refine TC.ret ?_ | refine TC.cond_t rfl ?_ | refine TC.cond_f rfl ?_) | (first | refine TO.step rfl (OT.loadL tab 0 rfl rfl rfl rfl rfl rfl ?_) | refine TO.step rfl (OT.loadL0 tab 0 rfl rfl rfl rfl rfl rfl ?_) | refine TO.step rfl (OT.loadL tab 1 rfl rfl rfl rfl rfl rfl ?_) | refine TO.step rfl (OT.loadL0 tab 1 rfl rfl rfl rfl rfl rfl ?_) | refine TO.step rfl (OT.loadL tab 2 rfl rfl rfl rfl rfl rfl ?_) | refine TO.step rfl (OT.loadL0 tab 2 rfl rfl rfl rfl rfl rfl ?_) | refine TO.step rfl (OT.loadL tab 3 rfl rfl rfl rfl rfl rfl ?_) | refine TO.step rfl (OT.loadL0 tab 3 rfl rfl rfl rfl rfl rfl ?_) | refine TO.step rfl (OT.loadL tab 4 rfl rfl rfl rfl rfl rfl ?_) | refine TO.step rfl (OT.loadL0 tab 4 rfl rfl rfl rfl rfl rfl ?_) | refine TO.step rfl (OT.loadL tab 5 rfl rfl rfl rfl rfl rfl ?_) | refine TO.step rfl (OT.loadL0 tab 5 rfl rfl rfl rfl rfl rfl ?_) | refine TO.step rfl (OT.loadL tab 6 rfl rfl rfl rfl rfl rfl ?_) | refine TO.step rfl (OT.loadL0 tab 6 rfl rfl rfl rfl rfl rfl ?_) | refine TO.step rfl (OT.loadL tab 7 rfl rfl rfl rfl rfl rfl ?_) | refine TO.step rfl (OT.loadL0 tab 7 rfl rfl rfl rfl rfl rfl ?_) | refine TO.step rfl (OT.loadL tab 8 rfl rfl rfl rfl rfl rfl ?_) | refine TO.step rfl (OT.loadL0 tab 8 rfl rfl rfl rfl rfl rfl ?_) | refine TO.step rfl (OT.loadL tab 9 rfl rfl rfl rfl rfl rfl ?_) | refine TO.step rfl (OT.loadL0 tab 9 rfl rfl rfl rfl rfl rfl ?_)))
    refine TO.step rfl (OT.indexP (sz := 1) tab j rfl rfl rfl rfl rfl rfl rfl (by omega) ?_)
    refine TO.step rfl (OT.loadM tab 2 (Value.int .i64) hji rfl rfl rfl rfl rfl rfl ?_)
    repeat (first | refine TC.seq ?_ | refine TC.block ?_ | refine TC.region ?_ | refine TO.pureP tab rfl rfl ?_ | refine TO.nil ?_ | refine thenQ_n ?_ | refine blockQ_n ?_ | refine thenQ_r ?_ | refine blockQ_r ?_ | refine thenQ_x ?_ | refine blockQ_hit ?_ | refine blockQ_miss rfl ?_ | refine TC.skip ?_ | refine TC.exit ?_ | refine TC.ret ?_ | refine TC.cond_t rfl ?_ | refine TC.cond_f rfl ?_)
    refine TC.condP rfl (fun hz0 => ?_) (fun hz0 => ?_)
    · have hzl := zeros_le st.index
      rw [hli] at hzl
      repeat (first | refine TC.seq ?_ | refine TC.block ?_ | refine TC.region ?_ | refine TO.pureP tab rfl rfl ?_ | refine TO.nil ?_ | refine thenQ_n ?_ | refine blockQ_n ?_ | refine thenQ_r ?_ | refine blockQ_r ?_ | refine thenQ_x ?_ | refine blockQ_hit ?_ | refine blockQ_miss rfl ?_ | refine TC.skip ?_ | refine TC.exit ?_ | refine TC.ret ?_ | refine TC.cond_t rfl ?_ | refine TC.cond_f rfl ?_)
      refine TO.step rfl (OT.call rfl rfl rfl rfl rfl rfl goes22 ((visit_own p g hgo hgl (by omega) p.n m1 (.cells b 0 (hierC hh) :: L) st s vs j htg hq hW hlt hz0 hzl).x ?_));
      rintro _ _ _ ⟨rfl, s3, vs3, hq3, rfl⟩
      have hW3 := (visitM_ok hgo hgl p.n st j hW hlt hz0 hzl).1
      rw [if_pos hz0] at hsucc
      repeat (first | refine TC.seq ?_ | refine TC.block ?_ | refine TC.region ?_ | refine TO.pureP tab rfl rfl ?_ | refine TO.nil ?_ | refine thenQ_n ?_ | refine blockQ_n ?_ | refine thenQ_r ?_ | refine blockQ_r ?_ | refine thenQ_x ?_ | refine blockQ_hit ?_ | refine blockQ_miss rfl ?_ | refine TC.skip ?_ | refine TC.exit ?_ | refine TC.ret ?_ | refine TC.cond_t rfl ?_ | refine TC.cond_f rfl ?_)
      refine TO.step rfl (OT.arith (r' := ((j + 1 : Nat) : Int)) rfl rfl rfl rfl rfl rfl rfl (by omega) ?_)
      repeat (first | refine TC.seq ?_ | refine TC.block ?_ | refine TC.region ?_ | refine TO.pureP tab rfl rfl ?_ | refine TO.nil ?_ | refine thenQ_n ?_ | refine blockQ_n ?_ | refine thenQ_r ?_ | refine blockQ_r ?_ | refine thenQ_x ?_ | refine blockQ_hit ?_ | refine blockQ_miss rfl ?_ | refine TC.skip ?_ | refine TC.exit ?_ | refine TC.ret ?_ | refine TC.cond_t rfl ?_ | refine TC.cond_f rfl ?_)
      exact ⟨⟨j + 1, visitM g p.n st j, s3, vs3⟩, (by repeat (first | exact trivial | refine And.intro rfl ?_)), (by repeat (first | exact trivial | refine And.intro rfl ?_)), rfl, rfl, List.Sublist.refl _, ⟨by simp only; omega, hsucc.symm, hW3, hq3⟩, by simp only; omega⟩
    · rw [if_neg hz0] at hsucc
      repeat (first | refine TC.seq ?_ | refine TC.block ?_ | refine TC.region ?_ | refine TO.pureP tab rfl rfl ?_ | refine TO.nil ?_ | refine thenQ_n ?_ | refine blockQ_n ?_ | refine thenQ_r ?_ | refine blockQ_r ?_ | refine thenQ_x ?_ | refine blockQ_hit ?_ | refine blockQ_miss rfl ?_ | refine TC.skip ?_ | refine TC.exit ?_ | refine TC.ret ?_ | refine TC.cond_t rfl ?_ | refine TC.cond_f rfl ?_)
      refine TO.step rfl (OT.arith (r' := ((j + 1 : Nat) : Int)) rfl rfl rfl rfl rfl rfl rfl (by omega) ?_)
      repeat (first | refine TC.seq ?_ | refine TC.block ?_ | refine TC.region ?_ | refine TO.pureP tab rfl rfl ?_ | refine TO.nil ?_ | refine thenQ_n ?_ | refine blockQ_n ?_ | refine thenQ_r ?_ | refine blockQ_r ?_ | refine thenQ_x ?_ | refine blockQ_hit ?_ | refine blockQ_miss rfl ?_ | refine TC.skip ?_ | refine TC.exit ?_ | refine TC.ret ?_ | refine TC.cond_t rfl ?_ | refine TC.cond_f rfl ?_)
      exact ⟨⟨j + 1, st, s, vs⟩, (by repeat (first | exact trivial | refine And.intro rfl ?_)), (by repeat (first | exact trivial | refine And.intro rfl ?_)), rfl, rfl, List.Sublist.refl _, ⟨by simp only; omega, hsucc.symm, hW, hq⟩, by simp only; omega⟩
  have hst' : st = visitAll g p.n p.n := by rw [hst]; congr 1; omega
  obtain ⟨hG0, hG⟩ := visitAll_groups hgo hgl
  rw [← hst'] at hG0 hG
  have hgn : st.groups = (st.groups.toNat : Int) := by omega
  have hfew := hG.few
  have hjn : (p.n : Int) = hh.funcs := by omega
  refine TC.drop (L' := .cells p.bt 0 (tcells p s st) :: .cells p.bg 0 (st.group.map (Value.int .i64)) :: .cells b 0 (hierC hh) :: L) (by repeat (first | exact List.Sublist.refl _ | refine List.Sublist.cons_cons _ ?_ | refine List.Sublist.cons _ ?_)) ?_
  refine TC.freeze fun m2 hm2 hAt => ?_
  refine TC.freeze fun m3 hm3 hAg => ?_
  have hAt3 := hAt.mono hm3
  have htg3 := (htg.mono hm2).mono hm3
  have hgrp : SlRep rInt m3 ⟨some ⟨p.bg, 0, none⟩, p.n, p.n⟩ st.group := by
    refine ⟨by simp only; exact hG.len.symm, Nat.le_refl _, by simp only [rInt]; omega, st.group, ?_, .inr ⟨p.bg, 0, rfl, ?_⟩⟩
    · have : ∀ l : List Int, All2 (rInt.rep m3) l l := fun l => by
        induction l with
        | nil => trivial
        | cons x xs ih => exact ⟨rfl, ih⟩
      exact this _
    · have e : encs rInt st.group = st.group.map (Value.int .i64) := by
        generalize st.group = l
        induction l with
        | nil => rfl
        | cons x xs ih => simpa [encs, rInt] using ih
      rw [e]; exact hAg
  clear hq hsucc hli hlt' hW hst hst' hAt hAg htg hperm
  generalize hgrpE : st.group = grp at *
  generalize hngE : st.groups.toNat = ng at *
  have hglen := hG.len
  have hlv := hG.lt
  repeat (first | (first | refine TC.seq ?_ | refine TC.block ?_ | refine TC.region ?_ | refine TO.pureP tab rfl rfl ?_ | refine TO.nil ?_ | refine thenQ_n ?_ | refine blockQ_n ?_ | refine thenQ_r ?_ | refine blockQ_r ?_ | refine thenQ_x ?_ | refine blockQ_hit ?_ | refine blockQ_miss rfl ?_ | refine TC.skip ?_ | refine TC.exit ?_ | refine TC.ret ?_ | refine TC.cond_t rfl ?_ | refine TC.cond_f rfl ?_) | (first | refine TO.step rfl (OT.loadL tab 0 rfl rfl rfl rfl rfl rfl ?_) | refine TO.step rfl (OT.loadL0 tab 0 rfl rfl rfl rfl rfl rfl ?_) | refine TO.step rfl (OT.loadL tab 1 rfl rfl rfl rfl rfl rfl ?_) | refine TO.step rfl (OT.loadL0 tab 1 rfl rfl rfl rfl rfl rfl ?_) | refine TO.step rfl (OT.loadL tab 2 rfl rfl rfl rfl rfl rfl ?_) | refine TO.step rfl (OT.loadL0 tab 2 rfl rfl rfl rfl rfl rfl ?_) | refine TO.step rfl (OT.loadL tab 3 rfl rfl rfl rfl rfl rfl ?_) | refine TO.step rfl (OT.loadL0 tab 3 rfl rfl rfl rfl rfl rfl ?_) | refine TO.step rfl (OT.loadL tab 4 rfl rfl rfl rfl rfl rfl ?_) | refine TO.step rfl (OT.loadL0 tab 4 rfl rfl rfl rfl rfl rfl ?_) | refine TO.step rfl (OT.loadL tab 5 rfl rfl rfl rfl rfl rfl ?_) | refine TO.step rfl (OT.loadL0 tab 5 rfl rfl rfl rfl rfl rfl ?_) | refine TO.step rfl (OT.loadL tab 6 rfl rfl rfl rfl rfl rfl ?_) | refine TO.step rfl (OT.loadL0 tab 6 rfl rfl rfl rfl rfl rfl ?_) | refine TO.step rfl (OT.loadL tab 7 rfl rfl rfl rfl rfl rfl ?_) | refine TO.step rfl (OT.loadL0 tab 7 rfl rfl rfl rfl rfl rfl ?_) | refine TO.step rfl (OT.loadL tab 8 rfl rfl rfl rfl rfl rfl ?_) | refine TO.step rfl (OT.loadL0 tab 8 rfl rfl rfl rfl rfl rfl ?_) | refine TO.step rfl (OT.loadL tab 9 rfl rfl rfl rfl rfl rfl ?_) | refine TO.step rfl (OT.loadL0 tab 9 rfl rfl rfl rfl rfl rfl ?_)))
  (first | refine TO.step rfl (OT.loadA tab hAt3 rfl rfl rfl rfl rfl ?_) | refine TO.step rfl (OT.loadA0 tab hAt3 rfl rfl rfl rfl rfl ?_))
  refine TO.step rfl (OT.makeM tab Sl.v ⟨none, 0, 0⟩ ng (by omega) rfl rfl rfl rfl rfl rfl rfl rfl (show ng * 24 ≤ 281474976710656 by omega) rfl (fun bm => ?_))
  repeat (first | (first | refine TC.seq ?_ | refine TC.block ?_ | refine TC.region ?_ | refine TO.pureP tab rfl rfl ?_ | refine TO.nil ?_ | refine thenQ_n ?_ | refine blockQ_n ?_ | refine thenQ_r ?_ | refine blockQ_r ?_ | refine thenQ_x ?_ | refine blockQ_hit ?_ | refine blockQ_miss rfl ?_ | refine TC.skip ?_ | refine TC.exit ?_ | refine TC.ret ?_ | refine TC.cond_t rfl ?_ | refine TC.cond_f rfl ?_) | (first | refine TO.step rfl (OT.loadL tab 0 rfl rfl rfl rfl rfl rfl ?_) | refine TO.step rfl (OT.loadL0 tab 0 rfl rfl rfl rfl rfl rfl ?_) | refine TO.step rfl (OT.loadL tab 1 rfl rfl rfl rfl rfl rfl ?_) | refine TO.step rfl (OT.loadL0 tab 1 rfl rfl rfl rfl rfl rfl ?_) | refine TO.step rfl (OT.loadL tab 2 rfl rfl rfl rfl rfl rfl ?_) | refine TO.step rfl (OT.loadL0 tab 2 rfl rfl rfl rfl rfl rfl ?_) | refine TO.step rfl (OT.loadL tab 3 rfl rfl rfl rfl rfl rfl ?_) | refine TO.step rfl (OT.loadL0 tab 3 rfl rfl rfl rfl rfl rfl ?_) | refine TO.step rfl (OT.loadL tab 4 rfl rfl rfl rfl rfl rfl ?_) | refine TO.step rfl (OT.loadL0 tab 4 rfl rfl rfl rfl rfl rfl ?_) | refine TO.step rfl (OT.loadL tab 5 rfl rfl rfl rfl rfl rfl ?_) | refine TO.step rfl (OT.loadL0 tab 5 rfl rfl rfl rfl rfl rfl ?_) | refine TO.step rfl (OT.loadL tab 6 rfl rfl rfl rfl rfl rfl ?_) | refine TO.step rfl (OT.loadL0 tab 6 rfl rfl rfl rfl rfl rfl ?_) | refine TO.step rfl (OT.loadL tab 7 rfl rfl rfl rfl rfl rfl ?_) | refine TO.step rfl (OT.loadL0 tab 7 rfl rfl rfl rfl rfl rfl ?_) | refine TO.step rfl (OT.loadL tab 8 rfl rfl rfl rfl rfl rfl ?_) | refine TO.step rfl (OT.loadL0 tab 8 rfl rfl rfl rfl rfl rfl ?_) | refine TO.step rfl (OT.loadL tab 9 rfl rfl rfl rfl rfl rfl ?_) | refine TO.step rfl (OT.loadL0 tab 9 rfl rfl rfl rfl rfl rfl ?_)))
  refine TC.toks0 ng 1 ?_
  refine TC.perm (List.perm_middle.trans (List.perm_middle.cons _)) ?_
  refine TC.loopK (ι := GS) [1, 5, 7, 59] rfl (fun x => [(60, .int .i64 (x.k : Int))]) (fun x => x.m) (fun x => .cells bm 0 (x.ss.map Sl.v) :: .cells b 0 (hierC hh) :: (toks x.ss 1 ++ L)) (fun x => x.k ≤ p.n ∧ m3 ≤ x.m ∧ OwnRows rInt x.m x.ss (membersM grp ng x.k)) (fun x => p.n - x.k) ⟨0, 0, [], List.replicate ng ⟨none, 0, 0⟩, m3⟩ (by repeat (first | exact trivial | refine And.intro rfl ?_)) rfl (List.Sublist.refl _) ⟨Nat.zero_le _, Mem.le_refl _, OwnRows.empty _ _ _⟩ ?_
  rintro ⟨k, _, _, ss, m4⟩ ⟨hk, hm4, hrows⟩
  simp only at hk hm4 hrows ⊢
  have hss := All2.length hrows
  rw [membersM_len] at hss
  repeat (first | refine TC.seq ?_ | refine TC.block ?_ | refine TC.region ?_ | refine TO.pureP tab rfl rfl ?_ | refine TO.nil ?_ | refine thenQ_n ?_ | refine blockQ_n ?_ | refine thenQ_r ?_ | refine blockQ_r ?_ | refine thenQ_x ?_ | refine blockQ_hit ?_ | refine blockQ_miss rfl ?_ | refine TC.skip ?_ | refine TC.exit ?_ | refine TC.ret ?_ | refine TC.cond_t rfl ?_ | refine TC.cond_f rfl ?_)
  refine TC.condP rfl (fun hlt' => ?_) (fun hlt' => ?_)
  · have hlt : k < p.n := by omega
    have hv := hlv k hlt
    have hgk : grp[k]? = some (at0 grp k) := at0_get (by omega)
    have hgrp4 := hgrp.mono hm4
    have hAt4 := hAt3.mono hm4
    have hsuc := membersM_succ grp ng k
    have hgi := row_get (l := membersM grp ng k) (k := (at0 grp k).toNat) (by rw [membersM_len]; omega)
    have hrl : (row (membersM grp ng k) (at0 grp k).toNat).length ≤ k := by
      rw [membersM_row (n := p.n) hlv k (by omega) _ (by omega)]
      simp only [cls, List.length_map]
      exact Nat.le_trans (List.length_filter_le _ _) (by simp)
    obtain ⟨sr, hsr, hro, hrr⟩ := All2.get hrows hgi
    generalize hgv : at0 grp k = gv at *
    repeat (first | refine TC.seq ?_ | refine TC.block ?_ | refine TC.region ?_ | refine TO.pureP tab rfl rfl ?_ | refine TO.nil ?_ | refine thenQ_n ?_ | refine blockQ_n ?_ | refine thenQ_r ?_ | refine blockQ_r ?_ | refine thenQ_x ?_ | refine blockQ_hit ?_ | refine blockQ_miss rfl ?_ | refine TC.skip ?_ | refine TC.exit ?_ | refine TC.ret ?_ | refine TC.cond_t rfl ?_ | refine TC.cond_f rfl ?_)
    refine TC.perm (((toks_out L hsr).cons _).cons _) ?_
    refine TC.perm ((perm_last.cons _).cons _) ?_
    refine TC.draw [22] mixed 23 rfl (_::_::(toks (ss.eraseIdx gv.toNat) 1++L)) [tok sr 1] (by first | exact List.Perm.refl _ | (rw [List.append_nil]; exact List.Perm.refl _)) ?_
    refine DO.pure tab (by repeat (first | exact Calm.ret | refine Calm.then ?_ | refine Calm.block ?_ | assumption)) (by kernel_rfl) [0, 1, 2, 3] (by kernel_rfl) rfl ?_
    (first | refine DO.loadA tab 4 hAt4 (by repeat (first | exact Calm.ret | refine Calm.then ?_ | refine Calm.block ?_ | assumption)) (by kernel_rfl) (by kernel_rfl) rfl rfl rfl rfl rfl rfl rfl ?_ | refine DO.loadA (k := 0) tab 4 hAt4 (by repeat (first | exact Calm.ret | refine Calm.then ?_ | refine Calm.block ?_ | assumption)) (by kernel_rfl) (by kernel_rfl) rfl rfl rfl rfl rfl rfl rfl ?_)
    refine DO.pure tab (by repeat (first | exact Calm.ret | refine Calm.then ?_ | refine Calm.block ?_ | assumption)) (by kernel_rfl) [5] (by kernel_rfl) rfl ?_
    refine DO.index tab rInt 6 k hgrp4 (by repeat (first | exact Calm.ret | refine Calm.then ?_ | refine Calm.block ?_ | assumption)) (by kernel_rfl) (by kernel_rfl) rfl rfl rfl rfl rfl rfl rfl (by first | rfl | omega) rfl hgk ?_
    rintro b1 i1 hd1 hrd1 hA1; obtain rfl := (show hd1 = gv from hrd1)
    (first | refine DO.loadA tab 7 hA1 (by repeat (first | exact Calm.ret | refine Calm.then ?_ | refine Calm.block ?_ | assumption)) (by kernel_rfl) (by kernel_rfl) rfl rfl rfl rfl rfl rfl rfl ?_ | refine DO.loadA (k := 0) tab 7 hA1 (by repeat (first | exact Calm.ret | refine Calm.then ?_ | refine Calm.block ?_ | assumption)) (by kernel_rfl) (by kernel_rfl) rfl rfl rfl rfl rfl rfl rfl ?_)
    refine DO.pure tab (by repeat (first | exact Calm.ret | refine Calm.then ?_ | refine Calm.block ?_ | assumption)) (by kernel_rfl) [8, 9, 10, 11] (by kernel_rfl) rfl ?_
    (first | refine DO.loadA tab 12 hAt4 (by repeat (first | exact Calm.ret | refine Calm.then ?_ | refine Calm.block ?_ | assumption)) (by kernel_rfl) (by kernel_rfl) rfl rfl rfl rfl rfl rfl rfl ?_ | refine DO.loadA (k := 0) tab 12 hAt4 (by repeat (first | exact Calm.ret | refine Calm.then ?_ | refine Calm.block ?_ | assumption)) (by kernel_rfl) (by kernel_rfl) rfl rfl rfl rfl rfl rfl rfl ?_)
    refine DO.pure tab (by repeat (first | exact Calm.ret | refine Calm.then ?_ | refine Calm.block ?_ | assumption)) (by kernel_rfl) [13] (by kernel_rfl) rfl ?_
    refine DO.index tab rInt 14 k hgrp4 (by repeat (first | exact Calm.ret | refine Calm.then ?_ | refine Calm.block ?_ | assumption)) (by kernel_rfl) (by kernel_rfl) rfl rfl rfl rfl rfl rfl rfl (by first | rfl | omega) rfl hgk ?_
    rintro b2 i2 hd2 hrd2 hA2; obtain rfl := (show hd2 = hd1 from hrd2)
    (first | refine DO.loadA tab 15 hA2 (by repeat (first | exact Calm.ret | refine Calm.then ?_ | refine Calm.block ?_ | assumption)) (by kernel_rfl) (by kernel_rfl) rfl rfl rfl rfl rfl rfl rfl ?_ | refine DO.loadA (k := 0) tab 15 hA2 (by repeat (first | exact Calm.ret | refine Calm.then ?_ | refine Calm.block ?_ | assumption)) (by kernel_rfl) (by kernel_rfl) rfl rfl rfl rfl rfl rfl rfl ?_)
    refine DO.indexP (sz := 1) tab 16 hd2.toNat (by repeat (first | exact Calm.ret | refine Calm.then ?_ | refine Calm.block ?_ | assumption)) (by kernel_rfl) (by kernel_rfl) rfl rfl rfl rfl rfl rfl rfl (by omega) rfl (by omega) ?_
    refine DO.loadM tab 17 0 Sl.v hsr (by repeat (first | exact Calm.ret | refine Calm.then ?_ | refine Calm.block ?_ | assumption)) (by kernel_rfl) (by kernel_rfl) rfl rfl rfl rfl rfl rfl rfl rfl ?_
    refine DO.pure tab (by repeat (first | exact Calm.ret | refine Calm.then ?_ | refine Calm.block ?_ | assumption)) (by kernel_rfl) [18] (by kernel_rfl) rfl ?_
    refine DO.run 19 rfl rfl (by kernel_rfl) rfl ?_
    refine OT.lit tab rfl rfl rfl rfl (fun bl => ?_); refine ⟨Mem.le_refl _, _, perm_mid, ?_⟩
    refine DO.run 20 rfl rfl (by kernel_rfl) rfl ?_
    refine OT.perm List.perm_append_comm (OT.append1 tab rInt 0 (hd' := (k : Int)) (a := (k : Int)) hrr hro rfl rfl rfl rfl rfl rfl rfl rfl (by simp only [rInt]; omega) (fun t' m5 hm5 ht' ho' => ?_)); refine ⟨hm5, _, perm_last, ?_⟩
    refine DO.indexP (sz := 1) tab 21 hd2.toNat (by repeat (first | exact Calm.ret | refine Calm.then ?_ | refine Calm.block ?_ | assumption)) (by kernel_rfl) (by kernel_rfl) rfl rfl rfl rfl rfl rfl rfl (by omega) rfl (by omega) ?_
    refine DO.tail ?_
    refine DOt.run 22 rfl rfl (by kernel_rfl) rfl ?_
    refine OT.storeM tab 0 Sl.v t' rfl rfl rfl rfl rfl rfl rfl (by omega) ?_
    refine DOt.nil (by kernel_rfl) ?_
    rotate_left 1
    repeat (first | refine TC.seq ?_ | refine TC.block ?_ | refine TC.region ?_ | refine TO.pureP tab rfl rfl ?_ | refine TO.nil ?_ | refine thenQ_n ?_ | refine blockQ_n ?_ | refine thenQ_r ?_ | refine blockQ_r ?_ | refine thenQ_x ?_ | refine blockQ_hit ?_ | refine blockQ_miss rfl ?_ | refine TC.skip ?_ | refine TC.exit ?_ | refine TC.ret ?_ | refine TC.cond_t rfl ?_ | refine TC.cond_f rfl ?_)
    refine TO.perm ((perm_first.cons _).cons _) ?_
    refine TO.perm (((toks_in L (by omega)).cons _).cons _) ?_
    refine TO.step rfl (OT.arith (r' := ((k + 1 : Nat) : Int)) rfl rfl rfl rfl rfl rfl rfl (by omega) ?_)
    repeat (first | refine TC.seq ?_ | refine TC.block ?_ | refine TC.region ?_ | refine TO.pureP tab rfl rfl ?_ | refine TO.nil ?_ | refine thenQ_n ?_ | refine blockQ_n ?_ | refine thenQ_r ?_ | refine blockQ_r ?_ | refine thenQ_x ?_ | refine blockQ_hit ?_ | refine blockQ_miss rfl ?_ | refine TC.skip ?_ | refine TC.exit ?_ | refine TC.ret ?_ | refine TC.cond_t rfl ?_ | refine TC.cond_f rfl ?_)
    refine ⟨⟨k + 1, 0, [], ss.set hd2.toNat t', m5⟩, (by repeat (first | exact trivial | refine And.intro rfl ?_)), (by repeat (first | exact trivial | refine And.intro rfl ?_)), rfl, rfl, List.Sublist.refl _, ⟨by simp only; omega, Mem.le_trans hm4 hm5, ?_⟩, by simp only; omega⟩
    simp only
    rw [hsuc]
    exact All2.set _ (hrows.mono hm5) ⟨ho', ht'⟩
  · have hkn : k = p.n := by omega
    subst hkn
    refine TC.freeze fun m5 hm5 hAm => ?_
    have hmem : SlRep rInts m5 ⟨some ⟨bm, 0, none⟩, ng, ng⟩ (membersM grp ng p.n) := (hrows.mono hm5).whole hAm (by rw [membersM_len]) (by omega)
    refine TC.drop (L' := .cells b 0 (hierC hh) :: L) ((List.sublist_append_right _ L).cons_cons _) ?_
    have hm35 := Mem.le_trans hm4 hm5
    have hAt5 := hAt3.mono hm35
    have htg5 := htg3.mono hm35
    have hgrp5 := hgrp.mono hm35
    clear hrows hss hAm
    repeat (first | (first | refine TC.seq ?_ | refine TC.block ?_ | refine TC.region ?_ | refine TO.pureP tab rfl rfl ?_ | refine TO.nil ?_ | refine thenQ_n ?_ | refine blockQ_n ?_ | refine thenQ_r ?_ | refine blockQ_r ?_ | refine thenQ_x ?_ | refine blockQ_hit ?_ | refine blockQ_miss rfl ?_ | refine TC.skip ?_ | refine TC.exit ?_ | refine TC.ret ?_ | refine TC.cond_t rfl ?_ | refine TC.cond_f rfl ?_) | (first | refine TO.step rfl (OT.loadL tab 0 rfl rfl rfl rfl rfl rfl ?_) | refine TO.step rfl (OT.loadL0 tab 0 rfl rfl rfl rfl rfl rfl ?_) | refine TO.step rfl (OT.loadL tab 1 rfl rfl rfl rfl rfl rfl ?_) | refine TO.step rfl (OT.loadL0 tab 1 rfl rfl rfl rfl rfl rfl ?_) | refine TO.step rfl (OT.loadL tab 2 rfl rfl rfl rfl rfl rfl ?_) | refine TO.step rfl (OT.loadL0 tab 2 rfl rfl rfl rfl rfl rfl ?_) | refine TO.step rfl (OT.loadL tab 3 rfl rfl rfl rfl rfl rfl ?_) | refine TO.step rfl (OT.loadL0 tab 3 rfl rfl rfl rfl rfl rfl ?_) | refine TO.step rfl (OT.loadL tab 4 rfl rfl rfl rfl rfl rfl ?_) | refine TO.step rfl (OT.loadL0 tab 4 rfl rfl rfl rfl rfl rfl ?_) | refine TO.step rfl (OT.loadL tab 5 rfl rfl rfl rfl rfl rfl ?_) | refine TO.step rfl (OT.loadL0 tab 5 rfl rfl rfl rfl rfl rfl ?_) | refine TO.step rfl (OT.loadL tab 6 rfl rfl rfl rfl rfl rfl ?_) | refine TO.step rfl (OT.loadL0 tab 6 rfl rfl rfl rfl rfl rfl ?_) | refine TO.step rfl (OT.loadL tab 7 rfl rfl rfl rfl rfl rfl ?_) | refine TO.step rfl (OT.loadL0 tab 7 rfl rfl rfl rfl rfl rfl ?_) | refine TO.step rfl (OT.loadL tab 8 rfl rfl rfl rfl rfl rfl ?_) | refine TO.step rfl (OT.loadL0 tab 8 rfl rfl rfl rfl rfl rfl ?_) | refine TO.step rfl (OT.loadL tab 9 rfl rfl rfl rfl rfl rfl ?_) | refine TO.step rfl (OT.loadL0 tab 9 rfl rfl rfl rfl rfl rfl ?_)))
    (first | refine TO.step rfl (OT.loadA tab hAt5 rfl rfl rfl rfl rfl ?_) | refine TO.step rfl (OT.loadA0 tab hAt5 rfl rfl rfl rfl rfl ?_))
    refine TO.step rfl (OT.makeM tab mv none ng (by omega) rfl rfl rfl rfl rfl rfl rfl rfl (show ng * 8 ≤ 281474976710656 by omega) rfl (fun bw => ?_))
    repeat (first | (first | refine TC.seq ?_ | refine TC.block ?_ | refine TC.region ?_ | refine TO.pureP tab rfl rfl ?_ | refine TO.nil ?_ | refine thenQ_n ?_ | refine blockQ_n ?_ | refine thenQ_r ?_ | refine blockQ_r ?_ | refine thenQ_x ?_ | refine blockQ_hit ?_ | refine blockQ_miss rfl ?_ | refine TC.skip ?_ | refine TC.exit ?_ | refine TC.ret ?_ | refine TC.cond_t rfl ?_ | refine TC.cond_f rfl ?_) | (first | refine TO.step rfl (OT.loadL tab 0 rfl rfl rfl rfl rfl rfl ?_) | refine TO.step rfl (OT.loadL0 tab 0 rfl rfl rfl rfl rfl rfl ?_) | refine TO.step rfl (OT.loadL tab 1 rfl rfl rfl rfl rfl rfl ?_) | refine TO.step rfl (OT.loadL0 tab 1 rfl rfl rfl rfl rfl rfl ?_) | refine TO.step rfl (OT.loadL tab 2 rfl rfl rfl rfl rfl rfl ?_) | refine TO.step rfl (OT.loadL0 tab 2 rfl rfl rfl rfl rfl rfl ?_) | refine TO.step rfl (OT.loadL tab 3 rfl rfl rfl rfl rfl rfl ?_) | refine TO.step rfl (OT.loadL0 tab 3 rfl rfl rfl rfl rfl rfl ?_) | refine TO.step rfl (OT.loadL tab 4 rfl rfl rfl rfl rfl rfl ?_) | refine TO.step rfl (OT.loadL0 tab 4 rfl rfl rfl rfl rfl rfl ?_) | refine TO.step rfl (OT.loadL tab 5 rfl rfl rfl rfl rfl rfl ?_) | refine TO.step rfl (OT.loadL0 tab 5 rfl rfl rfl rfl rfl rfl ?_) | refine TO.step rfl (OT.loadL tab 6 rfl rfl rfl rfl rfl rfl ?_) | refine TO.step rfl (OT.loadL0 tab 6 rfl rfl rfl rfl rfl rfl ?_) | refine TO.step rfl (OT.loadL tab 7 rfl rfl rfl rfl rfl rfl ?_) | refine TO.step rfl (OT.loadL0 tab 7 rfl rfl rfl rfl rfl rfl ?_) | refine TO.step rfl (OT.loadL tab 8 rfl rfl rfl rfl rfl rfl ?_) | refine TO.step rfl (OT.loadL0 tab 8 rfl rfl rfl rfl rfl rfl ?_) | refine TO.step rfl (OT.loadL tab 9 rfl rfl rfl rfl rfl rfl ?_) | refine TO.step rfl (OT.loadL0 tab 9 rfl rfl rfl rfl rfl rfl ?_)))
    (first | refine TO.step rfl (OT.loadA tab hAt5 rfl rfl rfl rfl rfl ?_) | refine TO.step rfl (OT.loadA0 tab hAt5 rfl rfl rfl rfl rfl ?_))
    refine TO.step rfl (OT.makeM tab Sl.v ⟨none, 0, 0⟩ ng (by omega) rfl rfl rfl rfl rfl rfl rfl rfl (show ng * 24 ≤ 281474976710656 by omega) rfl (fun ba => ?_))
    repeat (first | (first | refine TC.seq ?_ | refine TC.block ?_ | refine TC.region ?_ | refine TO.pureP tab rfl rfl ?_ | refine TO.nil ?_ | refine thenQ_n ?_ | refine blockQ_n ?_ | refine thenQ_r ?_ | refine blockQ_r ?_ | refine thenQ_x ?_ | refine blockQ_hit ?_ | refine blockQ_miss rfl ?_ | refine TC.skip ?_ | refine TC.exit ?_ | refine TC.ret ?_ | refine TC.cond_t rfl ?_ | refine TC.cond_f rfl ?_) | (first | refine TO.step rfl (OT.loadL tab 0 rfl rfl rfl rfl rfl rfl ?_) | refine TO.step rfl (OT.loadL0 tab 0 rfl rfl rfl rfl rfl rfl ?_) | refine TO.step rfl (OT.loadL tab 1 rfl rfl rfl rfl rfl rfl ?_) | refine TO.step rfl (OT.loadL0 tab 1 rfl rfl rfl rfl rfl rfl ?_) | refine TO.step rfl (OT.loadL tab 2 rfl rfl rfl rfl rfl rfl ?_) | refine TO.step rfl (OT.loadL0 tab 2 rfl rfl rfl rfl rfl rfl ?_) | refine TO.step rfl (OT.loadL tab 3 rfl rfl rfl rfl rfl rfl ?_) | refine TO.step rfl (OT.loadL0 tab 3 rfl rfl rfl rfl rfl rfl ?_) | refine TO.step rfl (OT.loadL tab 4 rfl rfl rfl rfl rfl rfl ?_) | refine TO.step rfl (OT.loadL0 tab 4 rfl rfl rfl rfl rfl rfl ?_) | refine TO.step rfl (OT.loadL tab 5 rfl rfl rfl rfl rfl rfl ?_) | refine TO.step rfl (OT.loadL0 tab 5 rfl rfl rfl rfl rfl rfl ?_) | refine TO.step rfl (OT.loadL tab 6 rfl rfl rfl rfl rfl rfl ?_) | refine TO.step rfl (OT.loadL0 tab 6 rfl rfl rfl rfl rfl rfl ?_) | refine TO.step rfl (OT.loadL tab 7 rfl rfl rfl rfl rfl rfl ?_) | refine TO.step rfl (OT.loadL0 tab 7 rfl rfl rfl rfl rfl rfl ?_) | refine TO.step rfl (OT.loadL tab 8 rfl rfl rfl rfl rfl rfl ?_) | refine TO.step rfl (OT.loadL0 tab 8 rfl rfl rfl rfl rfl rfl ?_) | refine TO.step rfl (OT.loadL tab 9 rfl rfl rfl rfl rfl rfl ?_) | refine TO.step rfl (OT.loadL0 tab 9 rfl rfl rfl rfl rfl rfl ?_)))
    refine TC.mtoks0 ng ?_
    refine TC.toks0 ng 1 ?_
    refine TC.perm perm_groups ?_
    have hdn := hgo
    refine TC.loopK (ι := GA) [1, 5, 7, 9, 10, 97] rfl (fun x => [(98, .int .i64 (x.k : Int))]) (fun x => x.m) (fun x => .cells bw 0 (x.ws.map mv) :: .cells ba 0 (x.ss.map Sl.v) :: .cells b 0 (hierC hh) :: (mtoks x.ws ++ (toks x.ss 1 ++ L)))
      (fun x => x.k ≤ p.n ∧ m5 ≤ x.m ∧ x.st = askAll g grp ng x.k ∧ x.ws.map mkeys = x.st.w ∧ (∀ y ∈ x.ws, mok y) ∧ OwnRows rInt x.m x.ss x.st.a) (fun x => p.n - x.k) ⟨0, List.replicate ng none, List.replicate ng ⟨none, 0, 0⟩, askAll g grp ng 0, m5⟩ (by repeat (first | exact trivial | refine And.intro rfl ?_)) rfl (List.Sublist.refl _)
      ⟨Nat.zero_le _, Mem.le_refl _, rfl, by simp [askAll, mkeys], fun y hy => by rw [List.eq_of_mem_replicate hy]; trivial, OwnRows.empty _ _ _⟩ ?_
    rintro ⟨k, ws, ss, sa, m6⟩ ⟨hk, hm6, hsa, hws, hmok, hrows⟩
    simp only at hk hm6 hsa hws hmok hrows ⊢
    have hAI := askAll_inv hgo hgl hlv k hk
    rw [← hsa] at hAI
    repeat (first | refine TC.seq ?_ | refine TC.block ?_ | refine TC.region ?_ | refine TO.pureP tab rfl rfl ?_ | refine TO.nil ?_ | refine thenQ_n ?_ | refine blockQ_n ?_ | refine thenQ_r ?_ | refine blockQ_r ?_ | refine thenQ_x ?_ | refine blockQ_hit ?_ | refine blockQ_miss rfl ?_ | refine TC.skip ?_ | refine TC.exit ?_ | refine TC.ret ?_ | refine TC.cond_t rfl ?_ | refine TC.cond_f rfl ?_)
    refine TC.condP rfl (fun hlt3' => ?_) (fun hlt3' => ?_)
    · have hlt : k < p.n := by omega
      have hsuc := askAll_succ g grp ng k
      rw [← hsa] at hsuc
      have hAt6 := hAt5.mono hm6
      have htg6 := htg5.mono hm6
      have hgk := row_get (l := g) (k := k) (by omega)
      have hrm := row_mem (l := g) (k := k) (by omega)
      have hrn := hgo.len hrm
      have hrlt := hgo.lt _ hrm
      repeat (first | refine TC.seq ?_ | refine TC.block ?_ | refine TC.region ?_ | refine TO.pureP tab rfl rfl ?_ | refine TO.nil ?_ | refine thenQ_n ?_ | refine blockQ_n ?_ | refine thenQ_r ?_ | refine blockQ_r ?_ | refine thenQ_x ?_ | refine blockQ_hit ?_ | refine blockQ_miss rfl ?_ | refine TC.skip ?_ | refine TC.exit ?_ | refine TC.ret ?_ | refine TC.cond_t rfl ?_ | refine TC.cond_f rfl ?_)
      (first | refine TO.step rfl (OT.loadA tab hAt6 rfl rfl rfl rfl rfl ?_) | refine TO.step rfl (OT.loadA0 tab hAt6 rfl rfl rfl rfl rfl ?_))
      repeat (first | refine TC.seq ?_ | refine TC.block ?_ | refine TC.region ?_ | refine TO.pureP tab rfl rfl ?_ | refine TO.nil ?_ | refine thenQ_n ?_ | refine blockQ_n ?_ | refine thenQ_r ?_ | refine blockQ_r ?_ | refine thenQ_x ?_ | refine blockQ_hit ?_ | refine blockQ_miss rfl ?_ | refine TC.skip ?_ | refine TC.exit ?_ | refine TC.ret ?_ | refine TC.cond_t rfl ?_ | refine TC.cond_f rfl ?_)
      refine TO.step rfl (OT.index tab rInts k htg6 rfl rfl rfl rfl rfl (by first | rfl | omega) rfl hgk ?_)
      rintro b1 i1 hd1 hrd1 hA1
      (first | refine TO.step rfl (OT.loadA tab hA1 rfl rfl rfl rfl rfl ?_) | refine TO.step rfl (OT.loadA0 tab hA1 rfl rfl rfl rfl rfl ?_))
      have hrl := hrd1.len
      generalize Go.Sep.row g k = rw0 at *
      repeat (first | refine TC.seq ?_ | refine TC.block ?_ | refine TC.region ?_ | refine TO.pureP tab rfl rfl ?_ | refine TO.nil ?_ | refine thenQ_n ?_ | refine blockQ_n ?_ | refine thenQ_r ?_ | refine blockQ_r ?_ | refine thenQ_x ?_ | refine blockQ_hit ?_ | refine blockQ_miss rfl ?_ | refine TC.skip ?_ | refine TC.exit ?_ | refine TC.ret ?_ | refine TC.cond_t rfl ?_ | refine TC.cond_f rfl ?_)
      refine TC.loopK (ι := GA) [1, 5, 7, 9, 10, 11, 97, 98, 107, 108] rfl (fun x => [(109, .int .i64 (x.k : Int))]) (fun x => x.m) (fun x => .cells bw 0 (x.ws.map mv) :: .cells ba 0 (x.ss.map Sl.v) :: .cells b 0 (hierC hh) :: (mtoks x.ws ++ (toks x.ss 1 ++ L)))
        (fun x => x.k ≤ rw0.length ∧ m6 ≤ x.m ∧ x.st = (rw0.take x.k).foldl (askStep grp k) sa ∧ (∃ E, AskI ng E x.st) ∧ x.ws.map mkeys = x.st.w ∧ (∀ y ∈ x.ws, mok y) ∧ OwnRows rInt x.m x.ss x.st.a) (fun x => rw0.length - x.k) ⟨0, ws, ss, sa, m6⟩ (by repeat (first | exact trivial | refine And.intro rfl ?_)) rfl (List.Sublist.refl _)
        ⟨Nat.zero_le _, Mem.le_refl _, rfl, ⟨_, hAI⟩, hws, hmok, hrows⟩ ?_
      clear hAI hws hmok hrows
      rintro ⟨j, ws, ss, sb, m7⟩ ⟨hj, hm7, hsb, ⟨E, hE⟩, hws, hmok, hrows⟩
      simp only at hj hm7 hsb hE hws hmok hrows ⊢
      repeat (first | refine TC.seq ?_ | refine TC.block ?_ | refine TC.region ?_ | refine TO.pureP tab rfl rfl ?_ | refine TO.nil ?_ | refine thenQ_n ?_ | refine blockQ_n ?_ | refine thenQ_r ?_ | refine blockQ_r ?_ | refine thenQ_x ?_ | refine blockQ_hit ?_ | refine blockQ_miss rfl ?_ | refine TC.skip ?_ | refine TC.exit ?_ | refine TC.ret ?_ | refine TC.cond_t rfl ?_ | refine TC.cond_f rfl ?_)
      refine TC.condP rfl (fun hlj' => ?_) (fun hlj' => ?_)
      · have hlj : j < rw0.length := by omega
        have hxj : rw0[j]? = some rw0[j] := by simp [hlj]
        have hj1 := foldl_take (askStep grp k) sa rw0 hlj
        rw [← hsb] at hj1
        have ht := hrlt _ (List.getElem_mem hlj)
        generalize rw0[j] = tv at *
        have hE2 := hE.step hlv (f := k) (t := tv) hlt (by omega)
        have hAt7 := hAt6.mono hm7
        have hgrp7 := (hgrp5.mono hm6).mono hm7
        have hrd7 := hrd1.mono hm7
        have hva := hlv k hlt
        have hvb := hlv tv.toNat (by omega)
        have hga : grp[k]? = some (at0 grp k) := at0_get (by omega)
        have hgb : grp[tv.toNat]? = some (at0 grp tv.toNat) := at0_get (by omega)
        have hstep : askStep grp k sb tv = if at0 grp k = at0 grp tv.toNat then sb else if at0 grp tv.toNat ∈ row sb.w (at0 grp k).toNat then sb else ⟨pushAt sb.w (at0 grp k).toNat (at0 grp tv.toNat), pushAt sb.a (at0 grp tv.toNat).toNat (at0 grp k)⟩ := rfl
        generalize hgav : at0 grp k = ga at *
        generalize hgbv : at0 grp tv.toNat = gb at *
        repeat (first | refine TC.seq ?_ | refine TC.block ?_ | refine TC.region ?_ | refine TO.pureP tab rfl rfl ?_ | refine TO.nil ?_ | refine thenQ_n ?_ | refine blockQ_n ?_ | refine thenQ_r ?_ | refine blockQ_r ?_ | refine thenQ_x ?_ | refine blockQ_hit ?_ | refine blockQ_miss rfl ?_ | refine TC.skip ?_ | refine TC.exit ?_ | refine TC.ret ?_ | refine TC.cond_t rfl ?_ | refine TC.cond_f rfl ?_)
        refine TO.step rfl (OT.index tab rInt j hrd7 rfl rfl rfl rfl rfl (by first | rfl | omega) rfl hxj ?_)
        rintro b2 i2 hd2 hrd2 hA2
        obtain rfl := (show hd2 = tv from hrd2)
        (first | refine TO.step rfl (OT.loadA tab hA2 rfl rfl rfl rfl rfl ?_) | refine TO.step rfl (OT.loadA0 tab hA2 rfl rfl rfl rfl rfl ?_))
        repeat (first | refine TC.seq ?_ | refine TC.block ?_ | refine TC.region ?_ | refine TO.pureP tab rfl rfl ?_ | refine TO.nil ?_ | refine thenQ_n ?_ | refine blockQ_n ?_ | refine thenQ_r ?_ | refine blockQ_r ?_ | refine thenQ_x ?_ | refine blockQ_hit ?_ | refine blockQ_miss rfl ?_ | refine TC.skip ?_ | refine TC.exit ?_ | refine TC.ret ?_ | refine TC.cond_t rfl ?_ | refine TC.cond_f rfl ?_)
        refine TC.draw0 [] mixed 16 rfl ?_
        refine DO.pure tab (by repeat (first | exact Calm.ret | refine Calm.then ?_ | refine Calm.block ?_ | assumption)) (by kernel_rfl) [0, 1, 2] (by kernel_rfl) rfl ?_
        (first | refine DO.loadA tab 3 hAt7 (by repeat (first | exact Calm.ret | refine Calm.then ?_ | refine Calm.block ?_ | assumption)) (by kernel_rfl) (by kernel_rfl) rfl rfl rfl rfl rfl rfl rfl ?_ | refine DO.loadA (k := 0) tab 3 hAt7 (by repeat (first | exact Calm.ret | refine Calm.then ?_ | refine Calm.block ?_ | assumption)) (by kernel_rfl) (by kernel_rfl) rfl rfl rfl rfl rfl rfl rfl ?_)
        refine DO.pure tab (by repeat (first | exact Calm.ret | refine Calm.then ?_ | refine Calm.block ?_ | assumption)) (by kernel_rfl) [4] (by kernel_rfl) rfl ?_
        refine DO.index tab rInt 5 k hgrp7 (by repeat (first | exact Calm.ret | refine Calm.then ?_ | refine Calm.block ?_ | assumption)) (by kernel_rfl) (by kernel_rfl) rfl rfl rfl rfl rfl rfl rfl (by first | rfl | omega) rfl hga ?_
        rintro b3 i3 hd3 hrd3 hA3; obtain rfl := (show hd3 = ga from hrd3)
        (first | refine DO.loadA tab 6 hA3 (by repeat (first | exact Calm.ret | refine Calm.then ?_ | refine Calm.block ?_ | assumption)) (by kernel_rfl) (by kernel_rfl) rfl rfl rfl rfl rfl rfl rfl ?_ | refine DO.loadA (k := 0) tab 6 hA3 (by repeat (first | exact Calm.ret | refine Calm.then ?_ | refine Calm.block ?_ | assumption)) (by kernel_rfl) (by kernel_rfl) rfl rfl rfl rfl rfl rfl rfl ?_)
        refine DO.pure tab (by repeat (first | exact Calm.ret | refine Calm.then ?_ | refine Calm.block ?_ | assumption)) (by kernel_rfl) [7, 8, 9] (by kernel_rfl) rfl ?_
        (first | refine DO.loadA tab 10 hAt7 (by repeat (first | exact Calm.ret | refine Calm.then ?_ | refine Calm.block ?_ | assumption)) (by kernel_rfl) (by kernel_rfl) rfl rfl rfl rfl rfl rfl rfl ?_ | refine DO.loadA (k := 0) tab 10 hAt7 (by repeat (first | exact Calm.ret | refine Calm.then ?_ | refine Calm.block ?_ | assumption)) (by kernel_rfl) (by kernel_rfl) rfl rfl rfl rfl rfl rfl rfl ?_)
        refine DO.pure tab (by repeat (first | exact Calm.ret | refine Calm.then ?_ | refine Calm.block ?_ | assumption)) (by kernel_rfl) [11] (by kernel_rfl) rfl ?_
        refine DO.index tab rInt 12 hd2.toNat hgrp7 (by repeat (first | exact Calm.ret | refine Calm.then ?_ | refine Calm.block ?_ | assumption)) (by kernel_rfl) (by kernel_rfl) rfl rfl rfl rfl rfl rfl rfl (by first | rfl | omega) rfl hgb ?_
        rintro b4 i4 hd4 hrd4 hA4; obtain rfl := (show hd4 = gb from hrd4)
        (first | refine DO.loadA tab 13 hA4 (by repeat (first | exact Calm.ret | refine Calm.then ?_ | refine Calm.block ?_ | assumption)) (by kernel_rfl) (by kernel_rfl) rfl rfl rfl rfl rfl rfl rfl ?_ | refine DO.loadA (k := 0) tab 13 hA4 (by repeat (first | exact Calm.ret | refine Calm.then ?_ | refine Calm.block ?_ | assumption)) (by kernel_rfl) (by kernel_rfl) rfl rfl rfl rfl rfl rfl rfl ?_)
        refine DO.pure tab (by repeat (first | exact Calm.ret | refine Calm.then ?_ | refine Calm.block ?_ | assumption)) (by kernel_rfl) [14, 15] (by kernel_rfl) rfl ?_
        (first | refine DO.nil0 (by kernel_rfl) ?_ | refine DO.nil (by kernel_rfl) ?_)
        rotate_left 1
        repeat (first | refine TC.seq ?_ | refine TC.block ?_ | refine TC.region ?_ | refine TO.pureP tab rfl rfl ?_ | refine TO.nil ?_ | refine thenQ_n ?_ | refine blockQ_n ?_ | refine thenQ_r ?_ | refine blockQ_r ?_ | refine thenQ_x ?_ | refine blockQ_hit ?_ | refine blockQ_miss rfl ?_ | refine TC.skip ?_ | refine TC.exit ?_ | refine TC.ret ?_ | refine TC.cond_t rfl ?_ | refine TC.cond_f rfl ?_)
        refine TC.condP rfl (fun heq => ?_) (fun heq => ?_)
        · rw [if_pos heq] at hstep
          rw [hstep] at hj1 hE2
          repeat (first | refine TC.seq ?_ | refine TC.block ?_ | refine TC.region ?_ | refine TO.pureP tab rfl rfl ?_ | refine TO.nil ?_ | refine thenQ_n ?_ | refine blockQ_n ?_ | refine thenQ_r ?_ | refine blockQ_r ?_ | refine thenQ_x ?_ | refine blockQ_hit ?_ | refine blockQ_miss rfl ?_ | refine TC.skip ?_ | refine TC.exit ?_ | refine TC.ret ?_ | refine TC.cond_t rfl ?_ | refine TC.cond_f rfl ?_)
          refine TO.step rfl (OT.arith (r' := ((j + 1 : Nat) : Int)) rfl rfl rfl rfl rfl rfl rfl (by omega) ?_)
          repeat (first | refine TC.seq ?_ | refine TC.block ?_ | refine TC.region ?_ | refine TO.pureP tab rfl rfl ?_ | refine TO.nil ?_ | refine thenQ_n ?_ | refine blockQ_n ?_ | refine thenQ_r ?_ | refine blockQ_r ?_ | refine thenQ_x ?_ | refine blockQ_hit ?_ | refine blockQ_miss rfl ?_ | refine TC.skip ?_ | refine TC.exit ?_ | refine TC.ret ?_ | refine TC.cond_t rfl ?_ | refine TC.cond_f rfl ?_)
          exact ⟨⟨j + 1, ws, ss, sb, m7⟩, (by repeat (first | exact trivial | refine And.intro rfl ?_)), (by repeat (first | exact trivial | refine And.intro rfl ?_)), rfl, rfl, List.Sublist.refl _, ⟨by simp only; omega, hm7, hj1.symm, ⟨_, hE2⟩, hws, hmok, hrows⟩, by simp only; omega⟩
        · rw [if_neg heq] at hstep
          have hwsl : ws.length = ng := by
            have := congrArg List.length hws
            rw [List.length_map, hE.lw] at this; exact this
          have hwx : ws[hd3.toNat]? = some (ws[hd3.toNat]'(by omega)) := by simp [show hd3.toNat < ws.length by omega]
          generalize ws[hd3.toNat]'(by omega) = x at hwx
          repeat (first | refine TC.seq ?_ | refine TC.block ?_ | refine TC.region ?_ | refine TO.pureP tab rfl rfl ?_ | refine TO.nil ?_ | refine thenQ_n ?_ | refine blockQ_n ?_ | refine thenQ_r ?_ | refine blockQ_r ?_ | refine thenQ_x ?_ | refine blockQ_hit ?_ | refine blockQ_miss rfl ?_ | refine TC.skip ?_ | refine TC.exit ?_ | refine TC.ret ?_ | refine TC.cond_t rfl ?_ | refine TC.cond_f rfl ?_)
          refine TO.step rfl (OT.indexP (sz := 1) tab hd3.toNat rfl rfl rfl rfl rfl (by omega) rfl (by omega) ?_)
          refine TO.step rfl (OT.loadM tab 0 mv hwx rfl rfl rfl rfl rfl rfl ?_)
          refine TO.step rfl (OT.nilMap tab x rfl rfl rfl rfl rfl rfl ?_)
          repeat (first | refine TC.seq ?_ | refine TC.block ?_ | refine TC.region ?_ | refine TO.pureP tab rfl rfl ?_ | refine TO.nil ?_ | refine thenQ_n ?_ | refine blockQ_n ?_ | refine thenQ_r ?_ | refine blockQ_r ?_ | refine thenQ_x ?_ | refine blockQ_hit ?_ | refine blockQ_miss rfl ?_ | refine TC.skip ?_ | refine TC.exit ?_ | refine TC.ret ?_ | refine TC.cond_t rfl ?_ | refine TC.cond_f rfl ?_)
          refine TC.cutT (ι := List MapH) [1, 5, 7, 9, 10, 11, 14, 15, 97, 98, 107, 108, 109] rfl (fun _ => []) (fun _ => m7) (fun ws => .cells bw 0 (ws.map mv) :: .cells ba 0 (ss.map Sl.v) :: .cells b 0 (hierC hh) :: (mtoks ws ++ (toks ss 1 ++ L)))
            (fun ws => ws.map mkeys = sb.w ∧ (∀ y ∈ ws, mok y) ∧ ∃ bx es c0, ws[hd3.toNat]? = some (some (bx, es, c0))) ?_ ?_
          · refine TC.condP rfl (fun hnil => ?_) (fun hnil => ?_)
            · subst hnil
              repeat (first | refine TC.seq ?_ | refine TC.block ?_ | refine TC.region ?_ | refine TO.pureP tab rfl rfl ?_ | refine TO.nil ?_ | refine thenQ_n ?_ | refine blockQ_n ?_ | refine thenQ_r ?_ | refine blockQ_r ?_ | refine thenQ_x ?_ | refine blockQ_hit ?_ | refine blockQ_miss rfl ?_ | refine TC.skip ?_ | refine TC.exit ?_ | refine TC.ret ?_ | refine TC.cond_t rfl ?_ | refine TC.cond_f rfl ?_)
              refine TO.step rfl (OT.makeMap kInt rfl rfl rfl (fun bx => ?_))
              refine TO.step rfl (OT.indexP (sz := 1) tab hd3.toNat rfl rfl rfl rfl rfl (by omega) rfl (by omega) ?_)
              refine TO.step rfl (OT.storeM tab 1 mv (some (bx, [], 0)) rfl rfl rfl rfl rfl rfl rfl (by omega) ?_)
              refine TO.perm (((List.Perm.swap _ _ _).trans ((List.Perm.swap _ _ _).cons _)).trans (((List.Perm.swap _ _ _).cons _).cons _)) ?_
              refine TO.perm (((((mtoks_out _ hwx).cons _).cons _).cons _).cons _) ?_
              refine TO.drop (L' := .cells bw 0 ((ws.set hd3.toNat (some (bx, [], 0))).map mv) :: .cells ba 0 (ss.map Sl.v) :: .cells b 0 (hierC hh) :: mitem (some (bx, [], 0)) :: (mtoks (ws.eraseIdx hd3.toNat) ++ (toks ss 1 ++ L))) (by repeat (first | exact List.Sublist.refl _ | refine List.Sublist.cons_cons _ ?_ | refine List.Sublist.cons _ ?_)) ?_
              refine TO.perm ((((mtoks_in _ (by omega)).cons _).cons _).cons _) ?_
              repeat (first | refine TC.seq ?_ | refine TC.block ?_ | refine TC.region ?_ | refine TO.pureP tab rfl rfl ?_ | refine TO.nil ?_ | refine thenQ_n ?_ | refine blockQ_n ?_ | refine thenQ_r ?_ | refine blockQ_r ?_ | refine thenQ_x ?_ | refine blockQ_hit ?_ | refine blockQ_miss rfl ?_ | refine TC.skip ?_ | refine TC.exit ?_ | refine TC.ret ?_ | refine TC.cond_t rfl ?_ | refine TC.cond_f rfl ?_)
              refine ⟨ws.set hd3.toNat (some (bx, [], 0)), (by repeat (first | exact trivial | refine And.intro rfl ?_)), (by repeat (first | exact trivial | refine And.intro rfl ?_)), rfl, rfl, List.Sublist.refl _, ?_, fun y hy => ?_, bx, [], 0, by simp [show hd3.toNat < ws.length by omega]⟩
              · rw [List.map_set, ← hws]
                have h5 := map_get mkeys hwx
                exact set_selfV h5
              · rcases List.mem_or_eq_of_mem_set hy with hy | rfl
                · exact hmok y hy
                · intro e he; cases he
            · repeat (first | refine TC.seq ?_ | refine TC.block ?_ | refine TC.region ?_ | refine TO.pureP tab rfl rfl ?_ | refine TO.nil ?_ | refine thenQ_n ?_ | refine blockQ_n ?_ | refine thenQ_r ?_ | refine blockQ_r ?_ | refine thenQ_x ?_ | refine blockQ_hit ?_ | refine blockQ_miss rfl ?_ | refine TC.skip ?_ | refine TC.exit ?_ | refine TC.ret ?_ | refine TC.cond_t rfl ?_ | refine TC.cond_f rfl ?_)
              rcases x with _ | ⟨bx, es, c0⟩
              · exact absurd rfl hnil
              exact ⟨ws, (by repeat (first | exact trivial | refine And.intro rfl ?_)), (by repeat (first | exact trivial | refine And.intro rfl ?_)), rfl, rfl, List.Sublist.refl _, hws, hmok, bx, es, c0, hwx⟩
          clear hws hmok hwx hwsl
          rintro ws ⟨hws, hmok, bx, es, c0, hwx⟩
          have hwsl : ws.length = ng := by
            have := congrArg List.length hws
            rw [List.length_map, hE.lw] at this; exact this
          have hrk : row sb.w hd3.toNat = es.map (·.1) := by rw [← hws]; exact row_mkeys hwx
          have hmk : ∀ e ∈ es, e.2.1 = Value.agg ⟨[]⟩ := hmok _ (List.mem_of_getElem? hwx)
          repeat (first | refine TC.seq ?_ | refine TC.block ?_ | refine TC.region ?_ | refine TO.pureP tab rfl rfl ?_ | refine TO.nil ?_ | refine thenQ_n ?_ | refine blockQ_n ?_ | refine thenQ_r ?_ | refine blockQ_r ?_ | refine thenQ_x ?_ | refine blockQ_hit ?_ | refine blockQ_miss rfl ?_ | refine TC.skip ?_ | refine TC.exit ?_ | refine TC.ret ?_ | refine TC.cond_t rfl ?_ | refine TC.cond_f rfl ?_)
          refine TO.step rfl (OT.indexP (sz := 1) tab hd3.toNat rfl rfl rfl rfl rfl (by omega) rfl (by omega) ?_)
          refine TO.step rfl (OT.loadM tab 0 mv hwx rfl rfl rfl rfl rfl rfl ?_)
          repeat (first | refine TC.seq ?_ | refine TC.block ?_ | refine TC.region ?_ | refine TO.pureP tab rfl rfl ?_ | refine TO.nil ?_ | refine thenQ_n ?_ | refine blockQ_n ?_ | refine thenQ_r ?_ | refine blockQ_r ?_ | refine thenQ_x ?_ | refine blockQ_hit ?_ | refine blockQ_miss rfl ?_ | refine TC.skip ?_ | refine TC.exit ?_ | refine TC.ret ?_ | refine TC.cond_t rfl ?_ | refine TC.cond_f rfl ?_)
          refine TO.step rfl (OT.lookupOk tab kInt (3 + hd3.toNat) hd4 rfl rfl rfl rfl rfl rfl rfl (at3 hwx) ?_)
          refine TO.conv (v' := .tuple ⟨[.agg ⟨[]⟩, .bool (mhas es hd4)]⟩) ?_ (congrArg (fun z => Value.tuple ⟨[z, .bool (mhas es hd4)]⟩) (mok_get hmk hd4))
          repeat (first | refine TC.seq ?_ | refine TC.block ?_ | refine TC.region ?_ | refine TO.pureP tab rfl rfl ?_ | refine TO.nil ?_ | refine thenQ_n ?_ | refine blockQ_n ?_ | refine thenQ_r ?_ | refine blockQ_r ?_ | refine thenQ_x ?_ | refine blockQ_hit ?_ | refine blockQ_miss rfl ?_ | refine TC.skip ?_ | refine TC.exit ?_ | refine TC.ret ?_ | refine TC.cond_t rfl ?_ | refine TC.cond_f rfl ?_)
          refine TO.step rfl (OT.alloc tab rfl rfl rfl rfl (fun bz => ?_))
          (first | refine TO.step rfl (OT.storeL tab 0 rfl rfl rfl rfl rfl rfl rfl rfl ?_) | refine TO.step rfl (OT.storeL0 tab 0 rfl rfl rfl rfl rfl rfl rfl rfl ?_) | refine TO.step rfl (OT.storeL tab 1 rfl rfl rfl rfl rfl rfl rfl rfl ?_) | refine TO.step rfl (OT.storeL0 tab 1 rfl rfl rfl rfl rfl rfl rfl rfl ?_) | refine TO.step rfl (OT.storeL tab 2 rfl rfl rfl rfl rfl rfl rfl rfl ?_) | refine TO.step rfl (OT.storeL0 tab 2 rfl rfl rfl rfl rfl rfl rfl rfl ?_) | refine TO.step rfl (OT.storeL tab 3 rfl rfl rfl rfl rfl rfl rfl rfl ?_) | refine TO.step rfl (OT.storeL0 tab 3 rfl rfl rfl rfl rfl rfl rfl rfl ?_) | refine TO.step rfl (OT.storeL tab 4 rfl rfl rfl rfl rfl rfl rfl rfl ?_) | refine TO.step rfl (OT.storeL0 tab 4 rfl rfl rfl rfl rfl rfl rfl rfl ?_) | refine TO.step rfl (OT.storeL tab 5 rfl rfl rfl rfl rfl rfl rfl rfl ?_) | refine TO.step rfl (OT.storeL0 tab 5 rfl rfl rfl rfl rfl rfl rfl rfl ?_) | refine TO.step rfl (OT.storeL tab 6 rfl rfl rfl rfl rfl rfl rfl rfl ?_) | refine TO.step rfl (OT.storeL0 tab 6 rfl rfl rfl rfl rfl rfl rfl rfl ?_) | refine TO.step rfl (OT.storeL tab 7 rfl rfl rfl rfl rfl rfl rfl rfl ?_) | refine TO.step rfl (OT.storeL0 tab 7 rfl rfl rfl rfl rfl rfl rfl rfl ?_) | refine TO.step rfl (OT.storeL tab 8 rfl rfl rfl rfl rfl rfl rfl rfl ?_) | refine TO.step rfl (OT.storeL0 tab 8 rfl rfl rfl rfl rfl rfl rfl rfl ?_) | refine TO.step rfl (OT.storeL tab 9 rfl rfl rfl rfl rfl rfl rfl rfl ?_) | refine TO.step rfl (OT.storeL0 tab 9 rfl rfl rfl rfl rfl rfl rfl rfl ?_))
          refine TO.drop (List.sublist_cons_self _ _) ?_
          repeat (first | refine TC.seq ?_ | refine TC.block ?_ | refine TC.region ?_ | refine TO.pureP tab rfl rfl ?_ | refine TO.nil ?_ | refine thenQ_n ?_ | refine blockQ_n ?_ | refine thenQ_r ?_ | refine blockQ_r ?_ | refine thenQ_x ?_ | refine blockQ_hit ?_ | refine blockQ_miss rfl ?_ | refine TC.skip ?_ | refine TC.exit ?_ | refine TC.ret ?_ | refine TC.cond_t rfl ?_ | refine TC.cond_f rfl ?_)
          refine TC.cond rfl (fun hm => ?_) (fun hm => ?_)
          · have hmf : mhas es hd4 = false := by simpa using hm
            have hnin : hd4 ∉ es.map (·.1) := by rw [mhas_keys] at hmf; simpa using hmf
            rw [if_neg (by rw [hrk]; exact hnin)] at hstep
            rw [hstep] at hj1 hE2
            repeat (first | refine TC.seq ?_ | refine TC.block ?_ | refine TC.region ?_ | refine TO.pureP tab rfl rfl ?_ | refine TO.nil ?_ | refine thenQ_n ?_ | refine blockQ_n ?_ | refine thenQ_r ?_ | refine blockQ_r ?_ | refine thenQ_x ?_ | refine blockQ_hit ?_ | refine blockQ_miss rfl ?_ | refine TC.skip ?_ | refine TC.exit ?_ | refine TC.ret ?_ | refine TC.cond_t rfl ?_ | refine TC.cond_f rfl ?_)
            refine TO.step rfl (OT.indexP (sz := 1) tab hd3.toNat rfl rfl rfl rfl rfl (by omega) rfl (by omega) ?_)
            refine TO.step rfl (OT.loadM tab 0 mv hwx rfl rfl rfl rfl rfl rfl ?_)
            repeat (first | refine TC.seq ?_ | refine TC.block ?_ | refine TC.region ?_ | refine TO.pureP tab rfl rfl ?_ | refine TO.nil ?_ | refine thenQ_n ?_ | refine blockQ_n ?_ | refine thenQ_r ?_ | refine blockQ_r ?_ | refine thenQ_x ?_ | refine blockQ_hit ?_ | refine blockQ_miss rfl ?_ | refine TC.skip ?_ | refine TC.exit ?_ | refine TC.ret ?_ | refine TC.cond_t rfl ?_ | refine TC.cond_f rfl ?_)
            refine TO.step rfl (OT.mapSet tab kInt (3 + hd3.toNat) hd4 rfl rfl rfl rfl rfl rfl (at3 hwx) ?_)
            rw [set3 (by omega)]
            have hmc : mclock es hd4 c0 = c0 + 1 := by simp [mclock, hmf]
            rw [hmc]
            have hwk : (ws.set hd3.toNat (some (bx, mset es hd4 (.agg ⟨[]⟩) c0, c0 + 1))).map mkeys = pushAt sb.w hd3.toNat hd4 := by
              rw [List.map_set, hws, pushAt, hrk]
              congr 1
              exact mset_keys _ _ hnin
            have hwm : ∀ y ∈ ws.set hd3.toNat (some (bx, mset es hd4 (.agg ⟨[]⟩) c0, c0 + 1)), mok y := fun y hy => by
              rcases List.mem_or_eq_of_mem_set hy with hy | rfl
              · exact hmok y hy
              · exact mok_set hmk hd4 c0 hmf
            have hwv : (ws.set hd3.toNat (some (bx, mset es hd4 (.agg ⟨[]⟩) c0, c0 + 1))).map mv = ws.map mv := by
              rw [List.map_set]
              have h5 := map_get mv hwx
              exact set_selfV h5
            rw [← hwv]
            generalize ws.set hd3.toNat (some (bx, mset es hd4 (.agg ⟨[]⟩) c0, c0 + 1)) = ws3 at hwk hwm hwv ⊢
            have hla := hE.la
            have hsl := All2.length hrows
            have hgi := row_get (l := sb.a) (k := hd4.toNat) (by omega)
            obtain ⟨sr, hsr, hro, hrr⟩ := All2.get hrows hgi
            have hrle := hE.oka.len (row_mem (l := sb.a) (k := hd4.toNat) (by omega))
            repeat (first | refine TC.seq ?_ | refine TC.block ?_ | refine TC.region ?_ | refine TO.pureP tab rfl rfl ?_ | refine TO.nil ?_ | refine thenQ_n ?_ | refine blockQ_n ?_ | refine thenQ_r ?_ | refine blockQ_r ?_ | refine thenQ_x ?_ | refine blockQ_hit ?_ | refine blockQ_miss rfl ?_ | refine TC.skip ?_ | refine TC.exit ?_ | refine TC.ret ?_ | refine TC.cond_t rfl ?_ | refine TC.cond_f rfl ?_)
            refine TO.perm (((toks_out2 L hsr).cons _).cons _ |>.cons _) ?_
            refine TO.step rfl (OT.indexP (sz := 1) tab hd4.toNat rfl rfl rfl rfl rfl (by omega) rfl (by omega) ?_)
            refine TO.step rfl (OT.loadM tab 1 Sl.v hsr rfl rfl rfl rfl rfl rfl ?_)
            repeat (first | refine TC.seq ?_ | refine TC.block ?_ | refine TC.region ?_ | refine TO.pureP tab rfl rfl ?_ | refine TO.nil ?_ | refine thenQ_n ?_ | refine blockQ_n ?_ | refine thenQ_r ?_ | refine blockQ_r ?_ | refine thenQ_x ?_ | refine blockQ_hit ?_ | refine blockQ_miss rfl ?_ | refine TC.skip ?_ | refine TC.exit ?_ | refine TC.ret ?_ | refine TC.cond_t rfl ?_ | refine TC.cond_f rfl ?_)
            refine TO.step rfl (OT.lit tab rfl rfl rfl rfl (fun bl => ?_))
            refine TO.step rfl (OT.append1 tab rInt 3 (hd' := hd3) (a := hd3) hrr hro rfl rfl rfl rfl rfl rfl rfl rfl (by simp only [rInt]; omega) (fun t' m8 hm8 ht' ho' => ?_))
            refine TO.step rfl (OT.indexP (sz := 1) tab hd4.toNat rfl rfl rfl rfl rfl (by omega) rfl (by omega) ?_)
            refine TO.step rfl (OT.storeM tab 1 Sl.v t' rfl rfl rfl rfl rfl rfl rfl (by omega) ?_)
            refine TO.perm (((toks_in2 (size := 1) (s := t') L (show hd4.toNat < ss.length by omega)).cons _).cons _ |>.cons _) ?_
            repeat (first | refine TC.seq ?_ | refine TC.block ?_ | refine TC.region ?_ | refine TO.pureP tab rfl rfl ?_ | refine TO.nil ?_ | refine thenQ_n ?_ | refine blockQ_n ?_ | refine thenQ_r ?_ | refine blockQ_r ?_ | refine thenQ_x ?_ | refine blockQ_hit ?_ | refine blockQ_miss rfl ?_ | refine TC.skip ?_ | refine TC.exit ?_ | refine TC.ret ?_ | refine TC.cond_t rfl ?_ | refine TC.cond_f rfl ?_)
            refine TO.step rfl (OT.arith (r' := ((j + 1 : Nat) : Int)) rfl rfl rfl rfl rfl rfl rfl (by omega) ?_)
            repeat (first | refine TC.seq ?_ | refine TC.block ?_ | refine TC.region ?_ | refine TO.pureP tab rfl rfl ?_ | refine TO.nil ?_ | refine thenQ_n ?_ | refine blockQ_n ?_ | refine thenQ_r ?_ | refine blockQ_r ?_ | refine thenQ_x ?_ | refine blockQ_hit ?_ | refine blockQ_miss rfl ?_ | refine TC.skip ?_ | refine TC.exit ?_ | refine TC.ret ?_ | refine TC.cond_t rfl ?_ | refine TC.cond_f rfl ?_)
            refine ⟨⟨j + 1, ws3, ss.set hd4.toNat t', ⟨pushAt sb.w hd3.toNat hd4, pushAt sb.a hd4.toNat hd3⟩, m8⟩, (by repeat (first | exact trivial | refine And.intro rfl ?_)), (by repeat (first | exact trivial | refine And.intro rfl ?_)), rfl, rfl, List.Sublist.refl _, ⟨by simp only; omega, Mem.le_trans hm7 hm8, hj1.symm, ⟨_, hE2⟩, hwk, hwm, ?_⟩, by simp only; omega⟩
            exact All2.set _ (hrows.mono hm8) ⟨ho', ht'⟩
          · have hmf : mhas es hd4 = true := by simpa using hm
            have hnin : hd4 ∈ es.map (·.1) := by rw [mhas_keys] at hmf; simpa using hmf
            rw [if_pos (by rw [hrk]; exact hnin)] at hstep
            rw [hstep] at hj1 hE2
            repeat (first | refine TC.seq ?_ | refine TC.block ?_ | refine TC.region ?_ | refine TO.pureP tab rfl rfl ?_ | refine TO.nil ?_ | refine thenQ_n ?_ | refine blockQ_n ?_ | refine thenQ_r ?_ | refine blockQ_r ?_ | refine thenQ_x ?_ | refine blockQ_hit ?_ | refine blockQ_miss rfl ?_ | refine TC.skip ?_ | refine TC.exit ?_ | refine TC.ret ?_ | refine TC.cond_t rfl ?_ | refine TC.cond_f rfl ?_)
            refine TO.step rfl (OT.arith (r' := ((j + 1 : Nat) : Int)) rfl rfl rfl rfl rfl rfl rfl (by omega) ?_)
            repeat (first | refine TC.seq ?_ | refine TC.block ?_ | refine TC.region ?_ | refine TO.pureP tab rfl rfl ?_ | refine TO.nil ?_ | refine thenQ_n ?_ | refine blockQ_n ?_ | refine thenQ_r ?_ | refine blockQ_r ?_ | refine thenQ_x ?_ | refine blockQ_hit ?_ | refine blockQ_miss rfl ?_ | refine TC.skip ?_ | refine TC.exit ?_ | refine TC.ret ?_ | refine TC.cond_t rfl ?_ | refine TC.cond_f rfl ?_)
            exact ⟨⟨j + 1, ws, ss, sb, m7⟩, (by repeat (first | exact trivial | refine And.intro rfl ?_)), (by repeat (first | exact trivial | refine And.intro rfl ?_)), rfl, rfl, List.Sublist.refl _, ⟨by simp only; omega, hm7, hj1.symm, ⟨_, hE2⟩, hws, hmok, hrows⟩, by simp only; omega⟩
      · repeat (first | refine TC.seq ?_ | refine TC.block ?_ | refine TC.region ?_ | refine TO.pureP tab rfl rfl ?_ | refine TO.nil ?_ | refine thenQ_n ?_ | refine blockQ_n ?_ | refine thenQ_r ?_ | refine blockQ_r ?_ | refine thenQ_x ?_ | refine blockQ_hit ?_ | refine blockQ_miss rfl ?_ | refine TC.skip ?_ | refine TC.exit ?_ | refine TC.ret ?_ | refine TC.cond_t rfl ?_ | refine TC.cond_f rfl ?_)
        refine TO.step rfl (OT.arith (r' := ((k + 1 : Nat) : Int)) rfl rfl rfl rfl rfl rfl rfl (by omega) ?_)
        repeat (first | refine TC.seq ?_ | refine TC.block ?_ | refine TC.region ?_ | refine TO.pureP tab rfl rfl ?_ | refine TO.nil ?_ | refine thenQ_n ?_ | refine blockQ_n ?_ | refine thenQ_r ?_ | refine blockQ_r ?_ | refine thenQ_x ?_ | refine blockQ_hit ?_ | refine blockQ_miss rfl ?_ | refine TC.skip ?_ | refine TC.exit ?_ | refine TC.ret ?_ | refine TC.cond_t rfl ?_ | refine TC.cond_f rfl ?_)
        rw [List.take_of_length_le (by omega)] at hsb
        exact ⟨⟨k + 1, ws, ss, sb, m7⟩, (by repeat (first | exact trivial | refine And.intro rfl ?_)), (by repeat (first | exact trivial | refine And.intro rfl ?_)), rfl, rfl, List.Sublist.refl _, ⟨by simp only; omega, Mem.le_trans hm6 hm7, by rw [hsb]; exact hsuc.symm, hws, hmok, hrows⟩, by simp only; omega⟩
    · have hkn : k = p.n := by omega
      subst hkn
      repeat (first | refine TC.seq ?_ | refine TC.block ?_ | refine TC.region ?_ | refine TO.pureP tab rfl rfl ?_ | refine TO.nil ?_ | refine thenQ_n ?_ | refine blockQ_n ?_ | refine thenQ_r ?_ | refine blockQ_r ?_ | refine thenQ_x ?_ | refine blockQ_hit ?_ | refine blockQ_miss rfl ?_ | refine TC.skip ?_ | refine TC.exit ?_ | refine TC.ret ?_ | refine TC.cond_t rfl ?_ | refine TC.cond_f rfl ?_)
      refine TO.perm (List.Perm.swap _ _ _) ?_
      refine TO.freeze fun m7 hm7 hAa => ?_
      have hask : SlRep rInts m7 ⟨some ⟨ba, 0, none⟩, ng, ng⟩ sa.a := (hrows.mono hm7).whole hAa (by rw [hAI.la]) (by omega)
      refine TO.perm ((List.perm_middle.symm).cons _) ?_
      have hop : OP ng (ws.map mkeys) sa.a := by
        refine ⟨by rw [hws, hAI.lw], hAI.la, by rw [hws]; exact hAI.okw, hAI.oka, fun x y hx hy => ?_⟩
        rw [hws, hAI.ask _ _ hy, hAI.mem _ _ hx]
      have hrow : ∀ i : Nat, i < ng → row (membersM grp ng p.n) i = cls grp p.n i := membersM_row hlv p.n (Nat.le_refl _)
      have hmine : ∀ l ∈ membersM grp ng p.n, ∃ i : Nat, i < ng ∧ l = cls grp p.n i := fun l hl => by
        obtain ⟨i, hi⟩ := List.getElem?_of_mem hl
        have hin := (List.getElem?_eq_some_iff.1 hi).1
        rw [membersM_len] at hin
        refine ⟨i, hin, ?_⟩
        rw [← hrow i hin, Go.Sep.row, hi]; rfl
      have hne : ∀ l ∈ membersM grp ng p.n, l ≠ [] := fun l hl e => by
        obtain ⟨i, hi, rfl⟩ := hmine l hl
        obtain ⟨v, hv1, hv2⟩ := hG.sur i hi
        have : (v : Int) ∈ cls grp p.n i := cls_mem.2 ⟨v, hv1, hv2, rfl⟩
        rw [e] at this; cases this
      have hltm : ∀ l ∈ membersM grp ng p.n, ∀ x ∈ l, 0 ≤ x ∧ x < 4096 := fun l hl x hx => by
        obtain ⟨i, hi, rfl⟩ := hmine l hl
        obtain ⟨v, hv1, hv2, rfl⟩ := cls_mem.1 hx
        omega
      refine TO.step rfl (OT.call rfl rfl rfl rfl rfl rfl goes23 ((inOrder_own m7 (.cells b 0 (hierC hh) :: (toks ss 1 ++ L)) ⟨some ⟨bm, 0, none⟩, ng, ng⟩ ⟨some ⟨ba, 0, none⟩, ng, ng⟩ (membersM grp ng p.n) sa.a ng bw ws ((hmem.mono hm6).mono hm7) hask (membersM_len _ _ _) (by omega) hop hne hltm).x ?_));
      rintro _ m8 _ ⟨hm8, rfl, t, done, rfl, hst8, hout⟩
      repeat (first | refine TC.seq ?_ | refine TC.block ?_ | refine TC.region ?_ | refine TO.pureP tab rfl rfl ?_ | refine TO.nil ?_ | refine thenQ_n ?_ | refine blockQ_n ?_ | refine thenQ_r ?_ | refine blockQ_r ?_ | refine thenQ_x ?_ | refine blockQ_hit ?_ | refine blockQ_miss rfl ?_ | refine TC.skip ?_ | refine TC.exit ?_ | refine TC.ret ?_ | refine TC.cond_t rfl ?_ | refine TC.cond_f rfl ?_)
      have hle : m ≤ m8 := Mem.le_trans hm1 (Mem.le_trans hm2 (Mem.le_trans hm3 (Mem.le_trans hm35 (Mem.le_trans hm6 (Mem.le_trans hm7 hm8)))))
      refine retQ_ret rfl ?_ ⟨hle, rfl, t, _, by rw [hs0], hst8, ?_⟩
      · exact (List.sublist_append_right _ L).cons _
      · rw [GroupsOut, if_neg (by rw [hs0]; decide), hgraph, ← hpn]
        refine ⟨grp, ng, done, hG, ?_, rfl⟩
        rw [← hsa, ← hws]; exact hout
end Go.Sep
