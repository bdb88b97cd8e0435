/-
  Walks of layer 13: Groups. The tree of region 4 is written by program (every order in which the call and the three makes may come up).
-/
import Derived.Test.YtnbimbgapgginaaB6
set_option linter.unusedVariables false
set_option linter.unusedSimpArgs false
namespace Go.Sep
open Go.Proofs
attribute [local irreducible] TC TO OT TCallX TCall DO DOt thenQ blockQ retQ At

structure G0 where
  m : Mem
  p : TP
  Lx : List Item

structure GA where
  k : Nat
  ws : List MapH
  ss : List Sl
  st : WA
  m : Mem

def mok : MapH → Prop
  | none => True
  | some (_, es, _) => ∀ e ∈ es, e.2.1 = Value.agg ⟨[]⟩
theorem mok_get {es : Ents Int} (h : ∀ e ∈ es, e.2.1 = Value.agg ⟨[]⟩) (x : Int) : (mget es x).getD (.agg ⟨[]⟩) = .agg ⟨[]⟩ := by
  unfold mget
  cases hf : es.find? fun e => decide (e.1 = x) with
  | none => rfl
  | some e => exact h e (List.mem_of_find?_eq_some hf)
theorem mok_set {es : Ents Int} (h : ∀ e ∈ es, e.2.1 = Value.agg ⟨[]⟩) (x : Int) (c : Nat) (hn : mhas es x = false) : ∀ e ∈ mset es x (.agg ⟨[]⟩) c, e.2.1 = Value.agg ⟨[]⟩ := by
  intro e he
  unfold mset at he
  simp only [hn, Bool.false_eq_true, if_false, List.mem_append, List.mem_singleton] at he
  rcases he with he | he
  · exact h e he
  · rw [he]

theorem perm_groups {α : Type} {a w b : α} {T M L : List α} : (T ++ (M ++ (a :: w :: b :: L))).Perm (w :: a :: b :: (M ++ (T ++ L))) := by
  have h1 : (T ++ (M ++ ([a, w, b] ++ L))).Perm ([a, w, b] ++ (M ++ (T ++ L))) := by
    rw [← List.append_assoc, ← List.append_assoc M T L]
    refine List.Perm.trans ?_ (List.Perm.append_left _ (List.Perm.append_right _ List.perm_append_comm))
    exact List.perm_append_comm_assoc _ _ _
  exact h1.trans (List.Perm.swap _ _ _)

theorem set3 {a b c : Item} {ws : List MapH} {L : List Item} {k bm c0 : Nat} {es : Ents Int} (h : k < ws.length) : (a :: b :: c :: (mtoks ws ++ L)).set (3 + k) (.obj bm (mapO kInt es c0)) = a :: b :: c :: (mtoks (ws.set k (some (bm, es, c0))) ++ L) := by
  rw [show 3 + k = k + 1 + 1 + 1 by omega]
  simp only [List.set_cons_succ]
  rw [List.set_append_left _ _ (by simpa [mtoks] using h)]
  congr 4
  simp [mtoks, List.map_set, mitem]
theorem at3 {a b c : Item} {ws : List MapH} {L : List Item} {k : Nat} {x : MapH} (h : ws[k]? = some x) : (a :: b :: c :: (mtoks ws ++ L))[3 + k]? = some (mitem x) := by
  rw [show 3 + k = k + 1 + 1 + 1 by omega]; exact mtoks_at L h
theorem toks_out2 {M : List Item} {ss : List Sl} {size k : Nat} {s : Sl} (L : List Item) (h : ss[k]? = some s) : (M ++ (toks ss size ++ L)).Perm (tok s size :: (M ++ (toks (ss.eraseIdx k) size ++ L))) :=
  (List.Perm.append_left _ (toks_out L h)).trans List.perm_middle
theorem toks_in2 {M : List Item} {ss : List Sl} {size k : Nat} {s : Sl} (L : List Item) (h : k < ss.length) : (tok s size :: (M ++ (toks (ss.eraseIdx k) size ++ L))).Perm (M ++ (toks (ss.set k s) size ++ L)) :=
  List.perm_middle.symm.trans (List.Perm.append_left _ (toks_in L h))

/-- what Groups answers for a sound graph -/
def GroupsRes (g : List (List Int)) (n : Nat) (gs : List (List Int)) : Prop :=
  ∃ (grp : List Int) (ng : Nat) (done : List Int), GroupsOk g n grp ng ∧ OrdOut ng (leastAt (membersM grp ng n)) (askAll g grp ng n).w done ∧ gs = done.map fun i => row (membersM grp ng n) i.toNat
def GroupsOut (h : Hier) (gs : List (List Int)) : Prop := if soundM h ≠ 0 then gs = [] else GroupsRes (graphM h) h.funcs.toNat gs

set_option maxHeartbeats 4000000 in
theorem groups_own (m : Mem) (L : List Item) (hh : HHier) (h : Hier) (hr : HierRep m hh h) :
    TCall Try.prog 21 ⟨[hierV hh]⟩ m L (Made m L fun r m' => ∃ (t : Sl) (gs : List (List Int)), r = .tuple ⟨[t.v, .int .i64 (soundM h)]⟩ ∧ SlRep rInts m' t gs ∧ GroupsOut h gs) := by
  have hfu := hr.funcs
  unfold TCall
  refine TCallX.enter Try.func21 rfl 172 rfl ?_
  repeat (first|refine q1 ?_|refine q3 ?_)
  refine TO.step rfl (OT.box rfl rfl rfl rfl rfl (fun b => ?_))
  repeat (first|(first|refine q1 ?_|refine q3 ?_|refine q4 tab rfl rfl ?_|refine q5 ?_|refine q6 ?_)|(refine qs rfl (qz tab 0 rfl rfl rfl rfl rfl rfl ?_)))
  refine TO.step rfl (OT.call rfl rfl rfl rfl rfl rfl goes27 ((sound_own m _ hh h hr).x ?_));
  rintro _ _ _ ⟨rfl, rfl, rfl⟩
  repeat (first|refine q1 ?_|refine q3 ?_|refine q4 tab rfl rfl ?_|refine q5 ?_|refine q6 ?_)
  refine TC.condN rfl (fun hb => ?_) (fun hb => ?_)
  · repeat (first|refine q1 ?_|refine q3 ?_|refine q4 tab rfl rfl ?_|refine q5 ?_|refine q6 ?_|refine q8 ?_|refine q15 ?_)
    refine retQ_ret rfl (by repeat (first|exact List.Sublist.refl _|refine List.Sublist.cons _ ?_)) ⟨Mem.le_refl _, rfl, ⟨none, 0, 0⟩, [], rfl, SlRep.nil _ _, ?_⟩
    rw [GroupsOut, if_pos hb]
  have hs0 : soundM h = 0 := by simpa using hb
  obtain ⟨hsm, hg⟩ := soundM_ok.1 hs0
  have hn := hg.funcs
  have hn2 := hsm.1
  have hfu' : hh.funcs = (h.funcs.toNat : Int) := by omega
  repeat (first|refine q1 ?_|refine q6 ?_|refine q13 ?_)
  refine TC.cutT (ι := G0) [1] rfl (fun x => [(5, .pointer (some ⟨x.p.bt, 0, none⟩))]) (fun x => x.m) (fun x => x.Lx) (fun x => m ≤ x.m ∧ SlRep rInts x.m x.p.tg (graphM h) ∧ x.p.n = h.funcs.toNat ∧
    x.Lx.Perm ((.cells b 0 (hierC hh) :: L) ++ [.cells x.p.bt 0 (tcells x.p ⟨none, 0, 0⟩ (st0 x.p.n)), .cells x.p.bi 0 ((List.replicate x.p.n 0).map (Value.int .i64)), .cells x.p.bl 0 ((List.replicate x.p.n 0).map (Value.int .i64)), .cells x.p.bg 0 ((List.replicate x.p.n 0).map (Value.int .i64))])) ?_ ?_
  · refine TC.draw0 [] mixed 14 rfl ?_
    (refine DO.loadL (k := 0) tab 0 0 (by repeat (first|exact Calm.ret|refine Calm.then ?_)) (by kernel_rfl) (by kernel_rfl) rfl rfl rfl rfl rfl rfl rfl rfl ?_)
    refine DO.pure tab (by repeat (first|exact Calm.ret|refine Calm.then ?_)) (by kernel_rfl) [2] (by kernel_rfl) rfl ?_
    (refine DO.loadL tab 3 0 (by repeat (first|exact Calm.ret|refine Calm.then ?_)) (by kernel_rfl) (by kernel_rfl) rfl rfl rfl rfl rfl rfl rfl rfl ?_)
    refine DO.pure tab (by repeat (first|exact Calm.ret|refine Calm.then ?_)) (by kernel_rfl) [5] (by kernel_rfl) rfl ?_
    (refine DO.loadL tab 6 0 (by repeat (first|exact Calm.ret|refine Calm.then ?_)) (by kernel_rfl) (by kernel_rfl) rfl rfl rfl rfl rfl rfl rfl rfl ?_)
    refine DO.pure tab (by repeat (first|exact Calm.ret|refine Calm.then ?_)) (by kernel_rfl) [8] (by kernel_rfl) rfl ?_
    (refine DO.loadL tab 9 0 (by repeat (first|exact Calm.ret|refine Calm.then ?_)) (by kernel_rfl) (by kernel_rfl) rfl rfl rfl rfl rfl rfl rfl rfl ?_)
    refine DO.fork 1 [4, 7, 10] (by kernel_rfl) ⟨⟨_, rfl, rfl, rfl, ?_⟩, ⟨_, rfl, rfl, rfl, ?_⟩, ⟨_, rfl, rfl, rfl, ?_⟩, ⟨_, rfl, rfl, rfl, ?_⟩, trivial⟩
    · refine OT.call rfl rfl rfl rfl rfl rfl goes28 ((graph_own m _ hh h hr hsm hg).x ?_); rintro _ m1 _ ⟨hm1, rfl, tg, rfl, htg⟩; refine ⟨hm1, _, List.Perm.refl _, ?_⟩
      refine DO.fork 4 [7, 10] (by kernel_rfl) ⟨⟨_, rfl, rfl, rfl, ?_⟩, ⟨_, rfl, rfl, rfl, ?_⟩, ⟨_, rfl, rfl, rfl, ?_⟩, trivial⟩
      · refine OT.makeM tab (Value.int .i64) 0 h.funcs.toNat hfu' rfl rfl rfl rfl rfl rfl rfl rfl (show h.funcs.toNat * 8 ≤ 281474976710656 by omega) rfl (fun bi => ?_); refine ⟨Mem.le_refl _, _, perm_mid, ?_⟩
        refine DO.fork 7 [10] (by kernel_rfl) ⟨⟨_, rfl, rfl, rfl, ?_⟩, ⟨_, rfl, rfl, rfl, ?_⟩, trivial⟩
        · refine OT.makeM tab (Value.int .i64) 0 h.funcs.toNat hfu' rfl rfl rfl rfl rfl rfl rfl rfl (show h.funcs.toNat * 8 ≤ 281474976710656 by omega) rfl (fun bl => ?_); refine ⟨Mem.le_refl _, _, perm_mid, ?_⟩
          refine DO.fork 10 [] (by kernel_rfl) ⟨⟨_, rfl, rfl, rfl, ?_⟩, trivial⟩
          · refine OT.makeM tab (Value.int .i64) 0 h.funcs.toNat hfu' rfl rfl rfl rfl rfl rfl rfl rfl (show h.funcs.toNat * 8 ≤ 281474976710656 by omega) rfl (fun bg => ?_); refine ⟨Mem.le_refl _, _, perm_mid, ?_⟩
            refine DO.pure tab (by repeat (first|exact Calm.ret|refine Calm.then ?_)) (by kernel_rfl) [11] (by kernel_rfl) rfl ?_
            refine DO.run 12 rfl rfl (by kernel_rfl) rfl ?_
            refine OT.box rfl rfl rfl rfl rfl (fun bt => ?_)
            refine ⟨Mem.le_refl _, _, perm_mid, ?_⟩
            refine DO.pure tab (by repeat (first|exact Calm.ret|refine Calm.then ?_)) (by kernel_rfl) [13] (by kernel_rfl) rfl ?_
            refine DO.nil (by kernel_rfl) ?_
            refine thenQ_n ?_
            exact ⟨⟨m1, ⟨tg, h.funcs.toNat, bt, bi, bl, bg⟩, _⟩, (by repeat (first|exact trivial|refine And.intro rfl ?_)), (by repeat (first|exact trivial|refine And.intro rfl ?_)), rfl, rfl, List.Sublist.refl _, hm1, htg, rfl, by first | exact List.Perm.append_left _ ((List.Perm.refl _).cons _) | exact List.Perm.append_left _ (pf1.cons _) | exact List.Perm.append_left _ ((pf1.cons _).cons _) | exact List.Perm.append_left _ (pf2.cons _) | exact List.Perm.append_left _ ((pf2.trans (pf1.cons _)).cons _) | exact List.Perm.append_left _ ((pf1.trans (pf1.cons _)).cons _)⟩
        · refine OT.makeM tab (Value.int .i64) 0 h.funcs.toNat hfu' rfl rfl rfl rfl rfl rfl rfl rfl (show h.funcs.toNat * 8 ≤ 281474976710656 by omega) rfl (fun bg => ?_); refine ⟨Mem.le_refl _, _, perm_mid, ?_⟩
          refine DO.fork 7 [] (by kernel_rfl) ⟨⟨_, rfl, rfl, rfl, ?_⟩, trivial⟩
          · refine OT.makeM tab (Value.int .i64) 0 h.funcs.toNat hfu' rfl rfl rfl rfl rfl rfl rfl rfl (show h.funcs.toNat * 8 ≤ 281474976710656 by omega) rfl (fun bl => ?_); refine ⟨Mem.le_refl _, _, perm_mid, ?_⟩
            refine DO.pure tab (by repeat (first|exact Calm.ret|refine Calm.then ?_)) (by kernel_rfl) [11] (by kernel_rfl) rfl ?_
            refine DO.run 12 rfl rfl (by kernel_rfl) rfl ?_
            refine OT.box rfl rfl rfl rfl rfl (fun bt => ?_)
            refine ⟨Mem.le_refl _, _, perm_mid, ?_⟩
            refine DO.pure tab (by repeat (first|exact Calm.ret|refine Calm.then ?_)) (by kernel_rfl) [13] (by kernel_rfl) rfl ?_
            refine DO.nil (by kernel_rfl) ?_
            refine thenQ_n ?_
            exact ⟨⟨m1, ⟨tg, h.funcs.toNat, bt, bi, bl, bg⟩, _⟩, (by repeat (first|exact trivial|refine And.intro rfl ?_)), (by repeat (first|exact trivial|refine And.intro rfl ?_)), rfl, rfl, List.Sublist.refl _, hm1, htg, rfl, by first | exact List.Perm.append_left _ ((List.Perm.refl _).cons _) | exact List.Perm.append_left _ (pf1.cons _) | exact List.Perm.append_left _ ((pf1.cons _).cons _) | exact List.Perm.append_left _ (pf2.cons _) | exact List.Perm.append_left _ ((pf2.trans (pf1.cons _)).cons _) | exact List.Perm.append_left _ ((pf1.trans (pf1.cons _)).cons _)⟩
      · refine OT.makeM tab (Value.int .i64) 0 h.funcs.toNat hfu' rfl rfl rfl rfl rfl rfl rfl rfl (show h.funcs.toNat * 8 ≤ 281474976710656 by omega) rfl (fun bl => ?_); refine ⟨Mem.le_refl _, _, perm_mid, ?_⟩
        refine DO.fork 4 [10] (by kernel_rfl) ⟨⟨_, rfl, rfl, rfl, ?_⟩, ⟨_, rfl, rfl, rfl, ?_⟩, trivial⟩
        · refine OT.makeM tab (Value.int .i64) 0 h.funcs.toNat hfu' rfl rfl rfl rfl rfl rfl rfl rfl (show h.funcs.toNat * 8 ≤ 281474976710656 by omega) rfl (fun bi => ?_); refine ⟨Mem.le_refl _, _, perm_mid, ?_⟩
          refine DO.fork 10 [] (by kernel_rfl) ⟨⟨_, rfl, rfl, rfl, ?_⟩, trivial⟩
          · refine OT.makeM tab (Value.int .i64) 0 h.funcs.toNat hfu' rfl rfl rfl rfl rfl rfl rfl rfl (show h.funcs.toNat * 8 ≤ 281474976710656 by omega) rfl (fun bg => ?_); refine ⟨Mem.le_refl _, _, perm_mid, ?_⟩
            refine DO.pure tab (by repeat (first|exact Calm.ret|refine Calm.then ?_)) (by kernel_rfl) [11] (by kernel_rfl) rfl ?_
            refine DO.run 12 rfl rfl (by kernel_rfl) rfl ?_
            refine OT.box rfl rfl rfl rfl rfl (fun bt => ?_)
            refine ⟨Mem.le_refl _, _, perm_mid, ?_⟩
            refine DO.pure tab (by repeat (first|exact Calm.ret|refine Calm.then ?_)) (by kernel_rfl) [13] (by kernel_rfl) rfl ?_
            refine DO.nil (by kernel_rfl) ?_
            refine thenQ_n ?_
            exact ⟨⟨m1, ⟨tg, h.funcs.toNat, bt, bi, bl, bg⟩, _⟩, (by repeat (first|exact trivial|refine And.intro rfl ?_)), (by repeat (first|exact trivial|refine And.intro rfl ?_)), rfl, rfl, List.Sublist.refl _, hm1, htg, rfl, by first | exact List.Perm.append_left _ ((List.Perm.refl _).cons _) | exact List.Perm.append_left _ (pf1.cons _) | exact List.Perm.append_left _ ((pf1.cons _).cons _) | exact List.Perm.append_left _ (pf2.cons _) | exact List.Perm.append_left _ ((pf2.trans (pf1.cons _)).cons _) | exact List.Perm.append_left _ ((pf1.trans (pf1.cons _)).cons _)⟩
        · refine OT.makeM tab (Value.int .i64) 0 h.funcs.toNat hfu' rfl rfl rfl rfl rfl rfl rfl rfl (show h.funcs.toNat * 8 ≤ 281474976710656 by omega) rfl (fun bg => ?_); refine ⟨Mem.le_refl _, _, perm_mid, ?_⟩
          refine DO.fork 4 [] (by kernel_rfl) ⟨⟨_, rfl, rfl, rfl, ?_⟩, trivial⟩
          · refine OT.makeM tab (Value.int .i64) 0 h.funcs.toNat hfu' rfl rfl rfl rfl rfl rfl rfl rfl (show h.funcs.toNat * 8 ≤ 281474976710656 by omega) rfl (fun bi => ?_); refine ⟨Mem.le_refl _, _, perm_mid, ?_⟩
            refine DO.pure tab (by repeat (first|exact Calm.ret|refine Calm.then ?_)) (by kernel_rfl) [11] (by kernel_rfl) rfl ?_
            refine DO.run 12 rfl rfl (by kernel_rfl) rfl ?_
            refine OT.box rfl rfl rfl rfl rfl (fun bt => ?_)
            refine ⟨Mem.le_refl _, _, perm_mid, ?_⟩
            refine DO.pure tab (by repeat (first|exact Calm.ret|refine Calm.then ?_)) (by kernel_rfl) [13] (by kernel_rfl) rfl ?_
            refine DO.nil (by kernel_rfl) ?_
            refine thenQ_n ?_
            exact ⟨⟨m1, ⟨tg, h.funcs.toNat, bt, bi, bl, bg⟩, _⟩, (by repeat (first|exact trivial|refine And.intro rfl ?_)), (by repeat (first|exact trivial|refine And.intro rfl ?_)), rfl, rfl, List.Sublist.refl _, hm1, htg, rfl, by first | exact List.Perm.append_left _ ((List.Perm.refl _).cons _) | exact List.Perm.append_left _ (pf1.cons _) | exact List.Perm.append_left _ ((pf1.cons _).cons _) | exact List.Perm.append_left _ (pf2.cons _) | exact List.Perm.append_left _ ((pf2.trans (pf1.cons _)).cons _) | exact List.Perm.append_left _ ((pf1.trans (pf1.cons _)).cons _)⟩
      · refine OT.makeM tab (Value.int .i64) 0 h.funcs.toNat hfu' rfl rfl rfl rfl rfl rfl rfl rfl (show h.funcs.toNat * 8 ≤ 281474976710656 by omega) rfl (fun bg => ?_); refine ⟨Mem.le_refl _, _, perm_mid, ?_⟩
        refine DO.fork 4 [7] (by kernel_rfl) ⟨⟨_, rfl, rfl, rfl, ?_⟩, ⟨_, rfl, rfl, rfl, ?_⟩, trivial⟩
        · refine OT.makeM tab (Value.int .i64) 0 h.funcs.toNat hfu' rfl rfl rfl rfl rfl rfl rfl rfl (show h.funcs.toNat * 8 ≤ 281474976710656 by omega) rfl (fun bi => ?_); refine ⟨Mem.le_refl _, _, perm_mid, ?_⟩
          refine DO.fork 7 [] (by kernel_rfl) ⟨⟨_, rfl, rfl, rfl, ?_⟩, trivial⟩
          · refine OT.makeM tab (Value.int .i64) 0 h.funcs.toNat hfu' rfl rfl rfl rfl rfl rfl rfl rfl (show h.funcs.toNat * 8 ≤ 281474976710656 by omega) rfl (fun bl => ?_); refine ⟨Mem.le_refl _, _, perm_mid, ?_⟩
            refine DO.pure tab (by repeat (first|exact Calm.ret|refine Calm.then ?_)) (by kernel_rfl) [11] (by kernel_rfl) rfl ?_
            refine DO.run 12 rfl rfl (by kernel_rfl) rfl ?_
            refine OT.box rfl rfl rfl rfl rfl (fun bt => ?_)
            refine ⟨Mem.le_refl _, _, perm_mid, ?_⟩
            refine DO.pure tab (by repeat (first|exact Calm.ret|refine Calm.then ?_)) (by kernel_rfl) [13] (by kernel_rfl) rfl ?_
            refine DO.nil (by kernel_rfl) ?_
            refine thenQ_n ?_
            exact ⟨⟨m1, ⟨tg, h.funcs.toNat, bt, bi, bl, bg⟩, _⟩, (by repeat (first|exact trivial|refine And.intro rfl ?_)), (by repeat (first|exact trivial|refine And.intro rfl ?_)), rfl, rfl, List.Sublist.refl _, hm1, htg, rfl, by first | exact List.Perm.append_left _ ((List.Perm.refl _).cons _) | exact List.Perm.append_left _ (pf1.cons _) | exact List.Perm.append_left _ ((pf1.cons _).cons _) | exact List.Perm.append_left _ (pf2.cons _) | exact List.Perm.append_left _ ((pf2.trans (pf1.cons _)).cons _) | exact List.Perm.append_left _ ((pf1.trans (pf1.cons _)).cons _)⟩
        · refine OT.makeM tab (Value.int .i64) 0 h.funcs.toNat hfu' rfl rfl rfl rfl rfl rfl rfl rfl (show h.funcs.toNat * 8 ≤ 281474976710656 by omega) rfl (fun bl => ?_); refine ⟨Mem.le_refl _, _, perm_mid, ?_⟩
          refine DO.fork 4 [] (by kernel_rfl) ⟨⟨_, rfl, rfl, rfl, ?_⟩, trivial⟩
          · refine OT.makeM tab (Value.int .i64) 0 h.funcs.toNat hfu' rfl rfl rfl rfl rfl rfl rfl rfl (show h.funcs.toNat * 8 ≤ 281474976710656 by omega) rfl (fun bi => ?_); refine ⟨Mem.le_refl _, _, perm_mid, ?_⟩
            refine DO.pure tab (by repeat (first|exact Calm.ret|refine Calm.then ?_)) (by kernel_rfl) [11] (by kernel_rfl) rfl ?_
            refine DO.run 12 rfl rfl (by kernel_rfl) rfl ?_
            refine OT.box rfl rfl rfl rfl rfl (fun bt => ?_)
            refine ⟨Mem.le_refl _, _, perm_mid, ?_⟩
            refine DO.pure tab (by repeat (first|exact Calm.ret|refine Calm.then ?_)) (by kernel_rfl) [13] (by kernel_rfl) rfl ?_
            refine DO.nil (by kernel_rfl) ?_
            refine thenQ_n ?_
            exact ⟨⟨m1, ⟨tg, h.funcs.toNat, bt, bi, bl, bg⟩, _⟩, (by repeat (first|exact trivial|refine And.intro rfl ?_)), (by repeat (first|exact trivial|refine And.intro rfl ?_)), rfl, rfl, List.Sublist.refl _, hm1, htg, rfl, by first | exact List.Perm.append_left _ ((List.Perm.refl _).cons _) | exact List.Perm.append_left _ (pf1.cons _) | exact List.Perm.append_left _ ((pf1.cons _).cons _) | exact List.Perm.append_left _ (pf2.cons _) | exact List.Perm.append_left _ ((pf2.trans (pf1.cons _)).cons _) | exact List.Perm.append_left _ ((pf1.trans (pf1.cons _)).cons _)⟩
    · refine OT.makeM tab (Value.int .i64) 0 h.funcs.toNat hfu' rfl rfl rfl rfl rfl rfl rfl rfl (show h.funcs.toNat * 8 ≤ 281474976710656 by omega) rfl (fun bi => ?_); refine ⟨Mem.le_refl _, _, perm_mid, ?_⟩
      refine DO.fork 1 [7, 10] (by kernel_rfl) ⟨⟨_, rfl, rfl, rfl, ?_⟩, ⟨_, rfl, rfl, rfl, ?_⟩, ⟨_, rfl, rfl, rfl, ?_⟩, trivial⟩
      · refine OT.call rfl rfl rfl rfl rfl rfl goes28 ((graph_own m _ hh h hr hsm hg).x ?_); rintro _ m1 _ ⟨hm1, rfl, tg, rfl, htg⟩; refine ⟨hm1, _, List.Perm.refl _, ?_⟩
        refine DO.fork 7 [10] (by kernel_rfl) ⟨⟨_, rfl, rfl, rfl, ?_⟩, ⟨_, rfl, rfl, rfl, ?_⟩, trivial⟩
        · refine OT.makeM tab (Value.int .i64) 0 h.funcs.toNat hfu' rfl rfl rfl rfl rfl rfl rfl rfl (show h.funcs.toNat * 8 ≤ 281474976710656 by omega) rfl (fun bl => ?_); refine ⟨Mem.le_refl _, _, perm_mid, ?_⟩
          refine DO.fork 10 [] (by kernel_rfl) ⟨⟨_, rfl, rfl, rfl, ?_⟩, trivial⟩
          · refine OT.makeM tab (Value.int .i64) 0 h.funcs.toNat hfu' rfl rfl rfl rfl rfl rfl rfl rfl (show h.funcs.toNat * 8 ≤ 281474976710656 by omega) rfl (fun bg => ?_); refine ⟨Mem.le_refl _, _, perm_mid, ?_⟩
            refine DO.pure tab (by repeat (first|exact Calm.ret|refine Calm.then ?_)) (by kernel_rfl) [11] (by kernel_rfl) rfl ?_
            refine DO.run 12 rfl rfl (by kernel_rfl) rfl ?_
            refine OT.box rfl rfl rfl rfl rfl (fun bt => ?_)
            refine ⟨Mem.le_refl _, _, perm_mid, ?_⟩
            refine DO.pure tab (by repeat (first|exact Calm.ret|refine Calm.then ?_)) (by kernel_rfl) [13] (by kernel_rfl) rfl ?_
            refine DO.nil (by kernel_rfl) ?_
            refine thenQ_n ?_
            exact ⟨⟨m1, ⟨tg, h.funcs.toNat, bt, bi, bl, bg⟩, _⟩, (by repeat (first|exact trivial|refine And.intro rfl ?_)), (by repeat (first|exact trivial|refine And.intro rfl ?_)), rfl, rfl, List.Sublist.refl _, hm1, htg, rfl, by first | exact List.Perm.append_left _ ((List.Perm.refl _).cons _) | exact List.Perm.append_left _ (pf1.cons _) | exact List.Perm.append_left _ ((pf1.cons _).cons _) | exact List.Perm.append_left _ (pf2.cons _) | exact List.Perm.append_left _ ((pf2.trans (pf1.cons _)).cons _) | exact List.Perm.append_left _ ((pf1.trans (pf1.cons _)).cons _)⟩
        · refine OT.makeM tab (Value.int .i64) 0 h.funcs.toNat hfu' rfl rfl rfl rfl rfl rfl rfl rfl (show h.funcs.toNat * 8 ≤ 281474976710656 by omega) rfl (fun bg => ?_); refine ⟨Mem.le_refl _, _, perm_mid, ?_⟩
          refine DO.fork 7 [] (by kernel_rfl) ⟨⟨_, rfl, rfl, rfl, ?_⟩, trivial⟩
          · refine OT.makeM tab (Value.int .i64) 0 h.funcs.toNat hfu' rfl rfl rfl rfl rfl rfl rfl rfl (show h.funcs.toNat * 8 ≤ 281474976710656 by omega) rfl (fun bl => ?_); refine ⟨Mem.le_refl _, _, perm_mid, ?_⟩
            refine DO.pure tab (by repeat (first|exact Calm.ret|refine Calm.then ?_)) (by kernel_rfl) [11] (by kernel_rfl) rfl ?_
            refine DO.run 12 rfl rfl (by kernel_rfl) rfl ?_
            refine OT.box rfl rfl rfl rfl rfl (fun bt => ?_)
            refine ⟨Mem.le_refl _, _, perm_mid, ?_⟩
            refine DO.pure tab (by repeat (first|exact Calm.ret|refine Calm.then ?_)) (by kernel_rfl) [13] (by kernel_rfl) rfl ?_
            refine DO.nil (by kernel_rfl) ?_
            refine thenQ_n ?_
            exact ⟨⟨m1, ⟨tg, h.funcs.toNat, bt, bi, bl, bg⟩, _⟩, (by repeat (first|exact trivial|refine And.intro rfl ?_)), (by repeat (first|exact trivial|refine And.intro rfl ?_)), rfl, rfl, List.Sublist.refl _, hm1, htg, rfl, by first | exact List.Perm.append_left _ ((List.Perm.refl _).cons _) | exact List.Perm.append_left _ (pf1.cons _) | exact List.Perm.append_left _ ((pf1.cons _).cons _) | exact List.Perm.append_left _ (pf2.cons _) | exact List.Perm.append_left _ ((pf2.trans (pf1.cons _)).cons _) | exact List.Perm.append_left _ ((pf1.trans (pf1.cons _)).cons _)⟩
      · refine OT.makeM tab (Value.int .i64) 0 h.funcs.toNat hfu' rfl rfl rfl rfl rfl rfl rfl rfl (show h.funcs.toNat * 8 ≤ 281474976710656 by omega) rfl (fun bl => ?_); refine ⟨Mem.le_refl _, _, perm_mid, ?_⟩
        refine DO.fork 1 [10] (by kernel_rfl) ⟨⟨_, rfl, rfl, rfl, ?_⟩, ⟨_, rfl, rfl, rfl, ?_⟩, trivial⟩
        · refine OT.call rfl rfl rfl rfl rfl rfl goes28 ((graph_own m _ hh h hr hsm hg).x ?_); rintro _ m1 _ ⟨hm1, rfl, tg, rfl, htg⟩; refine ⟨hm1, _, List.Perm.refl _, ?_⟩
          refine DO.fork 10 [] (by kernel_rfl) ⟨⟨_, rfl, rfl, rfl, ?_⟩, trivial⟩
          · refine OT.makeM tab (Value.int .i64) 0 h.funcs.toNat hfu' rfl rfl rfl rfl rfl rfl rfl rfl (show h.funcs.toNat * 8 ≤ 281474976710656 by omega) rfl (fun bg => ?_); refine ⟨Mem.le_refl _, _, perm_mid, ?_⟩
            refine DO.pure tab (by repeat (first|exact Calm.ret|refine Calm.then ?_)) (by kernel_rfl) [11] (by kernel_rfl) rfl ?_
            refine DO.run 12 rfl rfl (by kernel_rfl) rfl ?_
            refine OT.box rfl rfl rfl rfl rfl (fun bt => ?_)
            refine ⟨Mem.le_refl _, _, perm_mid, ?_⟩
            refine DO.pure tab (by repeat (first|exact Calm.ret|refine Calm.then ?_)) (by kernel_rfl) [13] (by kernel_rfl) rfl ?_
            refine DO.nil (by kernel_rfl) ?_
            refine thenQ_n ?_
            exact ⟨⟨m1, ⟨tg, h.funcs.toNat, bt, bi, bl, bg⟩, _⟩, (by repeat (first|exact trivial|refine And.intro rfl ?_)), (by repeat (first|exact trivial|refine And.intro rfl ?_)), rfl, rfl, List.Sublist.refl _, hm1, htg, rfl, by first | exact List.Perm.append_left _ ((List.Perm.refl _).cons _) | exact List.Perm.append_left _ (pf1.cons _) | exact List.Perm.append_left _ ((pf1.cons _).cons _) | exact List.Perm.append_left _ (pf2.cons _) | exact List.Perm.append_left _ ((pf2.trans (pf1.cons _)).cons _) | exact List.Perm.append_left _ ((pf1.trans (pf1.cons _)).cons _)⟩
        · refine OT.makeM tab (Value.int .i64) 0 h.funcs.toNat hfu' rfl rfl rfl rfl rfl rfl rfl rfl (show h.funcs.toNat * 8 ≤ 281474976710656 by omega) rfl (fun bg => ?_); refine ⟨Mem.le_refl _, _, perm_mid, ?_⟩
          refine DO.fork 1 [] (by kernel_rfl) ⟨⟨_, rfl, rfl, rfl, ?_⟩, trivial⟩
          · refine OT.call rfl rfl rfl rfl rfl rfl goes28 ((graph_own m _ hh h hr hsm hg).x ?_); rintro _ m1 _ ⟨hm1, rfl, tg, rfl, htg⟩; refine ⟨hm1, _, List.Perm.refl _, ?_⟩
            refine DO.pure tab (by repeat (first|exact Calm.ret|refine Calm.then ?_)) (by kernel_rfl) [11] (by kernel_rfl) rfl ?_
            refine DO.run 12 rfl rfl (by kernel_rfl) rfl ?_
            refine OT.box rfl rfl rfl rfl rfl (fun bt => ?_)
            refine ⟨Mem.le_refl _, _, perm_mid, ?_⟩
            refine DO.pure tab (by repeat (first|exact Calm.ret|refine Calm.then ?_)) (by kernel_rfl) [13] (by kernel_rfl) rfl ?_
            refine DO.nil (by kernel_rfl) ?_
            refine thenQ_n ?_
            exact ⟨⟨m1, ⟨tg, h.funcs.toNat, bt, bi, bl, bg⟩, _⟩, (by repeat (first|exact trivial|refine And.intro rfl ?_)), (by repeat (first|exact trivial|refine And.intro rfl ?_)), rfl, rfl, List.Sublist.refl _, hm1, htg, rfl, by first | exact List.Perm.append_left _ ((List.Perm.refl _).cons _) | exact List.Perm.append_left _ (pf1.cons _) | exact List.Perm.append_left _ ((pf1.cons _).cons _) | exact List.Perm.append_left _ (pf2.cons _) | exact List.Perm.append_left _ ((pf2.trans (pf1.cons _)).cons _) | exact List.Perm.append_left _ ((pf1.trans (pf1.cons _)).cons _)⟩
      · refine OT.makeM tab (Value.int .i64) 0 h.funcs.toNat hfu' rfl rfl rfl rfl rfl rfl rfl rfl (show h.funcs.toNat * 8 ≤ 281474976710656 by omega) rfl (fun bg => ?_); refine ⟨Mem.le_refl _, _, perm_mid, ?_⟩
        refine DO.fork 1 [7] (by kernel_rfl) ⟨⟨_, rfl, rfl, rfl, ?_⟩, ⟨_, rfl, rfl, rfl, ?_⟩, trivial⟩
        · refine OT.call rfl rfl rfl rfl rfl rfl goes28 ((graph_own m _ hh h hr hsm hg).x ?_); rintro _ m1 _ ⟨hm1, rfl, tg, rfl, htg⟩; refine ⟨hm1, _, List.Perm.refl _, ?_⟩
          refine DO.fork 7 [] (by kernel_rfl) ⟨⟨_, rfl, rfl, rfl, ?_⟩, trivial⟩
          · refine OT.makeM tab (Value.int .i64) 0 h.funcs.toNat hfu' rfl rfl rfl rfl rfl rfl rfl rfl (show h.funcs.toNat * 8 ≤ 281474976710656 by omega) rfl (fun bl => ?_); refine ⟨Mem.le_refl _, _, perm_mid, ?_⟩
            refine DO.pure tab (by repeat (first|exact Calm.ret|refine Calm.then ?_)) (by kernel_rfl) [11] (by kernel_rfl) rfl ?_
            refine DO.run 12 rfl rfl (by kernel_rfl) rfl ?_
            refine OT.box rfl rfl rfl rfl rfl (fun bt => ?_)
            refine ⟨Mem.le_refl _, _, perm_mid, ?_⟩
            refine DO.pure tab (by repeat (first|exact Calm.ret|refine Calm.then ?_)) (by kernel_rfl) [13] (by kernel_rfl) rfl ?_
            refine DO.nil (by kernel_rfl) ?_
            refine thenQ_n ?_
            exact ⟨⟨m1, ⟨tg, h.funcs.toNat, bt, bi, bl, bg⟩, _⟩, (by repeat (first|exact trivial|refine And.intro rfl ?_)), (by repeat (first|exact trivial|refine And.intro rfl ?_)), rfl, rfl, List.Sublist.refl _, hm1, htg, rfl, by first | exact List.Perm.append_left _ ((List.Perm.refl _).cons _) | exact List.Perm.append_left _ (pf1.cons _) | exact List.Perm.append_left _ ((pf1.cons _).cons _) | exact List.Perm.append_left _ (pf2.cons _) | exact List.Perm.append_left _ ((pf2.trans (pf1.cons _)).cons _) | exact List.Perm.append_left _ ((pf1.trans (pf1.cons _)).cons _)⟩
        · refine OT.makeM tab (Value.int .i64) 0 h.funcs.toNat hfu' rfl rfl rfl rfl rfl rfl rfl rfl (show h.funcs.toNat * 8 ≤ 281474976710656 by omega) rfl (fun bl => ?_); refine ⟨Mem.le_refl _, _, perm_mid, ?_⟩
          refine DO.fork 1 [] (by kernel_rfl) ⟨⟨_, rfl, rfl, rfl, ?_⟩, trivial⟩
          · refine OT.call rfl rfl rfl rfl rfl rfl goes28 ((graph_own m _ hh h hr hsm hg).x ?_); rintro _ m1 _ ⟨hm1, rfl, tg, rfl, htg⟩; refine ⟨hm1, _, List.Perm.refl _, ?_⟩
            refine DO.pure tab (by repeat (first|exact Calm.ret|refine Calm.then ?_)) (by kernel_rfl) [11] (by kernel_rfl) rfl ?_
            refine DO.run 12 rfl rfl (by kernel_rfl) rfl ?_
            refine OT.box rfl rfl rfl rfl rfl (fun bt => ?_)
            refine ⟨Mem.le_refl _, _, perm_mid, ?_⟩
            refine DO.pure tab (by repeat (first|exact Calm.ret|refine Calm.then ?_)) (by kernel_rfl) [13] (by kernel_rfl) rfl ?_
            refine DO.nil (by kernel_rfl) ?_
            refine thenQ_n ?_
            exact ⟨⟨m1, ⟨tg, h.funcs.toNat, bt, bi, bl, bg⟩, _⟩, (by repeat (first|exact trivial|refine And.intro rfl ?_)), (by repeat (first|exact trivial|refine And.intro rfl ?_)), rfl, rfl, List.Sublist.refl _, hm1, htg, rfl, by first | exact List.Perm.append_left _ ((List.Perm.refl _).cons _) | exact List.Perm.append_left _ (pf1.cons _) | exact List.Perm.append_left _ ((pf1.cons _).cons _) | exact List.Perm.append_left _ (pf2.cons _) | exact List.Perm.append_left _ ((pf2.trans (pf1.cons _)).cons _) | exact List.Perm.append_left _ ((pf1.trans (pf1.cons _)).cons _)⟩
    · refine OT.makeM tab (Value.int .i64) 0 h.funcs.toNat hfu' rfl rfl rfl rfl rfl rfl rfl rfl (show h.funcs.toNat * 8 ≤ 281474976710656 by omega) rfl (fun bl => ?_); refine ⟨Mem.le_refl _, _, perm_mid, ?_⟩
      refine DO.fork 1 [4, 10] (by kernel_rfl) ⟨⟨_, rfl, rfl, rfl, ?_⟩, ⟨_, rfl, rfl, rfl, ?_⟩, ⟨_, rfl, rfl, rfl, ?_⟩, trivial⟩
      · refine OT.call rfl rfl rfl rfl rfl rfl goes28 ((graph_own m _ hh h hr hsm hg).x ?_); rintro _ m1 _ ⟨hm1, rfl, tg, rfl, htg⟩; refine ⟨hm1, _, List.Perm.refl _, ?_⟩
        refine DO.fork 4 [10] (by kernel_rfl) ⟨⟨_, rfl, rfl, rfl, ?_⟩, ⟨_, rfl, rfl, rfl, ?_⟩, trivial⟩
        · refine OT.makeM tab (Value.int .i64) 0 h.funcs.toNat hfu' rfl rfl rfl rfl rfl rfl rfl rfl (show h.funcs.toNat * 8 ≤ 281474976710656 by omega) rfl (fun bi => ?_); refine ⟨Mem.le_refl _, _, perm_mid, ?_⟩
          refine DO.fork 10 [] (by kernel_rfl) ⟨⟨_, rfl, rfl, rfl, ?_⟩, trivial⟩
          · refine OT.makeM tab (Value.int .i64) 0 h.funcs.toNat hfu' rfl rfl rfl rfl rfl rfl rfl rfl (show h.funcs.toNat * 8 ≤ 281474976710656 by omega) rfl (fun bg => ?_); refine ⟨Mem.le_refl _, _, perm_mid, ?_⟩
            refine DO.pure tab (by repeat (first|exact Calm.ret|refine Calm.then ?_)) (by kernel_rfl) [11] (by kernel_rfl) rfl ?_
            refine DO.run 12 rfl rfl (by kernel_rfl) rfl ?_
            refine OT.box rfl rfl rfl rfl rfl (fun bt => ?_)
            refine ⟨Mem.le_refl _, _, perm_mid, ?_⟩
            refine DO.pure tab (by repeat (first|exact Calm.ret|refine Calm.then ?_)) (by kernel_rfl) [13] (by kernel_rfl) rfl ?_
            refine DO.nil (by kernel_rfl) ?_
            refine thenQ_n ?_
            exact ⟨⟨m1, ⟨tg, h.funcs.toNat, bt, bi, bl, bg⟩, _⟩, (by repeat (first|exact trivial|refine And.intro rfl ?_)), (by repeat (first|exact trivial|refine And.intro rfl ?_)), rfl, rfl, List.Sublist.refl _, hm1, htg, rfl, by first | exact List.Perm.append_left _ ((List.Perm.refl _).cons _) | exact List.Perm.append_left _ (pf1.cons _) | exact List.Perm.append_left _ ((pf1.cons _).cons _) | exact List.Perm.append_left _ (pf2.cons _) | exact List.Perm.append_left _ ((pf2.trans (pf1.cons _)).cons _) | exact List.Perm.append_left _ ((pf1.trans (pf1.cons _)).cons _)⟩
        · refine OT.makeM tab (Value.int .i64) 0 h.funcs.toNat hfu' rfl rfl rfl rfl rfl rfl rfl rfl (show h.funcs.toNat * 8 ≤ 281474976710656 by omega) rfl (fun bg => ?_); refine ⟨Mem.le_refl _, _, perm_mid, ?_⟩
          refine DO.fork 4 [] (by kernel_rfl) ⟨⟨_, rfl, rfl, rfl, ?_⟩, trivial⟩
          · refine OT.makeM tab (Value.int .i64) 0 h.funcs.toNat hfu' rfl rfl rfl rfl rfl rfl rfl rfl (show h.funcs.toNat * 8 ≤ 281474976710656 by omega) rfl (fun bi => ?_); refine ⟨Mem.le_refl _, _, perm_mid, ?_⟩
            refine DO.pure tab (by repeat (first|exact Calm.ret|refine Calm.then ?_)) (by kernel_rfl) [11] (by kernel_rfl) rfl ?_
            refine DO.run 12 rfl rfl (by kernel_rfl) rfl ?_
            refine OT.box rfl rfl rfl rfl rfl (fun bt => ?_)
            refine ⟨Mem.le_refl _, _, perm_mid, ?_⟩
            refine DO.pure tab (by repeat (first|exact Calm.ret|refine Calm.then ?_)) (by kernel_rfl) [13] (by kernel_rfl) rfl ?_
            refine DO.nil (by kernel_rfl) ?_
            refine thenQ_n ?_
            exact ⟨⟨m1, ⟨tg, h.funcs.toNat, bt, bi, bl, bg⟩, _⟩, (by repeat (first|exact trivial|refine And.intro rfl ?_)), (by repeat (first|exact trivial|refine And.intro rfl ?_)), rfl, rfl, List.Sublist.refl _, hm1, htg, rfl, by first | exact List.Perm.append_left _ ((List.Perm.refl _).cons _) | exact List.Perm.append_left _ (pf1.cons _) | exact List.Perm.append_left _ ((pf1.cons _).cons _) | exact List.Perm.append_left _ (pf2.cons _) | exact List.Perm.append_left _ ((pf2.trans (pf1.cons _)).cons _) | exact List.Perm.append_left _ ((pf1.trans (pf1.cons _)).cons _)⟩
      · refine OT.makeM tab (Value.int .i64) 0 h.funcs.toNat hfu' rfl rfl rfl rfl rfl rfl rfl rfl (show h.funcs.toNat * 8 ≤ 281474976710656 by omega) rfl (fun bi => ?_); refine ⟨Mem.le_refl _, _, perm_mid, ?_⟩
        refine DO.fork 1 [10] (by kernel_rfl) ⟨⟨_, rfl, rfl, rfl, ?_⟩, ⟨_, rfl, rfl, rfl, ?_⟩, trivial⟩
        · refine OT.call rfl rfl rfl rfl rfl rfl goes28 ((graph_own m _ hh h hr hsm hg).x ?_); rintro _ m1 _ ⟨hm1, rfl, tg, rfl, htg⟩; refine ⟨hm1, _, List.Perm.refl _, ?_⟩
          refine DO.fork 10 [] (by kernel_rfl) ⟨⟨_, rfl, rfl, rfl, ?_⟩, trivial⟩
          · refine OT.makeM tab (Value.int .i64) 0 h.funcs.toNat hfu' rfl rfl rfl rfl rfl rfl rfl rfl (show h.funcs.toNat * 8 ≤ 281474976710656 by omega) rfl (fun bg => ?_); refine ⟨Mem.le_refl _, _, perm_mid, ?_⟩
            refine DO.pure tab (by repeat (first|exact Calm.ret|refine Calm.then ?_)) (by kernel_rfl) [11] (by kernel_rfl) rfl ?_
            refine DO.run 12 rfl rfl (by kernel_rfl) rfl ?_
            refine OT.box rfl rfl rfl rfl rfl (fun bt => ?_)
            refine ⟨Mem.le_refl _, _, perm_mid, ?_⟩
            refine DO.pure tab (by repeat (first|exact Calm.ret|refine Calm.then ?_)) (by kernel_rfl) [13] (by kernel_rfl) rfl ?_
            refine DO.nil (by kernel_rfl) ?_
            refine thenQ_n ?_
            exact ⟨⟨m1, ⟨tg, h.funcs.toNat, bt, bi, bl, bg⟩, _⟩, (by repeat (first|exact trivial|refine And.intro rfl ?_)), (by repeat (first|exact trivial|refine And.intro rfl ?_)), rfl, rfl, List.Sublist.refl _, hm1, htg, rfl, by first | exact List.Perm.append_left _ ((List.Perm.refl _).cons _) | exact List.Perm.append_left _ (pf1.cons _) | exact List.Perm.append_left _ ((pf1.cons _).cons _) | exact List.Perm.append_left _ (pf2.cons _) | exact List.Perm.append_left _ ((pf2.trans (pf1.cons _)).cons _) | exact List.Perm.append_left _ ((pf1.trans (pf1.cons _)).cons _)⟩
        · refine OT.makeM tab (Value.int .i64) 0 h.funcs.toNat hfu' rfl rfl rfl rfl rfl rfl rfl rfl (show h.funcs.toNat * 8 ≤ 281474976710656 by omega) rfl (fun bg => ?_); refine ⟨Mem.le_refl _, _, perm_mid, ?_⟩
          refine DO.fork 1 [] (by kernel_rfl) ⟨⟨_, rfl, rfl, rfl, ?_⟩, trivial⟩
          · refine OT.call rfl rfl rfl rfl rfl rfl goes28 ((graph_own m _ hh h hr hsm hg).x ?_); rintro _ m1 _ ⟨hm1, rfl, tg, rfl, htg⟩; refine ⟨hm1, _, List.Perm.refl _, ?_⟩
            refine DO.pure tab (by repeat (first|exact Calm.ret|refine Calm.then ?_)) (by kernel_rfl) [11] (by kernel_rfl) rfl ?_
            refine DO.run 12 rfl rfl (by kernel_rfl) rfl ?_
            refine OT.box rfl rfl rfl rfl rfl (fun bt => ?_)
            refine ⟨Mem.le_refl _, _, perm_mid, ?_⟩
            refine DO.pure tab (by repeat (first|exact Calm.ret|refine Calm.then ?_)) (by kernel_rfl) [13] (by kernel_rfl) rfl ?_
            refine DO.nil (by kernel_rfl) ?_
            refine thenQ_n ?_
            exact ⟨⟨m1, ⟨tg, h.funcs.toNat, bt, bi, bl, bg⟩, _⟩, (by repeat (first|exact trivial|refine And.intro rfl ?_)), (by repeat (first|exact trivial|refine And.intro rfl ?_)), rfl, rfl, List.Sublist.refl _, hm1, htg, rfl, by first | exact List.Perm.append_left _ ((List.Perm.refl _).cons _) | exact List.Perm.append_left _ (pf1.cons _) | exact List.Perm.append_left _ ((pf1.cons _).cons _) | exact List.Perm.append_left _ (pf2.cons _) | exact List.Perm.append_left _ ((pf2.trans (pf1.cons _)).cons _) | exact List.Perm.append_left _ ((pf1.trans (pf1.cons _)).cons _)⟩
      · refine OT.makeM tab (Value.int .i64) 0 h.funcs.toNat hfu' rfl rfl rfl rfl rfl rfl rfl rfl (show h.funcs.toNat * 8 ≤ 281474976710656 by omega) rfl (fun bg => ?_); refine ⟨Mem.le_refl _, _, perm_mid, ?_⟩
        refine DO.fork 1 [4] (by kernel_rfl) ⟨⟨_, rfl, rfl, rfl, ?_⟩, ⟨_, rfl, rfl, rfl, ?_⟩, trivial⟩
        · refine OT.call rfl rfl rfl rfl rfl rfl goes28 ((graph_own m _ hh h hr hsm hg).x ?_); rintro _ m1 _ ⟨hm1, rfl, tg, rfl, htg⟩; refine ⟨hm1, _, List.Perm.refl _, ?_⟩
          refine DO.fork 4 [] (by kernel_rfl) ⟨⟨_, rfl, rfl, rfl, ?_⟩, trivial⟩
          · refine OT.makeM tab (Value.int .i64) 0 h.funcs.toNat hfu' rfl rfl rfl rfl rfl rfl rfl rfl (show h.funcs.toNat * 8 ≤ 281474976710656 by omega) rfl (fun bi => ?_); refine ⟨Mem.le_refl _, _, perm_mid, ?_⟩
            refine DO.pure tab (by repeat (first|exact Calm.ret|refine Calm.then ?_)) (by kernel_rfl) [11] (by kernel_rfl) rfl ?_
            refine DO.run 12 rfl rfl (by kernel_rfl) rfl ?_
            refine OT.box rfl rfl rfl rfl rfl (fun bt => ?_)
            refine ⟨Mem.le_refl _, _, perm_mid, ?_⟩
            refine DO.pure tab (by repeat (first|exact Calm.ret|refine Calm.then ?_)) (by kernel_rfl) [13] (by kernel_rfl) rfl ?_
            refine DO.nil (by kernel_rfl) ?_
            refine thenQ_n ?_
            exact ⟨⟨m1, ⟨tg, h.funcs.toNat, bt, bi, bl, bg⟩, _⟩, (by repeat (first|exact trivial|refine And.intro rfl ?_)), (by repeat (first|exact trivial|refine And.intro rfl ?_)), rfl, rfl, List.Sublist.refl _, hm1, htg, rfl, by first | exact List.Perm.append_left _ ((List.Perm.refl _).cons _) | exact List.Perm.append_left _ (pf1.cons _) | exact List.Perm.append_left _ ((pf1.cons _).cons _) | exact List.Perm.append_left _ (pf2.cons _) | exact List.Perm.append_left _ ((pf2.trans (pf1.cons _)).cons _) | exact List.Perm.append_left _ ((pf1.trans (pf1.cons _)).cons _)⟩
        · refine OT.makeM tab (Value.int .i64) 0 h.funcs.toNat hfu' rfl rfl rfl rfl rfl rfl rfl rfl (show h.funcs.toNat * 8 ≤ 281474976710656 by omega) rfl (fun bi => ?_); refine ⟨Mem.le_refl _, _, perm_mid, ?_⟩
          refine DO.fork 1 [] (by kernel_rfl) ⟨⟨_, rfl, rfl, rfl, ?_⟩, trivial⟩
          · refine OT.call rfl rfl rfl rfl rfl rfl goes28 ((graph_own m _ hh h hr hsm hg).x ?_); rintro _ m1 _ ⟨hm1, rfl, tg, rfl, htg⟩; refine ⟨hm1, _, List.Perm.refl _, ?_⟩
            refine DO.pure tab (by repeat (first|exact Calm.ret|refine Calm.then ?_)) (by kernel_rfl) [11] (by kernel_rfl) rfl ?_
            refine DO.run 12 rfl rfl (by kernel_rfl) rfl ?_
            refine OT.box rfl rfl rfl rfl rfl (fun bt => ?_)
            refine ⟨Mem.le_refl _, _, perm_mid, ?_⟩
            refine DO.pure tab (by repeat (first|exact Calm.ret|refine Calm.then ?_)) (by kernel_rfl) [13] (by kernel_rfl) rfl ?_
            refine DO.nil (by kernel_rfl) ?_
            refine thenQ_n ?_
            exact ⟨⟨m1, ⟨tg, h.funcs.toNat, bt, bi, bl, bg⟩, _⟩, (by repeat (first|exact trivial|refine And.intro rfl ?_)), (by repeat (first|exact trivial|refine And.intro rfl ?_)), rfl, rfl, List.Sublist.refl _, hm1, htg, rfl, by first | exact List.Perm.append_left _ ((List.Perm.refl _).cons _) | exact List.Perm.append_left _ (pf1.cons _) | exact List.Perm.append_left _ ((pf1.cons _).cons _) | exact List.Perm.append_left _ (pf2.cons _) | exact List.Perm.append_left _ ((pf2.trans (pf1.cons _)).cons _) | exact List.Perm.append_left _ ((pf1.trans (pf1.cons _)).cons _)⟩
    · refine OT.makeM tab (Value.int .i64) 0 h.funcs.toNat hfu' rfl rfl rfl rfl rfl rfl rfl rfl (show h.funcs.toNat * 8 ≤ 281474976710656 by omega) rfl (fun bg => ?_); refine ⟨Mem.le_refl _, _, perm_mid, ?_⟩
      refine DO.fork 1 [4, 7] (by kernel_rfl) ⟨⟨_, rfl, rfl, rfl, ?_⟩, ⟨_, rfl, rfl, rfl, ?_⟩, ⟨_, rfl, rfl, rfl, ?_⟩, trivial⟩
      · refine OT.call rfl rfl rfl rfl rfl rfl goes28 ((graph_own m _ hh h hr hsm hg).x ?_); rintro _ m1 _ ⟨hm1, rfl, tg, rfl, htg⟩; refine ⟨hm1, _, List.Perm.refl _, ?_⟩
        refine DO.fork 4 [7] (by kernel_rfl) ⟨⟨_, rfl, rfl, rfl, ?_⟩, ⟨_, rfl, rfl, rfl, ?_⟩, trivial⟩
        · refine OT.makeM tab (Value.int .i64) 0 h.funcs.toNat hfu' rfl rfl rfl rfl rfl rfl rfl rfl (show h.funcs.toNat * 8 ≤ 281474976710656 by omega) rfl (fun bi => ?_); refine ⟨Mem.le_refl _, _, perm_mid, ?_⟩
          refine DO.fork 7 [] (by kernel_rfl) ⟨⟨_, rfl, rfl, rfl, ?_⟩, trivial⟩
          · refine OT.makeM tab (Value.int .i64) 0 h.funcs.toNat hfu' rfl rfl rfl rfl rfl rfl rfl rfl (show h.funcs.toNat * 8 ≤ 281474976710656 by omega) rfl (fun bl => ?_); refine ⟨Mem.le_refl _, _, perm_mid, ?_⟩
            refine DO.pure tab (by repeat (first|exact Calm.ret|refine Calm.then ?_)) (by kernel_rfl) [11] (by kernel_rfl) rfl ?_
            refine DO.run 12 rfl rfl (by kernel_rfl) rfl ?_
            refine OT.box rfl rfl rfl rfl rfl (fun bt => ?_)
            refine ⟨Mem.le_refl _, _, perm_mid, ?_⟩
            refine DO.pure tab (by repeat (first|exact Calm.ret|refine Calm.then ?_)) (by kernel_rfl) [13] (by kernel_rfl) rfl ?_
            refine DO.nil (by kernel_rfl) ?_
            refine thenQ_n ?_
            exact ⟨⟨m1, ⟨tg, h.funcs.toNat, bt, bi, bl, bg⟩, _⟩, (by repeat (first|exact trivial|refine And.intro rfl ?_)), (by repeat (first|exact trivial|refine And.intro rfl ?_)), rfl, rfl, List.Sublist.refl _, hm1, htg, rfl, by first | exact List.Perm.append_left _ ((List.Perm.refl _).cons _) | exact List.Perm.append_left _ (pf1.cons _) | exact List.Perm.append_left _ ((pf1.cons _).cons _) | exact List.Perm.append_left _ (pf2.cons _) | exact List.Perm.append_left _ ((pf2.trans (pf1.cons _)).cons _) | exact List.Perm.append_left _ ((pf1.trans (pf1.cons _)).cons _)⟩
        · refine OT.makeM tab (Value.int .i64) 0 h.funcs.toNat hfu' rfl rfl rfl rfl rfl rfl rfl rfl (show h.funcs.toNat * 8 ≤ 281474976710656 by omega) rfl (fun bl => ?_); refine ⟨Mem.le_refl _, _, perm_mid, ?_⟩
          refine DO.fork 4 [] (by kernel_rfl) ⟨⟨_, rfl, rfl, rfl, ?_⟩, trivial⟩
          · refine OT.makeM tab (Value.int .i64) 0 h.funcs.toNat hfu' rfl rfl rfl rfl rfl rfl rfl rfl (show h.funcs.toNat * 8 ≤ 281474976710656 by omega) rfl (fun bi => ?_); refine ⟨Mem.le_refl _, _, perm_mid, ?_⟩
            refine DO.pure tab (by repeat (first|exact Calm.ret|refine Calm.then ?_)) (by kernel_rfl) [11] (by kernel_rfl) rfl ?_
            refine DO.run 12 rfl rfl (by kernel_rfl) rfl ?_
            refine OT.box rfl rfl rfl rfl rfl (fun bt => ?_)
            refine ⟨Mem.le_refl _, _, perm_mid, ?_⟩
            refine DO.pure tab (by repeat (first|exact Calm.ret|refine Calm.then ?_)) (by kernel_rfl) [13] (by kernel_rfl) rfl ?_
            refine DO.nil (by kernel_rfl) ?_
            refine thenQ_n ?_
            exact ⟨⟨m1, ⟨tg, h.funcs.toNat, bt, bi, bl, bg⟩, _⟩, (by repeat (first|exact trivial|refine And.intro rfl ?_)), (by repeat (first|exact trivial|refine And.intro rfl ?_)), rfl, rfl, List.Sublist.refl _, hm1, htg, rfl, by first | exact List.Perm.append_left _ ((List.Perm.refl _).cons _) | exact List.Perm.append_left _ (pf1.cons _) | exact List.Perm.append_left _ ((pf1.cons _).cons _) | exact List.Perm.append_left _ (pf2.cons _) | exact List.Perm.append_left _ ((pf2.trans (pf1.cons _)).cons _) | exact List.Perm.append_left _ ((pf1.trans (pf1.cons _)).cons _)⟩
      · refine OT.makeM tab (Value.int .i64) 0 h.funcs.toNat hfu' rfl rfl rfl rfl rfl rfl rfl rfl (show h.funcs.toNat * 8 ≤ 281474976710656 by omega) rfl (fun bi => ?_); refine ⟨Mem.le_refl _, _, perm_mid, ?_⟩
        refine DO.fork 1 [7] (by kernel_rfl) ⟨⟨_, rfl, rfl, rfl, ?_⟩, ⟨_, rfl, rfl, rfl, ?_⟩, trivial⟩
        · refine OT.call rfl rfl rfl rfl rfl rfl goes28 ((graph_own m _ hh h hr hsm hg).x ?_); rintro _ m1 _ ⟨hm1, rfl, tg, rfl, htg⟩; refine ⟨hm1, _, List.Perm.refl _, ?_⟩
          refine DO.fork 7 [] (by kernel_rfl) ⟨⟨_, rfl, rfl, rfl, ?_⟩, trivial⟩
          · refine OT.makeM tab (Value.int .i64) 0 h.funcs.toNat hfu' rfl rfl rfl rfl rfl rfl rfl rfl (show h.funcs.toNat * 8 ≤ 281474976710656 by omega) rfl (fun bl => ?_); refine ⟨Mem.le_refl _, _, perm_mid, ?_⟩
            refine DO.pure tab (by repeat (first|exact Calm.ret|refine Calm.then ?_)) (by kernel_rfl) [11] (by kernel_rfl) rfl ?_
            refine DO.run 12 rfl rfl (by kernel_rfl) rfl ?_
            refine OT.box rfl rfl rfl rfl rfl (fun bt => ?_)
            refine ⟨Mem.le_refl _, _, perm_mid, ?_⟩
            refine DO.pure tab (by repeat (first|exact Calm.ret|refine Calm.then ?_)) (by kernel_rfl) [13] (by kernel_rfl) rfl ?_
            refine DO.nil (by kernel_rfl) ?_
            refine thenQ_n ?_
            exact ⟨⟨m1, ⟨tg, h.funcs.toNat, bt, bi, bl, bg⟩, _⟩, (by repeat (first|exact trivial|refine And.intro rfl ?_)), (by repeat (first|exact trivial|refine And.intro rfl ?_)), rfl, rfl, List.Sublist.refl _, hm1, htg, rfl, by first | exact List.Perm.append_left _ ((List.Perm.refl _).cons _) | exact List.Perm.append_left _ (pf1.cons _) | exact List.Perm.append_left _ ((pf1.cons _).cons _) | exact List.Perm.append_left _ (pf2.cons _) | exact List.Perm.append_left _ ((pf2.trans (pf1.cons _)).cons _) | exact List.Perm.append_left _ ((pf1.trans (pf1.cons _)).cons _)⟩
        · refine OT.makeM tab (Value.int .i64) 0 h.funcs.toNat hfu' rfl rfl rfl rfl rfl rfl rfl rfl (show h.funcs.toNat * 8 ≤ 281474976710656 by omega) rfl (fun bl => ?_); refine ⟨Mem.le_refl _, _, perm_mid, ?_⟩
          refine DO.fork 1 [] (by kernel_rfl) ⟨⟨_, rfl, rfl, rfl, ?_⟩, trivial⟩
          · refine OT.call rfl rfl rfl rfl rfl rfl goes28 ((graph_own m _ hh h hr hsm hg).x ?_); rintro _ m1 _ ⟨hm1, rfl, tg, rfl, htg⟩; refine ⟨hm1, _, List.Perm.refl _, ?_⟩
            refine DO.pure tab (by repeat (first|exact Calm.ret|refine Calm.then ?_)) (by kernel_rfl) [11] (by kernel_rfl) rfl ?_
            refine DO.run 12 rfl rfl (by kernel_rfl) rfl ?_
            refine OT.box rfl rfl rfl rfl rfl (fun bt => ?_)
            refine ⟨Mem.le_refl _, _, perm_mid, ?_⟩
            refine DO.pure tab (by repeat (first|exact Calm.ret|refine Calm.then ?_)) (by kernel_rfl) [13] (by kernel_rfl) rfl ?_
            refine DO.nil (by kernel_rfl) ?_
            refine thenQ_n ?_
            exact ⟨⟨m1, ⟨tg, h.funcs.toNat, bt, bi, bl, bg⟩, _⟩, (by repeat (first|exact trivial|refine And.intro rfl ?_)), (by repeat (first|exact trivial|refine And.intro rfl ?_)), rfl, rfl, List.Sublist.refl _, hm1, htg, rfl, by first | exact List.Perm.append_left _ ((List.Perm.refl _).cons _) | exact List.Perm.append_left _ (pf1.cons _) | exact List.Perm.append_left _ ((pf1.cons _).cons _) | exact List.Perm.append_left _ (pf2.cons _) | exact List.Perm.append_left _ ((pf2.trans (pf1.cons _)).cons _) | exact List.Perm.append_left _ ((pf1.trans (pf1.cons _)).cons _)⟩
      · refine OT.makeM tab (Value.int .i64) 0 h.funcs.toNat hfu' rfl rfl rfl rfl rfl rfl rfl rfl (show h.funcs.toNat * 8 ≤ 281474976710656 by omega) rfl (fun bl => ?_); refine ⟨Mem.le_refl _, _, perm_mid, ?_⟩
        refine DO.fork 1 [4] (by kernel_rfl) ⟨⟨_, rfl, rfl, rfl, ?_⟩, ⟨_, rfl, rfl, rfl, ?_⟩, trivial⟩
        · refine OT.call rfl rfl rfl rfl rfl rfl goes28 ((graph_own m _ hh h hr hsm hg).x ?_); rintro _ m1 _ ⟨hm1, rfl, tg, rfl, htg⟩; refine ⟨hm1, _, List.Perm.refl _, ?_⟩
          refine DO.fork 4 [] (by kernel_rfl) ⟨⟨_, rfl, rfl, rfl, ?_⟩, trivial⟩
          · refine OT.makeM tab (Value.int .i64) 0 h.funcs.toNat hfu' rfl rfl rfl rfl rfl rfl rfl rfl (show h.funcs.toNat * 8 ≤ 281474976710656 by omega) rfl (fun bi => ?_); refine ⟨Mem.le_refl _, _, perm_mid, ?_⟩
            refine DO.pure tab (by repeat (first|exact Calm.ret|refine Calm.then ?_)) (by kernel_rfl) [11] (by kernel_rfl) rfl ?_
            refine DO.run 12 rfl rfl (by kernel_rfl) rfl ?_
            refine OT.box rfl rfl rfl rfl rfl (fun bt => ?_)
            refine ⟨Mem.le_refl _, _, perm_mid, ?_⟩
            refine DO.pure tab (by repeat (first|exact Calm.ret|refine Calm.then ?_)) (by kernel_rfl) [13] (by kernel_rfl) rfl ?_
            refine DO.nil (by kernel_rfl) ?_
            refine thenQ_n ?_
            exact ⟨⟨m1, ⟨tg, h.funcs.toNat, bt, bi, bl, bg⟩, _⟩, (by repeat (first|exact trivial|refine And.intro rfl ?_)), (by repeat (first|exact trivial|refine And.intro rfl ?_)), rfl, rfl, List.Sublist.refl _, hm1, htg, rfl, by first | exact List.Perm.append_left _ ((List.Perm.refl _).cons _) | exact List.Perm.append_left _ (pf1.cons _) | exact List.Perm.append_left _ ((pf1.cons _).cons _) | exact List.Perm.append_left _ (pf2.cons _) | exact List.Perm.append_left _ ((pf2.trans (pf1.cons _)).cons _) | exact List.Perm.append_left _ ((pf1.trans (pf1.cons _)).cons _)⟩
        · refine OT.makeM tab (Value.int .i64) 0 h.funcs.toNat hfu' rfl rfl rfl rfl rfl rfl rfl rfl (show h.funcs.toNat * 8 ≤ 281474976710656 by omega) rfl (fun bi => ?_); refine ⟨Mem.le_refl _, _, perm_mid, ?_⟩
          refine DO.fork 1 [] (by kernel_rfl) ⟨⟨_, rfl, rfl, rfl, ?_⟩, trivial⟩
          · refine OT.call rfl rfl rfl rfl rfl rfl goes28 ((graph_own m _ hh h hr hsm hg).x ?_); rintro _ m1 _ ⟨hm1, rfl, tg, rfl, htg⟩; refine ⟨hm1, _, List.Perm.refl _, ?_⟩
            refine DO.pure tab (by repeat (first|exact Calm.ret|refine Calm.then ?_)) (by kernel_rfl) [11] (by kernel_rfl) rfl ?_
            refine DO.run 12 rfl rfl (by kernel_rfl) rfl ?_
            refine OT.box rfl rfl rfl rfl rfl (fun bt => ?_)
            refine ⟨Mem.le_refl _, _, perm_mid, ?_⟩
            refine DO.pure tab (by repeat (first|exact Calm.ret|refine Calm.then ?_)) (by kernel_rfl) [13] (by kernel_rfl) rfl ?_
            refine DO.nil (by kernel_rfl) ?_
            refine thenQ_n ?_
            exact ⟨⟨m1, ⟨tg, h.funcs.toNat, bt, bi, bl, bg⟩, _⟩, (by repeat (first|exact trivial|refine And.intro rfl ?_)), (by repeat (first|exact trivial|refine And.intro rfl ?_)), rfl, rfl, List.Sublist.refl _, hm1, htg, rfl, by first | exact List.Perm.append_left _ ((List.Perm.refl _).cons _) | exact List.Perm.append_left _ (pf1.cons _) | exact List.Perm.append_left _ ((pf1.cons _).cons _) | exact List.Perm.append_left _ (pf2.cons _) | exact List.Perm.append_left _ ((pf2.trans (pf1.cons _)).cons _) | exact List.Perm.append_left _ ((pf1.trans (pf1.cons _)).cons _)⟩
  rintro ⟨m1, p, Lx⟩ ⟨hm1, htg, hpn, hperm⟩
  simp only at hm1 htg hpn hperm ⊢
  refine TC.perm (hperm.trans List.perm_append_comm) ?_
  refine TC.mcell0 ?_
  have hr1 := hr.mono hm1
  obtain ⟨hgo, hgl⟩ := graphM_ok hg
  generalize hgraph : graphM h = g at *
  rw [← hpn] at hgo hgl
  repeat (first|(first|refine q1 ?_|refine q2 ?_|refine q3 ?_|refine q4 tab rfl rfl ?_|refine q5 ?_|refine q6 ?_)|(refine qs rfl (ql tab 5 rfl rfl rfl rfl rfl rfl ?_)))
  refine TC.loopK (ι := VS) [1, 5, 37] rfl (fun x => [(38, .int .i64 (x.j : Int))]) (fun _ => m1) (fun x => tI p x.st x.s x.vs (.cells b 0 (hierC hh) :: L))
    (fun x => x.j ≤ p.n ∧ x.st = visitAll g p.n x.j ∧ WF p.n x.st ∧ MQ (Value.int .i64) x.s x.vs x.st.stack.reverse) (fun x => p.n - x.j) ⟨0, st0 p.n, ⟨none, 0, 0⟩, []⟩ (by repeat (first|exact trivial|refine And.intro rfl ?_)) rfl (List.Sublist.refl _) ⟨Nat.zero_le _, rfl, st0_wf _, MQ.nil _⟩ ?_
  rintro ⟨j, st, s, vs⟩ ⟨hj, hst, hW, hq⟩
  simp only at hj hst hW hq ⊢
  have hsucc := visitAll_succ g p.n j
  rw [← hst] at hsucc
  have hli := hW.li
  repeat (first|refine q1 ?_|refine q3 ?_|refine q4 tab rfl rfl ?_|refine q5 ?_|refine q6 ?_)
  refine TC.condP rfl (fun hlt' => ?_) (fun hlt' => ?_)
  · have hlt : j < p.n := by omega
    have hji : st.index[j]? = some (at0 st.index j) := at0_get (by omega)
    repeat (first|(first|refine q1 ?_|refine q2 ?_|refine q3 ?_|refine q4 tab rfl rfl ?_|refine q5 ?_|refine q6 ?_|refine q13 ?_)|(refine qs rfl (ql tab 1 rfl rfl rfl rfl rfl rfl ?_)))
    refine TO.step rfl (OT.indexP (sz := 1) tab j rfl rfl rfl rfl rfl rfl rfl (by omega) ?_)
    refine TO.step rfl (OT.loadM tab 2 (Value.int .i64) hji rfl rfl rfl rfl rfl rfl ?_)
    repeat (first|refine q4 tab rfl rfl ?_|refine q5 ?_|refine q6 ?_)
    refine TC.condP rfl (fun hz0 => ?_) (fun hz0 => ?_)
    · have hzl := zeros_le st.index
      rw [hli] at hzl
      repeat (first|refine q3 ?_|refine q4 tab rfl rfl ?_)
      refine TO.step rfl (OT.call rfl rfl rfl rfl rfl rfl goes29 ((visit_own p g hgo hgl (by omega) p.n m1 (.cells b 0 (hierC hh) :: L) st s vs j htg hq hW hlt hz0 hzl).x ?_));
      rintro _ _ _ ⟨rfl, s3, vs3, hq3, rfl⟩
      have hW3 := (visitM_ok hgo hgl p.n st j hW hlt hz0 hzl).1
      rw [if_pos hz0] at hsucc
      repeat (first|refine q3 ?_|refine q5 ?_|refine q6 ?_|refine q7 ?_)
      refine TO.step rfl (OT.arith (r' := ((j + 1 : Nat) : Int)) rfl rfl rfl rfl rfl rfl rfl (by omega) ?_)
      repeat (first|refine q4 tab rfl rfl ?_|refine q5 ?_|refine q6 ?_)
      exact ⟨⟨j + 1, visitM g p.n st j, s3, vs3⟩, (by repeat (first|exact trivial|refine And.intro rfl ?_)), (by repeat (first|exact trivial|refine And.intro rfl ?_)), rfl, rfl, List.Sublist.refl _, ⟨by simp only; omega, hsucc.symm, hW3, hq3⟩, by simp only; omega⟩
    · rw [if_neg hz0] at hsucc
      repeat (first|refine q3 ?_|refine q6 ?_|refine q7 ?_|refine q13 ?_)
      refine TO.step rfl (OT.arith (r' := ((j + 1 : Nat) : Int)) rfl rfl rfl rfl rfl rfl rfl (by omega) ?_)
      repeat (first|refine q4 tab rfl rfl ?_|refine q5 ?_|refine q6 ?_)
      exact ⟨⟨j + 1, st, s, vs⟩, (by repeat (first|exact trivial|refine And.intro rfl ?_)), (by repeat (first|exact trivial|refine And.intro rfl ?_)), rfl, rfl, List.Sublist.refl _, ⟨by simp only; omega, hsucc.symm, hW, hq⟩, by simp only; omega⟩
  have hst' : st = visitAll g p.n p.n := by rw [hst]; congr 1; omega
  obtain ⟨hG0, hG⟩ := visitAll_groups hgo hgl
  rw [← hst'] at hG0 hG
  have hgn : st.groups = (st.groups.toNat : Int) := by omega
  have hfew := hG.few
  have hjn : (p.n : Int) = hh.funcs := by omega
  refine TC.drop (L' := .cells p.bt 0 (tcells p s st) :: .cells p.bg 0 (st.group.map (Value.int .i64)) :: .cells b 0 (hierC hh) :: L) (by repeat (first|exact List.Sublist.refl _|refine List.Sublist.cons_cons _ ?_|refine List.Sublist.cons _ ?_)) ?_
  refine TC.freeze fun m2 hm2 hAt => ?_
  refine TC.freeze fun m3 hm3 hAg => ?_
  have hAt3 := hAt.mono hm3
  have htg3 := (htg.mono hm2).mono hm3
  have hgrp : SlRep rInt m3 ⟨some ⟨p.bg, 0, none⟩, p.n, p.n⟩ st.group := by
    refine ⟨by simp only; exact hG.len.symm, Nat.le_refl _, by simp only [rInt]; omega, st.group, ?_, .inr ⟨p.bg, 0, rfl, ?_⟩⟩
    · have : ∀ l : List Int, All2 (rInt.rep m3) l l := fun l => by
        induction l with
        | nil => trivial
        | cons x xs ih => exact ⟨rfl, ih⟩
      exact this _
    · have e : encs rInt st.group = st.group.map (Value.int .i64) := by
        generalize st.group = l
        induction l with
        | nil => rfl
        | cons x xs ih => simpa [encs, rInt] using ih
      rw [e]; exact hAg
  clear hq hsucc hli hlt' hW hst hst' hAt hAg htg hperm
  generalize hgrpE : st.group = grp at *
  generalize hngE : st.groups.toNat = ng at *
  have hglen := hG.len
  have hlv := hG.lt
  repeat ((first|refine q1 ?_|refine q3 ?_|refine q4 tab rfl rfl ?_|refine q6 ?_|refine q10 ?_|refine q11 ?_|refine q14 ?_))
  (refine TO.step rfl (OT.loadA tab hAt3 rfl rfl rfl rfl rfl ?_))
  refine TO.step rfl (OT.makeM tab Sl.v ⟨none, 0, 0⟩ ng (by omega) rfl rfl rfl rfl rfl rfl rfl rfl (show ng * 24 ≤ 281474976710656 by omega) rfl (fun bm => ?_))
  repeat (first|(first|refine q1 ?_|refine q2 ?_|refine q3 ?_|refine q4 tab rfl rfl ?_|refine q5 ?_|refine q6 ?_)|(refine qs rfl (ql tab 1 rfl rfl rfl rfl rfl rfl ?_)))
  refine TC.toks0 ng 1 ?_
  refine TC.perm (List.perm_middle.trans (List.perm_middle.cons _)) ?_
  refine TC.loopK (ι := GS) [1, 5, 7, 59] rfl (fun x => [(60, .int .i64 (x.k : Int))]) (fun x => x.m) (fun x => .cells bm 0 (x.ss.map Sl.v) :: .cells b 0 (hierC hh) :: (toks x.ss 1 ++ L)) (fun x => x.k ≤ p.n ∧ m3 ≤ x.m ∧ OwnRows rInt x.m x.ss (membersM grp ng x.k)) (fun x => p.n - x.k) ⟨0, 0, [], List.replicate ng ⟨none, 0, 0⟩, m3⟩ (by repeat (first|exact trivial|refine And.intro rfl ?_)) rfl (List.Sublist.refl _) ⟨Nat.zero_le _, Mem.le_refl _, OwnRows.empty _ _ _⟩ ?_
  rintro ⟨k, _, _, ss, m4⟩ ⟨hk, hm4, hrows⟩
  simp only at hk hm4 hrows ⊢
  have hss := All2.length hrows
  rw [membersM_len] at hss
  repeat (first|refine q1 ?_|refine q3 ?_|refine q4 tab rfl rfl ?_|refine q5 ?_|refine q6 ?_)
  refine TC.condP rfl (fun hlt' => ?_) (fun hlt' => ?_)
  · have hlt : k < p.n := by omega
    have hv := hlv k hlt
    have hgk : grp[k]? = some (at0 grp k) := at0_get (by omega)
    have hgrp4 := hgrp.mono hm4
    have hAt4 := hAt3.mono hm4
    have hsuc := membersM_succ grp ng k
    have hgi := row_get (l := membersM grp ng k) (k := (at0 grp k).toNat) (by rw [membersM_len]; omega)
    have hrl : (row (membersM grp ng k) (at0 grp k).toNat).length ≤ k := by
      rw [membersM_row (n := p.n) hlv k (by omega) _ (by omega)]
      simp only [cls, List.length_map]
      exact Nat.le_trans (List.length_filter_le _ _) (by simp)
    obtain ⟨sr, hsr, hro, hrr⟩ := All2.get hrows hgi
    generalize hgv : at0 grp k = gv at *
    repeat (first|refine q1 ?_|refine q2 ?_|refine q3 ?_|refine q4 tab rfl rfl ?_|refine q5 ?_|refine q6 ?_|refine q13 ?_)
    refine TC.perm (((toks_out L hsr).cons _).cons _) ?_
    refine TC.perm ((perm_last.cons _).cons _) ?_
    refine TC.draw [22] mixed 23 rfl (_::_::(toks (ss.eraseIdx gv.toNat) 1++L)) [tok sr 1] (by first | exact List.Perm.refl _ | (rw [List.append_nil]; exact List.Perm.refl _)) ?_
    refine DO.pure tab (by repeat (first|exact Calm.ret|refine Calm.then ?_|refine Calm.block ?_)) (by kernel_rfl) [0, 1, 2, 3] (by kernel_rfl) rfl ?_
    (refine DO.loadA tab 4 hAt4 (by repeat (first|exact Calm.ret|refine Calm.then ?_|refine Calm.block ?_)) (by kernel_rfl) (by kernel_rfl) rfl rfl rfl rfl rfl rfl rfl ?_)
    refine DO.pure tab (by repeat (first|exact Calm.ret|refine Calm.then ?_|refine Calm.block ?_)) (by kernel_rfl) [5] (by kernel_rfl) rfl ?_
    refine DO.index tab rInt 6 k hgrp4 (by repeat (first|exact Calm.ret|refine Calm.then ?_|refine Calm.block ?_)) (by kernel_rfl) (by kernel_rfl) rfl rfl rfl rfl rfl rfl rfl (by first | rfl | omega) rfl hgk ?_
    rintro b1 i1 hd1 hrd1 hA1; obtain rfl := (show hd1 = gv from hrd1)
    (refine DO.loadA (k := 0) tab 7 hA1 (by repeat (first|exact Calm.ret|refine Calm.then ?_|refine Calm.block ?_)) (by kernel_rfl) (by kernel_rfl) rfl rfl rfl rfl rfl rfl rfl ?_)
    refine DO.pure tab (by repeat (first|exact Calm.ret|refine Calm.then ?_|refine Calm.block ?_)) (by kernel_rfl) [8, 9, 10, 11] (by kernel_rfl) rfl ?_
    (refine DO.loadA tab 12 hAt4 (by repeat (first|exact Calm.ret|refine Calm.then ?_|refine Calm.block ?_)) (by kernel_rfl) (by kernel_rfl) rfl rfl rfl rfl rfl rfl rfl ?_)
    refine DO.pure tab (by repeat (first|exact Calm.ret|refine Calm.then ?_|refine Calm.block ?_)) (by kernel_rfl) [13] (by kernel_rfl) rfl ?_
    refine DO.index tab rInt 14 k hgrp4 (by repeat (first|exact Calm.ret|refine Calm.then ?_|refine Calm.block ?_)) (by kernel_rfl) (by kernel_rfl) rfl rfl rfl rfl rfl rfl rfl (by first | rfl | omega) rfl hgk ?_
    rintro b2 i2 hd2 hrd2 hA2; obtain rfl := (show hd2 = hd1 from hrd2)
    (refine DO.loadA (k := 0) tab 15 hA2 (by repeat (first|exact Calm.ret|refine Calm.then ?_|refine Calm.block ?_)) (by kernel_rfl) (by kernel_rfl) rfl rfl rfl rfl rfl rfl rfl ?_)
    refine DO.indexP (sz := 1) tab 16 hd2.toNat (by repeat (first|exact Calm.ret|refine Calm.then ?_|refine Calm.block ?_)) (by kernel_rfl) (by kernel_rfl) rfl rfl rfl rfl rfl rfl rfl (by omega) rfl (by omega) ?_
    refine DO.loadM tab 17 0 Sl.v hsr (by repeat (first|exact Calm.ret|refine Calm.then ?_|refine Calm.block ?_)) (by kernel_rfl) (by kernel_rfl) rfl rfl rfl rfl rfl rfl rfl rfl ?_
    refine DO.pure tab (by repeat (first|exact Calm.ret|refine Calm.then ?_|refine Calm.block ?_)) (by kernel_rfl) [18] (by kernel_rfl) rfl ?_
    refine DO.run 19 rfl rfl (by kernel_rfl) rfl ?_
    refine OT.lit tab rfl rfl rfl rfl (fun bl => ?_); refine ⟨Mem.le_refl _, _, perm_mid, ?_⟩
    refine DO.run 20 rfl rfl (by kernel_rfl) rfl ?_
    refine OT.perm List.perm_append_comm (OT.append1 tab rInt 0 (hd' := (k : Int)) (a := (k : Int)) hrr hro rfl rfl rfl rfl rfl rfl rfl rfl (by simp only [rInt]; omega) (fun t' m5 hm5 ht' ho' => ?_)); refine ⟨hm5, _, perm_last, ?_⟩
    refine DO.indexP (sz := 1) tab 21 hd2.toNat (by repeat (first|exact Calm.ret|refine Calm.then ?_|refine Calm.block ?_)) (by kernel_rfl) (by kernel_rfl) rfl rfl rfl rfl rfl rfl rfl (by omega) rfl (by omega) ?_
    refine DO.tail ?_
    refine DOt.run 22 rfl rfl (by kernel_rfl) rfl ?_
    refine OT.storeM tab 0 Sl.v t' rfl rfl rfl rfl rfl rfl rfl (by omega) ?_
    refine DOt.nil (by kernel_rfl) ?_
    rotate_left 1
    repeat (first|refine q3 ?_|refine q6 ?_|refine q7 ?_)
    refine TO.perm ((perm_first.cons _).cons _) ?_
    refine TO.perm (((toks_in L (by omega)).cons _).cons _) ?_
    refine TO.step rfl (OT.arith (r' := ((k + 1 : Nat) : Int)) rfl rfl rfl rfl rfl rfl rfl (by omega) ?_)
    repeat (first|refine q4 tab rfl rfl ?_|refine q5 ?_|refine q6 ?_)
    refine ⟨⟨k + 1, 0, [], ss.set hd2.toNat t', m5⟩, (by repeat (first|exact trivial|refine And.intro rfl ?_)), (by repeat (first|exact trivial|refine And.intro rfl ?_)), rfl, rfl, List.Sublist.refl _, ⟨by simp only; omega, Mem.le_trans hm4 hm5, ?_⟩, by simp only; omega⟩
    simp only
    rw [hsuc]
    exact All2.set _ (hrows.mono hm5) ⟨ho', ht'⟩
  · have hkn : k = p.n := by omega
    subst hkn
    refine TC.freeze fun m5 hm5 hAm => ?_
    have hmem : SlRep rInts m5 ⟨some ⟨bm, 0, none⟩, ng, ng⟩ (membersM grp ng p.n) := (hrows.mono hm5).whole hAm (by rw [membersM_len]) (by omega)
    refine TC.drop (L' := .cells b 0 (hierC hh) :: L) ((List.sublist_append_right _ L).cons_cons _) ?_
    have hm35 := Mem.le_trans hm4 hm5
    have hAt5 := hAt3.mono hm35
    have htg5 := htg3.mono hm35
    have hgrp5 := hgrp.mono hm35
    clear hrows hss hAm
    repeat ((first|refine q1 ?_|refine q3 ?_|refine q4 tab rfl rfl ?_|refine q6 ?_|refine q10 ?_|refine q11 ?_|refine q14 ?_))
    (refine TO.step rfl (OT.loadA tab hAt5 rfl rfl rfl rfl rfl ?_))
    refine TO.step rfl (OT.makeM tab mv none ng (by omega) rfl rfl rfl rfl rfl rfl rfl rfl (show ng * 8 ≤ 281474976710656 by omega) rfl (fun bw => ?_))
    repeat ((first|refine q1 ?_|refine q3 ?_|refine q4 tab rfl rfl ?_|refine q5 ?_|refine q6 ?_))
    (refine TO.step rfl (OT.loadA tab hAt5 rfl rfl rfl rfl rfl ?_))
    refine TO.step rfl (OT.makeM tab Sl.v ⟨none, 0, 0⟩ ng (by omega) rfl rfl rfl rfl rfl rfl rfl rfl (show ng * 24 ≤ 281474976710656 by omega) rfl (fun ba => ?_))
    repeat (first|(first|refine q1 ?_|refine q2 ?_|refine q3 ?_|refine q4 tab rfl rfl ?_|refine q5 ?_|refine q6 ?_)|(refine qs rfl (ql tab 2 rfl rfl rfl rfl rfl rfl ?_)))
    refine TC.mtoks0 ng ?_
    refine TC.toks0 ng 1 ?_
    refine TC.perm perm_groups ?_
    have hdn := hgo
    refine TC.loopK (ι := GA) [1, 5, 7, 9, 10, 97] rfl (fun x => [(98, .int .i64 (x.k : Int))]) (fun x => x.m) (fun x => .cells bw 0 (x.ws.map mv) :: .cells ba 0 (x.ss.map Sl.v) :: .cells b 0 (hierC hh) :: (mtoks x.ws ++ (toks x.ss 1 ++ L)))
      (fun x => x.k ≤ p.n ∧ m5 ≤ x.m ∧ x.st = askAll g grp ng x.k ∧ x.ws.map mkeys = x.st.w ∧ (∀ y ∈ x.ws, mok y) ∧ OwnRows rInt x.m x.ss x.st.a) (fun x => p.n - x.k) ⟨0, List.replicate ng none, List.replicate ng ⟨none, 0, 0⟩, askAll g grp ng 0, m5⟩ (by repeat (first|exact trivial|refine And.intro rfl ?_)) rfl (List.Sublist.refl _)
      ⟨Nat.zero_le _, Mem.le_refl _, rfl, by simp [askAll, mkeys], fun y hy => by rw [List.eq_of_mem_replicate hy]; trivial, OwnRows.empty _ _ _⟩ ?_
    rintro ⟨k, ws, ss, sa, m6⟩ ⟨hk, hm6, hsa, hws, hmok, hrows⟩
    simp only at hk hm6 hsa hws hmok hrows ⊢
    have hAI := askAll_inv hgo hgl hlv k hk
    rw [← hsa] at hAI
    repeat (first|refine q1 ?_|refine q3 ?_|refine q4 tab rfl rfl ?_|refine q5 ?_|refine q6 ?_)
    refine TC.condP rfl (fun hlt3' => ?_) (fun hlt3' => ?_)
    · have hlt : k < p.n := by omega
      have hsuc := askAll_succ g grp ng k
      rw [← hsa] at hsuc
      have hAt6 := hAt5.mono hm6
      have htg6 := htg5.mono hm6
      have hgk := row_get (l := g) (k := k) (by omega)
      have hrm := row_mem (l := g) (k := k) (by omega)
      have hrn := hgo.len hrm
      have hrlt := hgo.lt _ hrm
      repeat (first|refine q1 ?_|refine q2 ?_|refine q3 ?_|refine q4 tab rfl rfl ?_|refine q5 ?_|refine q6 ?_|refine q13 ?_)
      (refine TO.step rfl (OT.loadA tab hAt6 rfl rfl rfl rfl rfl ?_))
      repeat (refine q4 tab rfl rfl ?_)
      refine TO.step rfl (OT.index tab rInts k htg6 rfl rfl rfl rfl rfl (by first | rfl | omega) rfl hgk ?_)
      rintro b1 i1 hd1 hrd1 hA1
      (refine TO.step rfl (OT.loadA0 tab hA1 rfl rfl rfl rfl rfl ?_))
      have hrl := hrd1.len
      generalize Go.Sep.row g k = rw0 at *
      repeat (first|refine q2 ?_|refine q4 tab rfl rfl ?_|refine q5 ?_|refine q6 ?_)
      refine TC.loopK (ι := GA) [1, 5, 7, 9, 10, 11, 97, 98, 107, 108] rfl (fun x => [(109, .int .i64 (x.k : Int))]) (fun x => x.m) (fun x => .cells bw 0 (x.ws.map mv) :: .cells ba 0 (x.ss.map Sl.v) :: .cells b 0 (hierC hh) :: (mtoks x.ws ++ (toks x.ss 1 ++ L)))
        (fun x => x.k ≤ rw0.length ∧ m6 ≤ x.m ∧ x.st = (rw0.take x.k).foldl (askStep grp k) sa ∧ (∃ E, AskI ng E x.st) ∧ x.ws.map mkeys = x.st.w ∧ (∀ y ∈ x.ws, mok y) ∧ OwnRows rInt x.m x.ss x.st.a) (fun x => rw0.length - x.k) ⟨0, ws, ss, sa, m6⟩ (by repeat (first|exact trivial|refine And.intro rfl ?_)) rfl (List.Sublist.refl _)
        ⟨Nat.zero_le _, Mem.le_refl _, rfl, ⟨_, hAI⟩, hws, hmok, hrows⟩ ?_
      clear hAI hws hmok hrows
      rintro ⟨j, ws, ss, sb, m7⟩ ⟨hj, hm7, hsb, ⟨E, hE⟩, hws, hmok, hrows⟩
      simp only at hj hm7 hsb hE hws hmok hrows ⊢
      repeat (first|refine q1 ?_|refine q3 ?_|refine q4 tab rfl rfl ?_|refine q5 ?_|refine q6 ?_)
      refine TC.condP rfl (fun hlj' => ?_) (fun hlj' => ?_)
      · have hlj : j < rw0.length := by omega
        have hxj : rw0[j]? = some rw0[j] := by simp [hlj]
        have hj1 := foldl_take (askStep grp k) sa rw0 hlj
        rw [← hsb] at hj1
        have ht := hrlt _ (List.getElem_mem hlj)
        generalize rw0[j] = tv at *
        have hE2 := hE.step hlv (f := k) (t := tv) hlt (by omega)
        have hAt7 := hAt6.mono hm7
        have hgrp7 := (hgrp5.mono hm6).mono hm7
        have hrd7 := hrd1.mono hm7
        have hva := hlv k hlt
        have hvb := hlv tv.toNat (by omega)
        have hga : grp[k]? = some (at0 grp k) := at0_get (by omega)
        have hgb : grp[tv.toNat]? = some (at0 grp tv.toNat) := at0_get (by omega)
        have hstep : askStep grp k sb tv = if at0 grp k = at0 grp tv.toNat then sb else if at0 grp tv.toNat ∈ row sb.w (at0 grp k).toNat then sb else ⟨pushAt sb.w (at0 grp k).toNat (at0 grp tv.toNat), pushAt sb.a (at0 grp tv.toNat).toNat (at0 grp k)⟩ := rfl
        generalize hgav : at0 grp k = ga at *
        generalize hgbv : at0 grp tv.toNat = gb at *
        repeat (first|refine q1 ?_|refine q2 ?_|refine q3 ?_|refine q6 ?_|refine q13 ?_)
        refine TO.step rfl (OT.index tab rInt j hrd7 rfl rfl rfl rfl rfl (by first | rfl | omega) rfl hxj ?_)
        rintro b2 i2 hd2 hrd2 hA2
        obtain rfl := (show hd2 = tv from hrd2)
        (refine TO.step rfl (OT.loadA0 tab hA2 rfl rfl rfl rfl rfl ?_))
        repeat (first|refine q1 ?_|refine q4 tab rfl rfl ?_|refine q5 ?_|refine q6 ?_)
        refine TC.draw0 [] mixed 16 rfl ?_
        refine DO.pure tab (by repeat (first|exact Calm.ret|refine Calm.then ?_|refine Calm.block ?_)) (by kernel_rfl) [0, 1, 2] (by kernel_rfl) rfl ?_
        (refine DO.loadA tab 3 hAt7 (by repeat (first|exact Calm.ret|refine Calm.then ?_|refine Calm.block ?_)) (by kernel_rfl) (by kernel_rfl) rfl rfl rfl rfl rfl rfl rfl ?_)
        refine DO.pure tab (by repeat (first|exact Calm.ret|refine Calm.then ?_|refine Calm.block ?_)) (by kernel_rfl) [4] (by kernel_rfl) rfl ?_
        refine DO.index tab rInt 5 k hgrp7 (by repeat (first|exact Calm.ret|refine Calm.then ?_|refine Calm.block ?_)) (by kernel_rfl) (by kernel_rfl) rfl rfl rfl rfl rfl rfl rfl (by first | rfl | omega) rfl hga ?_
        rintro b3 i3 hd3 hrd3 hA3; obtain rfl := (show hd3 = ga from hrd3)
        (refine DO.loadA (k := 0) tab 6 hA3 (by repeat (first|exact Calm.ret|refine Calm.then ?_|refine Calm.block ?_)) (by kernel_rfl) (by kernel_rfl) rfl rfl rfl rfl rfl rfl rfl ?_)
        refine DO.pure tab (by repeat (first|exact Calm.ret|refine Calm.then ?_|refine Calm.block ?_)) (by kernel_rfl) [7, 8, 9] (by kernel_rfl) rfl ?_
        (refine DO.loadA tab 10 hAt7 (by repeat (first|exact Calm.ret|refine Calm.then ?_|refine Calm.block ?_)) (by kernel_rfl) (by kernel_rfl) rfl rfl rfl rfl rfl rfl rfl ?_)
        refine DO.pure tab (by repeat (first|exact Calm.ret|refine Calm.then ?_|refine Calm.block ?_)) (by kernel_rfl) [11] (by kernel_rfl) rfl ?_
        refine DO.index tab rInt 12 hd2.toNat hgrp7 (by repeat (first|exact Calm.ret|refine Calm.then ?_|refine Calm.block ?_)) (by kernel_rfl) (by kernel_rfl) rfl rfl rfl rfl rfl rfl rfl (by first | rfl | omega) rfl hgb ?_
        rintro b4 i4 hd4 hrd4 hA4; obtain rfl := (show hd4 = gb from hrd4)
        (refine DO.loadA (k := 0) tab 13 hA4 (by repeat (first|exact Calm.ret|refine Calm.then ?_|refine Calm.block ?_)) (by kernel_rfl) (by kernel_rfl) rfl rfl rfl rfl rfl rfl rfl ?_)
        refine DO.pure tab (by repeat (first|exact Calm.ret|refine Calm.then ?_|refine Calm.block ?_)) (by kernel_rfl) [14, 15] (by kernel_rfl) rfl ?_
        (refine DO.nil0 (by kernel_rfl) ?_)
        rotate_left 1
        repeat (first|refine q1 ?_|refine q3 ?_|refine q4 tab rfl rfl ?_|refine q5 ?_|refine q6 ?_)
        refine TC.condP rfl (fun heq => ?_) (fun heq => ?_)
        · rw [if_pos heq] at hstep
          rw [hstep] at hj1 hE2
          repeat (first|refine q3 ?_|refine q6 ?_|refine q10 ?_|refine q11 ?_|refine q14 ?_)
          refine TO.step rfl (OT.arith (r' := ((j + 1 : Nat) : Int)) rfl rfl rfl rfl rfl rfl rfl (by omega) ?_)
          repeat (first|refine q4 tab rfl rfl ?_|refine q5 ?_|refine q6 ?_)
          exact ⟨⟨j + 1, ws, ss, sb, m7⟩, (by repeat (first|exact trivial|refine And.intro rfl ?_)), (by repeat (first|exact trivial|refine And.intro rfl ?_)), rfl, rfl, List.Sublist.refl _, ⟨by simp only; omega, hm7, hj1.symm, ⟨_, hE2⟩, hws, hmok, hrows⟩, by simp only; omega⟩
        · rw [if_neg heq] at hstep
          have hwsl : ws.length = ng := by
            have := congrArg List.length hws
            rw [List.length_map, hE.lw] at this; exact this
          have hwx : ws[hd3.toNat]? = some (ws[hd3.toNat]'(by omega)) := by simp [show hd3.toNat < ws.length by omega]
          generalize ws[hd3.toNat]'(by omega) = x at hwx
          repeat (first|refine q1 ?_|refine q3 ?_|refine q4 tab rfl rfl ?_|refine q6 ?_|refine q13 ?_)
          refine TO.step rfl (OT.indexP (sz := 1) tab hd3.toNat rfl rfl rfl rfl rfl (by omega) rfl (by omega) ?_)
          refine TO.step rfl (OT.loadM tab 0 mv hwx rfl rfl rfl rfl rfl rfl ?_)
          refine TO.step rfl (OT.nilMap tab x rfl rfl rfl rfl rfl rfl ?_)
          repeat (first|refine q5 ?_|refine q6 ?_)
          refine TC.cutT (ι := List MapH) [1, 5, 7, 9, 10, 11, 14, 15, 97, 98, 107, 108, 109] rfl (fun _ => []) (fun _ => m7) (fun ws => .cells bw 0 (ws.map mv) :: .cells ba 0 (ss.map Sl.v) :: .cells b 0 (hierC hh) :: (mtoks ws ++ (toks ss 1 ++ L)))
            (fun ws => ws.map mkeys = sb.w ∧ (∀ y ∈ ws, mok y) ∧ ∃ bx es c0, ws[hd3.toNat]? = some (some (bx, es, c0))) ?_ ?_
          · refine TC.condP rfl (fun hnil => ?_) (fun hnil => ?_)
            · subst hnil
              repeat (first|refine q3 ?_|refine q4 tab rfl rfl ?_)
              refine TO.step rfl (OT.makeMap kInt rfl rfl rfl (fun bx => ?_))
              refine TO.step rfl (OT.indexP (sz := 1) tab hd3.toNat rfl rfl rfl rfl rfl (by omega) rfl (by omega) ?_)
              refine TO.step rfl (OT.storeM tab 1 mv (some (bx, [], 0)) rfl rfl rfl rfl rfl rfl rfl (by omega) ?_)
              refine TO.perm (((List.Perm.swap _ _ _).trans ((List.Perm.swap _ _ _).cons _)).trans (((List.Perm.swap _ _ _).cons _).cons _)) ?_
              refine TO.perm (((((mtoks_out _ hwx).cons _).cons _).cons _).cons _) ?_
              refine TO.drop (L' := .cells bw 0 ((ws.set hd3.toNat (some (bx, [], 0))).map mv) :: .cells ba 0 (ss.map Sl.v) :: .cells b 0 (hierC hh) :: mitem (some (bx, [], 0)) :: (mtoks (ws.eraseIdx hd3.toNat) ++ (toks ss 1 ++ L))) (by repeat (first|exact List.Sublist.refl _|refine List.Sublist.cons_cons _ ?_|refine List.Sublist.cons _ ?_)) ?_
              refine TO.perm ((((mtoks_in _ (by omega)).cons _).cons _).cons _) ?_
              repeat (first|refine q5 ?_|refine q6 ?_)
              refine ⟨ws.set hd3.toNat (some (bx, [], 0)), (by repeat (exact trivial)), (by repeat (first|exact trivial|refine And.intro rfl ?_)), rfl, rfl, List.Sublist.refl _, ?_, fun y hy => ?_, bx, [], 0, by simp [show hd3.toNat < ws.length by omega]⟩
              · rw [List.map_set, ← hws]
                have h5 := map_get mkeys hwx
                exact set_selfV h5
              · rcases List.mem_or_eq_of_mem_set hy with hy | rfl
                · exact hmok y hy
                · intro e he; cases he
            · repeat (first|refine q6 ?_|refine q13 ?_)
              rcases x with _ | ⟨bx, es, c0⟩
              · exact absurd rfl hnil
              exact ⟨ws, (by repeat (exact trivial)), (by repeat (first|exact trivial|refine And.intro rfl ?_)), rfl, rfl, List.Sublist.refl _, hws, hmok, bx, es, c0, hwx⟩
          clear hws hmok hwx hwsl
          rintro ws ⟨hws, hmok, bx, es, c0, hwx⟩
          have hwsl : ws.length = ng := by
            have := congrArg List.length hws
            rw [List.length_map, hE.lw] at this; exact this
          have hrk : row sb.w hd3.toNat = es.map (·.1) := by rw [← hws]; exact row_mkeys hwx
          have hmk : ∀ e ∈ es, e.2.1 = Value.agg ⟨[]⟩ := hmok _ (List.mem_of_getElem? hwx)
          repeat (first|refine q1 ?_|refine q3 ?_|refine q4 tab rfl rfl ?_)
          refine TO.step rfl (OT.indexP (sz := 1) tab hd3.toNat rfl rfl rfl rfl rfl (by omega) rfl (by omega) ?_)
          refine TO.step rfl (OT.loadM tab 0 mv hwx rfl rfl rfl rfl rfl rfl ?_)
          repeat (refine q4 tab rfl rfl ?_)
          refine TO.step rfl (OT.lookupOk tab kInt (3 + hd3.toNat) hd4 rfl rfl rfl rfl rfl rfl rfl (at3 hwx) ?_)
          refine TO.conv (v' := .tuple ⟨[.agg ⟨[]⟩, .bool (mhas es hd4)]⟩) ?_ (congrArg (fun z => Value.tuple ⟨[z, .bool (mhas es hd4)]⟩) (mok_get hmk hd4))
          repeat (refine q4 tab rfl rfl ?_)
          refine TO.step rfl (OT.alloc tab rfl rfl rfl rfl (fun bz => ?_))
          (refine TO.step rfl (OT.storeL0 tab 0 rfl rfl rfl rfl rfl rfl rfl rfl ?_))
          refine TO.drop (List.sublist_cons_self _ _) ?_
          repeat (first|refine q1 ?_|refine q3 ?_|refine q4 tab rfl rfl ?_|refine q5 ?_|refine q6 ?_)
          refine TC.cond rfl (fun hm => ?_) (fun hm => ?_)
          · have hmf : mhas es hd4 = false := by simpa using hm
            have hnin : hd4 ∉ es.map (·.1) := by rw [mhas_keys] at hmf; simpa using hmf
            rw [if_neg (by rw [hrk]; exact hnin)] at hstep
            rw [hstep] at hj1 hE2
            repeat (first|refine q1 ?_|refine q3 ?_|refine q4 tab rfl rfl ?_)
            refine TO.step rfl (OT.indexP (sz := 1) tab hd3.toNat rfl rfl rfl rfl rfl (by omega) rfl (by omega) ?_)
            refine TO.step rfl (OT.loadM tab 0 mv hwx rfl rfl rfl rfl rfl rfl ?_)
            repeat (refine q4 tab rfl rfl ?_)
            refine TO.step rfl (OT.mapSet tab kInt (3 + hd3.toNat) hd4 rfl rfl rfl rfl rfl rfl (at3 hwx) ?_)
            rw [set3 (by omega)]
            have hmc : mclock es hd4 c0 = c0 + 1 := by simp [mclock, hmf]
            rw [hmc]
            have hwk : (ws.set hd3.toNat (some (bx, mset es hd4 (.agg ⟨[]⟩) c0, c0 + 1))).map mkeys = pushAt sb.w hd3.toNat hd4 := by
              rw [List.map_set, hws, pushAt, hrk]
              congr 1
              exact mset_keys _ _ hnin
            have hwm : ∀ y ∈ ws.set hd3.toNat (some (bx, mset es hd4 (.agg ⟨[]⟩) c0, c0 + 1)), mok y := fun y hy => by
              rcases List.mem_or_eq_of_mem_set hy with hy | rfl
              · exact hmok y hy
              · exact mok_set hmk hd4 c0 hmf
            have hwv : (ws.set hd3.toNat (some (bx, mset es hd4 (.agg ⟨[]⟩) c0, c0 + 1))).map mv = ws.map mv := by
              rw [List.map_set]
              have h5 := map_get mv hwx
              exact set_selfV h5
            rw [← hwv]
            generalize ws.set hd3.toNat (some (bx, mset es hd4 (.agg ⟨[]⟩) c0, c0 + 1)) = ws3 at hwk hwm hwv ⊢
            have hla := hE.la
            have hsl := All2.length hrows
            have hgi := row_get (l := sb.a) (k := hd4.toNat) (by omega)
            obtain ⟨sr, hsr, hro, hrr⟩ := All2.get hrows hgi
            have hrle := hE.oka.len (row_mem (l := sb.a) (k := hd4.toNat) (by omega))
            repeat (first|refine q3 ?_|refine q4 tab rfl rfl ?_|refine q5 ?_|refine q6 ?_)
            refine TO.perm (((toks_out2 L hsr).cons _).cons _ |>.cons _) ?_
            refine TO.step rfl (OT.indexP (sz := 1) tab hd4.toNat rfl rfl rfl rfl rfl (by omega) rfl (by omega) ?_)
            refine TO.step rfl (OT.loadM tab 1 Sl.v hsr rfl rfl rfl rfl rfl rfl ?_)
            repeat (refine q4 tab rfl rfl ?_)
            refine TO.step rfl (OT.lit tab rfl rfl rfl rfl (fun bl => ?_))
            refine TO.step rfl (OT.append1 tab rInt 3 (hd' := hd3) (a := hd3) hrr hro rfl rfl rfl rfl rfl rfl rfl rfl (by simp only [rInt]; omega) (fun t' m8 hm8 ht' ho' => ?_))
            refine TO.step rfl (OT.indexP (sz := 1) tab hd4.toNat rfl rfl rfl rfl rfl (by omega) rfl (by omega) ?_)
            refine TO.step rfl (OT.storeM tab 1 Sl.v t' rfl rfl rfl rfl rfl rfl rfl (by omega) ?_)
            refine TO.perm (((toks_in2 (size := 1) (s := t') L (show hd4.toNat < ss.length by omega)).cons _).cons _ |>.cons _) ?_
            repeat (first|refine q3 ?_|refine q5 ?_|refine q6 ?_|refine q7 ?_)
            refine TO.step rfl (OT.arith (r' := ((j + 1 : Nat) : Int)) rfl rfl rfl rfl rfl rfl rfl (by omega) ?_)
            repeat (first|refine q4 tab rfl rfl ?_|refine q5 ?_|refine q6 ?_)
            refine ⟨⟨j + 1, ws3, ss.set hd4.toNat t', ⟨pushAt sb.w hd3.toNat hd4, pushAt sb.a hd4.toNat hd3⟩, m8⟩, (by repeat (first|exact trivial|refine And.intro rfl ?_)), (by repeat (first|exact trivial|refine And.intro rfl ?_)), rfl, rfl, List.Sublist.refl _, ⟨by simp only; omega, Mem.le_trans hm7 hm8, hj1.symm, ⟨_, hE2⟩, hwk, hwm, ?_⟩, by simp only; omega⟩
            exact All2.set _ (hrows.mono hm8) ⟨ho', ht'⟩
          · have hmf : mhas es hd4 = true := by simpa using hm
            have hnin : hd4 ∈ es.map (·.1) := by rw [mhas_keys] at hmf; simpa using hmf
            rw [if_pos (by rw [hrk]; exact hnin)] at hstep
            rw [hstep] at hj1 hE2
            repeat (first|refine q3 ?_|refine q6 ?_|refine q7 ?_|refine q13 ?_)
            refine TO.step rfl (OT.arith (r' := ((j + 1 : Nat) : Int)) rfl rfl rfl rfl rfl rfl rfl (by omega) ?_)
            repeat (first|refine q4 tab rfl rfl ?_|refine q5 ?_|refine q6 ?_)
            exact ⟨⟨j + 1, ws, ss, sb, m7⟩, (by repeat (first|exact trivial|refine And.intro rfl ?_)), (by repeat (first|exact trivial|refine And.intro rfl ?_)), rfl, rfl, List.Sublist.refl _, ⟨by simp only; omega, hm7, hj1.symm, ⟨_, hE2⟩, hws, hmok, hrows⟩, by simp only; omega⟩
      · repeat (first|refine q3 ?_|refine q6 ?_|refine q7 ?_|refine q10 ?_|refine q11 ?_|refine q14 ?_)
        refine TO.step rfl (OT.arith (r' := ((k + 1 : Nat) : Int)) rfl rfl rfl rfl rfl rfl rfl (by omega) ?_)
        repeat (first|refine q4 tab rfl rfl ?_|refine q5 ?_|refine q6 ?_)
        rw [List.take_of_length_le (by omega)] at hsb
        exact ⟨⟨k + 1, ws, ss, sb, m7⟩, (by repeat (first|exact trivial|refine And.intro rfl ?_)), (by repeat (first|exact trivial|refine And.intro rfl ?_)), rfl, rfl, List.Sublist.refl _, ⟨by simp only; omega, Mem.le_trans hm6 hm7, by rw [hsb]; exact hsuc.symm, hws, hmok, hrows⟩, by simp only; omega⟩
    · have hkn : k = p.n := by omega
      subst hkn
      repeat (first|refine q1 ?_|refine q3 ?_|refine q4 tab rfl rfl ?_|refine q6 ?_|refine q10 ?_|refine q11 ?_|refine q14 ?_)
      refine TO.perm (List.Perm.swap _ _ _) ?_
      refine TO.freeze fun m7 hm7 hAa => ?_
      have hask : SlRep rInts m7 ⟨some ⟨ba, 0, none⟩, ng, ng⟩ sa.a := (hrows.mono hm7).whole hAa (by rw [hAI.la]) (by omega)
      refine TO.perm ((List.perm_middle.symm).cons _) ?_
      have hop : OP ng (ws.map mkeys) sa.a := by
        refine ⟨by rw [hws, hAI.lw], hAI.la, by rw [hws]; exact hAI.okw, hAI.oka, fun x y hx hy => ?_⟩
        rw [hws, hAI.ask _ _ hy, hAI.mem _ _ hx]
      have hrow : ∀ i : Nat, i < ng → row (membersM grp ng p.n) i = cls grp p.n i := membersM_row hlv p.n (Nat.le_refl _)
      have hmine : ∀ l ∈ membersM grp ng p.n, ∃ i : Nat, i < ng ∧ l = cls grp p.n i := fun l hl => by
        obtain ⟨i, hi⟩ := List.getElem?_of_mem hl
        have hin := (List.getElem?_eq_some_iff.1 hi).1
        rw [membersM_len] at hin
        refine ⟨i, hin, ?_⟩
        rw [← hrow i hin, Go.Sep.row, hi]; rfl
      have hne : ∀ l ∈ membersM grp ng p.n, l ≠ [] := fun l hl e => by
        obtain ⟨i, hi, rfl⟩ := hmine l hl
        obtain ⟨v, hv1, hv2⟩ := hG.sur i hi
        have : (v : Int) ∈ cls grp p.n i := cls_mem.2 ⟨v, hv1, hv2, rfl⟩
        rw [e] at this; cases this
      have hltm : ∀ l ∈ membersM grp ng p.n, ∀ x ∈ l, 0 ≤ x ∧ x < 4096 := fun l hl x hx => by
        obtain ⟨i, hi, rfl⟩ := hmine l hl
        obtain ⟨v, hv1, hv2, rfl⟩ := cls_mem.1 hx
        omega
      refine TO.step rfl (OT.call rfl rfl rfl rfl rfl rfl goes30 ((inOrder_own m7 (.cells b 0 (hierC hh) :: (toks ss 1 ++ L)) ⟨some ⟨bm, 0, none⟩, ng, ng⟩ ⟨some ⟨ba, 0, none⟩, ng, ng⟩ (membersM grp ng p.n) sa.a ng bw ws ((hmem.mono hm6).mono hm7) hask (membersM_len _ _ _) (by omega) hop hne hltm).x ?_));
      rintro _ m8 _ ⟨hm8, rfl, t, done, rfl, hst8, hout⟩
      repeat (first|refine q4 tab rfl rfl ?_|refine q5 ?_|refine q6 ?_|refine q15 ?_)
      have hle : m ≤ m8 := Mem.le_trans hm1 (Mem.le_trans hm2 (Mem.le_trans hm3 (Mem.le_trans hm35 (Mem.le_trans hm6 (Mem.le_trans hm7 hm8)))))
      refine retQ_ret rfl ?_ ⟨hle, rfl, t, _, by rw [hs0], hst8, ?_⟩
      · exact (List.sublist_append_right _ L).cons _
      · rw [GroupsOut, if_neg (by rw [hs0]; decide), hgraph, ← hpn]
        refine ⟨grp, ng, done, hG, ?_, rfl⟩
        rw [← hsa, ← hws]; exact hout
end Go.Sep

/-
  What Groups answers, in plain terms: all groups come, callees first, the one with the least member first; it is what the definition computes.
-/
set_option linter.unusedVariables false
set_option linter.unusedSimpArgs false
namespace Go.Sep

theorem edge_row {g : List (List Int)} {v w : Nat} (hv : v < g.length) : Edge g v w ↔ (w : Int) ∈ row g v := by
  constructor
  · rintro ⟨r, h1, h2⟩
    rw [row_get hv] at h1
    simp only [Option.some.injEq] at h1
    rw [h1]; exact h2
  · intro h
    exact ⟨_, row_get hv, h⟩

/-- the facts of an answer -/
structure GF (g : List (List Int)) (n : Nat) (grp : List Int) (ng : Nat) (done : List Int) : Prop where
  lt : ∀ v, v < n → 0 ≤ at0 grp v ∧ at0 grp v < ng
  sur : ∀ i : Nat, i < ng → ∃ v, v < n ∧ at0 grp v = i
  edge : ∀ v w, v < n → Edge g v w → w < n ∧ at0 grp w ≤ at0 grp v
  scc : ∀ u v, u < n → v < n → (at0 grp u = at0 grp v ↔ Path g u v ∧ Path g v u)
  nodup : done.Nodup
  rng : ∀ x ∈ done, 0 ≤ x ∧ x < (ng : Int)
  all : ∀ a : Nat, a < ng → (a : Int) ∈ done
  ahead : ∀ d1 x d2, done = d1 ++ x :: d2 → ∀ v w, v < n → at0 grp v = x → Edge g v w → at0 grp w = x ∨ at0 grp w ∈ d1
  least : ∀ d1 x d2, done = d1 ++ x :: d2 → ∀ a : Nat, a < ng → (a : Int) ∉ d1 → (∀ v w, v < n → at0 grp v = a → Edge g v w → at0 grp w = a ∨ at0 grp w ∈ d1) → ∀ v, v < n → at0 grp v = a → ∃ u, u < n ∧ at0 grp u = x ∧ u ≤ v

theorem cls_sorted (grp : List Int) (n : Nat) (i : Int) : (cls grp n i).Pairwise (· < ·) := by
  unfold cls
  rw [List.pairwise_map]
  refine List.Pairwise.imp ?_ (List.Pairwise.filter _ List.pairwise_lt_range)
  intro a b h; omega

theorem least_cls {grp : List Int} {n : Nat} {i : Int} {v : Nat} (hv : v < n) (h : at0 grp v = i) : at0 (cls grp n i) 0 ≤ v ∧ ∃ u : Nat, u < n ∧ at0 grp u = i ∧ at0 (cls grp n i) 0 = u := by
  have hm : (v : Int) ∈ cls grp n i := cls_mem.2 ⟨v, hv, h, rfl⟩
  have hs := cls_sorted grp n i
  have hall : ∀ x ∈ cls grp n i, ∃ u : Nat, u < n ∧ at0 grp u = i ∧ (u : Int) = x := fun x hx => cls_mem.1 hx
  cases hc : cls grp n i with
  | nil => rw [hc] at hm; cases hm
  | cons x xs =>
    rw [hc] at hm hs hall
    obtain ⟨u, u1, u2, u3⟩ := hall x (List.mem_cons_self ..)
    refine ⟨?_, u, u1, u2, by simp [at0, u3]⟩
    simp only [at0, List.getElem?_cons_zero, Option.getD_some]
    rcases List.mem_cons.1 hm with h1 | h1
    · omega
    · have := (List.pairwise_cons.1 hs).1 _ h1; omega

theorem groups_facts {g : List (List Int)} {n : Nat} (hg : RowsOk n g) (hgl : g.length = n) {gs : List (List Int)} (h : GroupsRes g n gs) :
    ∃ grp ng done, GF g n grp ng done ∧ gs = done.map (cls grp n) := by
  obtain ⟨grp, ng, done, hG, hO, hgs⟩ := h
  have hA := askAll_inv (k := n) hg hgl hG.lt (Nat.le_refl _)
  have hrow : ∀ i : Nat, i < ng → row (membersM grp ng n) i = cls grp n i := membersM_row hG.lt n (Nat.le_refl _)
  -- who waits for whom
  have hE : ∀ (a : Nat) (b : Int), a < ng → (b ∈ row (askAll g grp ng n).w a ↔ ∃ v w : Nat, v < n ∧ Edge g v w ∧ at0 grp v = a ∧ at0 grp w = b ∧ at0 grp v ≠ at0 grp w) := fun a b ha => by
    rw [hA.mem a b ha]
    constructor
    · rintro ⟨f, hf, t, ht, h1, h2, h3⟩
      have htl := hg.lt _ (row_mem (by omega)) t ht
      refine ⟨f, t.toNat, hf, (edge_row (by omega)).2 ?_, h2.symm, h3.symm, h1⟩
      rw [show ((t.toNat : Nat) : Int) = t by omega]; exact ht
    · rintro ⟨v, w, hv, he, h1, h2, h3⟩
      exact ⟨v, hv, (w : Int), (edge_row (by omega)).1 he, by simpa using h3, h1.symm, by simpa using h2.symm⟩
  have hwait : ∀ (a : Nat) (d1 : List Int), a < ng → ((∀ y ∈ row (askAll g grp ng n).w a, y ∈ d1) ↔ ∀ v w, v < n → at0 grp v = a → Edge g v w → at0 grp w = a ∨ at0 grp w ∈ d1) := fun a d1 ha => by
    constructor
    · intro hy v w hv hva he
      by_cases e : at0 grp w = a
      · exact .inl e
      · exact .inr (hy _ ((hE a _ ha).2 ⟨v, w, hv, he, hva, rfl, by rw [hva]; exact fun hh => e hh.symm⟩))
    · intro hy y hyw
      obtain ⟨v, w, hv, he, h1, h2, h3⟩ := (hE a y ha).1 hyw
      rcases hy v w hv h1 he with h4 | h4
      · exact absurd (h1.trans h4.symm) h3
      · rw [← h2]; exact h4
  have hall : ∀ a : Nat, a < ng → (a : Int) ∈ done := by
    intro a
    induction a using Nat.strongRecOn with
    | _ a ih =>
      intro ha
      refine hO.fin a ha fun y hy => ?_
      obtain ⟨v, w, hv, he, h1, h2, h3⟩ := (hE a y ha).1 hy
      obtain ⟨e1, e2⟩ := hG.edge v w hv he
      have hw := hG.lt w e1
      have : y = ((y.toNat : Nat) : Int) := by omega
      rw [this]
      exact ih y.toNat (by omega) (by omega)
  refine ⟨grp, ng, done, ⟨hG.lt, hG.sur, hG.edge, hG.scc, hO.nodup, hO.rng, hall, fun d1 x d2 e => ?_, fun d1 x d2 e a ha hn hw v hv hva => ?_⟩, ?_⟩
  · have hx := hO.rng x (by rw [e]; simp)
    have h1 := (hwait x.toNat d1 (by omega)).1 (hO.ord d1 x d2 e).1
    rw [show ((x.toNat : Nat) : Int) = x by omega] at h1
    exact h1
  · have hx := hO.rng x (by rw [e]; simp)
    have h1 := (hO.ord d1 x d2 e).2 a ha hn ((hwait a d1 ha).2 hw)
    have hxn : x.toNat < ng := by omega
    have e1 : leastAt (membersM grp ng n) x = at0 (cls grp n x) 0 := by
      have := hrow x.toNat hxn
      unfold leastAt
      rw [show (membersM grp ng n)[x.toNat]?.getD [] = row (membersM grp ng n) x.toNat from rfl, this, show ((x.toNat : Nat) : Int) = x by omega]
    have e2 : leastAt (membersM grp ng n) (a : Int) = at0 (cls grp n a) 0 := by
      have := hrow a ha
      unfold leastAt
      simp only [Int.toNat_natCast]
      rw [show (membersM grp ng n)[a]?.getD [] = row (membersM grp ng n) a from rfl, this]
    obtain ⟨u0, hu0, hu1⟩ := hG.sur x.toNat hxn
    rw [show ((x.toNat : Nat) : Int) = x by omega] at hu1
    obtain ⟨_, u, hu, hux, hul⟩ := least_cls hu0 hu1
    have h2 := (least_cls hv hva).1
    refine ⟨u, hu, hux, ?_⟩
    rw [e1, e2, hul] at h1
    omega
  · rw [hgs]
    refine List.map_congr_left fun i hi => ?_
    have hx := hO.rng i hi
    rw [hrow i.toNat (by omega), show ((i.toNat : Nat) : Int) = i by omega]

/-! ### the definition -/
def inB (out : List (List Int)) (f : Nat) : Bool := out.any fun r => r.contains (f : Int)
def readyB (n : Nat) (C : Nat → Nat → Bool) (dn : Nat → Bool) (f : Nat) : Bool := (List.range n).all fun g => !(C f g && !dn g && !decide (g = f) && !C g f)
def nextB (n : Nat) (C : Nat → Nat → Bool) (dn : Nat → Bool) : Option Nat := (List.range n).find? fun f => !dn f && readyB n C dn f
def clsB (n : Nat) (C : Nat → Nat → Bool) (f : Nat) : List Int := ((List.range n).filter fun g => decide (g = f) || (C f g && C g f)).map fun g : Nat => (g : Int)
def refG (n : Nat) (C : Nat → Nat → Bool) : Nat → List (List Int) → List (List Int)
  | 0, out => out
  | k + 1, out => match nextB n C (inB out) with
    | some f => refG n C k (out ++ [clsB n C f])
    | none => out

/-- by one call or more -/
def Path1 (g : List (List Int)) (a b : Nat) : Prop := ∃ c, Edge g a c ∧ Path g c b
theorem Path.cases1 {g : List (List Int)} {a b : Nat} (h : Path g a b) : a = b ∨ Path1 g a b := by
  induction h with
  | refl => exact .inl rfl
  | step h1 h2 ih =>
    rename_i j k
    rcases ih with e | ⟨c, h3, h4⟩
    · subst e; exact .inr ⟨k, h2, .refl⟩
    · exact .inr ⟨c, h3, .step h4 h2⟩
theorem Path1.path {g : List (List Int)} {a b : Nat} (h : Path1 g a b) : Path g a b := by
  obtain ⟨c, h1, h2⟩ := h
  exact (Path.one h1).trans h2

theorem find_range {n : Nat} {p : Nat → Bool} {f : Nat} (hf : f < n) (hp : p f = true) (hl : ∀ v, v < f → p v = false) : (List.range n).find? p = some f := by
  rw [List.find?_range_eq_some]
  exact ⟨hp, by simpa using hf, fun j hj => by simp [hl j hj]⟩

theorem inB_iff {grp : List Int} {n : Nat} {d : List Int} {v : Nat} (hv : v < n) : inB (d.map (cls grp n)) v = true ↔ at0 grp v ∈ d := by
  simp only [inB, List.any_eq_true, List.mem_map, List.contains_iff_mem]
  constructor
  · rintro ⟨_, ⟨i, hi, rfl⟩, h⟩
    obtain ⟨u, hu, h1, h2⟩ := cls_mem.1 h
    have : u = v := by omega
    subst this; rw [h1]; exact hi
  · intro h
    exact ⟨_, ⟨_, h, rfl⟩, cls_mem.2 ⟨v, hv, rfl, rfl⟩⟩

theorem groups_ref {g : List (List Int)} {n : Nat} (hg : RowsOk n g) (hgl : g.length = n) {gs : List (List Int)} (h : GroupsRes g n gs) {C : Nat → Nat → Bool} (hC : ∀ i j, i < n → j < n → (C i j = true ↔ Path1 g i j)) (k : Nat) (hk : gs.length ≤ k) : refG n C k [] = gs := by
  obtain ⟨grp, ng, done, hF, rfl⟩ := groups_facts hg hgl h
  have hpl : ∀ {a b : Nat}, Path g a b → a < n → b < n := fun h ha => by
    induction h with
    | refl => exact ha
    | step _ he ih => exact (hF.edge _ _ ih he).1
  have hcl : ∀ f, f < n → clsB n C f = cls grp n (at0 grp f) := fun f hf => by
    unfold clsB cls
    congr 1
    apply List.filter_congr
    intro v hv
    have hvn : v < n := by simpa using hv
    rw [Bool.eq_iff_iff]
    simp only [Bool.or_eq_true, decide_eq_true_eq, Bool.and_eq_true, hC f v hf hvn, hC v f hvn hf]
    rw [hF.scc v f hvn hf]
    constructor
    · rintro (e | ⟨h1, h2⟩)
      · subst e; exact ⟨.refl, .refl⟩
      · exact ⟨h2.path, h1.path⟩
    · rintro ⟨h1, h2⟩
      rcases h2.cases1 with e | h3
      · exact .inl e.symm
      · rcases h1.cases1 with e | h4
        · exact .inl e
        · exact .inr ⟨h3, h4⟩
  -- what is done is closed
  have hclosed : ∀ d1 d2, done = d1 ++ d2 → ∀ {a b : Nat}, Path g a b → a < n → at0 grp a ∈ d1 → at0 grp b ∈ d1 := fun d1 d2 e a b hp ha hd => by
    induction hp with
    | refl => exact hd
    | step hp he ih =>
      obtain ⟨e1, e2, e3⟩ := List.append_of_mem ih
      have hpn := hpl hp ha
      rcases hF.ahead e1 _ (e2 ++ d2) (by rw [e, e3]; simp) _ _ hpn rfl he with h1 | h1
      · rw [h1]; exact ih
      · rw [e3]; exact List.mem_append_left _ h1
  -- what is ready
  have hready : ∀ d1 d2, done = d1 ++ d2 → ∀ f, f < n → at0 grp f ∉ d1 → (readyB n C (inB (d1.map (cls grp n))) f = true ↔ ∀ v w, v < n → at0 grp v = at0 grp f → Edge g v w → at0 grp w = at0 grp f ∨ at0 grp w ∈ d1) := fun d1 d2 e f hf hfd => by
    simp only [readyB, List.all_eq_true, List.mem_range]
    constructor
    · intro hr v w hv hvf he
      obtain ⟨hwn, _⟩ := hF.edge v w hv he
      have hpf := ((hF.scc f v hf hv).1 hvf.symm).1
      have hpw : Path g f w := .step hpf he
      apply Classical.byContradiction
      intro hno
      simp only [not_or] at hno
      have h1 := hr w hwn
      have hwf : w ≠ f := fun e => hno.1 (by rw [e])
      have hc1 : C f w = true := (hC f w hf hwn).2 ((hpw.cases1).resolve_left (Ne.symm hwf))
      have hc2 : C w f = false := by
        cases hcc : C w f with
        | false => rfl
        | true => exact absurd ((hF.scc w f hwn hf).2 ⟨((hC w f hwn hf).1 hcc).path, hpw⟩) hno.1
      have hd : inB (d1.map (cls grp n)) w = false := by
        cases hcc : inB (d1.map (cls grp n)) w with
        | false => rfl
        | true => exact absurd ((inB_iff hwn).1 hcc) hno.2
      rw [hc1, hc2, hd] at h1
      simp [hwf] at h1
    · intro hr y hy
      have key : Path g f y → at0 grp y = at0 grp f ∨ at0 grp y ∈ d1 := fun hp => by
        induction hp with
        | refl => exact .inl rfl
        | step hp he ih =>
          have hpn := hpl hp hf
          rcases ih hpn with h1 | h1
          · exact hr _ _ hpn h1 he
          · exact .inr (hclosed d1 d2 e (Path.one he) hpn h1)
      cases hc : C f y with
      | false => simp
      | true =>
        have hp := ((hC f y hf hy).1 hc).path
        rcases key hp with h1 | h1
        · by_cases e : y = f
          · simp [e]
          · have hpy := ((hF.scc y f hy hf).1 h1).1
            have : C y f = true := (hC y f hy hf).2 (hpy.cases1.resolve_left e)
            simp [this]
        · have : inB (d1.map (cls grp n)) y = true := (inB_iff hy).2 h1
          simp [this]
  have hnone : nextB n C (inB (done.map (cls grp n))) = none := by
    unfold nextB
    rw [List.find?_eq_none]
    intro f hf
    have hfn : f < n := by simpa using hf
    have hlt := hF.lt f hfn
    have : inB (done.map (cls grp n)) f = true := (inB_iff hfn).2 (by
      have := hF.all (at0 grp f).toNat (by omega)
      rwa [show (((at0 grp f).toNat : Nat) : Int) = at0 grp f by omega] at this)
    simp [this]
  have hnext : ∀ d1 x d2, done = d1 ++ x :: d2 → ∃ f, nextB n C (inB (d1.map (cls grp n))) = some f ∧ clsB n C f = cls grp n x := fun d1 x d2 e => by
    have hx := hF.rng x (by rw [e]; simp)
    obtain ⟨u0, hu0, hu1⟩ := hF.sur x.toNat (by omega)
    rw [show ((x.toNat : Nat) : Int) = x by omega] at hu1
    obtain ⟨_, u, hu, hux, hul⟩ := least_cls hu0 hu1
    have hxd : x ∉ d1 := fun hh => by
      have := hF.nodup
      rw [e] at this
      exact (List.nodup_append.1 this).2.2 x hh x (List.mem_cons_self ..) rfl
    refine ⟨u, find_range hu ?_ fun v hv => ?_, by rw [hcl u hu, hux]⟩
    · have h1 : inB (d1.map (cls grp n)) u = false := by
        cases hcc : inB (d1.map (cls grp n)) u with
        | false => rfl
        | true => exact absurd (hux ▸ (inB_iff hu).1 hcc) hxd
      have h2 := (hready d1 (x :: d2) e u hu (by rw [hux]; exact hxd)).2 (by rw [hux]; exact hF.ahead d1 x d2 e)
      simp [h1, h2]
    · have hvn : v < n := by omega
      cases hcc : inB (d1.map (cls grp n)) v with
      | true => simp
      | false =>
        have hvd : at0 grp v ∉ d1 := fun hh => by
          have := (inB_iff hvn).2 hh
          rw [hcc] at this; cases this
        cases hrr : readyB n C (inB (d1.map (cls grp n))) v with
        | false => simp
        | true =>
          have h1 := (hready d1 (x :: d2) e v hvn hvd).1 hrr
          have hlt := hF.lt v hvn
          have hav : (((at0 grp v).toNat : Nat) : Int) = at0 grp v := by omega
          obtain ⟨u', hq1, hq2, hq3⟩ := hF.least d1 x d2 e (at0 grp v).toNat (by omega) (by rw [hav]; exact hvd) (by rw [hav]; exact h1) v hvn hav.symm
          have := (least_cls hq1 hq2).1
          omega
  have main : ∀ d2 d1, done = d1 ++ d2 → ∀ k, d2.length ≤ k → refG n C k (d1.map (cls grp n)) = done.map (cls grp n) := by
    intro d2
    induction d2 with
    | nil =>
      intro d1 e k _
      simp only [List.append_nil] at e
      subst e
      cases k with
      | zero => rfl
      | succ k => rw [refG, hnone]
    | cons x d2 ih =>
      intro d1 e k hk
      cases k with
      | zero => simp at hk
      | succ k =>
        obtain ⟨f, h1, h2⟩ := hnext d1 x d2 e
        rw [refG, h1]
        simp only
        rw [h2]
        have := ih (d1 ++ [x]) (by rw [e]; simp) k (by simpa using hk)
        simpa using this
  have := main done [] rfl k (by simpa using hk)
  simpa using this

/-- two answers are one -/
theorem groups_same {g : List (List Int)} {n : Nat} (hg : RowsOk n g) (hgl : g.length = n) {a b : List (List Int)} (ha : GroupsRes g n a) (hb : GroupsRes g n b) : a = b := by
  classical
  have hC : ∀ i j, i < n → j < n → ((decide (Path1 g i j)) = true ↔ Path1 g i j) := fun i j _ _ => by simp
  exact (groups_ref hg hgl ha hC (a.length + b.length) (by omega)).symm.trans (groups_ref hg hgl hb hC (a.length + b.length) (by omega))
end Go.Sep

/-
  Plain laws of layer 13: what Devirt keeps; who calls whom in the graph; where each function's group stands.
-/
set_option linter.unusedVariables false
set_option linter.unusedSimpArgs false
namespace Go.Sep

/-! ### Devirt -/
theorem row_addTo {g : List (List Int)} {i j : Nat} {t x : Int} : x ∈ row (addTo g i t) j ↔ x ∈ row g j ∨ (i = j ∧ x = t ∧ i < g.length) := by
  unfold addTo
  by_cases hm : t ∈ g[i]?.getD []
  · rw [if_pos hm]
    constructor
    · exact .inl
    · rintro (h | ⟨rfl, rfl, _⟩)
      · exact h
      · exact hm
  · rw [if_neg hm, row_set]
    split
    · rename_i h
      obtain ⟨rfl, h⟩ := h
      rw [List.mem_append, List.mem_singleton]
      constructor
      · rintro (h1 | h1)
        · exact .inl h1
        · exact .inr ⟨rfl, h1, h⟩
      · rintro (h1 | h1)
        · exact .inl h1
        · exact .inr h1.2.1
    · rename_i h
      constructor
      · exact .inl
      · rintro (h1 | ⟨h1, _, h2⟩)
        · exact h1
        · exact absurd ⟨h1, h2⟩ h
theorem row_fold {i j : Nat} {x : Int} : ∀ (l : List Int) (g : List (List Int)), x ∈ row (l.foldl (fun g t => addTo g i t) g) j ↔ x ∈ row g j ∨ (i = j ∧ x ∈ l ∧ i < g.length)
  | [], g => by simp
  | t :: l, g => by
    rw [List.foldl_cons, row_fold l, row_addTo, addTo_len, List.mem_cons]
    constructor
    · rintro ((h | ⟨h1, h2, h3⟩) | ⟨h1, h2, h3⟩)
      · exact .inl h
      · exact .inr ⟨h1, .inl h2, h3⟩
      · exact .inr ⟨h1, .inr h2, h3⟩
    · rintro (h | ⟨h1, h2 | h2, h3⟩)
      · exact .inl (.inl h)
      · exact .inl (.inr ⟨h1, h2, h3⟩)
      · exact .inr ⟨h1, h2, h3⟩
theorem siteG_len (h : Hier) (g : List (List Int)) (s : Site) : (siteG h g s).length = g.length := by
  unfold siteG
  generalize targetsM h s = l
  induction l generalizing g with
  | nil => rfl
  | cons t l ih => rw [List.foldl_cons, ih, addTo_len]
theorem row_sites {h : Hier} {j : Nat} {x : Int} : ∀ (l : List Site) (g : List (List Int)), x ∈ row (l.foldl (siteG h) g) j ↔ x ∈ row g j ∨ ∃ s ∈ l, s.frm.toNat = j ∧ x ∈ targetsM h s ∧ j < g.length
  | [], g => by simp
  | s :: l, g => by
    rw [List.foldl_cons, row_sites l, siteG_len]
    unfold siteG
    rw [row_fold]
    simp only [List.mem_cons, exists_eq_or_imp]
    constructor
    · rintro ((h1 | ⟨rfl, h2, h3⟩) | h1)
      · exact .inl h1
      · exact .inr (.inl ⟨rfl, h2, h3⟩)
      · exact .inr (.inr h1)
    · rintro (h1 | ⟨rfl, h2, h3⟩ | h1)
      · exact .inl (.inl h1)
      · exact .inl (.inr ⟨rfl, h2, h3⟩)
      · exact .inr h1
theorem graph_edge {h : Hier} (hg : Good h) {v w : Nat} : Edge (graphM h) v w ↔ ∃ s ∈ h.sites, s.frm = v ∧ (w : Int) ∈ targetsM h s := by
  obtain ⟨h1, h2⟩ := graphM_ok hg
  constructor
  · intro he
    have hv : v < (graphM h).length := by
      obtain ⟨r, hr, _⟩ := he
      exact (List.getElem?_eq_some_iff.1 hr).1
    have := (edge_row hv).1 he
    rw [graphM, row_sites, row_empty] at this
    rcases this with h3 | ⟨s, hs, hf, ht, _⟩
    · cases h3
    · have := (hg.sites s hs).frm
      exact ⟨s, hs, by omega, ht⟩
  · rintro ⟨s, hs, hf, ht⟩
    have hfr := (hg.sites s hs).frm
    have hv : v < (graphM h).length := by omega
    refine (edge_row hv).2 ?_
    rw [graphM, row_sites]
    refine .inr ⟨s, hs, by omega, ht, by simp; omega⟩

end Go.Sep

/-
  Inlining, plainly: which sites, in which order.
-/
set_option linter.unusedVariables false
set_option linter.unusedSimpArgs false
namespace Go.Sep

structure PSt where
  after : List Int
  growth : Int
  out : List Int

section
variable (sites : List Site) (again : Int → Bool) (budget most : Int)
def siteD (i : Nat) : Site := sites[i]?.getD ⟨0, 0, 0, []⟩
def toN (i : Nat) : Nat := (siteD sites i).to.toNat
def frN (i : Nat) : Nat := (siteD sites i).frm.toNat
/-- may site i be inlined? -/
def okP (st : PSt) (i : Nat) : Bool := !(again (siteD sites i).to || (decide ((siteD sites i).frm = (siteD sites i).to) || (decide (budget < st.growth + (at0 st.after (toN sites i) - 1)) || decide (most < at0 st.after (frN sites i) + (at0 st.after (toN sites i) - 1)))))
def actP (st : PSt) (i : Nat) : PSt :=
  if okP sites again budget most st i = true then ⟨st.after.set (frN sites i) (at0 st.after (frN sites i) + (at0 st.after (toN sites i) - 1)), st.growth + (at0 st.after (toN sites i) - 1), st.out ++ [(i : Int)]⟩ else st
/-- the key of a site: the size of what it calls, then its number -/
def keyLt (a : Int) (i : Nat) (b : Int) (j : Nat) : Bool := decide (a < b) || (decide (a = b) && decide (i < j))
def IsBest (st : PSt) (W : List Nat) (b : Nat) : Prop := b ∈ W ∧ ∀ w ∈ W, w ≠ b → keyLt (at0 st.after (toN sites b)) b (at0 st.after (toN sites w)) w = true
inductive PlanR : List Nat → PSt → PSt → Prop
  | done (st : PSt) : PlanR [] st st
  | step {W : List Nat} {st st' : PSt} {b : Nat} (h : IsBest sites st W b) (k : PlanR (W.erase b) (actP sites again budget most st b) st') : PlanR W st st'

variable {sites again budget most}
theorem keyLt_asym {a b : Int} {i j : Nat} (h : keyLt a i b j = true) : keyLt b j a i = false := by
  unfold keyLt at h ⊢
  simp only [Bool.or_eq_true, Bool.and_eq_true, decide_eq_true_eq] at h
  simp only [Bool.or_eq_false_iff, Bool.and_eq_false_iff, decide_eq_false_iff_not]
  omega
theorem IsBest.unique {st : PSt} {W : List Nat} {b c : Nat} (h : IsBest sites st W b) (k : IsBest sites st W c) : b = c := by
  by_cases e : b = c
  · exact e
  · have h1 := h.2 c k.1 (Ne.symm e)
    have h2 := k.2 b h.1 e
    rw [keyLt_asym h1] at h2
    cases h2
theorem IsBest.perm {st : PSt} {W V : List Nat} {b : Nat} (h : IsBest sites st W b) (p : W.Perm V) : IsBest sites st V b := ⟨p.mem_iff.1 h.1, fun w hw => h.2 w (p.mem_iff.2 hw)⟩
theorem PlanR.det {W : List Nat} {st a : PSt} (h : PlanR sites again budget most W st a) : ∀ {V : List Nat} {b : PSt}, W.Perm V → PlanR sites again budget most V st b → a = b := by
  induction h with
  | done st =>
    intro V b p k
    have : V = [] := List.nil_perm.1 p
    subst this
    cases k with
    | done => rfl
    | step h' _ => exact absurd h'.1 (List.not_mem_nil)
  | step hb hk ih =>
    intro V b' p k
    cases k with
    | done =>
      have := List.perm_nil.1 p
      subst this
      exact absurd hb.1 (List.not_mem_nil)
    | step hb' hk' =>
      have := (hb.perm p).unique hb'
      subst this
      exact ih (p.erase _) hk'
theorem PlanR.perm {W : List Nat} {st a : PSt} (h : PlanR sites again budget most W st a) : ∀ {V : List Nat}, W.Perm V → PlanR sites again budget most V st a := by
  induction h with
  | done st =>
    intro V p
    have : V = [] := List.nil_perm.1 p
    subst this
    exact .done st
  | step hb hk ih => intro V p; exact .step (hb.perm p) (ih (p.erase _))

/-- sizes grow alone -/
def GrowI (sizes : List Int) (st : PSt) : Prop := st.after.length = sizes.length ∧ ∀ i, i < sizes.length → 1 ≤ at0 sizes i ∧ at0 sizes i ≤ at0 st.after i
theorem act_out (st : PSt) (i : Nat) : okP sites again budget most st i = false → actP sites again budget most st i = st := fun h => by
  unfold actP
  rw [if_neg (by rw [h]; decide)]
theorem act_in (st : PSt) (i : Nat) : okP sites again budget most st i = true → actP sites again budget most st i = ⟨st.after.set (frN sites i) (at0 st.after (frN sites i) + (at0 st.after (toN sites i) - 1)), st.growth + (at0 st.after (toN sites i) - 1), st.out ++ [(i : Int)]⟩ := fun h => by
  unfold actP
  rw [if_pos h]
theorem GrowI.act {sizes : List Int} {st : PSt} (h : GrowI sizes st) {i : Nat} (hf : frN sites i < sizes.length) (ht : toN sites i < sizes.length) : GrowI sizes (actP sites again budget most st i) ∧ ∀ k, k < sizes.length → at0 st.after k ≤ at0 (actP sites again budget most st i).after k := by
  cases ho : okP sites again budget most st i with
  | false => rw [act_out st i ho]; exact ⟨h, fun _ _ => Int.le_refl _⟩
  | true =>
    rw [act_in st i ho]
    have h1 := h.2 _ ht
    have hle : ∀ k, k < sizes.length → at0 st.after k ≤ at0 (st.after.set (frN sites i) (at0 st.after (frN sites i) + (at0 st.after (toN sites i) - 1))) k := fun k hk => by
      rw [at0_set]
      split
      · rename_i e; rw [← e.1]; omega
      · exact Int.le_refl _
    refine ⟨⟨by simp [h.1], fun k hk => ?_⟩, hle⟩
    have h2 := h.2 k hk
    have := hle k hk
    exact ⟨h2.1, by simp only; omega⟩
end
end Go.Sep

/-
  Which functions come to themselves, plainly.
-/
set_option linter.unusedVariables false
set_option linter.unusedSimpArgs false
namespace Go.Sep
/-- the groups ahead of k, and the first j of group k, are entered -/
structure Rec1 (n : Nat) (gs : List (List Int)) (k j : Nat) (rb : List Bool) : Prop where
  len : rb.length = n
  a : ∀ (v : Nat) (g : List Int), v < n → g ∈ gs.take k → (v : Int) ∈ g → rb[v]? = some (decide (1 < g.length))
  b : ∀ (v : Nat) (g : List Int), v < n → gs[k]? = some g → (v : Int) ∈ g.take j → rb[v]? = some (decide (1 < g.length))
theorem Rec1.start (n : Nat) (gs : List (List Int)) : Rec1 n gs 0 0 (List.replicate n false) := ⟨by simp, fun v g _ h _ => by simp at h, fun v g _ _ h => by simp at h⟩
theorem Rec1.step {n : Nat} {gs : List (List Int)} {k j : Nat} {rb : List Bool} (h : Rec1 n gs k j rb) (U : ∀ g ∈ gs, ∀ g' ∈ gs, ∀ x, x ∈ g → x ∈ g' → g = g') {g : List Int} {f : Int} (hg : gs[k]? = some g) (hf : g[j]? = some f) (h0 : 0 ≤ f ∧ f < (n : Int)) : Rec1 n gs k (j + 1) (rb.set f.toNat (decide (1 < g.length))) := by
  have hgm : g ∈ gs := List.mem_of_getElem? hg
  have hfm : f ∈ g := List.mem_of_getElem? hf
  refine ⟨by rw [List.length_set]; exact h.len, fun v g' hv hg' hx => ?_, fun v g' hv hg' hx => ?_⟩
  · rw [List.getElem?_set]
    by_cases e : f.toNat = v
    · rw [if_pos e, if_pos (by rw [h.len]; omega)]
      have : g = g' := U g hgm g' (List.mem_of_mem_take hg') v (by rw [show (v : Int) = f by omega]; exact hfm) hx
      rw [this]
    · rw [if_neg e]; exact h.a v g' hv hg' hx
  · rw [hg] at hg'
    simp only [Option.some.injEq] at hg'
    subst hg'
    rw [List.getElem?_set]
    by_cases e : f.toNat = v
    · rw [if_pos e, if_pos (by rw [h.len]; omega)]
    · rw [if_neg e]
      refine h.b v g hv hg ?_
      rw [List.take_add_one, hf] at hx
      rcases List.mem_append.1 hx with hx | hx
      · exact hx
      · simp at hx; omega
theorem Rec1.next {n : Nat} {gs : List (List Int)} {k : Nat} {rb : List Bool} {g : List Int} (hg : gs[k]? = some g) (h : Rec1 n gs k g.length rb) : Rec1 n gs (k + 1) 0 rb := by
  refine ⟨h.len, fun v g' hv hg' hx => ?_, fun v g' _ _ hx => by simp at hx⟩
  rw [List.take_add_one, hg] at hg'
  rcases List.mem_append.1 hg' with hg' | hg'
  · exact h.a v g' hv hg' hx
  · simp at hg'
    subst hg'
    exact h.b v g' hv hg (by rw [List.take_length]; exact hx)
theorem cls_two {grp : List Int} {n : Nat} {i : Int} {v : Nat} (hv : v < n) (h : at0 grp v = i) : 1 < (cls grp n i).length ↔ ∃ w, w < n ∧ w ≠ v ∧ at0 grp w = i := by
  have hm : (v : Int) ∈ cls grp n i := cls_mem.2 ⟨v, hv, h, rfl⟩
  have hs := cls_sorted grp n i
  constructor
  · intro hl
    have h0 : (cls grp n i)[0]? = some ((cls grp n i)[0]) := by simp
    have h1 : (cls grp n i)[1]? = some ((cls grp n i)[1]) := by simp
    have hlt : (cls grp n i)[0] < (cls grp n i)[1] := List.pairwise_iff_getElem.1 hs 0 1 _ _ (by omega)
    obtain ⟨a, a1, a2, a3⟩ := cls_mem.1 (List.mem_of_getElem? h0)
    obtain ⟨b, b1, b2, b3⟩ := cls_mem.1 (List.mem_of_getElem? h1)
    by_cases e : a = v
    · exact ⟨b, b1, by omega, b2⟩
    · exact ⟨a, a1, e, a2⟩
  · rintro ⟨w, h1, h2, h3⟩
    have hw : (w : Int) ∈ cls grp n i := cls_mem.2 ⟨w, h1, h3, rfl⟩
    cases hc : cls grp n i with
    | nil => rw [hc] at hm; cases hm
    | cons x xs =>
      cases xs with
      | nil =>
        rw [hc] at hm hw
        simp at hm hw
        omega
      | cons y ys => simp
theorem groups_uni {g : List (List Int)} {n : Nat} (hg : RowsOk n g) (hgl : g.length = n) {gs : List (List Int)} (h : GroupsRes g n gs) :
    (∀ a ∈ gs, ∀ b ∈ gs, ∀ x, x ∈ a → x ∈ b → a = b) ∧ (∀ a ∈ gs, ∀ x ∈ a, 0 ≤ x ∧ x < (n : Int)) ∧ (∀ v, v < n → ∃ a ∈ gs, (v : Int) ∈ a ∧ (1 < a.length ↔ ∃ w, w < n ∧ w ≠ v ∧ Path g v w ∧ Path g w v)) := by
  obtain ⟨grp, ng, done, hF, rfl⟩ := groups_facts hg hgl h
  refine ⟨fun a ha b hb x hxa hxb => ?_, fun a ha x hx => ?_, fun v hv => ?_⟩
  · obtain ⟨i, _, rfl⟩ := List.mem_map.1 ha
    obtain ⟨j, _, rfl⟩ := List.mem_map.1 hb
    obtain ⟨u, u1, u2, u3⟩ := cls_mem.1 hxa
    obtain ⟨w, w1, w2, w3⟩ := cls_mem.1 hxb
    have : u = w := by omega
    subst this
    rw [← u2, ← w2]
  · obtain ⟨i, _, rfl⟩ := List.mem_map.1 ha
    obtain ⟨u, u1, u2, u3⟩ := cls_mem.1 hx
    omega
  · obtain ⟨l1, l2⟩ := hF.lt v hv
    have hin : at0 grp v ∈ done := by
      have := hF.all (at0 grp v).toNat (by omega)
      rw [show (((at0 grp v).toNat : Nat) : Int) = at0 grp v by omega] at this
      exact this
    refine ⟨cls grp n (at0 grp v), List.mem_map.2 ⟨_, hin, rfl⟩, cls_mem.2 ⟨v, hv, rfl, rfl⟩, ?_⟩
    rw [cls_two hv rfl]
    constructor
    · rintro ⟨w, h1, h2, h3⟩
      exact ⟨w, h1, h2, (hF.scc v w hv h1).1 h3.symm⟩
    · rintro ⟨w, h1, h2, h3⟩
      exact ⟨w, h1, h2, ((hF.scc v w hv h1).2 h3).symm⟩
/-- the sites ahead of i, and the first j targets of site i, are looked at -/
structure Rec2 (h : Hier) (n : Nat) (base : Nat → Prop) (i j : Nat) (rb : List Bool) : Prop where
  len : rb.length = n
  iff : ∀ v, v < n → (rb[v]? = some true ↔ base v ∨ (∃ s ∈ h.sites.take i, s.frm = (v : Int) ∧ (v : Int) ∈ targetsM h s) ∨ (∃ s, h.sites[i]? = some s ∧ s.frm = (v : Int) ∧ (v : Int) ∈ (targetsM h s).take j))
theorem Rec2.start {h : Hier} {n : Nat} {gs : List (List Int)} {rb : List Bool} (h1 : Rec1 n gs gs.length 0 rb) (base : Nat → Prop) (hb : ∀ v, v < n → ∃ a ∈ gs, (v : Int) ∈ a ∧ (1 < a.length ↔ base v)) : Rec2 h n base 0 0 rb := by
  refine ⟨h1.len, fun v hv => ?_⟩
  obtain ⟨a, h2, h3, h4⟩ := hb v hv
  rw [h1.a v a hv (by rw [List.take_length]; exact h2) h3]
  simp [← h4]
theorem Rec2.step {h : Hier} {n : Nat} {base : Nat → Prop} {i j : Nat} {rb : List Bool} (H : Rec2 h n base i j rb) {s : Site} {f : Int} (hs : h.sites[i]? = some s) (hf : (targetsM h s)[j]? = some f) (h0 : 0 ≤ f ∧ f < (n : Int)) (he : f = s.frm) : Rec2 h n base i (j + 1) (rb.set f.toNat true) := by
  refine ⟨by rw [List.length_set]; exact H.len, fun v hv => ?_⟩
  rw [List.getElem?_set]
  by_cases e : f.toNat = v
  · rw [if_pos e, if_pos (by rw [H.len]; omega)]
    simp only [true_iff]
    refine .inr (.inr ⟨s, hs, by omega, ?_⟩)
    rw [List.take_add_one, hf]
    exact List.mem_append.2 (.inr (by simp; omega))
  · rw [if_neg e, H.iff v hv]
    refine or_congr Iff.rfl (or_congr Iff.rfl ?_)
    constructor
    · rintro ⟨s', h1, h2, h3⟩
      refine ⟨s', h1, h2, ?_⟩
      rw [List.take_add_one]
      exact List.mem_append_left _ h3
    · rintro ⟨s', h1, h2, h3⟩
      rw [hs] at h1
      simp only [Option.some.injEq] at h1
      subst h1
      rw [List.take_add_one, hf] at h3
      rcases List.mem_append.1 h3 with h3 | h3
      · exact ⟨s, hs, h2, h3⟩
      · simp at h3; omega
theorem Rec2.skip {h : Hier} {n : Nat} {base : Nat → Prop} {i j : Nat} {rb : List Bool} (H : Rec2 h n base i j rb) {s : Site} {f : Int} (hs : h.sites[i]? = some s) (hf : (targetsM h s)[j]? = some f) (he : ¬ f = s.frm) : Rec2 h n base i (j + 1) rb := by
  refine ⟨H.len, fun v hv => ?_⟩
  rw [H.iff v hv]
  refine or_congr Iff.rfl (or_congr Iff.rfl ?_)
  constructor
  · rintro ⟨s', h1, h2, h3⟩
    refine ⟨s', h1, h2, ?_⟩
    rw [List.take_add_one]
    exact List.mem_append_left _ h3
  · rintro ⟨s', h1, h2, h3⟩
    rw [hs] at h1
    simp only [Option.some.injEq] at h1
    subst h1
    rw [List.take_add_one, hf] at h3
    rcases List.mem_append.1 h3 with h3 | h3
    · exact ⟨s, hs, h2, h3⟩
    · simp at h3; omega
theorem Rec2.next {h : Hier} {n : Nat} {base : Nat → Prop} {i j : Nat} {rb : List Bool} (H : Rec2 h n base i j rb) {s : Site} (hs : h.sites[i]? = some s) (hj : (targetsM h s).length ≤ j) : Rec2 h n base (i + 1) 0 rb := by
  refine ⟨H.len, fun v hv => ?_⟩
  rw [H.iff v hv]
  refine or_congr Iff.rfl ?_
  constructor
  · rintro (⟨s', h1, h2, h3⟩ | ⟨s', h1, h2, h3⟩)
    · refine .inl ⟨s', ?_, h2, h3⟩
      rw [List.take_add_one]
      exact List.mem_append_left _ h1
    · refine .inl ⟨s', ?_, h2, List.mem_of_mem_take h3⟩
      rw [List.take_add_one, h1]
      exact List.mem_append.2 (.inr (by simp))
  · rintro (⟨s', h1, h2, h3⟩ | ⟨s', h1, h2, h3⟩)
    · rw [List.take_add_one, hs] at h1
      rcases List.mem_append.1 h1 with h1 | h1
      · exact .inl ⟨s', h1, h2, h3⟩
      · simp at h1
        subst h1
        exact .inr ⟨s', hs, h2, by rw [List.take_of_length_le hj]; exact h3⟩
    · simp at h3
theorem Path.trans' {g : List (List Int)} {a b c : Nat} (h : Path g a b) (k : Path g b c) : Path g a c := by
  induction k with
  | refl => exact h
  | step _ h2 ih => exact .step ih h2
theorem rec_out {h : Hier} (hg : Good h) {rb : List Bool} (H : Rec2 h h.funcs.toNat (fun v => ∃ w, w < h.funcs.toNat ∧ w ≠ v ∧ Path (graphM h) v w ∧ Path (graphM h) w v) h.sites.length 0 rb) : ∀ v, v < h.funcs.toNat → (rb[v]? = some true ↔ Path1 (graphM h) v v) := by
  intro v hv
  obtain ⟨g1, g2⟩ := graphM_ok hg
  have hlt : ∀ {a b : Nat}, Edge (graphM h) a b → b < h.funcs.toNat := fun {a b} he => by
    obtain ⟨r, hr, hb⟩ := he
    obtain ⟨s, hs, _, ht⟩ := (graph_edge hg).1 ⟨r, hr, hb⟩
    have := targets_lt hg (hg.sites s hs) _ ht
    omega
  rw [H.iff v hv]
  constructor
  · rintro (⟨w, h1, h2, h3, h4⟩ | ⟨s, h1, h2, h3⟩ | ⟨s, _, _, h3⟩)
    · rcases h3.cases1 with e | ⟨c, e1, e2⟩
      · exact absurd e.symm h2
      · exact ⟨c, e1, e2.trans' h4⟩
    · rw [List.take_length] at h1
      exact ⟨v, (graph_edge hg).2 ⟨s, h1, h2, h3⟩, .refl⟩
    · simp at h3
  · rintro ⟨c, e1, e2⟩
    by_cases hc : c = v
    · subst hc
      obtain ⟨s, h1, h2, h3⟩ := (graph_edge hg).1 e1
      exact .inr (.inl ⟨s, by rw [List.take_length]; exact h1, h2, h3⟩)
    · exact .inl ⟨c, hlt e1, hc, .step .refl e1, e2⟩
end Go.Sep

/-
  Heaps in a row, plainly.
-/
set_option linter.unusedVariables false
set_option linter.unusedSimpArgs false
set_option linter.unusedSectionVars false
namespace Go.Sep
section
variable {α : Type} [Inhabited α]
/-- an element, or any -/
def gk (xs : List α) (k : Nat) : α := xs[k]?.getD default
/-- two elements change places -/
def sw (xs : List α) (i j : Nat) : List α := (xs.set i (gk xs j)).set j (gk xs i)
theorem sw_length (xs : List α) (i j : Nat) : (sw xs i j).length = xs.length := by simp [sw]
theorem gk_get {xs : List α} {k : Nat} (h : k < xs.length) : xs[k]? = some (gk xs k) := by
  unfold gk
  rw [List.getElem?_eq_getElem h]
  rfl
theorem gk_set {xs : List α} {i k : Nat} {x : α} (h : i < xs.length) : gk (xs.set i x) k = if i = k then x else gk xs k := by
  unfold gk
  rw [List.getElem?_set]
  split
  · simp [h]
  · rfl
theorem gk_sw {xs : List α} {i j k : Nat} (hi : i < xs.length) (hj : j < xs.length) : gk (sw xs i j) k = if k = j then gk xs i else if k = i then gk xs j else gk xs k := by
  unfold sw
  rw [gk_set (by simpa using hj), gk_set hi]
  by_cases h1 : j = k
  · simp [h1]
  · by_cases h2 : i = k
    · simp [h1, h2, Ne.symm h1]
    · simp [h1, h2, Ne.symm h1, Ne.symm h2]
theorem gk_take {xs : List α} {n k : Nat} (h : k < n) : gk (xs.take n) k = gk xs k := by
  unfold gk
  rw [List.getElem?_take, if_pos h]
theorem set_perm {xs : List α} {i : Nat} (hi : i < xs.length) (x : α) : (gk xs i :: xs.set i x).Perm (x :: xs) := by
  induction xs generalizing i with
  | nil => simp at hi
  | cons y ys ih =>
    cases i with
    | zero => simp only [gk, List.getElem?_cons_zero, Option.getD_some, List.set_cons_zero]; exact List.Perm.swap _ _ _
    | succ i =>
      simp only [List.set_cons_succ]
      have := ih (i := i) (by simpa using hi)
      have e : gk (y :: ys) (i + 1) = gk ys i := by simp [gk]
      rw [e]
      exact (List.Perm.swap _ _ _).trans ((this.cons y).trans (List.Perm.swap _ _ _))
theorem sw_perm {xs : List α} {i j : Nat} (hi : i < xs.length) (hj : j < xs.length) : (sw xs i j).Perm xs := by
  by_cases e : i = j
  · subst e
    unfold sw
    rw [List.set_set]
    have : xs.set i (gk xs i) = xs := by
      apply List.ext_getElem?
      intro k
      rw [List.getElem?_set]
      split
      · rename_i h; subst h; exact (gk_get hi).symm
      · rfl
    rw [this]
  · have h1 := set_perm hi (gk xs j)
    have hj2 : j < (xs.set i (gk xs j)).length := by simpa using hj
    have h2 := set_perm hj2 (gk xs i)
    have e2 : gk (xs.set i (gk xs j)) j = gk xs j := by rw [gk_set hi]; simp [e]
    rw [e2] at h2
    have h3 : (gk xs j :: sw xs i j).Perm (gk xs j :: xs) := h2.trans h1
    exact (List.perm_cons _).1 h3
theorem sw_take {xs : List α} {i j n : Nat} (hi : i < n) (hj : j < n) : (sw xs i j).take n = sw (xs.take n) i j := by
  unfold sw
  rw [List.take_set, List.take_set, gk_take hi, gk_take hj]
theorem sw_drop {xs : List α} {i j n : Nat} (hi : i < n) (hj : j < n) : (sw xs i j).drop n = xs.drop n := by
  unfold sw
  rw [List.drop_set_of_lt hj, List.drop_set_of_lt hi]
/-- the part ahead of n is the same row, otherwise ordered; the rest stays -/
structure Mix (n : Nat) (xs ys : List α) : Prop where
  len : ys.length = xs.length
  perm : (ys.take n).Perm (xs.take n)
  rest : ys.drop n = xs.drop n
theorem Mix.refl (n : Nat) (xs : List α) : Mix n xs xs := ⟨rfl, .refl _, rfl⟩
theorem Mix.trans {n : Nat} {xs ys zs : List α} (h : Mix n xs ys) (k : Mix n ys zs) : Mix n xs zs := ⟨k.len.trans h.len, k.perm.trans h.perm, k.rest.trans h.rest⟩
theorem Mix.sw {n i j : Nat} {xs : List α} (hi : i < n) (hj : j < n) (hn : n ≤ xs.length) : Mix n xs (sw xs i j) := by
  refine ⟨sw_length _ _ _, ?_, sw_drop hi hj⟩
  rw [sw_take hi hj]
  exact sw_perm (by simp; omega) (by simp; omega)
theorem Mix.rest_get {n k : Nat} {xs ys : List α} (h : Mix n xs ys) (hk : n ≤ k) : gk ys k = gk xs k := by
  have := congrArg (fun l => l[k - n]?) h.rest
  simp only [List.getElem?_drop] at this
  rw [show n + (k - n) = k by omega] at this
  unfold gk
  rw [this]

/-- an order -/
structure OrdK (lt : α → α → Bool) : Prop where
  asym : ∀ a b, lt a b = true → lt b a = false
  trans : ∀ a b c, lt b a = false → lt c b = false → lt c a = false
def par (k : Nat) : Nat := (k - 1) / 2
variable {lt : α → α → Bool}
/-- of the first n, those whose parent is lo or later are not less than it -/
def HF (lt : α → α → Bool) (xs : List α) (n lo : Nat) : Prop := ∀ k, 0 < k → k < n → lo ≤ par k → lt (gk xs k) (gk xs (par k)) = false
/-- but not the children of i -/
structure DI (lt : α → α → Bool) (xs : List α) (n lo i : Nat) : Prop where
  a : ∀ k, 0 < k → k < n → lo ≤ par k → par k ≠ i → lt (gk xs k) (gk xs (par k)) = false
  b : ∀ k, 0 < k → k < n → par k = i → 0 < i → lo ≤ par i → lt (gk xs k) (gk xs (par i)) = false
theorem HF.half {xs : List α} {n : Nat} : HF lt xs n (n / 2) := fun k h1 h2 h3 => by
  unfold par at h3
  omega
theorem DI.start {xs : List α} {n lo : Nat} (h : HF lt xs n (lo + 1)) : DI lt xs n lo lo :=
  ⟨fun k h1 h2 h3 h4 => h k h1 h2 (by omega), fun k h1 h2 h3 h4 h5 => by unfold par at h5; omega⟩
theorem DI.done0 {xs : List α} {n lo i : Nat} (h : DI lt xs n lo i) (hn : n ≤ 2 * i + 1) : HF lt xs n lo := fun k h1 h2 h3 => by
  refine h.a k h1 h2 h3 (fun e => ?_)
  unfold par at e
  omega
theorem DI.done {xs : List α} {n lo i j : Nat} (O : OrdK lt) (h : DI lt xs n lo i) (hj : ∀ k, 0 < k → k < n → par k = i → lt (gk xs k) (gk xs j) = false) (hl : lt (gk xs j) (gk xs i) = false) : HF lt xs n lo := fun k h1 h2 h3 => by
  by_cases e : par k = i
  · rw [e]
    exact O.trans _ _ _ hl (hj k h1 h2 e)
  · exact h.a k h1 h2 h3 e
theorem DI.step {xs : List α} {n lo i j : Nat} (O : OrdK lt) (h : DI lt xs n lo i) (hn : n ≤ xs.length) (hlo : lo ≤ i) (hjn : j < n) (hj0 : 0 < j) (hji : par j = i) (hj : ∀ k, 0 < k → k < n → par k = i → lt (gk xs k) (gk xs j) = false) (hl : lt (gk xs j) (gk xs i) = true) : DI lt (sw xs i j) n lo j := by
  have hij : i < j := by unfold par at hji; omega
  have hi' : i < xs.length := by omega
  have hj' : j < xs.length := by omega
  refine ⟨fun k h1 h2 h3 h4 => ?_, fun k h1 h2 h3 h4 h5 => ?_⟩
  · rw [gk_sw hi' hj', gk_sw hi' hj']
    rw [if_neg h4]
    by_cases e1 : k = j
    · rw [if_pos e1, e1, hji, if_pos rfl]
      exact O.asym _ _ hl
    · rw [if_neg e1]
      by_cases e2 : k = i
      · rw [if_pos e2]
        have e3 : par k ≠ i := by unfold par; omega
        rw [if_neg e3, e2]
        have := h.b j hj0 hjn hji (by omega) (by rw [← e2]; exact h3)
        exact this
      · rw [if_neg e2]
        by_cases e3 : par k = i
        · rw [if_pos e3]
          exact hj k h1 h2 e3
        · rw [if_neg e3]
          exact h.a k h1 h2 h3 e3
  · rw [hji, gk_sw hi' hj', gk_sw hi' hj', if_neg (show i ≠ j by omega), if_pos rfl]
    have e1 : k ≠ j := by unfold par at h3; omega
    have e2 : k ≠ i := by unfold par at h3; omega
    rw [if_neg e1, if_neg e2, ← h3]
    exact h.a k h1 h2 (by rw [h3]; omega) (by rw [h3]; omega)
/-- from the root -/
theorem DI.pop {xs : List α} {n : Nat} (h : HF lt xs (n + 1) 0) (hn : n + 1 ≤ xs.length) : DI lt (sw xs 0 n) n 0 0 := by
  refine ⟨fun k h1 h2 h3 h4 => ?_, fun k h1 h2 h3 h4 => by omega⟩
  have hk : par k < k := by unfold par; omega
  rw [gk_sw (by omega) (by omega), gk_sw (by omega) (by omega), if_neg (by omega), if_neg (by omega), if_neg (by omega), if_neg h4]
  exact h k h1 (by omega) h3
theorem HF.min {xs : List α} {n : Nat} (O : OrdK lt) (h : HF lt xs n 0) (hirr : ∀ a, lt a a = false) : ∀ k, k < n → lt (gk xs k) (gk xs 0) = false := by
  intro k
  induction k using Nat.strongRecOn with
  | ind k ih =>
    intro hk
    by_cases e : k = 0
    · rw [e]; exact hirr _
    · have h1 : par k < k := by unfold par; omega
      exact O.trans _ _ _ (ih (par k) h1 (by omega)) (h k (by omega) hk (Nat.zero_le _))
/-- in order, but for j and its parent -/
structure UI (lt : α → α → Bool) (xs : List α) (n j : Nat) : Prop where
  a : ∀ k, 0 < k → k < n → k ≠ j → lt (gk xs k) (gk xs (par k)) = false
  b : ∀ k, 0 < k → k < n → par k = j → 0 < j → lt (gk xs k) (gk xs (par j)) = false
theorem UI.start {xs : List α} {n : Nat} (h : HF lt xs n 0) : UI lt xs (n + 1) n :=
  ⟨fun k h1 h2 h3 => h k h1 (by omega) (Nat.zero_le _), fun k h1 h2 h3 => by unfold par at h3; omega⟩
theorem UI.done {xs : List α} {n j : Nat} (h : UI lt xs n j) (hj : j = 0 ∨ lt (gk xs j) (gk xs (par j)) = false) : HF lt xs n 0 := fun k h1 h2 h3 => by
  by_cases e : k = j
  · subst e
    rcases hj with e | e
    · omega
    · exact e
  · exact h.a k h1 h2 e
theorem UI.step {xs : List α} {n j : Nat} (O : OrdK lt) (h : UI lt xs n j) (hn : n ≤ xs.length) (hjn : j < n) (h0 : 0 < j) (hl : lt (gk xs j) (gk xs (par j)) = true) : UI lt (sw xs (par j) j) n (par j) := by
  have hp : par j < j := by unfold par; omega
  refine ⟨fun k h1 h2 h3 => ?_, fun k h1 h2 h3 h4 => ?_⟩
  · rw [gk_sw (by omega) (by omega), gk_sw (by omega) (by omega), if_neg h3]
    by_cases e1 : k = j
    · subst e1
      rw [if_pos rfl, if_neg (by omega), if_pos rfl]
      exact O.asym _ _ hl
    · rw [if_neg e1]
      by_cases e2 : par k = j
      · rw [if_pos e2]
        exact h.b k h1 h2 e2 h0
      · rw [if_neg e2]
        by_cases e3 : par k = par j
        · rw [if_pos e3]
          have := h.a k h1 h2 e1
          rw [e3] at this
          exact O.trans _ _ _ (O.asym _ _ hl) this
        · rw [if_neg e3]
          exact h.a k h1 h2 e1
  · have hpp : par (par j) < par j := by unfold par at h4 ⊢; omega
    rw [gk_sw (by omega) (by omega), gk_sw (by omega) (by omega), if_neg (show par (par j) ≠ j by omega), if_neg (show par (par j) ≠ par j by omega)]
    have hup := h.a (par j) h4 (by omega) (by omega)
    by_cases e1 : k = j
    · rw [if_pos e1]; exact hup
    · have hk : k ≠ par j := by
        intro e; rw [e] at h3; omega
      rw [if_neg e1, if_neg hk]
      have := h.a k h1 h2 e1
      rw [h3] at this
      exact O.trans _ _ _ hup this
end
end Go.Sep

/-
  Methods called through an interface; a value taken out of an interface.
-/
set_option linter.unusedVariables false
set_option linter.unusedSimpArgs false
namespace Go.Sep
section
variable {P : Program} {N : Nat} {ρ : Env} {D : List Deferred} {m : Mem} {L : List Item} {Q : EPost} {full : List Oper} {o : Oper} {K : Env → Mem → List Item → Prop}
theorem OT.invokeG {X : Operand} {args : List Operand} {ats : Array TypeId} {name : String} {t : TypeId} {v rv : Value} {f : FuncId} {vs all : List Value} {d : Nat} (ho : o.op = .call ⟨.invoke X name, ⟨args⟩, ats⟩)
    (hd : o.dst = some d) (hN : Nat.blt d N = true) (hX : ev ρ X = some (.iface t v)) (ha : evs ρ args = some vs) (hall : fl (rv :: vs) = some all) (hg : Goes P f)
    (hm : ∀ w, St m w L → (method (P.types.size + Made.depth) t v name).run P w = .ok (f, rv) w)
    (h : TCallX P f ⟨all⟩ m L (fun v m' L' => K ((d, v) :: ρ) m' L') (fun ch m' L' => Q (.panic ch) ρ D m' L')) : OT P N o ρ D m L Q K := by
  intro a w hok
  rw [fl_eq] at hall
  simp only [Option.some.injEq] at hall
  have he : (execOp a.eval o).run P w = .ok (.enter f ⟨all⟩) w := by
    have e1 := hok.env.evals ha
    have e2 := hok.env.eval hX
    simp only [execOp, ho, resolve, Sem.run_bind, Sem.run_pure, Result.andThen_ok, invoke]
    have e3 : (#[a.eval X] ++ Array.map a.eval ⟨args⟩)[0]? = some (.iface t v) := by simp [e2]
    have e4 : (#[a.eval X] ++ Array.map a.eval ⟨args⟩).extract 1 (#[a.eval X] ++ Array.map a.eval ⟨args⟩).size = ⟨vs⟩ := by
      apply Array.ext'
      simp [e1]
    simp only [e3, e4, callMethod, Sem.run_bind, run_program, Result.andThen_ok, hm w hok.st]
    rw [hg _ w]
    congr 2
    subst hall
    simp
  simp only [Oper.wp, he, Oper.upon]
  refine (h w hok.st).mono fun e w' hh => ?_
  cases e with
  | returned v =>
    obtain ⟨m', L', h1, h2⟩ := hh
    have hp := hok.put hN v
    rw [hd]
    exact ⟨_, _, _, ⟨hp.size, hp.env, hp.defers, h1⟩, h2⟩
  | panicked ch =>
    obtain ⟨m', L', h1, h2⟩ := hh
    exact ⟨ρ, D, m', L', ⟨hok.size, hok.env, hok.defers, h1⟩, h2⟩
  | outgrown => exact hh.elim
/-- a row of a method table: function, and whether it wants the pointer -/
def methRow (P : Program) (t : TypeId) (name : String) (f : FuncId) (p : Bool) : Bool :=
  match P.info? t with
  | some info => match info.methods.find? (·.name == name) with
    | some mm => mm.path.isEmpty && (match mm.func with
      | some (g, q) => Nat.beq g f && (q == p)
      | none => false)
    | none => false
  | none => false
theorem methRow_get {t : TypeId} {name : String} {f : FuncId} {p : Bool} (h : methRow P t name f p = true) : ∃ info mm, P.info? t = some info ∧ info.methods.find? (·.name == name) = some mm ∧ mm.path = #[] ∧ mm.func = some (f, p) := by
  unfold methRow at h
  split at h
  · rename_i info h1
    split at h
    · rename_i mm h2
      simp only [Bool.and_eq_true] at h
      obtain ⟨h3, h4⟩ := h
      split at h4
      · rename_i g q h5
        simp only [Bool.and_eq_true, beq_iff_eq] at h4
        refine ⟨info, mm, h1, h2, by simpa using h3, ?_⟩
        rw [h5, Nat.eq_of_beq_eq_true h4.1, h4.2]
      · cases h4
    · cases h
  · cases h
def Tab.ptrTo {P : Program} (T : Tab P) (t : TypeId) : Option TypeId :=
  match T.get t with
  | some ⟨.pointer e, _, _, _⟩ => some e
  | _ => none
theorem ptrTo_get {T : Tab P} {t e : TypeId} (h : T.ptrTo t = some e) : ∃ i, T.get t = some i ∧ i.u = .pointer e := by
  unfold Tab.ptrTo at h
  split at h
  · rename_i e' _ _ _ hg
    simp only [Option.some.injEq] at h
    subst h
    exact ⟨_, hg, rfl⟩
  · cases h
theorem run_methP (T : Tab P) {t e : TypeId} {name : String} {f : FuncId} {v : Value} (h : methRow P t name f true = true) (ht : T.ptrTo t = some e) (w : World) : (method (P.types.size + Made.depth) t v name).run P w = .ok (f, v) w := by
  obtain ⟨info, mm, h1, h2, h3, h4⟩ := methRow_get h
  obtain ⟨i, g1, g2⟩ := ptrTo_get ht
  have hu := T.run_underlying w g1
  rw [g2] at hu
  obtain ⟨n, hn⟩ : ∃ n, P.types.size + Made.depth = n + 1 := ⟨P.types.size + 99, rfl⟩
  rw [hn, method]
  simp only [typeInfo, Sem.run_bind, run_program, Result.andThen_ok, h1, Sem.run_pure, h2, h3, h4, follow, receiverAt, hu, Place.get]
theorem run_wrap (xt : TypeId) (a : Addr) (n : String) (w : World) : (Builtin.ssaWrapNilChk_ #[xt] xt #[.pointer (some a), strVal "", strVal n]).run P w = .ok (.pointer (some a)) w := rfl
theorem run_methV (T : Tab P) {t e : TypeId} {name : String} {f : FuncId} {ad : Addr} {rv : Value} {w : World} (h : methRow P t name f false = true) (ht : T.ptrTo t = some e) (hl : (loadVar e ad).run P w = .ok rv w) : (method (P.types.size + Made.depth) t (.pointer (some ad)) name).run P w = .ok (f, rv) w := by
  obtain ⟨info, mm, h1, h2, h3, h4⟩ := methRow_get h
  obtain ⟨i, g1, g2⟩ := ptrTo_get ht
  have hu := T.run_underlying w g1
  rw [g2] at hu
  obtain ⟨n, hn⟩ : ∃ n, P.types.size + Made.depth = n + 1 := ⟨P.types.size + 99, rfl⟩
  rw [hn, method]
  simp only [typeInfo, Sem.run_bind, run_program, Result.andThen_ok, h1, Sem.run_pure, h2, h3, h4, follow, receiverAt, hu, Place.get, run_wrap, asAddr, hl, Array.isEmpty_empty, if_true]
/-- a method with a pointer's receiver -/
theorem OT.invokeP (T : Tab P) {X : Operand} {args : List Operand} {ats : Array TypeId} {name : String} {t e : TypeId} {v : Value} {f : FuncId} {vs all : List Value} {d : Nat} (hr : methRow P t name f true = true) (ht : T.ptrTo t = some e) (ho : o.op = .call ⟨.invoke X name, ⟨args⟩, ats⟩)
    (hd : o.dst = some d) (hN : Nat.blt d N = true) (hX : ev ρ X = some (.iface t v)) (ha : evs ρ args = some vs) (hall : fl (v :: vs) = some all) (hg : Goes P f)
    (h : TCallX P f ⟨all⟩ m L (fun v m' L' => K ((d, v) :: ρ) m' L') (fun ch m' L' => Q (.panic ch) ρ D m' L')) : OT P N o ρ D m L Q K :=
  OT.invokeG ho hd hN hX ha hall hg (fun w _ => run_methP T hr ht w) h
/-- a method with a value's receiver, of a pointer at an owned variable -/
theorem OT.invokeV (T : Tab P) (i : Nat) {X : Operand} {args : List Operand} {ats : Array TypeId} {name : String} {t e : TypeId} {b : Nat} {rv : Value} {f : FuncId} {vs all cs : List Value} {d : Nat} (hr : methRow P t name f false = true) (ht : T.ptrTo t = some e) (ho : o.op = .call ⟨.invoke X name, ⟨args⟩, ats⟩)
    (hd : o.dst = some d) (hN : Nat.blt d N = true) (hX : ev ρ X = some (.iface t (.pointer (some ⟨b, 0, none⟩)))) (ha : evs ρ args = some vs) (hi : L[i]? = some (.cells b 0 cs)) (hl : T.load e cs 0 = some rv) (hall : fl (rv :: vs) = some all) (hg : Goes P f)
    (h : TCallX P f ⟨all⟩ m L (fun v m' L' => K ((d, v) :: ρ) m' L') (fun ch m' L' => Q (.panic ch) ρ D m' L')) : OT P N o ρ D m L Q K :=
  OT.invokeG ho hd hN hX ha hall hg (fun w hw => run_methV T hr ht (by
    have := run_loadVar (P := P) T (k := 0) (hw.cells hi) hl
    simpa using this)) h
/-- s[:n] of an owned slice, elements of any size -/
theorem OT.takeZ (T : Tab P) (hi : Nat) {x y : Operand} {t : TypeId} {d b n c sz : Nat} {iv : Int} (hik : iv = (hi : Int)) (hc : hi ≤ c)
    (ho : o.op = .slice t x none (some y) none) (hd : o.dst = some d) (hN : Nat.blt d N = true) (he : ev ρ x = some (.slice (some ⟨b, 0, none⟩) n c)) (hy : ev ρ y = some (.int .i64 iv)) (hsz : T.esize t = some sz)
    (hK : K ((d, .slice (some ⟨b, 0, none⟩) hi c) :: ρ) m L) : OT P N o ρ D m L Q K := by
  subst hik
  refine OT.cutP T (lov := none) (hiv := some (.int .i64 (hi : Int))) 0 hi ho hd hN he rfl (by simp [evO, fo_eq, hy]) hsz (.inl ⟨rfl, rfl⟩) (.inr rfl) (Nat.zero_le _) hc ?_
  simpa using hK
/-- x.(T), where x holds a T -/
theorem OT.assert (T : Tab P) {x : Operand} {xt t : TypeId} {v : Value} {d : Nat} (ho : o.op = .typeAssert x xt t false) (hd : o.dst = some d) (hN : Nat.blt d N = true) (hx : ev ρ x = some (.iface t v)) (ht : T.notIface t = true)
    (hK : K ((d, v) :: ρ) m L) : OT P N o ρ D m L Q K := by
  refine OT.run hd hN (fun ac w ha => ⟨w, ?_, ha.st⟩) hK
  unfold Tab.notIface at ht
  split at ht
  · cases ht
  · rename_i i hne hg
    have hu := T.run_underlying w hg
    simp only [execOp, ho, ha.env.eval hx, Instr.typeAssert, Sem.run_bind, hu, Result.andThen_ok]
    cases hi : i.u with
    | interface ms =>
      obtain ⟨u, a, b, c⟩ := i
      simp only at hi
      subst hi
      exact absurd rfl (hne ms a b c)
    | _ => simp
  · cases ht
end
section
variable {P : Program} {N : Nat} {ρ : Env} {D : List Deferred} {m : Mem} {Q : EPost} {ops : List Oper} {ts : List Nat} {fuel : Nat} {listed : List Bool} {Ls Lp : List Item}
/-- an element's part, of an owned row, in a region that draws -/
theorem DO.loadE {H α : Type} (T : Tab P) (i : Nat) (j : Nat) (r : R H α) {hs : List H} {k jj q : Nat} {h0 : H} {v : Value} {x : Operand} {t : TypeId} {o : Oper} {b d : Nat} (hk : hs[k]? = some h0) (hq : q = k * r.size + jj) (hv : ∀ rest, T.load t (r.enc h0 ++ rest) jj = some v) (hc : Calm Q) (hns : Region.noSelect ⟨ops⟩ = true) (hok : orderOk ops ts [i] listed = true)
    (hi : ops[i]? = some o) (hg : gv ops ρ o = some true) (ho : o.op = .load t x) (hd : o.dst = some d) (hN : Nat.blt d N = true)
    (hx : ev ρ x = some (.pointer (some ⟨b, q, none⟩))) (hj : Ls[j]? = some (.cells b 0 (encs r hs)))
    (h : DO P N ops ts fuel (listed.set i true) ((d, v) :: ρ) D m Ls Lp Q) : DO P N ops ts (fuel + 1) listed ρ D m Ls Lp Q := by
  subst hq
  exact DO.loadL (off := 0) (k := k * r.size + jj) T i j hc hns hok hi hg ho hd hN (by rw [Nat.zero_add]; exact hx) hj (load_encs T r hk hv) h
end
theorem encs_int (l : List Int) : encs rInt l = l.map (Value.int .i64) := by
  induction l with
  | nil => rfl
  | cons x xs ih => simpa [encs, rInt] using ih
theorem all2_int {m : Mem} : ∀ {hs : List Int} {l : List Int}, All2 (rInt.rep m) hs l → hs = l
  | [], [], _ => rfl
  | x :: xs, y :: ys, h => by rw [show x = y from h.1, all2_int h.2]
  | [], _ :: _, h => h.elim
  | _ :: _, [], h => h.elim
/-- a row of numbers that the call owns: its slice, its block -/
structure IRow (s : Sl) (b : Nat) (n : Nat) : Prop where
  len : s.len = n
  cap : s.len ≤ s.cap
  pos : 0 < n → ∃ c, s = ⟨some ⟨b, 0, none⟩, n, c⟩
  nil : n = 0 → s.a = none → s.cap = 0
theorem IRow.rep {m : Mem} {s : Sl} {b : Nat} {l : List Int} (h : IRow s b l.length) (hA : At m b 0 (l.map (Value.int .i64))) (hn : l.length ≤ 1000000) : SlRep rInt m s l := by
  refine ⟨h.len, h.cap, by rw [h.len]; simp only [rInt]; omega, l, ?_, ?_⟩
  · clear h hA hn
    induction l with
    | nil => trivial
    | cons x xs ih => exact ⟨rfl, ih⟩
  · by_cases e : l = []
    · exact .inl ⟨e, h.nil (by rw [e]; rfl)⟩
    · obtain ⟨c, hc⟩ := h.pos (List.length_pos_iff.2 e)
      exact .inr ⟨b, 0, by rw [hc], by rw [encs_int]; exact hA⟩
section
variable {P : Program} {N : Nat} {ρ : Env} {D : List Deferred} {m : Mem} {L : List Item} {Q : EPost} {full : List Oper} {o : Oper} {K : Env → Mem → List Item → Prop}
/-- append(s, none...), s empty -/
theorem run_append0 (T : Tab P) {t t2 e e2 ty : TypeId} {ei ei2 : TI} {w : World} {a0 : Option Addr} {s2 : Sl} (he : T.elem t = some (e, ei)) (he2 : T.elem t2 = some (e2, ei2)) (hn : s2.len = 0) :
    (Builtin.append_ #[t, t2] ty #[.slice a0 0 0, s2.v]).run P w = .ok (.slice a0 0 0) w := by
  obtain ⟨ti, h4, h5, h6⟩ := elem_get he
  obtain ⟨ti2, k4, k5, k6⟩ := elem_get he2
  obtain ⟨_, _, hu, _⟩ := T.ok t ti h4
  rw [h5] at hu
  obtain ⟨_, _, hu2, _⟩ := T.ok t2 ti2 k4
  rw [k5] at hu2
  obtain ⟨info, q1, q2, q3, q4, q5⟩ := T.ok e ei h6
  have hnew := run_first (P := P) (w := w) (s := s2) (size := ei.size) (news := []) ⟨by simp [hn], .inl hn⟩
  obtain ⟨a2, n2, c2⟩ := s2
  simp only at hn
  subst hn
  simp only [Sl.v] at hnew
  simp [Builtin.append_, run_underlying hu, run_underlying hu2, sizeOf, typeInfo, q1, q3, Builtin.lenOf, hnew, Sl.v]
  cases a0 <;> simp [storeCells]
/-- append(s, xs...) of numbers, s empty: the copy is one's own -/
theorem OT.cloneI (T : Tab P) {s2 : Sl} {l : List Int} {a0 : Option Addr} {x y : Operand} {t t2 : TypeId} {d : Nat} (hs2 : SlRep rInt m s2 l)
    (ho : o.op = .call ⟨.builtin .append, ⟨[x, y]⟩, ⟨[t, t2]⟩⟩) (hd : o.dst = some d) (hN : Nat.blt d N = true) (hx : ev ρ x = some (.slice a0 0 0)) (hy : ev ρ y = some s2.v) (hT : T.okElem t t2 rInt.size rInt.bytes = true)
    (hK : ∀ s b, IRow s b l.length → K ((d, s.v) :: ρ) m (.cells b 0 (l.map (Value.int .i64)) :: L)) : OT P N o ρ D m (.cells 0 0 [] :: L) Q K := by
  by_cases e : l = []
  · subst e
    obtain ⟨e, e2, ei, ei2, q1, q2, q3, q4, q5, q6⟩ := okElem_get hT
    refine OT.run hd hN (fun a w ha => ⟨w, ?_, ha.st⟩) (hK ⟨a0, 0, 0⟩ 0 ⟨rfl, Nat.le_refl _, fun h => by simp at h, fun _ _ => rfl⟩)
    have hr := run_append0 (P := P) (ty := o.type) (w := w) (a0 := a0) T q1 q2 (show s2.len = 0 by rw [hs2.len]; rfl)
    simp only [execOp, ho, resolve, invoke, builtin, Sem.run_bind, Sem.run_pure, Result.andThen_ok, List.map_toArray, List.map_cons, List.map_nil, ha.env.eval hx, ha.env.eval hy, hr]
  · have hp : 0 < s2.len := by rw [hs2.len]; exact List.length_pos_iff.2 e
    intro a w ha
    refine OT.cloneOwn T rInt hs2 hp ho hd hN hx hy hT (fun hs b c h1 h2 => ?_) a w ⟨ha.size, ha.env, ha.defers, ha.st.sub (List.sublist_cons_self _ _)⟩
    rw [all2_int h1, encs_int]
    exact hK ⟨some ⟨b, 0, none⟩, s2.len, c⟩ b ⟨hs2.len, h2, fun _ => ⟨c, by rw [← hs2.len]⟩, fun h => absurd (List.eq_nil_of_length_eq_zero h) e⟩
end
section
variable {P : Program} {N : Nat} {ρ : Env} {D : List Deferred} {m : Mem} {L : List Item} {Q : EPost} {full : List Oper}
theorem TO.cells0 {l : List Oper} (h : TO P N ⟨full⟩ l ρ D m (.cells 0 0 [] :: L) Q) : TO P N ⟨full⟩ l ρ D m L Q := fun a w ha => h a w ⟨ha.size, ha.env, ha.defers, ha.st.cells0 0 0⟩
theorem TC.freezeAt {c : Code} (i : Nat) {b off : Nat} {vs : List Value} (hi : L[i]? = some (.cells b off vs)) (h : ∀ m', m ≤ m' → At m' b off vs → TC P N c ρ D m' (L.eraseIdx i) Q) : TC P N c ρ D m L Q :=
  TC.perm (perm_at hi) (TC.freeze h)
theorem TO.freezeAt {l : List Oper} (i : Nat) {b off : Nat} {vs : List Value} (hi : L[i]? = some (.cells b off vs)) (h : ∀ m', m ≤ m' → At m' b off vs → TO P N ⟨full⟩ l ρ D m' (L.eraseIdx i) Q) : TO P N ⟨full⟩ l ρ D m L Q := by
  exact TO.perm (perm_at hi) (TO.freeze h)
end
end Go.Sep

/-
  The queue of sites that wait: its methods.
-/
set_option linter.unusedVariables false
set_option linter.unusedSimpArgs false
namespace Go.Sep
open Go.Proofs
attribute [local irreducible] TC TO OT TCallX TCall DO DOt thenQ blockQ retQ At
/-- a site that waits -/
structure Wt where
  n : Int
  to : Int
  size : Int
instance : Inhabited Wt := ⟨⟨0, 0, 0⟩⟩
@[reducible] def wtC (x : Wt) : List Value := [.int .i64 x.n, .int .i64 x.to, .int .i64 x.size]
@[reducible] def wtV (x : Wt) : Value := .agg ⟨[.int .i64 x.n, .int .i64 x.to, .int .i64 x.size]⟩
def rWt : R Wt Wt := ⟨3, 24, wtC, fun _ h a => h = a, fun _ => rfl, fun _ => rfl, fun _ h => h⟩
def ltW (a b : Wt) : Bool := decide (a.size < b.size) || (decide (a.size = b.size) && decide (a.n < b.n))
theorem ltW_ord : OrdK ltW := by
  constructor
  · intro a b h
    simp only [ltW, Bool.or_eq_true, Bool.and_eq_true, decide_eq_true_eq, Bool.or_eq_false_iff, Bool.and_eq_false_iff, decide_eq_false_iff_not] at h ⊢
    omega
  · intro a b c h1 h2
    simp only [ltW, Bool.or_eq_false_iff, Bool.and_eq_false_iff, decide_eq_false_iff_not] at h1 h2 ⊢
    omega
theorem ltW_irr (a : Wt) : ltW a a = false := by simp [ltW]

theorem qlen_law (m : Mem) (L : List Item) (s : Sl) : TCall Try.prog 17 ⟨[s.v]⟩ m L (Ret (.int .i64 (s.len : Int)) m L) := by
  unfold TCall
  refine TCallX.enter Try.func17 rfl 5 rfl ?_
  repeat (first|refine q1 ?_|refine q3 ?_|refine q4 tab rfl rfl ?_|refine q5 ?_|refine q6 ?_|refine q15 ?_)
  refine retQ_ret rfl (by repeat (exact List.Sublist.refl _)) ⟨rfl, rfl, ?_⟩
  rfl
theorem less_law (m : Mem) (L : List Item) (bq b n c i j : Nat) (v0 : Value) (hs : List Wt) (hi : i < n) (hj : j < n) (hn : n ≤ hs.length) :
    TCall Try.prog 70 ⟨[.slice (some ⟨b, 0, none⟩) n c, .int .i64 (i : Int), .int .i64 (j : Int)]⟩ m (.cells bq 0 [v0] :: .cells b 0 (encs rWt hs) :: L) (Ret (.bool (ltW (gk hs i) (gk hs j))) m (.cells bq 0 [v0] :: .cells b 0 (encs rWt hs) :: L)) := by
  have hgi := gk_get (xs := hs) (k := i) (by omega)
  have hgj := gk_get (xs := hs) (k := j) (by omega)
  unfold TCall
  refine TCallX.enter Try.func70 rfl 44 rfl ?_
  repeat (first|refine q1 ?_|refine q3 ?_|refine q4 tab rfl rfl ?_|refine q5 ?_|refine q6 ?_)
  refine TC.draw [] mixed 38 rfl (.cells bq 0 [v0] :: .cells b 0 (encs rWt hs) :: L) [] (by rw [List.append_nil]) ?_
  refine DO.pure tab (by repeat (first|exact Calm.ret|refine Calm.then ?_)) (by kernel_rfl) [0, 1] (by kernel_rfl) rfl ?_
  refine DO.indexP (sz := 3) tab 2 i (by repeat (first|exact Calm.ret|refine Calm.then ?_)) (by kernel_rfl) (by kernel_rfl) rfl rfl rfl rfl rfl rfl rfl rfl rfl hi ?_
  refine DO.pure tab (by repeat (first|exact Calm.ret|refine Calm.then ?_)) (by kernel_rfl) [3] (by kernel_rfl) rfl ?_
  refine DO.loadE (jj := 2) tab 4 1 rWt hgi (by simp only [rWt]; omega) (fun _ => rfl) (by repeat (first|exact Calm.ret|refine Calm.then ?_)) (by kernel_rfl) (by kernel_rfl) rfl rfl rfl rfl rfl rfl rfl ?_
  refine DO.pure tab (by repeat (first|exact Calm.ret|refine Calm.then ?_)) (by kernel_rfl) [5, 6] (by kernel_rfl) rfl ?_
  refine DO.indexP (sz := 3) tab 7 j (by repeat (first|exact Calm.ret|refine Calm.then ?_)) (by kernel_rfl) (by kernel_rfl) rfl rfl rfl rfl rfl rfl rfl rfl rfl hj ?_
  refine DO.pure tab (by repeat (first|exact Calm.ret|refine Calm.then ?_)) (by kernel_rfl) [8] (by kernel_rfl) rfl ?_
  refine DO.loadE (jj := 2) tab 9 1 rWt hgj (by simp only [rWt]; omega) (fun _ => rfl) (by repeat (first|exact Calm.ret|refine Calm.then ?_)) (by kernel_rfl) (by kernel_rfl) rfl rfl rfl rfl rfl rfl rfl ?_
  refine DO.pure tab (by repeat (first|exact Calm.ret|refine Calm.then ?_)) (by kernel_rfl) [10, 11] (by kernel_rfl) rfl ?_
  (refine DO.splitP (d := 18) rfl (fun hg11 => ?_) (fun hg11 => ?_))
  refine DO.pure tab (by repeat (first|exact Calm.ret|refine Calm.then ?_)) (by kernel_rfl) [12, 13, 14, 15, 16, 17, 18, 19, 20, 21, 22, 23, 24, 25, 26, 27, 28, 29, 30, 31, 32, 33, 34, 35, 36, 37] (by kernel_rfl) rfl ?_
  (refine DO.nil0 (by kernel_rfl) ?_)
  rotate_left 1
  refine DO.pure tab (by repeat (first|exact Calm.ret|refine Calm.then ?_)) (by kernel_rfl) [12, 13] (by kernel_rfl) rfl ?_
  refine DO.indexP (sz := 3) tab 14 i (by repeat (first|exact Calm.ret|refine Calm.then ?_)) (by kernel_rfl) (by kernel_rfl) rfl rfl rfl rfl rfl rfl rfl rfl rfl hi ?_
  refine DO.pure tab (by repeat (first|exact Calm.ret|refine Calm.then ?_)) (by kernel_rfl) [15] (by kernel_rfl) rfl ?_
  refine DO.loadE (jj := 2) tab 16 1 rWt hgi (by simp only [rWt]; omega) (fun _ => rfl) (by repeat (first|exact Calm.ret|refine Calm.then ?_)) (by kernel_rfl) (by kernel_rfl) rfl rfl rfl rfl rfl rfl rfl ?_
  refine DO.pure tab (by repeat (first|exact Calm.ret|refine Calm.then ?_)) (by kernel_rfl) [17, 18] (by kernel_rfl) rfl ?_
  refine DO.indexP (sz := 3) tab 19 j (by repeat (first|exact Calm.ret|refine Calm.then ?_)) (by kernel_rfl) (by kernel_rfl) rfl rfl rfl rfl rfl rfl rfl rfl rfl hj ?_
  refine DO.pure tab (by repeat (first|exact Calm.ret|refine Calm.then ?_)) (by kernel_rfl) [20] (by kernel_rfl) rfl ?_
  refine DO.loadE (jj := 2) tab 21 1 rWt hgj (by simp only [rWt]; omega) (fun _ => rfl) (by repeat (first|exact Calm.ret|refine Calm.then ?_)) (by kernel_rfl) (by kernel_rfl) rfl rfl rfl rfl rfl rfl rfl ?_
  refine DO.pure tab (by repeat (first|exact Calm.ret|refine Calm.then ?_)) (by kernel_rfl) [22, 23] (by kernel_rfl) rfl ?_
  (refine DO.splitP (d := 30) rfl (fun hg23 => ?_) (fun hg23 => ?_))
  refine DO.pure tab (by repeat (first|exact Calm.ret|refine Calm.then ?_)) (by kernel_rfl) [24, 25] (by kernel_rfl) rfl ?_
  refine DO.indexP (sz := 3) tab 26 i (by repeat (first|exact Calm.ret|refine Calm.then ?_)) (by kernel_rfl) (by kernel_rfl) rfl rfl rfl rfl rfl rfl rfl rfl rfl hi ?_
  refine DO.pure tab (by repeat (first|exact Calm.ret|refine Calm.then ?_)) (by kernel_rfl) [27] (by kernel_rfl) rfl ?_
  refine DO.loadE (jj := 0) tab 28 1 rWt hgi (by simp only [rWt]; omega) (fun _ => rfl) (by repeat (first|exact Calm.ret|refine Calm.then ?_)) (by kernel_rfl) (by kernel_rfl) rfl rfl rfl rfl rfl rfl rfl ?_
  refine DO.pure tab (by repeat (first|exact Calm.ret|refine Calm.then ?_)) (by kernel_rfl) [29, 30] (by kernel_rfl) rfl ?_
  refine DO.indexP (sz := 3) tab 31 j (by repeat (first|exact Calm.ret|refine Calm.then ?_)) (by kernel_rfl) (by kernel_rfl) rfl rfl rfl rfl rfl rfl rfl rfl rfl hj ?_
  refine DO.pure tab (by repeat (first|exact Calm.ret|refine Calm.then ?_)) (by kernel_rfl) [32] (by kernel_rfl) rfl ?_
  refine DO.loadE (jj := 0) tab 33 1 rWt hgj (by simp only [rWt]; omega) (fun _ => rfl) (by repeat (first|exact Calm.ret|refine Calm.then ?_)) (by kernel_rfl) (by kernel_rfl) rfl rfl rfl rfl rfl rfl rfl ?_
  refine DO.pure tab (by repeat (first|exact Calm.ret|refine Calm.then ?_)) (by kernel_rfl) [34, 35, 36, 37] (by kernel_rfl) rfl ?_
  (refine DO.nil0 (by kernel_rfl) ?_)
  rotate_left 1
  refine DO.pure tab (by repeat (first|exact Calm.ret|refine Calm.then ?_)) (by kernel_rfl) [24, 25, 26, 27, 28, 29, 30, 31, 32, 33, 34, 35, 36, 37] (by kernel_rfl) rfl ?_
  (refine DO.nil0 (by kernel_rfl) ?_)
  rotate_left 1
  all_goals (repeat (first|refine q6 ?_|refine q15 ?_))
  · refine retQ_ret rfl (by repeat (exact List.Sublist.refl _)) ⟨rfl, rfl, ?_⟩
    simp only [ltW, hg11, decide_true, Bool.true_or]
  · refine retQ_ret rfl (by repeat (exact List.Sublist.refl _)) ⟨rfl, rfl, ?_⟩
    simp [ltW, hg11, hg23]
  · refine retQ_ret rfl (by repeat (exact List.Sublist.refl _)) ⟨rfl, rfl, ?_⟩
    simp [ltW, hg11, hg23]
theorem swap_law (m : Mem) (L : List Item) (bq b n c i j : Nat) (v0 : Value) (hs : List Wt) (hi : i < n) (hj : j < n) (hn : n ≤ hs.length) :
    TCall Try.prog 71 ⟨[.slice (some ⟨b, 0, none⟩) n c, .int .i64 (i : Int), .int .i64 (j : Int)]⟩ m (.cells bq 0 [v0] :: .cells b 0 (encs rWt hs) :: L) (fun _ m' L' => m = m' ∧ .cells bq 0 [v0] :: .cells b 0 (encs rWt (sw hs i j)) :: L = L') := by
  have hgi := gk_get (xs := hs) (k := i) (by omega)
  have hgj := gk_get (xs := hs) (k := j) (by omega)
  unfold TCall
  refine TCallX.enter Try.func71 rfl 20 rfl ?_
  skip
  refine TC.draw [13, 14, 15] mixed 16 rfl (.cells bq 0 [v0] :: .cells b 0 (encs rWt hs) :: L) [] (by rw [List.append_nil]) ?_
  refine DO.pure tab (by repeat (exact Calm.ret)) (by kernel_rfl) [0, 1, 2, 3, 4, 5] (by kernel_rfl) rfl ?_
  refine DO.indexP (sz := 3) tab 6 j (by repeat (exact Calm.ret)) (by kernel_rfl) (by kernel_rfl) rfl rfl rfl rfl rfl rfl rfl rfl rfl hj ?_
  refine DO.loadE (jj := 0) tab 7 1 rWt hgj (by simp only [rWt]; omega) (fun _ => rfl) (by repeat (exact Calm.ret)) (by kernel_rfl) (by kernel_rfl) rfl rfl rfl rfl rfl rfl rfl ?_
  refine DO.pure tab (by repeat (exact Calm.ret)) (by kernel_rfl) [8, 9] (by kernel_rfl) rfl ?_
  refine DO.indexP (sz := 3) tab 10 i (by repeat (exact Calm.ret)) (by kernel_rfl) (by kernel_rfl) rfl rfl rfl rfl rfl rfl rfl rfl rfl hi ?_
  refine DO.loadE (jj := 0) tab 11 1 rWt hgi (by simp only [rWt]; omega) (fun _ => rfl) (by repeat (exact Calm.ret)) (by kernel_rfl) (by kernel_rfl) rfl rfl rfl rfl rfl rfl rfl ?_
  refine DO.indexP (sz := 3) tab 12 i (by repeat (exact Calm.ret)) (by kernel_rfl) (by kernel_rfl) rfl rfl rfl rfl rfl rfl rfl rfl rfl hi ?_
  refine DO.tail ?_
  refine DOt.run 13 rfl rfl (by kernel_rfl) rfl ?_
  refine OT.storeE (h2 := gk hs j) tab 1 rWt hgi (j := 0) (by simp only [rWt]; omega) (fun _ => rfl) (Nat.le_refl _) rfl rfl rfl rfl rfl rfl rfl ?_
  refine DOt.run 14 rfl rfl (by kernel_rfl) rfl ?_
  refine OT.indexP (sz := 3) tab j rfl rfl rfl rfl rfl rfl rfl hj ?_
  refine DOt.run 15 rfl rfl (by kernel_rfl) rfl ?_
  refine OT.storeE (h2 := gk hs i) (h := gk (hs.set i (gk hs j)) j) tab 1 rWt (k := j) (gk_get (by simp; omega)) (j := 0) (by simp only [rWt]; omega) (fun _ => rfl) (Nat.le_refl _) rfl rfl rfl rfl rfl rfl rfl ?_
  refine DOt.nil (by kernel_rfl) ?_
  rotate_left 1
  refine retQ_n rfl (by repeat (exact List.sublist_append_left _ _)) ⟨rfl, rfl⟩
end Go.Sep

/-
  The plan, plainly: what both programs compute.
-/
set_option linter.unusedVariables false
set_option linter.unusedSimpArgs false
namespace Go.Sep
def isDir (sites : List Site) (i : Nat) : Bool := decide ((siteD sites i).iface < 0)
def directL (sites : List Site) : List Nat := (List.range sites.length).filter fun i => isDir sites i
open Classical in
noncomputable def againP (h : Hier) (t : Int) : Bool := decide (Path1 (graphM h) t.toNat t.toNat)
open Classical in
theorem againP_iff {h : Hier} {t : Int} : againP h t = true ↔ Path1 (graphM h) t.toNat t.toNat := by
  unfold againP
  simp
open Classical in
noncomputable def planE (h : Hier) (sizes : List Int) (budget most : Int) : Int :=
  if soundM h ≠ 0 then soundM h else if (sizes.length : Int) ≠ h.funcs ∨ ∃ n ∈ sizes, n < 1 ∨ 65536 < n then 2 else if budget < 0 ∨ 1073741824 < budget ∨ most < 0 ∨ 1073741824 < most then 1 else 0
def PlanOut (h : Hier) (sizes : List Int) (budget most : Int) (o a : List Int) : Prop :=
  if planE h sizes budget most ≠ 0 then o = [] ∧ a = [] else ∃ st, PlanR h.sites (againP h) budget most (directL h.sites) ⟨sizes, 0, []⟩ st ∧ o = st.out ∧ a = st.after
theorem PlanOut.det {h : Hier} {sizes : List Int} {budget most : Int} {o a o' a' : List Int} (k : PlanOut h sizes budget most o a) (k' : PlanOut h sizes budget most o' a') : o = o' ∧ a = a' := by
  unfold PlanOut at k k'
  split at k
  · rw [if_pos (by assumption)] at k'
    exact ⟨k.1.trans k'.1.symm, k.2.trans k'.2.symm⟩
  · rw [if_neg (by assumption)] at k'
    obtain ⟨st, h1, h2, h3⟩ := k
    obtain ⟨st', h1', h2', h3'⟩ := k'
    have := h1.det (List.Perm.refl _) h1'
    subst this
    exact ⟨h2.trans h2'.symm, h3.trans h3'.symm⟩
theorem siteD_eq {sites : List Site} {i : Nat} {s : Site} (h : sites[i]? = some s) : siteD sites i = s := by simp [siteD, h]
/-- what is known of the sizes on the way -/
structure StOk (n : Nat) (st : PSt) : Prop where
  len : st.after.length = n
  rng : ∀ i, i < n → 1 ≤ at0 st.after i ∧ at0 st.after i ≤ 1073741824
  gr : 0 ≤ st.growth ∧ st.growth ≤ 1073741824
section
variable {sites : List Site} {again : Int → Bool} {budget most : Int}
theorem StOk.act {n : Nat} {st : PSt} (h : StOk n st) {i : Nat} (hf : frN sites i < n) (ht : toN sites i < n) (hb : budget ≤ 1073741824) (hm : most ≤ 1073741824) :
    StOk n (actP sites again budget most st i) ∧ ∀ k, at0 st.after k ≤ at0 (actP sites again budget most st i).after k := by
  cases ho : okP sites again budget most st i with
  | false => rw [act_out st i ho]; exact ⟨h, fun _ => Int.le_refl _⟩
  | true =>
    rw [act_in st i ho]
    have h1 := h.rng _ ht
    have h2 := h.rng _ hf
    unfold okP at ho
    simp only [Bool.not_eq_true', Bool.or_eq_false_iff, decide_eq_false_iff_not] at ho
    obtain ⟨_, _, h3, h4⟩ := ho
    have hg := h.gr
    have hle : ∀ k, at0 st.after k ≤ at0 (st.after.set (frN sites i) (at0 st.after (frN sites i) + (at0 st.after (toN sites i) - 1))) k := fun k => by
      rw [at0_set]
      split
      · rename_i e; rw [← e.1]; omega
      · exact Int.le_refl _
    refine ⟨⟨by simp [h.len], fun k hk => ?_, by simp only; omega⟩, hle⟩
    have h5 := h.rng k hk
    have h6 := hle k
    refine ⟨by simp only; omega, ?_⟩
    simp only
    rw [at0_set]
    split
    · omega
    · exact h5.2
theorem StOk.grow {n : Nat} {sizes : List Int} {st : PSt} (h : StOk n st) : True := trivial
/-- the queue holds what waits -/
structure QI (sites : List Site) (xs : List Wt) (W : List Nat) (st : PSt) : Prop where
  el : ∀ x ∈ xs, ∃ w : Nat, x.n = (w : Int) ∧ w < sites.length ∧ x.to = (siteD sites w).to ∧ 1 ≤ x.size ∧ x.size ≤ at0 st.after (toN sites w)
  perm : (xs.map fun x => x.n.toNat).Perm W
theorem QI.permX {xs ys : List Wt} {W : List Nat} {st : PSt} (h : QI sites xs W st) (p : ys.Perm xs) : QI sites ys W st :=
  ⟨fun x hx => h.el x (p.mem_iff.1 hx), (p.map _).trans h.perm⟩
theorem QI.nil {W : List Nat} {st : PSt} (h : QI sites [] W st) : W = [] := List.nil_perm.1 (by simpa using h.perm)
/-- what was taken out was not as1 it is now: put back -/
theorem QI.stale {xs rest : List Wt} {W : List Nat} {st : PSt} {x : Wt} {w : Nat} (h : QI sites xs W st) (p : (rest ++ [x]).Perm xs) (hw : x.n = (w : Int)) (hwl : w < sites.length) (ht : x.to = (siteD sites w).to) (h1 : 1 ≤ at0 st.after (toN sites w)) :
    QI sites (rest ++ [⟨x.n, x.to, at0 st.after (toN sites w)⟩]) W st := by
  have h2 := h.permX p
  refine ⟨fun y hy => ?_, ?_⟩
  · rcases List.mem_append.1 hy with hy | hy
    · exact h2.el y (List.mem_append_left _ hy)
    · simp only [List.mem_singleton] at hy
      subst hy
      exact ⟨w, hw, hwl, ht, h1, Int.le_refl _⟩
  · have := h2.perm
    simp only [List.map_append, List.map_cons, List.map_nil] at this ⊢
    exact this
/-- it was: it is the best -/
theorem QI.best {xs rest : List Wt} {W : List Nat} {st : PSt} {x : Wt} {w : Nat} (h : QI sites xs W st) (p : (rest ++ [x]).Perm xs) (hmin : ∀ y ∈ xs, ltW y x = false) (hw : x.n = (w : Int)) (hs : x.size = at0 st.after (toN sites w)) : IsBest sites st W w := by
  have h2 := h.permX p
  refine ⟨h2.perm.mem_iff.1 (List.mem_map.2 ⟨x, by simp, by rw [hw]; rfl⟩), fun v hv hne => ?_⟩
  obtain ⟨y, hy, hyn⟩ := List.mem_map.1 (h2.perm.mem_iff.2 hv)
  have hm := hmin y (p.mem_iff.1 hy)
  obtain ⟨u, u1, u2, u3, u4, u5⟩ := h2.el y hy
  have hu : u = v := by rw [u1] at hyn; simpa using hyn
  subst hu
  simp only [ltW, Bool.or_eq_false_iff, Bool.and_eq_false_iff, decide_eq_false_iff_not] at hm
  simp only [keyLt, Bool.or_eq_true, Bool.and_eq_true, decide_eq_true_eq]
  omega
theorem QI.rest {xs rest : List Wt} {W : List Nat} {st st' : PSt} {x : Wt} {w : Nat} (h : QI sites xs W st) (p : (rest ++ [x]).Perm xs) (hw : x.n = (w : Int)) (hle : ∀ k, at0 st.after k ≤ at0 st'.after k) : QI sites rest (W.erase w) st' := by
  have h2 := h.permX p
  refine ⟨fun y hy => ?_, ?_⟩
  · obtain ⟨u, u1, u2, u3, u4, u5⟩ := h2.el y (List.mem_append_left _ hy)
    exact ⟨u, u1, u2, u3, u4, Int.le_trans u5 (hle _)⟩
  · have h3 := h2.perm
    simp only [List.map_append, List.map_cons, List.map_nil, hw, Int.toNat_natCast] at h3
    have h4 : (w :: rest.map fun x => x.n.toNat).Perm W := (List.perm_append_comm (l₁ := [w])).trans h3
    have h5 := h4.erase w
    rw [List.erase_cons_head] at h5
    exact h5
/-- how far what waits is behind -/
def lag (after : List Int) (xs : List Wt) : Nat := (xs.map fun x => (at0 after x.to.toNat - x.size).toNat).sum
theorem lag_perm {after : List Int} {xs ys : List Wt} (p : xs.Perm ys) : lag after xs = lag after ys := (p.map _).sum_nat
theorem lag_app (after : List Int) (xs ys : List Wt) : lag after (xs ++ ys) = lag after xs + lag after ys := by simp [lag]
theorem lag_le {after : List Int} {M : Nat} : ∀ (xs : List Wt), (∀ x ∈ xs, (at0 after x.to.toNat - x.size).toNat ≤ M) → lag after xs ≤ xs.length * M
  | [], _ => by simp [lag]
  | x :: xs, h => by
    have h1 := h x (List.mem_cons_self ..)
    have h2 := lag_le xs fun y hy => h y (List.mem_cons_of_mem _ hy)
    simp only [lag, List.map_cons, List.sum_cons, List.length_cons, Nat.add_mul] at h2 ⊢
    omega
/-- the queue as1 it is made -/
def qOf (sites : List Site) (sizes : List Int) (k : Nat) : List Wt := ((List.range k).filter fun i => isDir sites i).map fun i : Nat => ⟨(i : Int), (siteD sites i).to, at0 sizes (toN sites i)⟩
theorem qOf_len (sites : List Site) (sizes : List Int) (k : Nat) : (qOf sites sizes k).length ≤ k := by
  unfold qOf
  rw [List.length_map]
  exact Nat.le_trans (List.length_filter_le _ _) (by simp)
theorem qOf_in {sites : List Site} {sizes : List Int} {k : Nat} (h : isDir sites k = true) : qOf sites sizes (k + 1) = qOf sites sizes k ++ [⟨(k : Int), (siteD sites k).to, at0 sizes (toN sites k)⟩] := by
  unfold qOf
  rw [List.range_succ, List.filter_append, List.map_append]
  congr 1
  simp [h]
theorem qOf_out {sites : List Site} {sizes : List Int} {k : Nat} (h : isDir sites k = false) : qOf sites sizes (k + 1) = qOf sites sizes k := by
  unfold qOf
  rw [List.range_succ, List.filter_append, List.map_append]
  simp [h]
theorem QI.start {sizes : List Int} {n : Nat} (hto : ∀ i, i < sites.length → isDir sites i = true → toN sites i < n) (h1 : ∀ i, i < n → 1 ≤ at0 sizes i) : QI sites (qOf sites sizes sites.length) (directL sites) ⟨sizes, 0, []⟩ := by
  refine ⟨fun x hx => ?_, ?_⟩
  · obtain ⟨i, hi, rfl⟩ := List.mem_map.1 hx
    obtain ⟨h2, h3⟩ := List.mem_filter.1 hi
    have h4 := List.mem_range.1 h2
    exact ⟨i, rfl, h4, rfl, h1 _ (hto i h4 h3), Int.le_refl _⟩
  · unfold qOf directL
    rw [List.map_map]
    have : ((fun x : Wt => x.n.toNat) ∘ fun i : Nat => (⟨(i : Int), (siteD sites i).to, at0 sizes (toN sites i)⟩ : Wt)) = id := by
      funext i; simp
    rw [this, List.map_id]

/-! the definition's way -/
def cand (sites : List Site) (lk : List Bool) (i : Nat) : Bool := isDir sites i && !(lk[i]?.getD false)
def refW (sites : List Site) (lk : List Bool) : List Nat := (List.range sites.length).filter fun i => cand sites lk i
theorem refW_start (sites : List Site) : refW sites (List.replicate sites.length false) = directL sites := by
  unfold refW directL
  congr 1
  funext i
  unfold cand
  rw [List.getElem?_replicate]
  split <;> simp
theorem refW_erase {sites : List Site} {lk : List Bool} {b : Nat} (hb : b < lk.length) : (refW sites lk).erase b = refW sites (lk.set b true) := by
  have hnd : (refW sites lk).Nodup := List.Pairwise.filter _ List.nodup_range
  rw [hnd.erase_eq_filter]
  unfold refW
  rw [List.filter_filter]
  congr 1
  funext i
  unfold cand
  rw [List.getElem?_set]
  by_cases e : b = i
  · subst e
    simp [hb]
  · have e2 : (i != b) = true := by simp [Ne.symm e]
    simp [e, e2]
inductive Bst (sites : List Site) (after : List Int) (lk : List Bool) (k : Nat) : Int → Prop
  | none (h : ∀ i, i < k → cand sites lk i = false) : Bst sites after lk k (-1)
  | some (b : Nat) (hb : b < k) (hc : cand sites lk b = true) (h : ∀ i, i < k → cand sites lk i = true → i ≠ b → keyLt (at0 after (toN sites b)) b (at0 after (toN sites i)) i = true) : Bst sites after lk k (b : Int)
theorem Bst.skip {after : List Int} {lk : List Bool} {k : Nat} {best : Int} (h : Bst sites after lk k best) (hc : cand sites lk k = false) : Bst sites after lk (k + 1) best := by
  cases h with
  | none h =>
    refine .none fun i hi => ?_
    by_cases e : i = k
    · rw [e]; exact hc
    · exact h i (by omega)
  | some b hb hcb h =>
    refine .some b (by omega) hcb fun i hi hci hne => ?_
    by_cases e : i = k
    · rw [e, hc] at hci; cases hci
    · exact h i (by omega) hci hne
theorem Bst.take {after : List Int} {lk : List Bool} {k : Nat} {best : Int} (h : Bst sites after lk k best) (hc : cand sites lk k = true) (hl : ∀ b : Nat, best = (b : Int) → at0 after (toN sites k) < at0 after (toN sites b)) : Bst sites after lk (k + 1) (k : Int) := by
  refine .some k (by omega) hc fun i hi hci hne => ?_
  cases h with
  | none h => rw [h i (by omega)] at hci; cases hci
  | some b hb hcb h =>
    have h1 := hl b rfl
    simp only [keyLt, Bool.or_eq_true, Bool.and_eq_true, decide_eq_true_eq]
    by_cases e : i = b
    · subst e; omega
    · have := h i (by omega) hci e
      simp only [keyLt, Bool.or_eq_true, Bool.and_eq_true, decide_eq_true_eq] at this
      omega
theorem Bst.stay {after : List Int} {lk : List Bool} {k b : Nat} (h : Bst sites after lk k (b : Int)) (hl : ¬ at0 after (toN sites k) < at0 after (toN sites b)) : Bst sites after lk (k + 1) (b : Int) := by
  generalize hx : (b : Int) = best at h
  cases h with
  | none h => omega
  | some c hb hcb h =>
    have : b = c := by omega
    subst this
    refine .some b (by omega) hcb fun i hi hci hne => ?_
    by_cases e : i = k
    · subst e
      simp only [keyLt, Bool.or_eq_true, Bool.and_eq_true, decide_eq_true_eq]
      omega
    · exact h i (by omega) hci hne
theorem Bst.best {after : List Int} {growth : Int} {out : List Int} {lk : List Bool} {b : Nat} (h : Bst sites after lk sites.length (b : Int)) : IsBest sites ⟨after, growth, out⟩ (refW sites lk) b ∧ b < sites.length ∧ cand sites lk b = true := by
  generalize hx : (b : Int) = best at h
  cases h with
  | none h => omega
  | some c hb hcb h =>
    have : b = c := by omega
    subst this
    refine ⟨⟨List.mem_filter.2 ⟨List.mem_range.2 hb, hcb⟩, fun w hw hne => ?_⟩, hb, hcb⟩
    obtain ⟨h1, h2⟩ := List.mem_filter.1 hw
    exact h w (List.mem_range.1 h1) h2 hne
theorem Bst.empty {after : List Int} {lk : List Bool} (h : Bst sites after lk sites.length (-1)) : refW sites lk = [] := by
  generalize hx : (-1 : Int) = best at h
  cases h with
  | none h => exact List.filter_eq_nil_iff.2 fun i hi => by rw [h i (List.mem_range.1 hi)]; decide
  | some c hb hcb h => omega
end
end Go.Sep

/-
  Who comes to whom, by the way through ever more functions: plain.
-/
set_option linter.unusedVariables false
set_option linter.unusedSimpArgs false
namespace Go.Sep

/-- by one call or more, what lies between being below m -/
inductive PV (g : List (List Int)) (m : Nat) (i : Nat) : Nat → Prop
  | edge {j : Nat} : Edge g i j → PV g m i j
  | step {k j : Nat} : PV g m i k → k < m → Edge g k j → PV g m i j

theorem PV.path1 {g : List (List Int)} {m i j : Nat} (h : PV g m i j) : Path1 g i j := by
  induction h with
  | edge he => exact ⟨_, he, .refl⟩
  | step _ _ he ih =>
    obtain ⟨c, h1, h2⟩ := ih
    exact ⟨c, h1, .step h2 he⟩
theorem PV.mono {g : List (List Int)} {m m' i j : Nat} (h : PV g m i j) (hm : m ≤ m') : PV g m' i j := by
  induction h with
  | edge he => exact .edge he
  | step _ hk he ih => exact .step ih (by omega) he
theorem PV.split {g : List (List Int)} {m i j : Nat} (h : PV g (m + 1) i j) : PV g m i j ∨ (PV g m i m ∧ PV g m m j) := by
  induction h with
  | edge he => exact .inl (.edge he)
  | step _ hk he ih =>
    rename_i k j' _
    by_cases e : k = m
    · subst e
      rcases ih with h1 | ⟨h1, h2⟩
      · exact .inr ⟨h1, .edge he⟩
      · exact .inr ⟨h1, .edge he⟩
    · rcases ih with h1 | ⟨h1, h2⟩
      · exact .inl (.step h1 (by omega) he)
      · exact .inr ⟨h1, .step h2 (by omega) he⟩
theorem PV.of_path1 {g : List (List Int)} {n i j : Nat} (hlt : ∀ a b, a < n → Edge g a b → b < n) (hi : i < n) (h : Path1 g i j) : PV g n i j := by
  obtain ⟨c, h1, h2⟩ := h
  have : ∀ {x : Nat}, Path g c x → PV g n i x ∧ x < n := fun hp => by
    induction hp with
    | refl => exact ⟨.edge h1, hlt _ _ hi h1⟩
    | step _ he ih => exact ⟨.step ih.1 ih.2 he, hlt _ _ ih.2 he⟩
  exact (this h2).1
theorem Path1.trans {g : List (List Int)} {a b c : Nat} (h : Path1 g a b) (k : Path1 g b c) : Path1 g a c := by
  obtain ⟨x, h1, h2⟩ := h
  exact ⟨x, h1, h2.trans k.path⟩

/-- a table's entry -/
def cat (C : List (List Bool)) (i j : Nat) : Bool := ((C[i]?.getD [])[j]?).getD false
def cset (C : List (List Bool)) (i j : Nat) (v : Bool) : List (List Bool) := C.set i ((C[i]?.getD []).set j v)

structure Sq (n : Nat) (C : List (List Bool)) : Prop where
  len : C.length = n
  rows : ∀ (i : Nat) (r : List Bool), C[i]? = some r → r.length = n

theorem Sq.get {n : Nat} {C : List (List Bool)} (h : Sq n C) {i j : Nat} (hi : i < n) (hj : j < n) : ∃ r, C[i]? = some r ∧ r.length = n ∧ r[j]? = some (cat C i j) := by
  have hl := h.len
  have hr : C[i]? = some (C[i]'(by omega)) := by simp [show i < C.length by omega]
  have hrl := h.rows i _ hr
  refine ⟨_, hr, hrl, ?_⟩
  unfold cat
  rw [hr]
  simp only [Option.getD_some]
  rw [List.getElem?_eq_getElem (by omega)]
  rfl
theorem Sq.set {n : Nat} {C : List (List Bool)} (h : Sq n C) {i j : Nat} (hi : i < n) (v : Bool) : Sq n (cset C i j v) := by
  have hl := h.len
  refine ⟨by simp [cset, hl], fun i' r hr => ?_⟩
  unfold cset at hr
  rw [List.getElem?_set] at hr
  split at hr
  · rename_i e
    subst e
    rw [if_pos (by omega)] at hr
    simp only [Option.some.injEq] at hr
    rw [← hr, List.length_set]
    have hr0 : C[i]? = some (C[i]'(by omega)) := by simp [show i < C.length by omega]
    rw [hr0]; exact h.rows i _ hr0
  · exact h.rows i' r hr
theorem cat_set {n : Nat} {C : List (List Bool)} (h : Sq n C) {i j i' j' : Nat} (hi : i < n) (hj : j < n) (v : Bool) : cat (cset C i j v) i' j' = if i = i' ∧ j = j' then v else cat C i' j' := by
  have hl := h.len
  obtain ⟨r, hr, hrl, hrj⟩ := h.get hi hj
  unfold cat cset
  rw [List.getElem?_set, hr]
  simp only [Option.getD_some]
  by_cases e : i = i'
  · subst e
    rw [if_pos rfl, if_pos (by omega)]
    simp only [Option.getD_some, true_and, hr]
    rw [List.getElem?_set]
    by_cases e2 : j = j'
    · subst e2
      rw [if_pos rfl, if_pos (by omega), if_pos rfl]; rfl
    · rw [if_neg e2, if_neg e2]
  · rw [if_neg e, if_neg (fun hh => e hh.1)]

/-- what a table says is so -/
def CSound (g : List (List Int)) (n : Nat) (C : List (List Bool)) : Prop := ∀ i j, i < n → j < n → cat C i j = true → Path1 g i j
/-- in the midst: functions below m are done; of m rows below i, and row i up to k -/
structure CMid (g : List (List Int)) (n m i k : Nat) (C : List (List Bool)) : Prop where
  sq : Sq n C
  sound : CSound g n C
  below : ∀ a b, a < n → b < n → PV g m a b → cat C a b = true
  rows : ∀ a b, a < i → b < n → PV g (m + 1) a b → cat C a b = true
  here : ∀ b, b < k → PV g (m + 1) i b → cat C i b = true

theorem CMid.or {g : List (List Int)} {n m i k : Nat} {C : List (List Bool)} (h : CMid g n m i k C) (hm : m < n) (hi : i < n) (hk : k < n) (him : cat C i m = true) : CMid g n m i (k + 1) (cset C i k (cat C i k || cat C m k)) := by
  have hc := fun a b => cat_set h.sq (i' := a) (j' := b) hi hk (cat C i k || cat C m k)
  have up : ∀ a b, cat C a b = true → cat (cset C i k (cat C i k || cat C m k)) a b = true := fun a b hab => by
    rw [hc]
    split
    · rename_i e
      rw [e.1, e.2, hab]; rfl
    · exact hab
  refine ⟨h.sq.set hi _, fun a b ha hb hab => ?_, fun a b ha hb hp => up a b (h.below a b ha hb hp), fun a b ha hb hp => up a b (h.rows a b ha hb hp), fun b hb hp => ?_⟩
  · rw [hc] at hab
    split at hab
    · rename_i e
      obtain ⟨rfl, rfl⟩ := e
      simp only [Bool.or_eq_true] at hab
      rcases hab with h1 | h1
      · exact h.sound _ _ hi hk h1
      · exact (h.sound _ _ hi hm him).trans (h.sound _ _ hm hk h1)
    · exact h.sound a b ha hb hab
  · by_cases e : b = k
    · subst e
      rw [hc, if_pos ⟨rfl, rfl⟩]
      rcases hp.split with h1 | ⟨_, h2⟩
      · rw [h.below i b hi hk h1]; rfl
      · rw [h.below m b hm hk h2]; simp
    · exact up i b (h.here b (by omega) hp)
theorem CMid.rowDone {g : List (List Int)} {n m i : Nat} {C : List (List Bool)} (h : CMid g n m i n C) : CMid g n m (i + 1) 0 C := by
  refine ⟨h.sq, h.sound, h.below, fun a b ha hb hp => ?_, fun b hb => by omega⟩
  by_cases e : a = i
  · subst e; exact h.here b hb hp
  · exact h.rows a b (by omega) hb hp
theorem CMid.rowNot {g : List (List Int)} {n m i k : Nat} {C : List (List Bool)} (h : CMid g n m i k C) (hm : m < n) (hi : i < n) (him : cat C i m = false) : CMid g n m (i + 1) 0 C := by
  refine ⟨h.sq, h.sound, h.below, fun a b ha hb hp => ?_, fun b hb => by omega⟩
  by_cases e : a = i
  · subst e
    rcases hp.split with h1 | ⟨h1, _⟩
    · exact h.below a b hi hb h1
    · have := h.below a m hi hm h1
      rw [him] at this; cases this
  · exact h.rows a b (by omega) hb hp
theorem CMid.next {g : List (List Int)} {n m : Nat} {C : List (List Bool)} (h : CMid g n m n 0 C) : CMid g n (m + 1) 0 0 C :=
  ⟨h.sq, h.sound, fun a b ha hb hp => h.rows a b ha hb hp, fun a b ha => by omega, fun b hb => by omega⟩
theorem CMid.done {g : List (List Int)} {n : Nat} {C : List (List Bool)} (h : CMid g n n 0 0 C) (hlt : ∀ a b, a < n → Edge g a b → b < n) {i j : Nat} (hi : i < n) (hj : j < n) : cat C i j = true ↔ Path1 g i j :=
  ⟨h.sound i j hi hj, fun hp => h.below i j hi hj (PV.of_path1 hlt hi hp)⟩
end Go.Sep

/-
  Tables of truth values: a slice of rows, each row in cells of its own.
-/
set_option linter.unusedVariables false
set_option linter.unusedSimpArgs false
namespace Go.Sep

/-- slices, as1 addresses -/
def rAddr : R Sl Sl where
  size := 1
  bytes := 24
  enc s := [s.v]
  rep _ h a := h = a
  enc_len _ := rfl
  one _ := rfl
  mono _ h := h

abbrev BRow := Nat × List Bool
def browI (x : BRow) : Item := .cells x.1 0 (x.2.map Value.bool)
@[reducible] def browS (n : Nat) (x : BRow) : Sl := ⟨some ⟨x.1, 0, none⟩, n, n⟩
def brows (xs : List BRow) : List Item := xs.map browI

theorem brows_at {a : Item} {xs : List BRow} {k : Nat} {x : BRow} (h : xs[k]? = some x) : (a :: brows xs)[1 + k]? = some (.cells x.1 0 (x.2.map Value.bool)) := by
  rw [Nat.add_comm]; exact map_get browI h
theorem brows_atL {a : Item} {xs : List BRow} {k : Nat} {x : BRow} (L : List Item) (h : xs[k]? = some x) : (a :: (brows xs ++ L))[1 + k]? = some (.cells x.1 0 (x.2.map Value.bool)) := by
  have hk := (List.getElem?_eq_some_iff.1 h).1
  rw [Nat.add_comm, List.getElem?_cons_succ, List.getElem?_append_left (by simpa [brows] using hk)]
  exact map_get browI h
theorem brows_set {a : Item} {xs : List BRow} {k : Nat} {b : Nat} {l : List Bool} (L : List Item) (h : k < xs.length) : (a :: (brows xs ++ L)).set (1 + k) (.cells b 0 (l.map Value.bool)) = a :: (brows (xs.set k (b, l)) ++ L) := by
  rw [Nat.add_comm]
  simp only [List.set_cons_succ]
  rw [List.set_append_left _ _ (by simpa [brows] using h)]
  congr 2
  simp [brows, List.map_set, browI]

section
variable {P : Program} {N : Nat} {ρ : Env} {D : List Deferred} {L : List Item} {Q : EPost}
theorem TC.freezeRows {c : Code} : ∀ (rows : List BRow) {m : Mem}, (∀ m', m ≤ m' → (∀ x ∈ rows, At m' x.1 0 (x.2.map Value.bool)) → TC P N c ρ D m' L Q) → TC P N c ρ D m (brows rows ++ L) Q
  | [], m, h => h m (Mem.le_refl _) (fun x hx => by cases hx)
  | y :: rows, m, h => by
    refine TC.freeze (b := y.1) (off := 0) (vs := y.2.map Value.bool) fun m1 hm1 hA => ?_
    refine TC.freezeRows rows fun m2 hm2 hB => ?_
    refine h m2 (Mem.le_trans hm1 hm2) fun x hx => ?_
    rcases List.mem_cons.1 hx with rfl | hx
    · exact hA.mono hm2
    · exact hB x hx
end

theorem bools_rep {m : Mem} {b n : Nat} {l : List Bool} (hA : At m b 0 (l.map Value.bool)) (hl : l.length = n) (hn : n ≤ 140737488355328) : SlRep rBool m ⟨some ⟨b, 0, none⟩, n, n⟩ l := by
  refine ⟨hl.symm, Nat.le_refl _, by simp only [rBool]; omega, l, ?_, .inr ⟨b, 0, rfl, ?_⟩⟩
  · clear hl hA
    induction l with
    | nil => trivial
    | cons x xs ih => exact ⟨rfl, ih⟩
  · have e : encs rBool l = l.map Value.bool := by
      clear hl hA
      induction l with
      | nil => rfl
      | cons x xs ih => simpa [encs, rBool] using ih
    rw [e]; exact hA

/-- a table that is left alone -/
theorem rows_rep {m : Mem} {s : Sl} {n : Nat} {rows : List BRow} (h : SlRep rAddr m s (rows.map (browS n))) (hA : ∀ x ∈ rows, At m x.1 0 (x.2.map Value.bool)) (hl : ∀ x ∈ rows, x.2.length = n) (hn : n ≤ 140737488355328) : SlRep (rSl rBool) m s (rows.map (·.2)) := by
  obtain ⟨hs, h2, hc⟩ := h.cells
  have hlen := h.len
  have key : ∀ (hs : List Sl) (rows : List BRow), (∀ x ∈ rows, At m x.1 0 (x.2.map Value.bool)) → (∀ x ∈ rows, x.2.length = n) → All2 (rAddr.rep m) hs (rows.map (browS n)) → All2 ((rSl rBool).rep m) hs (rows.map (·.2)) := fun hs => by
    induction hs with
    | nil =>
      intro rows _ _ h
      cases rows with
      | nil => trivial
      | cons x xs => exact h.elim
    | cons s hs ih =>
      intro rows hA hl h
      cases rows with
      | nil => exact h.elim
      | cons x xs =>
        refine ⟨?_, ih xs (fun y hy => hA y (List.mem_cons_of_mem _ hy)) (fun y hy => hl y (List.mem_cons_of_mem _ hy)) h.2⟩
        have e : s = browS n x := h.1
        subst e
        exact bools_rep (hA x (List.mem_cons_self ..)) (hl x (List.mem_cons_self ..)) hn
  refine ⟨by simpa using hlen, h.cap, h.fit, hs, key hs rows hA hl h2, ?_⟩
  rcases hc with ⟨h3, h4⟩ | ⟨b, o, h3, h4⟩
  · left
    refine ⟨?_, h4⟩
    have : rows = [] := by simpa using h3
    rw [this]; rfl
  · exact .inr ⟨b, o, h3, h4⟩
end Go.Sep
