/-
  Walks of layer 13: slices.Insert of one number.
-/
import Derived.Test.YtopkiglcemcjnaaCxWalk12
import Derived.Test.YtopkiglcemcjnaaSepO
set_option linter.unusedVariables false
set_option linter.unusedSimpArgs false
namespace Go.Sep
open Go.Proofs
attribute [local irreducible] TC TO OT TCallX TCall DO DOt thenQ blockQ retQ At

theorem putAt_eq {vs news : List Value} {k : Nat} (h : k + news.length ≤ vs.length) : putAt vs k news = vs.take k ++ news ++ vs.drop (k + news.length) := by
  have e := putAt_front news (vs.drop k) (by simp; omega) (vs.take k)
  rw [List.take_append_drop, show (vs.take k).length = k by simp; omega, List.drop_drop] at e
  exact e

theorem ins_cells {vs xs : List Value} {n i : Nat} {x : Value} (hn : xs.length = n) (hx : vs.take n = xs) (hi : i ≤ n) (hc : n + 1 ≤ vs.length) :
    (putAt (putAt vs (i + 1) (xs.drop i)) i [x]).take (n + 1) = xs.take i ++ x :: xs.drop i := by
  have hd : (xs.drop i).length = n - i := by simp [hn]
  have h1 : (putAt vs (i + 1) (xs.drop i)).length = vs.length := putAt_length _ _ _
  rw [putAt_eq (by simp [h1]; omega), putAt_eq (by omega)]
  have e1 : (vs.take (i + 1) ++ xs.drop i ++ vs.drop (i + 1 + (xs.drop i).length)).take i = xs.take i := by
    rw [List.append_assoc, List.take_append_of_le_length (by simp; omega), List.take_take, ← hx, List.take_take]
    congr 1; omega
  have e2 : (vs.take (i + 1) ++ xs.drop i ++ vs.drop (i + 1 + (xs.drop i).length)).drop (i + [x].length) = xs.drop i ++ vs.drop (n + 1) := by
    rw [List.append_assoc, List.drop_append_of_le_length (by simp; omega), List.drop_eq_nil_of_le (by simp; omega), List.nil_append, hd]
    congr 2; omega
  rw [e1, e2, List.append_assoc]
  have h3 : (xs.take i ++ ([x] ++ xs.drop i)).length = n + 1 := by simp [hn]; omega
  rw [show xs.take i ++ ([x] ++ (xs.drop i ++ vs.drop (n + 1))) = (xs.take i ++ ([x] ++ xs.drop i)) ++ vs.drop (n + 1) by simp, List.take_append_of_le_length (by omega), List.take_of_length_le (by omega)]
  rfl

theorem ins_cells2 {vs2 ys r : List Value} {n i : Nat} {x : Value} (hi : i ≤ n) (hr : r.length = n - i) (hx : vs2.take i = ys) (hc : n + 1 ≤ vs2.length) :
    (putAt (putAt vs2 i [x]) (i + 1) r).take (n + 1) = ys ++ x :: r := by
  have h1 : (putAt vs2 i [x]).length = vs2.length := putAt_length _ _ _
  have hyl : ys.length = i := by rw [← hx]; simp; omega
  rw [putAt_eq (by omega), putAt_eq (by simp; omega)]
  have e1 : (vs2.take i ++ [x] ++ vs2.drop (i + [x].length)).take (i + 1) = ys ++ [x] := by
    rw [hx, List.take_append_of_le_length (by simp [hyl]), List.take_of_length_le (by simp [hyl])]
  rw [e1]
  rw [List.take_append_of_le_length (by simp [hyl, hr]; omega), List.take_of_length_le (by simp [hyl, hr]; omega)]
  simp

theorem allOne_map (xs : List Int) : allOne (xs.map (Value.int .i64)) = true := by
  induction xs with
  | nil => rfl
  | cons x xs ih => exact ih

theorem allOne_drop (xs : List Int) (k : Nat) : allOne ((xs.map (Value.int .i64)).drop k) = true := by
  rw [← List.map_drop]; exact allOne_map _

set_option maxHeartbeats 4000000 in
theorem insert_own (m : Mem) (L : List Item) (b : Nat) (s : Sl) (vs : List Value) (xs : List Int) (x : Int) (i : Nat) (hq : MQ (Value.int .i64) s vs xs) (hi : i ≤ xs.length) (hfit : (xs.length + 1) * 8 ≤ 140737488355328) :
    TCall Try.prog 39 ⟨[s.v, .int .i64 (i : Int), .slice (some ⟨b, 0, none⟩) 1 1]⟩ m (.cells b 0 [.int .i64 x] :: mcell s vs :: L)
      (fun r m' L' => m = m' ∧ ∃ s' vs', r = s'.v ∧ MQ (Value.int .i64) s' vs' (xs.take i ++ x :: xs.drop i) ∧ L' = mcell s' vs' :: L) := by
  have hl := hq.len
  have hcap := hq.ms.len
  have hall := hq.ms.all
  unfold TCall
  refine TCallX.enter Try.func39 rfl 95 rfl ?_
  repeat (first | refine TC.seq ?_ | refine TC.block ?_ | refine TC.region ?_ | refine TO.pureP tab rfl rfl ?_ | refine TO.nil ?_ | refine thenQ_n ?_ | refine blockQ_n ?_ | refine thenQ_r ?_ | refine blockQ_r ?_ | refine thenQ_x ?_ | refine blockQ_hit ?_ | refine blockQ_miss rfl ?_ | refine TC.skip ?_ | refine TC.exit ?_ | refine TC.ret ?_ | refine TC.cond_t rfl ?_ | refine TC.cond_f rfl ?_)
  refine TO.step rfl (OT.cutS tab i s.len rfl rfl rfl rfl rfl rfl rfl (.inr rfl) (.inl ⟨rfl, rfl⟩) (by omega) hcap ?_)
  repeat (first | refine TC.seq ?_ | refine TC.block ?_ | refine TC.region ?_ | refine TO.pureP tab rfl rfl ?_ | refine TO.nil ?_ | refine thenQ_n ?_ | refine blockQ_n ?_ | refine thenQ_r ?_ | refine blockQ_r ?_ | refine thenQ_x ?_ | refine blockQ_hit ?_ | refine blockQ_miss rfl ?_ | refine TC.skip ?_ | refine TC.exit ?_ | refine TC.ret ?_ | refine TC.cond_t rfl ?_ | refine TC.cond_f rfl ?_)
  refine TC.condP rfl (fun hin => ?_) (fun hin => ?_)
  · have hin' : i = xs.length := by omega
    repeat (first | refine TC.seq ?_ | refine TC.block ?_ | refine TC.region ?_ | refine TO.pureP tab rfl rfl ?_ | refine TO.nil ?_ | refine thenQ_n ?_ | refine blockQ_n ?_ | refine thenQ_r ?_ | refine blockQ_r ?_ | refine thenQ_x ?_ | refine blockQ_hit ?_ | refine blockQ_miss rfl ?_ | refine TC.skip ?_ | refine TC.exit ?_ | refine TC.ret ?_ | refine TC.cond_t rfl ?_ | refine TC.cond_f rfl ?_)
    refine TO.step rfl (OT.push tab hq.ms rfl rfl rfl rfl rfl rfl rfl (show (s.len + 1) * 8 ≤ 140737488355328 by omega) (fun s2 vs2 g1 g2 g3 => ?_))
    repeat (first | refine TC.seq ?_ | refine TC.block ?_ | refine TC.region ?_ | refine TO.pureP tab rfl rfl ?_ | refine TO.nil ?_ | refine thenQ_n ?_ | refine blockQ_n ?_ | refine thenQ_r ?_ | refine blockQ_r ?_ | refine thenQ_x ?_ | refine blockQ_hit ?_ | refine blockQ_miss rfl ?_ | refine TC.skip ?_ | refine TC.exit ?_ | refine TC.ret ?_ | refine TC.cond_t rfl ?_ | refine TC.cond_f rfl ?_)
    refine retQ_ret rfl (List.Sublist.refl _) ⟨rfl, s2, vs2, rfl, ?_, rfl⟩
    have := hq.push x g1 g2 g3
    rw [hin', List.take_length, List.drop_length]
    exact this
  · obtain ⟨bs, o, c, hse, hc1, hc2⟩ := hq.ne (by omega)
    subst hse
    simp only at hl hcap hall hin ⊢
    simp only [mcell]
    repeat (first | refine TC.seq ?_ | refine TC.block ?_ | refine TC.region ?_ | refine TO.pureP tab rfl rfl ?_ | refine TO.nil ?_ | refine thenQ_n ?_ | refine blockQ_n ?_ | refine thenQ_r ?_ | refine blockQ_r ?_ | refine thenQ_x ?_ | refine blockQ_hit ?_ | refine blockQ_miss rfl ?_ | refine TC.skip ?_ | refine TC.exit ?_ | refine TC.ret ?_ | refine TC.cond_t rfl ?_ | refine TC.cond_f rfl ?_)
    refine TO.step rfl (OT.arith (r' := ((xs.length + 1 : Nat) : Int)) rfl rfl rfl rfl rfl rfl rfl (by omega) ?_)
    repeat (first | refine TC.seq ?_ | refine TC.block ?_ | refine TC.region ?_ | refine TO.pureP tab rfl rfl ?_ | refine TO.nil ?_ | refine thenQ_n ?_ | refine blockQ_n ?_ | refine thenQ_r ?_ | refine blockQ_r ?_ | refine thenQ_x ?_ | refine blockQ_hit ?_ | refine blockQ_miss rfl ?_ | refine TC.skip ?_ | refine TC.exit ?_ | refine TC.ret ?_ | refine TC.cond_t rfl ?_ | refine TC.cond_f rfl ?_)
    obtain ⟨ei, e1, e2, e3, e4⟩ : ∃ (ei : TI), tab.elem 32 = some (3, ei) ∧ cellsF ei.zero = some [.int .i64 0] ∧ Nat.beq ei.size 1 = true ∧ ei.bytes = 8 := ⟨_, rfl, rfl, rfl, rfl⟩
    refine TO.step rfl (OT.cap tab rfl rfl rfl rfl e1 ?_)
    have hxd : ((xs.map (Value.int .i64)).drop i).length = xs.length - i := by simp
    have hsrcv : ∀ w LL, St m w LL → (.cells bs o vs) ∈ LL → Cells w bs (o + i) ((xs.map (Value.int .i64)).drop i) := fun w LL hw hm j v hv => by
      obtain ⟨k, hk⟩ := List.getElem?_of_mem hm
      have hc := hw.cells hk
      have := hc (i + j) v (by
        rw [List.getElem?_drop, ← hq.eq, List.getElem?_take] at hv
        split at hv
        · exact hv
        · cases hv)
      rwa [← Nat.add_assoc] at this
    repeat (first | refine TC.seq ?_ | refine TC.block ?_ | refine TC.region ?_ | refine TO.pureP tab rfl rfl ?_ | refine TO.nil ?_ | refine thenQ_n ?_ | refine blockQ_n ?_ | refine thenQ_r ?_ | refine blockQ_r ?_ | refine thenQ_x ?_ | refine blockQ_hit ?_ | refine blockQ_miss rfl ?_ | refine TC.skip ?_ | refine TC.exit ?_ | refine TC.ret ?_ | refine TC.cond_t rfl ?_ | refine TC.cond_f rfl ?_)
    refine TC.condP rfl (fun hgr => ?_) (fun hgr => ?_)
    · simp only at hgr
      have hgr' : c < xs.length + 1 := by omega
      repeat (first | refine TC.seq ?_ | refine TC.block ?_ | refine TC.region ?_ | refine TO.pureP tab rfl rfl ?_ | refine TO.nil ?_ | refine thenQ_n ?_ | refine blockQ_n ?_ | refine thenQ_r ?_ | refine blockQ_r ?_ | refine thenQ_x ?_ | refine blockQ_hit ?_ | refine blockQ_miss rfl ?_ | refine TC.skip ?_ | refine TC.exit ?_ | refine TC.ret ?_ | refine TC.cond_t rfl ?_ | refine TC.cond_f rfl ?_)
      refine TO.step rfl (OT.takeM (c := c) tab i rfl (by omega) rfl rfl rfl rfl rfl rfl ?_)
      repeat (first | refine TC.seq ?_ | refine TC.block ?_ | refine TC.region ?_ | refine TO.pureP tab rfl rfl ?_ | refine TO.nil ?_ | refine thenQ_n ?_ | refine blockQ_n ?_ | refine thenQ_r ?_ | refine blockQ_r ?_ | refine thenQ_x ?_ | refine blockQ_hit ?_ | refine blockQ_miss rfl ?_ | refine TC.skip ?_ | refine TC.exit ?_ | refine TC.ret ?_ | refine TC.cond_t rfl ?_ | refine TC.cond_f rfl ?_)
      refine TO.step rfl (OT.arith (r' := ((xs.length + 1 : Nat) : Int)) rfl rfl rfl rfl rfl rfl rfl (by omega) ?_)
      repeat (first | refine TC.seq ?_ | refine TC.block ?_ | refine TC.region ?_ | refine TO.pureP tab rfl rfl ?_ | refine TO.nil ?_ | refine thenQ_n ?_ | refine blockQ_n ?_ | refine thenQ_r ?_ | refine blockQ_r ?_ | refine thenQ_x ?_ | refine blockQ_hit ?_ | refine blockQ_miss rfl ?_ | refine TC.skip ?_ | refine TC.exit ?_ | refine TC.ret ?_ | refine TC.cond_t rfl ?_ | refine TC.cond_f rfl ?_)
      refine TO.step rfl (OT.arith (r' := ((xs.length + 1 - i : Nat) : Int)) rfl rfl rfl rfl rfl rfl (by omega) (by omega) ?_)
      refine TO.perm (List.Perm.swap _ _ _) ?_
      refine TO.step rfl (OT.growZ (s := ⟨some ⟨bs, o, none⟩, i, c⟩) (z := xs.length + 1 - i) (zv := .int .i64 0) tab (by simp only; omega) (.inr ⟨bs, o, rfl⟩) (by omega) rfl rfl rfl rfl rfl rfl e1 rfl e3 (by rw [e4]; rfl) e2 (by rw [e4]; simp only; omega) (by simp only; omega) (fun b2 vs2 g1 g2 => ?_))
      simp only at g1 g2 ⊢
      rw [show i + (xs.length + 1 - i) = xs.length + 1 by omega] at g1 g2 ⊢
      repeat (first | refine TC.seq ?_ | refine TC.block ?_ | refine TC.region ?_ | refine TO.pureP tab rfl rfl ?_ | refine TO.nil ?_ | refine thenQ_n ?_ | refine blockQ_n ?_ | refine thenQ_r ?_ | refine blockQ_r ?_ | refine thenQ_x ?_ | refine blockQ_hit ?_ | refine blockQ_miss rfl ?_ | refine TC.skip ?_ | refine TC.exit ?_ | refine TC.ret ?_ | refine TC.cond_t rfl ?_ | refine TC.cond_f rfl ?_)
      refine TO.step rfl (OT.cutQ tab i (xs.length + 1) rfl rfl rfl rfl rfl rfl rfl (.inr rfl) (.inl ⟨rfl, rfl⟩) (by omega) (by omega) (by omega) ?_)
      repeat (first | refine TC.seq ?_ | refine TC.block ?_ | refine TC.region ?_ | refine TO.pureP tab rfl rfl ?_ | refine TO.nil ?_ | refine thenQ_n ?_ | refine blockQ_n ?_ | refine thenQ_r ?_ | refine blockQ_r ?_ | refine thenQ_x ?_ | refine blockQ_hit ?_ | refine blockQ_miss rfl ?_ | refine TC.skip ?_ | refine TC.exit ?_ | refine TC.ret ?_ | refine TC.cond_t rfl ?_ | refine TC.cond_f rfl ?_)
      refine TO.step rfl (OT.copy tab 0 (off := 0) (k := i) (s2 := ⟨some ⟨b, 0, none⟩, 1, 1⟩) (news := [.int .i64 x]) rfl rfl rfl rfl rfl e1 e3 (fun w hw => ⟨by simp only [List.length_singleton]; omega, .inr ⟨b, 0, rfl, hw.cells (i := 2) rfl⟩⟩) rfl rfl (by simp only [List.length_singleton]; omega) ?_)
      repeat (first | refine TC.seq ?_ | refine TC.block ?_ | refine TC.region ?_ | refine TO.pureP tab rfl rfl ?_ | refine TO.nil ?_ | refine thenQ_n ?_ | refine blockQ_n ?_ | refine thenQ_r ?_ | refine blockQ_r ?_ | refine thenQ_x ?_ | refine blockQ_hit ?_ | refine blockQ_miss rfl ?_ | refine TC.skip ?_ | refine TC.exit ?_ | refine TC.ret ?_ | refine TC.cond_t rfl ?_ | refine TC.cond_f rfl ?_)
      refine TC.draw [] mixed 9 rfl [] (.cells b2 0 (putAt vs2 i [.int .i64 x]) :: .cells bs o vs :: .cells b 0 [.int .i64 x] :: L) (by first | exact List.Perm.refl _ | (rw [List.append_nil]; exact List.Perm.refl _)) ?_
      refine DO.pure tab (by repeat (first | exact Calm.ret | refine Calm.then ?_ | refine Calm.block ?_ | assumption)) (by kernel_rfl) [0, 1, 2] (by kernel_rfl) rfl ?_
      refine DO.arith 3 (r' := ((i + 1 : Nat) : Int)) (by repeat (first | exact Calm.ret | refine Calm.then ?_ | refine Calm.block ?_ | assumption)) (by kernel_rfl) (by kernel_rfl) rfl rfl rfl rfl rfl rfl rfl rfl (by first | rfl | omega | (simp only; omega)) (by omega) ?_
      refine DO.cutP tab 4 (i + 1) (xs.length + 1) (by repeat (first | exact Calm.ret | refine Calm.then ?_ | refine Calm.block ?_ | assumption)) (by kernel_rfl) (by kernel_rfl) rfl rfl rfl rfl rfl rfl rfl rfl rfl (.inr rfl) (.inl ⟨rfl, rfl⟩) (by omega) (by omega) (by omega) ?_
      refine DO.pure tab (by repeat (first | exact Calm.ret | refine Calm.then ?_ | refine Calm.block ?_ | assumption)) (by kernel_rfl) [5, 6] (by kernel_rfl) rfl ?_
      refine DO.cutP (c := c) tab 7 i xs.length (by repeat (first | exact Calm.ret | refine Calm.then ?_ | refine Calm.block ?_ | assumption)) (by kernel_rfl) (by kernel_rfl) rfl rfl rfl rfl rfl rfl rfl rfl rfl (.inr rfl) (.inl ⟨rfl, rfl⟩) (by omega) (by omega) (by omega) ?_
      refine DO.run 8 rfl rfl (by kernel_rfl) rfl ?_
      refine OT.copy tab 0 (off := 0) (k := i + 1) (n := xs.length + 1 - (i + 1)) (s2 := ⟨some ⟨bs, o + i, none⟩, xs.length - i, c - i⟩) (news := (xs.map (Value.int .i64)).drop i) rfl rfl rfl rfl rfl e1 e3 (fun w hw => ⟨by simp only [hxd]; omega, .inr ⟨bs, o + i, rfl, hsrcv w _ hw (by simp)⟩⟩) (allOne_drop _ _) rfl (by rw [hxd, putAt_length]; omega) ?_; refine ⟨Mem.le_refl _, _, List.Perm.refl _, ?_⟩
      (first | refine DO.nil0 (by kernel_rfl) ?_ | refine DO.nil (by kernel_rfl) ?_)
      rotate_left 1
      repeat (first | refine TC.seq ?_ | refine TC.block ?_ | refine TC.region ?_ | refine TO.pureP tab rfl rfl ?_ | refine TO.nil ?_ | refine thenQ_n ?_ | refine blockQ_n ?_ | refine thenQ_r ?_ | refine blockQ_r ?_ | refine thenQ_x ?_ | refine blockQ_hit ?_ | refine blockQ_miss rfl ?_ | refine TC.skip ?_ | refine TC.exit ?_ | refine TC.ret ?_ | refine TC.cond_t rfl ?_ | refine TC.cond_f rfl ?_)
      have hv2 : vs2.take i = (xs.map (Value.int .i64)).take i := by
        have := congrArg (List.take i) g2
        rw [List.take_take, List.take_append_of_le_length (by simp; omega), List.take_take, Nat.min_self, show min i (xs.length + 1) = i by omega] at this
        rw [this, ← hq.eq, List.take_take]
        congr 1
        simp only
        omega
      refine retQ_ret rfl (L' := .cells b2 0 (putAt (putAt vs2 i [.int .i64 x]) (i + 1) ((xs.map (Value.int .i64)).drop i)) :: L) (by repeat (first | exact List.Sublist.refl _ | refine List.Sublist.cons_cons _ ?_ | refine List.Sublist.cons _ ?_)) ⟨rfl, ⟨some ⟨b2, 0, none⟩, xs.length + 1, vs2.length⟩, _, rfl, ⟨MS.at_ _ _ _ _ _ g1 (by rw [putAt_length, putAt_length]), ?_⟩, rfl⟩
      simp only
      rw [ins_cells2 (by omega) hxd hv2 g1, List.map_append, List.map_cons, List.map_take, List.map_drop]
    · simp only at hgr
      have hgr' : xs.length + 1 ≤ c := by omega
      have hil : i < xs.length := by omega
      have hic : i < c := by omega
      repeat (first | refine TC.seq ?_ | refine TC.block ?_ | refine TC.region ?_ | refine TO.pureP tab rfl rfl ?_ | refine TO.nil ?_ | refine thenQ_n ?_ | refine blockQ_n ?_ | refine thenQ_r ?_ | refine blockQ_r ?_ | refine thenQ_x ?_ | refine blockQ_hit ?_ | refine blockQ_miss rfl ?_ | refine TC.skip ?_ | refine TC.exit ?_ | refine TC.ret ?_ | refine TC.cond_t rfl ?_ | refine TC.cond_f rfl ?_)
      refine TO.step rfl (OT.arith (r' := ((xs.length + 1 : Nat) : Int)) rfl rfl rfl rfl rfl rfl rfl (by omega) ?_)
      refine TO.step rfl (OT.takeM (c := c) tab (xs.length + 1) rfl (by omega) rfl rfl rfl rfl rfl rfl ?_)
      repeat (first | refine TC.seq ?_ | refine TC.block ?_ | refine TC.region ?_ | refine TO.pureP tab rfl rfl ?_ | refine TO.nil ?_ | refine thenQ_n ?_ | refine blockQ_n ?_ | refine thenQ_r ?_ | refine blockQ_r ?_ | refine thenQ_x ?_ | refine blockQ_hit ?_ | refine blockQ_miss rfl ?_ | refine TC.skip ?_ | refine TC.exit ?_ | refine TC.ret ?_ | refine TC.cond_t rfl ?_ | refine TC.cond_f rfl ?_)
      refine TO.step rfl (OT.arith (r' := ((i + 1 : Nat) : Int)) rfl rfl rfl rfl rfl rfl rfl (by omega) ?_)
      refine TO.step rfl (OT.cutQ tab (i + 1) (xs.length + 1) rfl rfl rfl rfl rfl rfl rfl (.inr rfl) (.inl ⟨rfl, rfl⟩) (by omega) (by omega) (by omega) ?_)
      refine TO.step rfl (OT.callX (fn := Try.f45) (E := Extern.SlicesOverlaps.overlaps #[32, 32] #[4]) rfl rfl rfl rfl rfl rfl (by kernel_rfl) (by kernel_rfl) (by kernel_rfl) (by kernel_rfl) (fun w hw => run_overlaps tab e1 (Nat.eq_of_beq_eq_true e3) hw (v := .int .i64 x) (v2 := vs[0]'(by omega)) ?_ ?_ ?_ ?_ ?_) ?_)
      · exact (hw.free _ (List.mem_cons_self ..)).pin (by simp [Item.len])
      · exact (hw.free (.cells bs o vs) (by simp)).pin (by simp only [Item.len]; omega)
      · exact hw.cells (i := 0) rfl 0 _ rfl
      · exact ⟨o + 0, hw.cells (i := 1) rfl 0 _ (by simp [show 0 < vs.length by omega])⟩
      · have := (List.pairwise_cons.1 hw.disj).1 (.cells bs o vs) (by simp)
        simp only [Item.Disj, Item.len, Item.blk, Item.off, List.length_singleton] at this
        omega
      repeat (first | refine TC.seq ?_ | refine TC.block ?_ | refine TC.region ?_ | refine TO.pureP tab rfl rfl ?_ | refine TO.nil ?_ | refine thenQ_n ?_ | refine blockQ_n ?_ | refine thenQ_r ?_ | refine blockQ_r ?_ | refine thenQ_x ?_ | refine blockQ_hit ?_ | refine blockQ_miss rfl ?_ | refine TC.skip ?_ | refine TC.exit ?_ | refine TC.ret ?_ | refine TC.cond_t rfl ?_ | refine TC.cond_f rfl ?_)
      refine TC.draw [] mixed 9 rfl [] (.cells bs o vs :: .cells b 0 [.int .i64 x] :: L) (List.Perm.swap _ _ _) ?_
      refine DO.pure tab (by repeat (first | exact Calm.ret | refine Calm.then ?_ | refine Calm.block ?_ | assumption)) (by kernel_rfl) [0, 1, 2] (by kernel_rfl) rfl ?_
      refine DO.arith 3 (r' := ((i + 1 : Nat) : Int)) (by repeat (first | exact Calm.ret | refine Calm.then ?_ | refine Calm.block ?_ | assumption)) (by kernel_rfl) (by kernel_rfl) rfl rfl rfl rfl rfl rfl rfl rfl (by first | rfl | omega | (simp only; omega)) (by omega) ?_
      refine DO.cutP (c := c) tab 4 (i + 1) (xs.length + 1) (by repeat (first | exact Calm.ret | refine Calm.then ?_ | refine Calm.block ?_ | assumption)) (by kernel_rfl) (by kernel_rfl) rfl rfl rfl rfl rfl rfl rfl rfl rfl (.inr rfl) (.inl ⟨rfl, rfl⟩) (by omega) (by omega) (by omega) ?_
      refine DO.pure tab (by repeat (first | exact Calm.ret | refine Calm.then ?_ | refine Calm.block ?_ | assumption)) (by kernel_rfl) [5, 6] (by kernel_rfl) rfl ?_
      refine DO.cutP (c := c) tab 7 i (xs.length + 1) (by repeat (first | exact Calm.ret | refine Calm.then ?_ | refine Calm.block ?_ | assumption)) (by kernel_rfl) (by kernel_rfl) rfl rfl rfl rfl rfl rfl rfl rfl rfl (.inr rfl) (.inl ⟨rfl, rfl⟩) (by omega) (by omega) (by omega) ?_
      refine DO.run 8 rfl rfl (by kernel_rfl) rfl ?_
      refine OT.copy tab 0 (off := o) (k := i + 1) (n := xs.length + 1 - (i + 1)) (s2 := ⟨some ⟨bs, o + i, none⟩, xs.length + 1 - i, c - i⟩) (news := (xs.map (Value.int .i64)).drop i) rfl rfl rfl rfl rfl e1 e3 (fun w hw => ⟨by simp only [hxd]; omega, .inr ⟨bs, o + i, rfl, hsrcv w _ hw (by simp)⟩⟩) (allOne_drop _ _) rfl (by rw [hxd]; omega) ?_; refine ⟨Mem.le_refl _, _, List.Perm.refl _, ?_⟩
      (first | refine DO.nil0 (by kernel_rfl) ?_ | refine DO.nil (by kernel_rfl) ?_)
      rotate_left 1
      repeat (first | refine TC.seq ?_ | refine TC.block ?_ | refine TC.region ?_ | refine TO.pureP tab rfl rfl ?_ | refine TO.nil ?_ | refine thenQ_n ?_ | refine blockQ_n ?_ | refine thenQ_r ?_ | refine blockQ_r ?_ | refine thenQ_x ?_ | refine blockQ_hit ?_ | refine blockQ_miss rfl ?_ | refine TC.skip ?_ | refine TC.exit ?_ | refine TC.ret ?_ | refine TC.cond_t rfl ?_ | refine TC.cond_f rfl ?_)
      refine TO.step rfl (OT.cutQ (c := c) tab i (xs.length + 1) rfl rfl rfl rfl rfl rfl rfl (.inr rfl) (.inl ⟨rfl, rfl⟩) (by omega) (by omega) (by omega) ?_)
      repeat (first | refine TC.seq ?_ | refine TC.block ?_ | refine TC.region ?_ | refine TO.pureP tab rfl rfl ?_ | refine TO.nil ?_ | refine thenQ_n ?_ | refine blockQ_n ?_ | refine thenQ_r ?_ | refine blockQ_r ?_ | refine thenQ_x ?_ | refine blockQ_hit ?_ | refine blockQ_miss rfl ?_ | refine TC.skip ?_ | refine TC.exit ?_ | refine TC.ret ?_ | refine TC.cond_t rfl ?_ | refine TC.cond_f rfl ?_)
      refine TO.step rfl (OT.copy tab 0 (off := o) (k := i) (s2 := ⟨some ⟨b, 0, none⟩, 1, 1⟩) (news := [.int .i64 x]) rfl rfl rfl rfl rfl e1 e3 (fun w hw => ⟨by simp only [List.length_singleton]; omega, .inr ⟨b, 0, rfl, hw.cells (i := 1) rfl⟩⟩) rfl rfl (by rw [putAt_length]; simp only [List.length_singleton]; omega) ?_)
      repeat (first | refine TC.seq ?_ | refine TC.block ?_ | refine TC.region ?_ | refine TO.pureP tab rfl rfl ?_ | refine TO.nil ?_ | refine thenQ_n ?_ | refine blockQ_n ?_ | refine thenQ_r ?_ | refine blockQ_r ?_ | refine thenQ_x ?_ | refine blockQ_hit ?_ | refine blockQ_miss rfl ?_ | refine TC.skip ?_ | refine TC.exit ?_ | refine TC.ret ?_ | refine TC.cond_t rfl ?_ | refine TC.cond_f rfl ?_)
      refine retQ_ret rfl (L' := .cells bs o (putAt (putAt vs (i + 1) ((xs.map (Value.int .i64)).drop i)) i [.int .i64 x]) :: L) (by repeat (first | exact List.Sublist.refl _ | refine List.Sublist.cons_cons _ ?_ | refine List.Sublist.cons _ ?_)) ⟨rfl, ⟨some ⟨bs, o, none⟩, xs.length + 1, c⟩, _, rfl, ⟨MS.at_ _ _ _ _ _ hgr' (by rw [putAt_length, putAt_length]; exact hc2), ?_⟩, rfl⟩
      simp only
      rw [ins_cells (n := xs.length) (by simp) hq.eq (by omega) (by omega), List.map_append, List.map_cons, List.map_take, List.map_drop]
end Go.Sep
