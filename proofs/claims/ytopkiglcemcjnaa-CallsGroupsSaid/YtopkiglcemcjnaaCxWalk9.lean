/-
  Walks of layer 13: visit.
-/
import Derived.Test.YtopkiglcemcjnaaCxTarjan
set_option linter.unusedVariables false
set_option linter.unusedSimpArgs false
namespace Go.Sep
open Go.Proofs
attribute [local irreducible] TC TO OT TCallX TCall DO DOt thenQ blockQ retQ At

/-- where the pieces of a state lie -/
structure TP where
  tg : Sl
  n : Nat
  bt : Nat
  bi : Nat
  bl : Nat
  bg : Nat

@[reducible] def tcells (p : TP) (s : Sl) (st : TS) : List Value :=
  [.slice p.tg.a p.tg.len p.tg.cap, .slice (some ⟨p.bi, 0, none⟩) p.n p.n, .slice (some ⟨p.bl, 0, none⟩) p.n p.n, .slice (some ⟨p.bg, 0, none⟩) p.n p.n, .slice s.a s.len s.cap, .int .i64 st.count, .int .i64 st.groups]
@[reducible] def tI (p : TP) (st : TS) (s : Sl) (vs : List Value) (L : List Item) : List Item :=
  mcell s vs :: .cells p.bt 0 (tcells p s st) :: .cells p.bi 0 (st.index.map (Value.int .i64)) :: .cells p.bl 0 (st.low.map (Value.int .i64)) :: .cells p.bg 0 (st.group.map (Value.int .i64)) :: L

theorem perm5 {α : Type} {a b c d e : α} {L : List α} : (a :: b :: c :: d :: e :: (L ++ [])).Perm (a :: b :: c :: d :: e :: L) := by rw [List.append_nil]

structure VS where
  j : Nat
  st : TS
  s : Sl
  vs : List Value

structure PS where
  rest : List Int
  grp : List Int
  s : Sl

set_option maxHeartbeats 4000000 in
theorem visit_own (p : TP) (g : List (List Int)) (hg : RowsOk p.n g) (hl : g.length = p.n) (hn : p.n ≤ 4096) : ∀ (fuel : Nat) (m : Mem) (L : List Item) (st : TS) (s : Sl) (vs : List Value) (f : Nat),
    SlRep rInts m p.tg g → MQ (Value.int .i64) s vs st.stack.reverse → WF p.n st → f < p.n → at0 st.index f = 0 → zeros st.index ≤ fuel →
    TCall Try.prog 22 ⟨[.pointer (some ⟨p.bt, 0, none⟩), .int .i64 (f : Int)]⟩ m (tI p st s vs L) (fun _ m' L' => m = m' ∧ ∃ s' vs', MQ (Value.int .i64) s' vs' (visitM g fuel st f).stack.reverse ∧ L' = tI p (visitM g fuel st f) s' vs' L) := by
  intro fuel
  induction fuel with
  | zero =>
    intro m L st s vs f _ _ h hf h0 hz
    have := zeros_pos (by rw [at0_get (by rw [h.li]; exact hf), h0] : st.index[f]? = some 0)
    omega
  | succ fuel ih =>
    intro m L st s vs f htg hq hW hf h0 hz
    obtain ⟨b1, b2, b3, b4⟩ := beginV_wf hW hf h0
    have hcnt := hW.cnt
    have hgrp := hW.grp
    have hli := hW.li
    have hll := hW.ll
    have hlg := hW.lg
    unfold TCall
    refine TCallX.enter Try.func22 rfl 164 rfl ?_
    repeat (first | (first | refine TC.seq ?_ | refine TC.block ?_ | refine TC.region ?_ | refine TO.pureP tab rfl rfl ?_ | refine TO.nil ?_ | refine thenQ_n ?_ | refine blockQ_n ?_ | refine thenQ_r ?_ | refine blockQ_r ?_ | refine thenQ_x ?_ | refine blockQ_hit ?_ | refine blockQ_miss rfl ?_ | refine TC.skip ?_ | refine TC.exit ?_ | refine TC.ret ?_ | refine TC.cond_t rfl ?_ | refine TC.cond_f rfl ?_) | (first | refine TO.step rfl (OT.loadL tab 0 rfl rfl rfl rfl rfl rfl ?_) | refine TO.step rfl (OT.loadL0 tab 0 rfl rfl rfl rfl rfl rfl ?_) | refine TO.step rfl (OT.loadL tab 1 rfl rfl rfl rfl rfl rfl ?_) | refine TO.step rfl (OT.loadL0 tab 1 rfl rfl rfl rfl rfl rfl ?_) | refine TO.step rfl (OT.loadL tab 2 rfl rfl rfl rfl rfl rfl ?_) | refine TO.step rfl (OT.loadL0 tab 2 rfl rfl rfl rfl rfl rfl ?_) | refine TO.step rfl (OT.loadL tab 3 rfl rfl rfl rfl rfl rfl ?_) | refine TO.step rfl (OT.loadL0 tab 3 rfl rfl rfl rfl rfl rfl ?_) | refine TO.step rfl (OT.loadL tab 4 rfl rfl rfl rfl rfl rfl ?_) | refine TO.step rfl (OT.loadL0 tab 4 rfl rfl rfl rfl rfl rfl ?_) | refine TO.step rfl (OT.loadL tab 5 rfl rfl rfl rfl rfl rfl ?_) | refine TO.step rfl (OT.loadL0 tab 5 rfl rfl rfl rfl rfl rfl ?_) | refine TO.step rfl (OT.loadL tab 6 rfl rfl rfl rfl rfl rfl ?_) | refine TO.step rfl (OT.loadL0 tab 6 rfl rfl rfl rfl rfl rfl ?_) | refine TO.step rfl (OT.loadL tab 7 rfl rfl rfl rfl rfl rfl ?_) | refine TO.step rfl (OT.loadL0 tab 7 rfl rfl rfl rfl rfl rfl ?_) | refine TO.step rfl (OT.loadL tab 8 rfl rfl rfl rfl rfl rfl ?_) | refine TO.step rfl (OT.loadL0 tab 8 rfl rfl rfl rfl rfl rfl ?_) | refine TO.step rfl (OT.loadL tab 9 rfl rfl rfl rfl rfl rfl ?_) | refine TO.step rfl (OT.loadL0 tab 9 rfl rfl rfl rfl rfl rfl ?_)))
    refine TO.step rfl (OT.arith (r' := st.count + 1) rfl rfl rfl rfl rfl rfl rfl (by omega) ?_)
    repeat (first | refine TC.seq ?_ | refine TC.block ?_ | refine TC.region ?_ | refine TO.pureP tab rfl rfl ?_ | refine TO.nil ?_ | refine thenQ_n ?_ | refine blockQ_n ?_ | refine thenQ_r ?_ | refine blockQ_r ?_ | refine thenQ_x ?_ | refine blockQ_hit ?_ | refine blockQ_miss rfl ?_ | refine TC.skip ?_ | refine TC.exit ?_ | refine TC.ret ?_ | refine TC.cond_t rfl ?_ | refine TC.cond_f rfl ?_)
    (first | refine TO.step rfl (OT.storeL tab 0 rfl rfl rfl rfl rfl rfl rfl rfl ?_) | refine TO.step rfl (OT.storeL0 tab 0 rfl rfl rfl rfl rfl rfl rfl rfl ?_) | refine TO.step rfl (OT.storeL tab 1 rfl rfl rfl rfl rfl rfl rfl rfl ?_) | refine TO.step rfl (OT.storeL0 tab 1 rfl rfl rfl rfl rfl rfl rfl rfl ?_) | refine TO.step rfl (OT.storeL tab 2 rfl rfl rfl rfl rfl rfl rfl rfl ?_) | refine TO.step rfl (OT.storeL0 tab 2 rfl rfl rfl rfl rfl rfl rfl rfl ?_) | refine TO.step rfl (OT.storeL tab 3 rfl rfl rfl rfl rfl rfl rfl rfl ?_) | refine TO.step rfl (OT.storeL0 tab 3 rfl rfl rfl rfl rfl rfl rfl rfl ?_) | refine TO.step rfl (OT.storeL tab 4 rfl rfl rfl rfl rfl rfl rfl rfl ?_) | refine TO.step rfl (OT.storeL0 tab 4 rfl rfl rfl rfl rfl rfl rfl rfl ?_) | refine TO.step rfl (OT.storeL tab 5 rfl rfl rfl rfl rfl rfl rfl rfl ?_) | refine TO.step rfl (OT.storeL0 tab 5 rfl rfl rfl rfl rfl rfl rfl rfl ?_) | refine TO.step rfl (OT.storeL tab 6 rfl rfl rfl rfl rfl rfl rfl rfl ?_) | refine TO.step rfl (OT.storeL0 tab 6 rfl rfl rfl rfl rfl rfl rfl rfl ?_) | refine TO.step rfl (OT.storeL tab 7 rfl rfl rfl rfl rfl rfl rfl rfl ?_) | refine TO.step rfl (OT.storeL0 tab 7 rfl rfl rfl rfl rfl rfl rfl rfl ?_) | refine TO.step rfl (OT.storeL tab 8 rfl rfl rfl rfl rfl rfl rfl rfl ?_) | refine TO.step rfl (OT.storeL0 tab 8 rfl rfl rfl rfl rfl rfl rfl rfl ?_) | refine TO.step rfl (OT.storeL tab 9 rfl rfl rfl rfl rfl rfl rfl rfl ?_) | refine TO.step rfl (OT.storeL0 tab 9 rfl rfl rfl rfl rfl rfl rfl rfl ?_))
    repeat (first | refine TC.seq ?_ | refine TC.block ?_ | refine TC.region ?_ | refine TO.pureP tab rfl rfl ?_ | refine TO.nil ?_ | refine thenQ_n ?_ | refine blockQ_n ?_ | refine thenQ_r ?_ | refine blockQ_r ?_ | refine thenQ_x ?_ | refine blockQ_hit ?_ | refine blockQ_miss rfl ?_ | refine TC.skip ?_ | refine TC.exit ?_ | refine TC.ret ?_ | refine TC.cond_t rfl ?_ | refine TC.cond_f rfl ?_)
    refine TC.draw0 [24, 25, 26, 27, 28] mixed 29 rfl ?_
    refine DO.pure tab (by repeat (first | exact Calm.ret | refine Calm.then ?_ | refine Calm.block ?_ | assumption)) (by kernel_rfl) [0, 1, 2] (by kernel_rfl) rfl ?_
    (first | refine DO.loadL tab 3 0 (by repeat (first | exact Calm.ret | refine Calm.then ?_ | refine Calm.block ?_ | assumption)) (by kernel_rfl) (by kernel_rfl) rfl rfl rfl rfl rfl rfl rfl rfl ?_ | refine DO.loadL tab 3 1 (by repeat (first | exact Calm.ret | refine Calm.then ?_ | refine Calm.block ?_ | assumption)) (by kernel_rfl) (by kernel_rfl) rfl rfl rfl rfl rfl rfl rfl rfl ?_ | refine DO.loadL (k := 0) tab 3 0 (by repeat (first | exact Calm.ret | refine Calm.then ?_ | refine Calm.block ?_ | assumption)) (by kernel_rfl) (by kernel_rfl) rfl rfl rfl rfl rfl rfl rfl rfl ?_ | refine DO.loadL (k := 0) tab 3 1 (by repeat (first | exact Calm.ret | refine Calm.then ?_ | refine Calm.block ?_ | assumption)) (by kernel_rfl) (by kernel_rfl) rfl rfl rfl rfl rfl rfl rfl rfl ?_)
    refine DO.pure tab (by repeat (first | exact Calm.ret | refine Calm.then ?_ | refine Calm.block ?_ | assumption)) (by kernel_rfl) [4, 5, 6, 7] (by kernel_rfl) rfl ?_
    (first | refine DO.loadL tab 8 0 (by repeat (first | exact Calm.ret | refine Calm.then ?_ | refine Calm.block ?_ | assumption)) (by kernel_rfl) (by kernel_rfl) rfl rfl rfl rfl rfl rfl rfl rfl ?_ | refine DO.loadL tab 8 1 (by repeat (first | exact Calm.ret | refine Calm.then ?_ | refine Calm.block ?_ | assumption)) (by kernel_rfl) (by kernel_rfl) rfl rfl rfl rfl rfl rfl rfl rfl ?_ | refine DO.loadL (k := 0) tab 8 0 (by repeat (first | exact Calm.ret | refine Calm.then ?_ | refine Calm.block ?_ | assumption)) (by kernel_rfl) (by kernel_rfl) rfl rfl rfl rfl rfl rfl rfl rfl ?_ | refine DO.loadL (k := 0) tab 8 1 (by repeat (first | exact Calm.ret | refine Calm.then ?_ | refine Calm.block ?_ | assumption)) (by kernel_rfl) (by kernel_rfl) rfl rfl rfl rfl rfl rfl rfl rfl ?_)
    refine DO.pure tab (by repeat (first | exact Calm.ret | refine Calm.then ?_ | refine Calm.block ?_ | assumption)) (by kernel_rfl) [9, 10, 11, 12] (by kernel_rfl) rfl ?_
    (first | refine DO.loadL tab 13 0 (by repeat (first | exact Calm.ret | refine Calm.then ?_ | refine Calm.block ?_ | assumption)) (by kernel_rfl) (by kernel_rfl) rfl rfl rfl rfl rfl rfl rfl rfl ?_ | refine DO.loadL tab 13 1 (by repeat (first | exact Calm.ret | refine Calm.then ?_ | refine Calm.block ?_ | assumption)) (by kernel_rfl) (by kernel_rfl) rfl rfl rfl rfl rfl rfl rfl rfl ?_ | refine DO.loadL (k := 0) tab 13 0 (by repeat (first | exact Calm.ret | refine Calm.then ?_ | refine Calm.block ?_ | assumption)) (by kernel_rfl) (by kernel_rfl) rfl rfl rfl rfl rfl rfl rfl rfl ?_ | refine DO.loadL (k := 0) tab 13 1 (by repeat (first | exact Calm.ret | refine Calm.then ?_ | refine Calm.block ?_ | assumption)) (by kernel_rfl) (by kernel_rfl) rfl rfl rfl rfl rfl rfl rfl rfl ?_)
    refine DO.pure tab (by repeat (first | exact Calm.ret | refine Calm.then ?_ | refine Calm.block ?_ | assumption)) (by kernel_rfl) [14, 15, 16, 17] (by kernel_rfl) rfl ?_
    (first | refine DO.loadL tab 18 0 (by repeat (first | exact Calm.ret | refine Calm.then ?_ | refine Calm.block ?_ | assumption)) (by kernel_rfl) (by kernel_rfl) rfl rfl rfl rfl rfl rfl rfl rfl ?_ | refine DO.loadL tab 18 1 (by repeat (first | exact Calm.ret | refine Calm.then ?_ | refine Calm.block ?_ | assumption)) (by kernel_rfl) (by kernel_rfl) rfl rfl rfl rfl rfl rfl rfl rfl ?_ | refine DO.loadL (k := 0) tab 18 0 (by repeat (first | exact Calm.ret | refine Calm.then ?_ | refine Calm.block ?_ | assumption)) (by kernel_rfl) (by kernel_rfl) rfl rfl rfl rfl rfl rfl rfl rfl ?_ | refine DO.loadL (k := 0) tab 18 1 (by repeat (first | exact Calm.ret | refine Calm.then ?_ | refine Calm.block ?_ | assumption)) (by kernel_rfl) (by kernel_rfl) rfl rfl rfl rfl rfl rfl rfl rfl ?_)
    refine DO.pure tab (by repeat (first | exact Calm.ret | refine Calm.then ?_ | refine Calm.block ?_ | assumption)) (by kernel_rfl) [19, 20, 21] (by kernel_rfl) rfl ?_
    (first | refine DO.loadL tab 22 0 (by repeat (first | exact Calm.ret | refine Calm.then ?_ | refine Calm.block ?_ | assumption)) (by kernel_rfl) (by kernel_rfl) rfl rfl rfl rfl rfl rfl rfl rfl ?_ | refine DO.loadL tab 22 1 (by repeat (first | exact Calm.ret | refine Calm.then ?_ | refine Calm.block ?_ | assumption)) (by kernel_rfl) (by kernel_rfl) rfl rfl rfl rfl rfl rfl rfl rfl ?_ | refine DO.loadL (k := 0) tab 22 0 (by repeat (first | exact Calm.ret | refine Calm.then ?_ | refine Calm.block ?_ | assumption)) (by kernel_rfl) (by kernel_rfl) rfl rfl rfl rfl rfl rfl rfl rfl ?_ | refine DO.loadL (k := 0) tab 22 1 (by repeat (first | exact Calm.ret | refine Calm.then ?_ | refine Calm.block ?_ | assumption)) (by kernel_rfl) (by kernel_rfl) rfl rfl rfl rfl rfl rfl rfl rfl ?_)
    refine DO.indexP (sz := 1) tab 23 f (by repeat (first | exact Calm.ret | refine Calm.then ?_ | refine Calm.block ?_ | assumption)) (by kernel_rfl) (by kernel_rfl) rfl rfl rfl rfl rfl rfl rfl rfl rfl hf ?_
    refine DO.tail ?_
    refine DOt.run 24 rfl rfl (by kernel_rfl) rfl ?_
    refine OT.storeM (k := f) tab 2 (Value.int .i64) (st.count + 1) rfl rfl rfl rfl rfl rfl rfl (by omega) ?_
    refine DOt.run 25 rfl rfl (by kernel_rfl) rfl ?_
    refine OT.indexP (sz := 1) tab f rfl rfl rfl rfl rfl rfl rfl hf ?_
    refine DOt.run 26 rfl rfl (by kernel_rfl) rfl ?_
    refine OT.storeM (k := f) tab 3 (Value.int .i64) (st.count + 1) rfl rfl rfl rfl rfl rfl rfl (by omega) ?_
    refine DOt.run 27 rfl rfl (by kernel_rfl) rfl ?_
    refine OT.indexP (sz := 1) tab f rfl rfl rfl rfl rfl rfl rfl hf ?_
    refine DOt.run 28 rfl rfl (by kernel_rfl) rfl ?_
    refine OT.storeM (k := f) tab 4 (Value.int .i64) (-1) rfl rfl rfl rfl rfl rfl rfl (by omega) ?_
    refine DOt.nil (by kernel_rfl) ?_
    rotate_left 1
    refine thenQ_n (TC.perm perm5 ?_)
    repeat (first | (first | refine TC.seq ?_ | refine TC.block ?_ | refine TC.region ?_ | refine TO.pureP tab rfl rfl ?_ | refine TO.nil ?_ | refine thenQ_n ?_ | refine blockQ_n ?_ | refine thenQ_r ?_ | refine blockQ_r ?_ | refine thenQ_x ?_ | refine blockQ_hit ?_ | refine blockQ_miss rfl ?_ | refine TC.skip ?_ | refine TC.exit ?_ | refine TC.ret ?_ | refine TC.cond_t rfl ?_ | refine TC.cond_f rfl ?_) | (first | refine TO.step rfl (OT.loadL tab 0 rfl rfl rfl rfl rfl rfl ?_) | refine TO.step rfl (OT.loadL0 tab 0 rfl rfl rfl rfl rfl rfl ?_) | refine TO.step rfl (OT.loadL tab 1 rfl rfl rfl rfl rfl rfl ?_) | refine TO.step rfl (OT.loadL0 tab 1 rfl rfl rfl rfl rfl rfl ?_) | refine TO.step rfl (OT.loadL tab 2 rfl rfl rfl rfl rfl rfl ?_) | refine TO.step rfl (OT.loadL0 tab 2 rfl rfl rfl rfl rfl rfl ?_) | refine TO.step rfl (OT.loadL tab 3 rfl rfl rfl rfl rfl rfl ?_) | refine TO.step rfl (OT.loadL0 tab 3 rfl rfl rfl rfl rfl rfl ?_) | refine TO.step rfl (OT.loadL tab 4 rfl rfl rfl rfl rfl rfl ?_) | refine TO.step rfl (OT.loadL0 tab 4 rfl rfl rfl rfl rfl rfl ?_) | refine TO.step rfl (OT.loadL tab 5 rfl rfl rfl rfl rfl rfl ?_) | refine TO.step rfl (OT.loadL0 tab 5 rfl rfl rfl rfl rfl rfl ?_) | refine TO.step rfl (OT.loadL tab 6 rfl rfl rfl rfl rfl rfl ?_) | refine TO.step rfl (OT.loadL0 tab 6 rfl rfl rfl rfl rfl rfl ?_) | refine TO.step rfl (OT.loadL tab 7 rfl rfl rfl rfl rfl rfl ?_) | refine TO.step rfl (OT.loadL0 tab 7 rfl rfl rfl rfl rfl rfl ?_) | refine TO.step rfl (OT.loadL tab 8 rfl rfl rfl rfl rfl rfl ?_) | refine TO.step rfl (OT.loadL0 tab 8 rfl rfl rfl rfl rfl rfl ?_) | refine TO.step rfl (OT.loadL tab 9 rfl rfl rfl rfl rfl rfl ?_) | refine TO.step rfl (OT.loadL0 tab 9 rfl rfl rfl rfl rfl rfl ?_)))
    refine TO.step rfl (OT.lit tab rfl rfl rfl rfl (fun bq => ?_))
    have hql := hq.len
    have hsl : st.stack.length ≤ p.n := by omega
    simp only [List.length_reverse] at hql
    refine TO.step rfl (OT.push tab hq.ms rfl rfl rfl rfl rfl rfl rfl (show (s.len + 1) * 8 ≤ 140737488355328 by omega) (fun s1 vs1 g1 g2 g3 => ?_))
    repeat (first | refine TC.seq ?_ | refine TC.block ?_ | refine TC.region ?_ | refine TO.pureP tab rfl rfl ?_ | refine TO.nil ?_ | refine thenQ_n ?_ | refine blockQ_n ?_ | refine thenQ_r ?_ | refine blockQ_r ?_ | refine thenQ_x ?_ | refine blockQ_hit ?_ | refine blockQ_miss rfl ?_ | refine TC.skip ?_ | refine TC.exit ?_ | refine TC.ret ?_ | refine TC.cond_t rfl ?_ | refine TC.cond_f rfl ?_)
    (first | refine TO.step rfl (OT.storeL tab 0 rfl rfl rfl rfl rfl rfl rfl rfl ?_) | refine TO.step rfl (OT.storeL0 tab 0 rfl rfl rfl rfl rfl rfl rfl rfl ?_) | refine TO.step rfl (OT.storeL tab 1 rfl rfl rfl rfl rfl rfl rfl rfl ?_) | refine TO.step rfl (OT.storeL0 tab 1 rfl rfl rfl rfl rfl rfl rfl rfl ?_) | refine TO.step rfl (OT.storeL tab 2 rfl rfl rfl rfl rfl rfl rfl rfl ?_) | refine TO.step rfl (OT.storeL0 tab 2 rfl rfl rfl rfl rfl rfl rfl rfl ?_) | refine TO.step rfl (OT.storeL tab 3 rfl rfl rfl rfl rfl rfl rfl rfl ?_) | refine TO.step rfl (OT.storeL0 tab 3 rfl rfl rfl rfl rfl rfl rfl rfl ?_) | refine TO.step rfl (OT.storeL tab 4 rfl rfl rfl rfl rfl rfl rfl rfl ?_) | refine TO.step rfl (OT.storeL0 tab 4 rfl rfl rfl rfl rfl rfl rfl rfl ?_) | refine TO.step rfl (OT.storeL tab 5 rfl rfl rfl rfl rfl rfl rfl rfl ?_) | refine TO.step rfl (OT.storeL0 tab 5 rfl rfl rfl rfl rfl rfl rfl rfl ?_) | refine TO.step rfl (OT.storeL tab 6 rfl rfl rfl rfl rfl rfl rfl rfl ?_) | refine TO.step rfl (OT.storeL0 tab 6 rfl rfl rfl rfl rfl rfl rfl rfl ?_) | refine TO.step rfl (OT.storeL tab 7 rfl rfl rfl rfl rfl rfl rfl rfl ?_) | refine TO.step rfl (OT.storeL0 tab 7 rfl rfl rfl rfl rfl rfl rfl rfl ?_) | refine TO.step rfl (OT.storeL tab 8 rfl rfl rfl rfl rfl rfl rfl rfl ?_) | refine TO.step rfl (OT.storeL0 tab 8 rfl rfl rfl rfl rfl rfl rfl rfl ?_) | refine TO.step rfl (OT.storeL tab 9 rfl rfl rfl rfl rfl rfl rfl rfl ?_) | refine TO.step rfl (OT.storeL0 tab 9 rfl rfl rfl rfl rfl rfl rfl rfl ?_))
    have hq1 : MQ (Value.int .i64) s1 vs1 (beginV st f).stack.reverse := by
      have := hq.push (f : Int) g1 g2 g3
      simpa [beginV] using this
    have hrow := getD_some g f [] (by omega)
    have hmemr := List.mem_of_getElem? hrow
    have hvis := visitM_succ g fuel st f
    generalize hrw : g[f]?.getD [] = row at *
    have hrlt := hg.lt row hmemr
    repeat (first | (first | refine TC.seq ?_ | refine TC.block ?_ | refine TC.region ?_ | refine TO.pureP tab rfl rfl ?_ | refine TO.nil ?_ | refine thenQ_n ?_ | refine blockQ_n ?_ | refine thenQ_r ?_ | refine blockQ_r ?_ | refine thenQ_x ?_ | refine blockQ_hit ?_ | refine blockQ_miss rfl ?_ | refine TC.skip ?_ | refine TC.exit ?_ | refine TC.ret ?_ | refine TC.cond_t rfl ?_ | refine TC.cond_f rfl ?_) | (first | refine TO.step rfl (OT.loadL tab 0 rfl rfl rfl rfl rfl rfl ?_) | refine TO.step rfl (OT.loadL0 tab 0 rfl rfl rfl rfl rfl rfl ?_) | refine TO.step rfl (OT.loadL tab 1 rfl rfl rfl rfl rfl rfl ?_) | refine TO.step rfl (OT.loadL0 tab 1 rfl rfl rfl rfl rfl rfl ?_) | refine TO.step rfl (OT.loadL tab 2 rfl rfl rfl rfl rfl rfl ?_) | refine TO.step rfl (OT.loadL0 tab 2 rfl rfl rfl rfl rfl rfl ?_) | refine TO.step rfl (OT.loadL tab 3 rfl rfl rfl rfl rfl rfl ?_) | refine TO.step rfl (OT.loadL0 tab 3 rfl rfl rfl rfl rfl rfl ?_) | refine TO.step rfl (OT.loadL tab 4 rfl rfl rfl rfl rfl rfl ?_) | refine TO.step rfl (OT.loadL0 tab 4 rfl rfl rfl rfl rfl rfl ?_) | refine TO.step rfl (OT.loadL tab 5 rfl rfl rfl rfl rfl rfl ?_) | refine TO.step rfl (OT.loadL0 tab 5 rfl rfl rfl rfl rfl rfl ?_) | refine TO.step rfl (OT.loadL tab 6 rfl rfl rfl rfl rfl rfl ?_) | refine TO.step rfl (OT.loadL0 tab 6 rfl rfl rfl rfl rfl rfl ?_) | refine TO.step rfl (OT.loadL tab 7 rfl rfl rfl rfl rfl rfl ?_) | refine TO.step rfl (OT.loadL0 tab 7 rfl rfl rfl rfl rfl rfl ?_) | refine TO.step rfl (OT.loadL tab 8 rfl rfl rfl rfl rfl rfl ?_) | refine TO.step rfl (OT.loadL0 tab 8 rfl rfl rfl rfl rfl rfl ?_) | refine TO.step rfl (OT.loadL tab 9 rfl rfl rfl rfl rfl rfl ?_) | refine TO.step rfl (OT.loadL0 tab 9 rfl rfl rfl rfl rfl rfl ?_)))
    refine TO.step rfl (OT.index tab rInts f htg rfl rfl rfl rfl rfl (by first | rfl | omega) rfl hrow ?_)
    rintro bw iw tr htr hAw
    (first | refine TO.step rfl (OT.loadA tab hAw rfl rfl rfl rfl rfl ?_) | refine TO.step rfl (OT.loadA0 tab hAw rfl rfl rfl rfl rfl ?_))
    repeat (first | refine TC.seq ?_ | refine TC.block ?_ | refine TC.region ?_ | refine TO.pureP tab rfl rfl ?_ | refine TO.nil ?_ | refine thenQ_n ?_ | refine blockQ_n ?_ | refine thenQ_r ?_ | refine blockQ_r ?_ | refine thenQ_x ?_ | refine blockQ_hit ?_ | refine blockQ_miss rfl ?_ | refine TC.skip ?_ | refine TC.exit ?_ | refine TC.ret ?_ | refine TC.cond_t rfl ?_ | refine TC.cond_f rfl ?_)
    have hrl := htr.len
    have hrs := htr.small rfl
    refine TC.loopK (ι := VS) [0, 1, 56, 57] rfl (fun x => [(58, .int .i64 (x.j : Int))]) (fun _ => m) (fun x => tI p x.st x.s x.vs L)
      (fun x => x.j ≤ row.length ∧ x.st = (row.take x.j).foldl (stepV g fuel f) (beginV st f) ∧ WF p.n x.st ∧ Kept (beginV st f) x.st ∧ MQ (Value.int .i64) x.s x.vs x.st.stack.reverse) (fun x => row.length - x.j) ⟨0, beginV st f, s1, vs1⟩ (by repeat (first | exact trivial | refine And.intro rfl ?_)) rfl (List.Sublist.refl _) ⟨Nat.zero_le _, rfl, b1, Kept.refl _, hq1⟩ ?_
    rintro ⟨j, x, s2, vs2⟩ ⟨hj, hx, hWx, hKx, hqx⟩
    simp only at hj hx hWx hKx hqx ⊢
    repeat (first | refine TC.seq ?_ | refine TC.block ?_ | refine TC.region ?_ | refine TO.pureP tab rfl rfl ?_ | refine TO.nil ?_ | refine thenQ_n ?_ | refine blockQ_n ?_ | refine thenQ_r ?_ | refine blockQ_r ?_ | refine thenQ_x ?_ | refine blockQ_hit ?_ | refine blockQ_miss rfl ?_ | refine TC.skip ?_ | refine TC.exit ?_ | refine TC.ret ?_ | refine TC.cond_t rfl ?_ | refine TC.cond_f rfl ?_)
    refine TC.condP rfl (fun hlj' => ?_) (fun hlj' => ?_)
    · have hlj : j < row.length := by omega
      have hxj : row[j]? = some row[j] := by simp [hlj]
      have hstep := foldl_take (stepV g fuel f) (beginV st f) row hlj
      have hlt := hrlt _ (List.getElem_mem hlj)
      have hzx : zeros x.index ≤ fuel := Nat.le_trans hKx.zeros (by omega)
      have hok := stepV_ok hg hl f hlt hWx hzx
      rw [← hx] at hstep
      have hxi := hWx.li
      repeat (first | refine TC.seq ?_ | refine TC.block ?_ | refine TC.region ?_ | refine TO.pureP tab rfl rfl ?_ | refine TO.nil ?_ | refine thenQ_n ?_ | refine blockQ_n ?_ | refine thenQ_r ?_ | refine blockQ_r ?_ | refine thenQ_x ?_ | refine blockQ_hit ?_ | refine blockQ_miss rfl ?_ | refine TC.skip ?_ | refine TC.exit ?_ | refine TC.ret ?_ | refine TC.cond_t rfl ?_ | refine TC.cond_f rfl ?_)
      refine TO.step rfl (OT.index tab rInt j htr rfl rfl rfl rfl rfl (by first | rfl | omega) rfl hxj ?_)
      rintro bt it tv htv hAt
      have htv' : row[j] = (row[j].toNat : Int) := by omega
      generalize hkk : row[j].toNat = kk at *
      obtain rfl := (show tv = row[j] from htv)
      have hsv : stepV g fuel f x row[j] = lowerV f kk (if at0 x.index kk = 0 then visitM g fuel x kk else x) := by unfold stepV; rw [hkk]
      rw [htv'] at hAt
      (first | refine TO.step rfl (OT.loadA tab hAt rfl rfl rfl rfl rfl ?_) | refine TO.step rfl (OT.loadA0 tab hAt rfl rfl rfl rfl rfl ?_))
      repeat (first | (first | refine TC.seq ?_ | refine TC.block ?_ | refine TC.region ?_ | refine TO.pureP tab rfl rfl ?_ | refine TO.nil ?_ | refine thenQ_n ?_ | refine blockQ_n ?_ | refine thenQ_r ?_ | refine blockQ_r ?_ | refine thenQ_x ?_ | refine blockQ_hit ?_ | refine blockQ_miss rfl ?_ | refine TC.skip ?_ | refine TC.exit ?_ | refine TC.ret ?_ | refine TC.cond_t rfl ?_ | refine TC.cond_f rfl ?_) | (first | refine TO.step rfl (OT.loadL tab 0 rfl rfl rfl rfl rfl rfl ?_) | refine TO.step rfl (OT.loadL0 tab 0 rfl rfl rfl rfl rfl rfl ?_) | refine TO.step rfl (OT.loadL tab 1 rfl rfl rfl rfl rfl rfl ?_) | refine TO.step rfl (OT.loadL0 tab 1 rfl rfl rfl rfl rfl rfl ?_) | refine TO.step rfl (OT.loadL tab 2 rfl rfl rfl rfl rfl rfl ?_) | refine TO.step rfl (OT.loadL0 tab 2 rfl rfl rfl rfl rfl rfl ?_) | refine TO.step rfl (OT.loadL tab 3 rfl rfl rfl rfl rfl rfl ?_) | refine TO.step rfl (OT.loadL0 tab 3 rfl rfl rfl rfl rfl rfl ?_) | refine TO.step rfl (OT.loadL tab 4 rfl rfl rfl rfl rfl rfl ?_) | refine TO.step rfl (OT.loadL0 tab 4 rfl rfl rfl rfl rfl rfl ?_) | refine TO.step rfl (OT.loadL tab 5 rfl rfl rfl rfl rfl rfl ?_) | refine TO.step rfl (OT.loadL0 tab 5 rfl rfl rfl rfl rfl rfl ?_) | refine TO.step rfl (OT.loadL tab 6 rfl rfl rfl rfl rfl rfl ?_) | refine TO.step rfl (OT.loadL0 tab 6 rfl rfl rfl rfl rfl rfl ?_) | refine TO.step rfl (OT.loadL tab 7 rfl rfl rfl rfl rfl rfl ?_) | refine TO.step rfl (OT.loadL0 tab 7 rfl rfl rfl rfl rfl rfl ?_) | refine TO.step rfl (OT.loadL tab 8 rfl rfl rfl rfl rfl rfl ?_) | refine TO.step rfl (OT.loadL0 tab 8 rfl rfl rfl rfl rfl rfl ?_) | refine TO.step rfl (OT.loadL tab 9 rfl rfl rfl rfl rfl rfl ?_) | refine TO.step rfl (OT.loadL0 tab 9 rfl rfl rfl rfl rfl rfl ?_)))
      refine TO.step rfl (OT.indexP (sz := 1) tab kk rfl rfl rfl rfl rfl rfl rfl (by omega) ?_)
      have hki : x.index[kk]? = some (at0 x.index kk) := at0_get (by omega)
      refine TO.step rfl (OT.loadM tab 2 (Value.int .i64) hki rfl rfl rfl rfl rfl rfl ?_)
      repeat (first | refine TC.seq ?_ | refine TC.block ?_ | refine TC.region ?_ | refine TO.pureP tab rfl rfl ?_ | refine TO.nil ?_ | refine thenQ_n ?_ | refine blockQ_n ?_ | refine thenQ_r ?_ | refine blockQ_r ?_ | refine thenQ_x ?_ | refine blockQ_hit ?_ | refine blockQ_miss rfl ?_ | refine TC.skip ?_ | refine TC.exit ?_ | refine TC.ret ?_ | refine TC.cond_t rfl ?_ | refine TC.cond_f rfl ?_)
      have hlow : ∀ (y : TS), WF p.n y → y = (if at0 x.index kk = 0 then visitM g fuel x kk else x) → (at0 y.group kk < 0 → ({ y with low := y.low.set f (if at0 y.low kk < at0 y.low f then at0 y.low kk else at0 y.low f) } : TS) = (row.take (j + 1)).foldl (stepV g fuel f) (beginV st f)) ∧ (¬ at0 y.group kk < 0 → y = (row.take (j + 1)).foldl (stepV g fuel f) (beginV st f)) := fun y _ hy => by
        rw [hstep, hsv, ← hy]
        exact ⟨fun h => by rw [lowerV, if_pos h], fun h => by rw [lowerV, if_neg h]⟩
      have hokx := hok.1
      have hokk := hKx.trans hok.2
      rw [hsv] at hokx hokk
      refine TC.condP rfl (fun hz0 => ?_) (fun hz0 => ?_)
      · repeat (first | refine TC.seq ?_ | refine TC.block ?_ | refine TC.region ?_ | refine TO.pureP tab rfl rfl ?_ | refine TO.nil ?_ | refine thenQ_n ?_ | refine blockQ_n ?_ | refine thenQ_r ?_ | refine blockQ_r ?_ | refine thenQ_x ?_ | refine blockQ_hit ?_ | refine blockQ_miss rfl ?_ | refine TC.skip ?_ | refine TC.exit ?_ | refine TC.ret ?_ | refine TC.cond_t rfl ?_ | refine TC.cond_f rfl ?_)
        refine TO.step rfl (OT.call rfl rfl rfl rfl rfl rfl goes22 ((ih m L x s2 vs2 kk htg hqx hWx (by omega) hz0 hzx).x ?_));
        rintro _ _ _ ⟨rfl, s3, vs3, hq3, rfl⟩
        obtain ⟨hWy, _, _, _⟩ := visitM_ok hg hl fuel x kk hWx (by omega) hz0 hzx
        rw [if_pos hz0] at hlow hokx hokk
        generalize visitM g fuel x kk = y at *
        have hlw := hlow y hWy rfl
        have hyg := hWy.lg
        have hyl := hWy.ll
        repeat (first | (first | refine TC.seq ?_ | refine TC.block ?_ | refine TC.region ?_ | refine TO.pureP tab rfl rfl ?_ | refine TO.nil ?_ | refine thenQ_n ?_ | refine blockQ_n ?_ | refine thenQ_r ?_ | refine blockQ_r ?_ | refine thenQ_x ?_ | refine blockQ_hit ?_ | refine blockQ_miss rfl ?_ | refine TC.skip ?_ | refine TC.exit ?_ | refine TC.ret ?_ | refine TC.cond_t rfl ?_ | refine TC.cond_f rfl ?_) | (first | refine TO.step rfl (OT.loadL tab 0 rfl rfl rfl rfl rfl rfl ?_) | refine TO.step rfl (OT.loadL0 tab 0 rfl rfl rfl rfl rfl rfl ?_) | refine TO.step rfl (OT.loadL tab 1 rfl rfl rfl rfl rfl rfl ?_) | refine TO.step rfl (OT.loadL0 tab 1 rfl rfl rfl rfl rfl rfl ?_) | refine TO.step rfl (OT.loadL tab 2 rfl rfl rfl rfl rfl rfl ?_) | refine TO.step rfl (OT.loadL0 tab 2 rfl rfl rfl rfl rfl rfl ?_) | refine TO.step rfl (OT.loadL tab 3 rfl rfl rfl rfl rfl rfl ?_) | refine TO.step rfl (OT.loadL0 tab 3 rfl rfl rfl rfl rfl rfl ?_) | refine TO.step rfl (OT.loadL tab 4 rfl rfl rfl rfl rfl rfl ?_) | refine TO.step rfl (OT.loadL0 tab 4 rfl rfl rfl rfl rfl rfl ?_) | refine TO.step rfl (OT.loadL tab 5 rfl rfl rfl rfl rfl rfl ?_) | refine TO.step rfl (OT.loadL0 tab 5 rfl rfl rfl rfl rfl rfl ?_) | refine TO.step rfl (OT.loadL tab 6 rfl rfl rfl rfl rfl rfl ?_) | refine TO.step rfl (OT.loadL0 tab 6 rfl rfl rfl rfl rfl rfl ?_) | refine TO.step rfl (OT.loadL tab 7 rfl rfl rfl rfl rfl rfl ?_) | refine TO.step rfl (OT.loadL0 tab 7 rfl rfl rfl rfl rfl rfl ?_) | refine TO.step rfl (OT.loadL tab 8 rfl rfl rfl rfl rfl rfl ?_) | refine TO.step rfl (OT.loadL0 tab 8 rfl rfl rfl rfl rfl rfl ?_) | refine TO.step rfl (OT.loadL tab 9 rfl rfl rfl rfl rfl rfl ?_) | refine TO.step rfl (OT.loadL0 tab 9 rfl rfl rfl rfl rfl rfl ?_)))
        refine TO.step rfl (OT.indexP (sz := 1) tab kk rfl rfl rfl rfl rfl rfl rfl (by omega) ?_)
        have hkg : y.group[kk]? = some (at0 y.group kk) := at0_get (by omega)
        have hkl : y.low[kk]? = some (at0 y.low kk) := at0_get (by omega)
        have hfl : y.low[f]? = some (at0 y.low f) := at0_get (by omega)
        refine TO.step rfl (OT.loadM tab 4 (Value.int .i64) hkg rfl rfl rfl rfl rfl rfl ?_)
        repeat (first | refine TC.seq ?_ | refine TC.block ?_ | refine TC.region ?_ | refine TO.pureP tab rfl rfl ?_ | refine TO.nil ?_ | refine thenQ_n ?_ | refine blockQ_n ?_ | refine thenQ_r ?_ | refine blockQ_r ?_ | refine thenQ_x ?_ | refine blockQ_hit ?_ | refine blockQ_miss rfl ?_ | refine TC.skip ?_ | refine TC.exit ?_ | refine TC.ret ?_ | refine TC.cond_t rfl ?_ | refine TC.cond_f rfl ?_)
        refine TC.condP rfl (fun hneg => ?_) (fun hneg => ?_)
        · rw [lowerV, if_pos hneg] at hokx hokk
          repeat (first | refine TC.seq ?_ | refine TC.block ?_ | refine TC.region ?_ | refine TO.pureP tab rfl rfl ?_ | refine TO.nil ?_ | refine thenQ_n ?_ | refine blockQ_n ?_ | refine thenQ_r ?_ | refine blockQ_r ?_ | refine thenQ_x ?_ | refine blockQ_hit ?_ | refine blockQ_miss rfl ?_ | refine TC.skip ?_ | refine TC.exit ?_ | refine TC.ret ?_ | refine TC.cond_t rfl ?_ | refine TC.cond_f rfl ?_)
          refine TC.draw0 [21] mixed 22 rfl ?_
          refine DO.pure tab (by repeat (first | exact Calm.ret | refine Calm.then ?_ | refine Calm.block ?_ | assumption)) (by kernel_rfl) [0, 1, 2] (by kernel_rfl) rfl ?_
          (first | refine DO.loadL tab 3 0 (by repeat (first | exact Calm.ret | refine Calm.then ?_ | refine Calm.block ?_ | assumption)) (by kernel_rfl) (by kernel_rfl) rfl rfl rfl rfl rfl rfl rfl rfl ?_ | refine DO.loadL tab 3 1 (by repeat (first | exact Calm.ret | refine Calm.then ?_ | refine Calm.block ?_ | assumption)) (by kernel_rfl) (by kernel_rfl) rfl rfl rfl rfl rfl rfl rfl rfl ?_ | refine DO.loadL (k := 0) tab 3 0 (by repeat (first | exact Calm.ret | refine Calm.then ?_ | refine Calm.block ?_ | assumption)) (by kernel_rfl) (by kernel_rfl) rfl rfl rfl rfl rfl rfl rfl rfl ?_ | refine DO.loadL (k := 0) tab 3 1 (by repeat (first | exact Calm.ret | refine Calm.then ?_ | refine Calm.block ?_ | assumption)) (by kernel_rfl) (by kernel_rfl) rfl rfl rfl rfl rfl rfl rfl rfl ?_)
          refine DO.pure tab (by repeat (first | exact Calm.ret | refine Calm.then ?_ | refine Calm.block ?_ | assumption)) (by kernel_rfl) [4, 5, 6, 7] (by kernel_rfl) rfl ?_
          (first | refine DO.loadL tab 8 0 (by repeat (first | exact Calm.ret | refine Calm.then ?_ | refine Calm.block ?_ | assumption)) (by kernel_rfl) (by kernel_rfl) rfl rfl rfl rfl rfl rfl rfl rfl ?_ | refine DO.loadL tab 8 1 (by repeat (first | exact Calm.ret | refine Calm.then ?_ | refine Calm.block ?_ | assumption)) (by kernel_rfl) (by kernel_rfl) rfl rfl rfl rfl rfl rfl rfl rfl ?_ | refine DO.loadL (k := 0) tab 8 0 (by repeat (first | exact Calm.ret | refine Calm.then ?_ | refine Calm.block ?_ | assumption)) (by kernel_rfl) (by kernel_rfl) rfl rfl rfl rfl rfl rfl rfl rfl ?_ | refine DO.loadL (k := 0) tab 8 1 (by repeat (first | exact Calm.ret | refine Calm.then ?_ | refine Calm.block ?_ | assumption)) (by kernel_rfl) (by kernel_rfl) rfl rfl rfl rfl rfl rfl rfl rfl ?_)
          refine DO.pure tab (by repeat (first | exact Calm.ret | refine Calm.then ?_ | refine Calm.block ?_ | assumption)) (by kernel_rfl) [9] (by kernel_rfl) rfl ?_
          refine DO.indexP (sz := 1) tab 10 f (by repeat (first | exact Calm.ret | refine Calm.then ?_ | refine Calm.block ?_ | assumption)) (by kernel_rfl) (by kernel_rfl) rfl rfl rfl rfl rfl rfl rfl rfl rfl hf ?_
          refine DO.loadM tab 11 3 (Value.int .i64) hfl (by repeat (first | exact Calm.ret | refine Calm.then ?_ | refine Calm.block ?_ | assumption)) (by kernel_rfl) (by kernel_rfl) rfl rfl rfl rfl rfl rfl rfl rfl ?_
          refine DO.pure tab (by repeat (first | exact Calm.ret | refine Calm.then ?_ | refine Calm.block ?_ | assumption)) (by kernel_rfl) [12, 13, 14] (by kernel_rfl) rfl ?_
          (first | refine DO.loadL tab 15 0 (by repeat (first | exact Calm.ret | refine Calm.then ?_ | refine Calm.block ?_ | assumption)) (by kernel_rfl) (by kernel_rfl) rfl rfl rfl rfl rfl rfl rfl rfl ?_ | refine DO.loadL tab 15 1 (by repeat (first | exact Calm.ret | refine Calm.then ?_ | refine Calm.block ?_ | assumption)) (by kernel_rfl) (by kernel_rfl) rfl rfl rfl rfl rfl rfl rfl rfl ?_ | refine DO.loadL (k := 0) tab 15 0 (by repeat (first | exact Calm.ret | refine Calm.then ?_ | refine Calm.block ?_ | assumption)) (by kernel_rfl) (by kernel_rfl) rfl rfl rfl rfl rfl rfl rfl rfl ?_ | refine DO.loadL (k := 0) tab 15 1 (by repeat (first | exact Calm.ret | refine Calm.then ?_ | refine Calm.block ?_ | assumption)) (by kernel_rfl) (by kernel_rfl) rfl rfl rfl rfl rfl rfl rfl rfl ?_)
          refine DO.pure tab (by repeat (first | exact Calm.ret | refine Calm.then ?_ | refine Calm.block ?_ | assumption)) (by kernel_rfl) [16] (by kernel_rfl) rfl ?_
          refine DO.indexP (sz := 1) tab 17 kk (by repeat (first | exact Calm.ret | refine Calm.then ?_ | refine Calm.block ?_ | assumption)) (by kernel_rfl) (by kernel_rfl) rfl rfl rfl rfl rfl rfl rfl rfl rfl (by omega) ?_
          refine DO.loadM tab 18 3 (Value.int .i64) hkl (by repeat (first | exact Calm.ret | refine Calm.then ?_ | refine Calm.block ?_ | assumption)) (by kernel_rfl) (by kernel_rfl) rfl rfl rfl rfl rfl rfl rfl rfl ?_
          refine DO.pure tab (by repeat (first | exact Calm.ret | refine Calm.then ?_ | refine Calm.block ?_ | assumption)) (by kernel_rfl) [19] (by kernel_rfl) rfl ?_
          refine DO.indexP (sz := 1) tab 20 f (by repeat (first | exact Calm.ret | refine Calm.then ?_ | refine Calm.block ?_ | assumption)) (by kernel_rfl) (by kernel_rfl) rfl rfl rfl rfl rfl rfl rfl rfl rfl hf ?_
          refine DO.tail ?_
          refine DOt.run 21 rfl rfl (by kernel_rfl) rfl ?_
          refine OT.storeM (k := f) tab 3 (Value.int .i64) (if at0 y.low kk < at0 y.low f then at0 y.low kk else at0 y.low f) rfl rfl rfl rfl rfl rfl rfl (by omega) ?_
          refine DOt.nil (by kernel_rfl) ?_
          rotate_left 1
          repeat (first | refine TC.seq ?_ | refine TC.block ?_ | refine TC.region ?_ | refine TO.pureP tab rfl rfl ?_ | refine TO.nil ?_ | refine thenQ_n ?_ | refine blockQ_n ?_ | refine thenQ_r ?_ | refine blockQ_r ?_ | refine thenQ_x ?_ | refine blockQ_hit ?_ | refine blockQ_miss rfl ?_ | refine TC.skip ?_ | refine TC.exit ?_ | refine TC.ret ?_ | refine TC.cond_t rfl ?_ | refine TC.cond_f rfl ?_)
          refine TO.perm perm5 ?_
          refine TO.step rfl (OT.arith (r' := ((j + 1 : Nat) : Int)) rfl rfl rfl rfl rfl rfl rfl (by omega) ?_)
          repeat (first | refine TC.seq ?_ | refine TC.block ?_ | refine TC.region ?_ | refine TO.pureP tab rfl rfl ?_ | refine TO.nil ?_ | refine thenQ_n ?_ | refine blockQ_n ?_ | refine thenQ_r ?_ | refine blockQ_r ?_ | refine thenQ_x ?_ | refine blockQ_hit ?_ | refine blockQ_miss rfl ?_ | refine TC.skip ?_ | refine TC.exit ?_ | refine TC.ret ?_ | refine TC.cond_t rfl ?_ | refine TC.cond_f rfl ?_)
          exact ⟨⟨j + 1, { y with low := y.low.set f (if at0 y.low kk < at0 y.low f then at0 y.low kk else at0 y.low f) }, s3, vs3⟩, (by repeat (first | exact trivial | refine And.intro rfl ?_)), (by repeat (first | exact trivial | refine And.intro rfl ?_)), rfl, rfl, List.Sublist.refl _, ⟨by simp only; omega, hlw.1 hneg, hokx, hokk, hq3⟩, by simp only; omega⟩
        · rw [lowerV, if_neg hneg] at hokx hokk
          repeat (first | refine TC.seq ?_ | refine TC.block ?_ | refine TC.region ?_ | refine TO.pureP tab rfl rfl ?_ | refine TO.nil ?_ | refine thenQ_n ?_ | refine blockQ_n ?_ | refine thenQ_r ?_ | refine blockQ_r ?_ | refine thenQ_x ?_ | refine blockQ_hit ?_ | refine blockQ_miss rfl ?_ | refine TC.skip ?_ | refine TC.exit ?_ | refine TC.ret ?_ | refine TC.cond_t rfl ?_ | refine TC.cond_f rfl ?_)
          refine TO.step rfl (OT.arith (r' := ((j + 1 : Nat) : Int)) rfl rfl rfl rfl rfl rfl rfl (by omega) ?_)
          repeat (first | refine TC.seq ?_ | refine TC.block ?_ | refine TC.region ?_ | refine TO.pureP tab rfl rfl ?_ | refine TO.nil ?_ | refine thenQ_n ?_ | refine blockQ_n ?_ | refine thenQ_r ?_ | refine blockQ_r ?_ | refine thenQ_x ?_ | refine blockQ_hit ?_ | refine blockQ_miss rfl ?_ | refine TC.skip ?_ | refine TC.exit ?_ | refine TC.ret ?_ | refine TC.cond_t rfl ?_ | refine TC.cond_f rfl ?_)
          exact ⟨⟨j + 1, y, s3, vs3⟩, (by repeat (first | exact trivial | refine And.intro rfl ?_)), (by repeat (first | exact trivial | refine And.intro rfl ?_)), rfl, rfl, List.Sublist.refl _, ⟨by simp only; omega, hlw.2 hneg, hokx, hokk, hq3⟩, by simp only; omega⟩
      · have hlw := hlow x hWx (by rw [if_neg hz0])
        rw [if_neg hz0] at hokx hokk
        have hWy := hWx
        have hq3 := hqx
        clear hlow
        generalize x = y at hlw hokx hokk hWy hq3 ⊢
        generalize s2 = s3 at hq3 ⊢
        generalize vs2 = vs3 at hq3 ⊢
        have hyg := hWy.lg
        have hyl := hWy.ll
        repeat (first | (first | refine TC.seq ?_ | refine TC.block ?_ | refine TC.region ?_ | refine TO.pureP tab rfl rfl ?_ | refine TO.nil ?_ | refine thenQ_n ?_ | refine blockQ_n ?_ | refine thenQ_r ?_ | refine blockQ_r ?_ | refine thenQ_x ?_ | refine blockQ_hit ?_ | refine blockQ_miss rfl ?_ | refine TC.skip ?_ | refine TC.exit ?_ | refine TC.ret ?_ | refine TC.cond_t rfl ?_ | refine TC.cond_f rfl ?_) | (first | refine TO.step rfl (OT.loadL tab 0 rfl rfl rfl rfl rfl rfl ?_) | refine TO.step rfl (OT.loadL0 tab 0 rfl rfl rfl rfl rfl rfl ?_) | refine TO.step rfl (OT.loadL tab 1 rfl rfl rfl rfl rfl rfl ?_) | refine TO.step rfl (OT.loadL0 tab 1 rfl rfl rfl rfl rfl rfl ?_) | refine TO.step rfl (OT.loadL tab 2 rfl rfl rfl rfl rfl rfl ?_) | refine TO.step rfl (OT.loadL0 tab 2 rfl rfl rfl rfl rfl rfl ?_) | refine TO.step rfl (OT.loadL tab 3 rfl rfl rfl rfl rfl rfl ?_) | refine TO.step rfl (OT.loadL0 tab 3 rfl rfl rfl rfl rfl rfl ?_) | refine TO.step rfl (OT.loadL tab 4 rfl rfl rfl rfl rfl rfl ?_) | refine TO.step rfl (OT.loadL0 tab 4 rfl rfl rfl rfl rfl rfl ?_) | refine TO.step rfl (OT.loadL tab 5 rfl rfl rfl rfl rfl rfl ?_) | refine TO.step rfl (OT.loadL0 tab 5 rfl rfl rfl rfl rfl rfl ?_) | refine TO.step rfl (OT.loadL tab 6 rfl rfl rfl rfl rfl rfl ?_) | refine TO.step rfl (OT.loadL0 tab 6 rfl rfl rfl rfl rfl rfl ?_) | refine TO.step rfl (OT.loadL tab 7 rfl rfl rfl rfl rfl rfl ?_) | refine TO.step rfl (OT.loadL0 tab 7 rfl rfl rfl rfl rfl rfl ?_) | refine TO.step rfl (OT.loadL tab 8 rfl rfl rfl rfl rfl rfl ?_) | refine TO.step rfl (OT.loadL0 tab 8 rfl rfl rfl rfl rfl rfl ?_) | refine TO.step rfl (OT.loadL tab 9 rfl rfl rfl rfl rfl rfl ?_) | refine TO.step rfl (OT.loadL0 tab 9 rfl rfl rfl rfl rfl rfl ?_)))
        refine TO.step rfl (OT.indexP (sz := 1) tab kk rfl rfl rfl rfl rfl rfl rfl (by omega) ?_)
        have hkg : y.group[kk]? = some (at0 y.group kk) := at0_get (by omega)
        have hkl : y.low[kk]? = some (at0 y.low kk) := at0_get (by omega)
        have hfl : y.low[f]? = some (at0 y.low f) := at0_get (by omega)
        refine TO.step rfl (OT.loadM tab 4 (Value.int .i64) hkg rfl rfl rfl rfl rfl rfl ?_)
        repeat (first | refine TC.seq ?_ | refine TC.block ?_ | refine TC.region ?_ | refine TO.pureP tab rfl rfl ?_ | refine TO.nil ?_ | refine thenQ_n ?_ | refine blockQ_n ?_ | refine thenQ_r ?_ | refine blockQ_r ?_ | refine thenQ_x ?_ | refine blockQ_hit ?_ | refine blockQ_miss rfl ?_ | refine TC.skip ?_ | refine TC.exit ?_ | refine TC.ret ?_ | refine TC.cond_t rfl ?_ | refine TC.cond_f rfl ?_)
        refine TC.condP rfl (fun hneg => ?_) (fun hneg => ?_)
        · rw [lowerV, if_pos hneg] at hokx hokk
          repeat (first | refine TC.seq ?_ | refine TC.block ?_ | refine TC.region ?_ | refine TO.pureP tab rfl rfl ?_ | refine TO.nil ?_ | refine thenQ_n ?_ | refine blockQ_n ?_ | refine thenQ_r ?_ | refine blockQ_r ?_ | refine thenQ_x ?_ | refine blockQ_hit ?_ | refine blockQ_miss rfl ?_ | refine TC.skip ?_ | refine TC.exit ?_ | refine TC.ret ?_ | refine TC.cond_t rfl ?_ | refine TC.cond_f rfl ?_)
          refine TC.draw0 [21] mixed 22 rfl ?_
          refine DO.pure tab (by repeat (first | exact Calm.ret | refine Calm.then ?_ | refine Calm.block ?_ | assumption)) (by kernel_rfl) [0, 1, 2] (by kernel_rfl) rfl ?_
          (first | refine DO.loadL tab 3 0 (by repeat (first | exact Calm.ret | refine Calm.then ?_ | refine Calm.block ?_ | assumption)) (by kernel_rfl) (by kernel_rfl) rfl rfl rfl rfl rfl rfl rfl rfl ?_ | refine DO.loadL tab 3 1 (by repeat (first | exact Calm.ret | refine Calm.then ?_ | refine Calm.block ?_ | assumption)) (by kernel_rfl) (by kernel_rfl) rfl rfl rfl rfl rfl rfl rfl rfl ?_ | refine DO.loadL (k := 0) tab 3 0 (by repeat (first | exact Calm.ret | refine Calm.then ?_ | refine Calm.block ?_ | assumption)) (by kernel_rfl) (by kernel_rfl) rfl rfl rfl rfl rfl rfl rfl rfl ?_ | refine DO.loadL (k := 0) tab 3 1 (by repeat (first | exact Calm.ret | refine Calm.then ?_ | refine Calm.block ?_ | assumption)) (by kernel_rfl) (by kernel_rfl) rfl rfl rfl rfl rfl rfl rfl rfl ?_)
          refine DO.pure tab (by repeat (first | exact Calm.ret | refine Calm.then ?_ | refine Calm.block ?_ | assumption)) (by kernel_rfl) [4, 5, 6, 7] (by kernel_rfl) rfl ?_
          (first | refine DO.loadL tab 8 0 (by repeat (first | exact Calm.ret | refine Calm.then ?_ | refine Calm.block ?_ | assumption)) (by kernel_rfl) (by kernel_rfl) rfl rfl rfl rfl rfl rfl rfl rfl ?_ | refine DO.loadL tab 8 1 (by repeat (first | exact Calm.ret | refine Calm.then ?_ | refine Calm.block ?_ | assumption)) (by kernel_rfl) (by kernel_rfl) rfl rfl rfl rfl rfl rfl rfl rfl ?_ | refine DO.loadL (k := 0) tab 8 0 (by repeat (first | exact Calm.ret | refine Calm.then ?_ | refine Calm.block ?_ | assumption)) (by kernel_rfl) (by kernel_rfl) rfl rfl rfl rfl rfl rfl rfl rfl ?_ | refine DO.loadL (k := 0) tab 8 1 (by repeat (first | exact Calm.ret | refine Calm.then ?_ | refine Calm.block ?_ | assumption)) (by kernel_rfl) (by kernel_rfl) rfl rfl rfl rfl rfl rfl rfl rfl ?_)
          refine DO.pure tab (by repeat (first | exact Calm.ret | refine Calm.then ?_ | refine Calm.block ?_ | assumption)) (by kernel_rfl) [9] (by kernel_rfl) rfl ?_
          refine DO.indexP (sz := 1) tab 10 f (by repeat (first | exact Calm.ret | refine Calm.then ?_ | refine Calm.block ?_ | assumption)) (by kernel_rfl) (by kernel_rfl) rfl rfl rfl rfl rfl rfl rfl rfl rfl hf ?_
          refine DO.loadM tab 11 3 (Value.int .i64) hfl (by repeat (first | exact Calm.ret | refine Calm.then ?_ | refine Calm.block ?_ | assumption)) (by kernel_rfl) (by kernel_rfl) rfl rfl rfl rfl rfl rfl rfl rfl ?_
          refine DO.pure tab (by repeat (first | exact Calm.ret | refine Calm.then ?_ | refine Calm.block ?_ | assumption)) (by kernel_rfl) [12, 13, 14] (by kernel_rfl) rfl ?_
          (first | refine DO.loadL tab 15 0 (by repeat (first | exact Calm.ret | refine Calm.then ?_ | refine Calm.block ?_ | assumption)) (by kernel_rfl) (by kernel_rfl) rfl rfl rfl rfl rfl rfl rfl rfl ?_ | refine DO.loadL tab 15 1 (by repeat (first | exact Calm.ret | refine Calm.then ?_ | refine Calm.block ?_ | assumption)) (by kernel_rfl) (by kernel_rfl) rfl rfl rfl rfl rfl rfl rfl rfl ?_ | refine DO.loadL (k := 0) tab 15 0 (by repeat (first | exact Calm.ret | refine Calm.then ?_ | refine Calm.block ?_ | assumption)) (by kernel_rfl) (by kernel_rfl) rfl rfl rfl rfl rfl rfl rfl rfl ?_ | refine DO.loadL (k := 0) tab 15 1 (by repeat (first | exact Calm.ret | refine Calm.then ?_ | refine Calm.block ?_ | assumption)) (by kernel_rfl) (by kernel_rfl) rfl rfl rfl rfl rfl rfl rfl rfl ?_)
          refine DO.pure tab (by repeat (first | exact Calm.ret | refine Calm.then ?_ | refine Calm.block ?_ | assumption)) (by kernel_rfl) [16] (by kernel_rfl) rfl ?_
          refine DO.indexP (sz := 1) tab 17 kk (by repeat (first | exact Calm.ret | refine Calm.then ?_ | refine Calm.block ?_ | assumption)) (by kernel_rfl) (by kernel_rfl) rfl rfl rfl rfl rfl rfl rfl rfl rfl (by omega) ?_
          refine DO.loadM tab 18 3 (Value.int .i64) hkl (by repeat (first | exact Calm.ret | refine Calm.then ?_ | refine Calm.block ?_ | assumption)) (by kernel_rfl) (by kernel_rfl) rfl rfl rfl rfl rfl rfl rfl rfl ?_
          refine DO.pure tab (by repeat (first | exact Calm.ret | refine Calm.then ?_ | refine Calm.block ?_ | assumption)) (by kernel_rfl) [19] (by kernel_rfl) rfl ?_
          refine DO.indexP (sz := 1) tab 20 f (by repeat (first | exact Calm.ret | refine Calm.then ?_ | refine Calm.block ?_ | assumption)) (by kernel_rfl) (by kernel_rfl) rfl rfl rfl rfl rfl rfl rfl rfl rfl hf ?_
          refine DO.tail ?_
          refine DOt.run 21 rfl rfl (by kernel_rfl) rfl ?_
          refine OT.storeM (k := f) tab 3 (Value.int .i64) (if at0 y.low kk < at0 y.low f then at0 y.low kk else at0 y.low f) rfl rfl rfl rfl rfl rfl rfl (by omega) ?_
          refine DOt.nil (by kernel_rfl) ?_
          rotate_left 1
          repeat (first | refine TC.seq ?_ | refine TC.block ?_ | refine TC.region ?_ | refine TO.pureP tab rfl rfl ?_ | refine TO.nil ?_ | refine thenQ_n ?_ | refine blockQ_n ?_ | refine thenQ_r ?_ | refine blockQ_r ?_ | refine thenQ_x ?_ | refine blockQ_hit ?_ | refine blockQ_miss rfl ?_ | refine TC.skip ?_ | refine TC.exit ?_ | refine TC.ret ?_ | refine TC.cond_t rfl ?_ | refine TC.cond_f rfl ?_)
          refine TO.perm perm5 ?_
          refine TO.step rfl (OT.arith (r' := ((j + 1 : Nat) : Int)) rfl rfl rfl rfl rfl rfl rfl (by omega) ?_)
          repeat (first | refine TC.seq ?_ | refine TC.block ?_ | refine TC.region ?_ | refine TO.pureP tab rfl rfl ?_ | refine TO.nil ?_ | refine thenQ_n ?_ | refine blockQ_n ?_ | refine thenQ_r ?_ | refine blockQ_r ?_ | refine thenQ_x ?_ | refine blockQ_hit ?_ | refine blockQ_miss rfl ?_ | refine TC.skip ?_ | refine TC.exit ?_ | refine TC.ret ?_ | refine TC.cond_t rfl ?_ | refine TC.cond_f rfl ?_)
          exact ⟨⟨j + 1, { y with low := y.low.set f (if at0 y.low kk < at0 y.low f then at0 y.low kk else at0 y.low f) }, s3, vs3⟩, (by repeat (first | exact trivial | refine And.intro rfl ?_)), (by repeat (first | exact trivial | refine And.intro rfl ?_)), rfl, rfl, List.Sublist.refl _, ⟨by simp only; omega, hlw.1 hneg, hokx, hokk, hq3⟩, by simp only; omega⟩
        · rw [lowerV, if_neg hneg] at hokx hokk
          repeat (first | refine TC.seq ?_ | refine TC.block ?_ | refine TC.region ?_ | refine TO.pureP tab rfl rfl ?_ | refine TO.nil ?_ | refine thenQ_n ?_ | refine blockQ_n ?_ | refine thenQ_r ?_ | refine blockQ_r ?_ | refine thenQ_x ?_ | refine blockQ_hit ?_ | refine blockQ_miss rfl ?_ | refine TC.skip ?_ | refine TC.exit ?_ | refine TC.ret ?_ | refine TC.cond_t rfl ?_ | refine TC.cond_f rfl ?_)
          refine TO.step rfl (OT.arith (r' := ((j + 1 : Nat) : Int)) rfl rfl rfl rfl rfl rfl rfl (by omega) ?_)
          repeat (first | refine TC.seq ?_ | refine TC.block ?_ | refine TC.region ?_ | refine TO.pureP tab rfl rfl ?_ | refine TO.nil ?_ | refine thenQ_n ?_ | refine blockQ_n ?_ | refine thenQ_r ?_ | refine blockQ_r ?_ | refine thenQ_x ?_ | refine blockQ_hit ?_ | refine blockQ_miss rfl ?_ | refine TC.skip ?_ | refine TC.exit ?_ | refine TC.ret ?_ | refine TC.cond_t rfl ?_ | refine TC.cond_f rfl ?_)
          exact ⟨⟨j + 1, y, s3, vs3⟩, (by repeat (first | exact trivial | refine And.intro rfl ?_)), (by repeat (first | exact trivial | refine And.intro rfl ?_)), rfl, rfl, List.Sublist.refl _, ⟨by simp only; omega, hlw.2 hneg, hokx, hokk, hq3⟩, by simp only; omega⟩
    · have hfull : x = row.foldl (stepV g fuel f) (beginV st f) := by rw [hx, List.take_of_length_le (by omega)]
      rw [← hfull] at hvis
      rw [hvis]
      have hxl := hWx.ll
      have hxi := hWx.li
      have hxg := hWx.lg
      have hfl : x.low[f]? = some (at0 x.low f) := at0_get (by omega)
      have hfi : x.index[f]? = some (at0 x.index f) := at0_get (by omega)
      obtain ⟨ext, hext⟩ := hKx.stack
      have hfm : (f : Int) ∈ x.stack := by rw [hext]; simp [beginV]
      have hxgr := hWx.grp
      repeat (first | refine TC.seq ?_ | refine TC.block ?_ | refine TC.region ?_ | refine TO.pureP tab rfl rfl ?_ | refine TO.nil ?_ | refine thenQ_n ?_ | refine blockQ_n ?_ | refine thenQ_r ?_ | refine blockQ_r ?_ | refine thenQ_x ?_ | refine blockQ_hit ?_ | refine blockQ_miss rfl ?_ | refine TC.skip ?_ | refine TC.exit ?_ | refine TC.ret ?_ | refine TC.cond_t rfl ?_ | refine TC.cond_f rfl ?_)
      refine TC.draw0 [] mixed 15 rfl ?_
      refine DO.pure tab (by repeat (first | exact Calm.ret | refine Calm.then ?_ | refine Calm.block ?_ | assumption)) (by kernel_rfl) [0, 1, 2] (by kernel_rfl) rfl ?_
      (first | refine DO.loadL tab 3 0 (by repeat (first | exact Calm.ret | refine Calm.then ?_ | refine Calm.block ?_ | assumption)) (by kernel_rfl) (by kernel_rfl) rfl rfl rfl rfl rfl rfl rfl rfl ?_ | refine DO.loadL tab 3 1 (by repeat (first | exact Calm.ret | refine Calm.then ?_ | refine Calm.block ?_ | assumption)) (by kernel_rfl) (by kernel_rfl) rfl rfl rfl rfl rfl rfl rfl rfl ?_ | refine DO.loadL (k := 0) tab 3 0 (by repeat (first | exact Calm.ret | refine Calm.then ?_ | refine Calm.block ?_ | assumption)) (by kernel_rfl) (by kernel_rfl) rfl rfl rfl rfl rfl rfl rfl rfl ?_ | refine DO.loadL (k := 0) tab 3 1 (by repeat (first | exact Calm.ret | refine Calm.then ?_ | refine Calm.block ?_ | assumption)) (by kernel_rfl) (by kernel_rfl) rfl rfl rfl rfl rfl rfl rfl rfl ?_)
      refine DO.pure tab (by repeat (first | exact Calm.ret | refine Calm.then ?_ | refine Calm.block ?_ | assumption)) (by kernel_rfl) [4] (by kernel_rfl) rfl ?_
      refine DO.indexP (sz := 1) tab 5 f (by repeat (first | exact Calm.ret | refine Calm.then ?_ | refine Calm.block ?_ | assumption)) (by kernel_rfl) (by kernel_rfl) rfl rfl rfl rfl rfl rfl rfl rfl rfl hf ?_
      refine DO.loadM tab 6 3 (Value.int .i64) hfl (by repeat (first | exact Calm.ret | refine Calm.then ?_ | refine Calm.block ?_ | assumption)) (by kernel_rfl) (by kernel_rfl) rfl rfl rfl rfl rfl rfl rfl rfl ?_
      refine DO.pure tab (by repeat (first | exact Calm.ret | refine Calm.then ?_ | refine Calm.block ?_ | assumption)) (by kernel_rfl) [7, 8, 9] (by kernel_rfl) rfl ?_
      (first | refine DO.loadL tab 10 0 (by repeat (first | exact Calm.ret | refine Calm.then ?_ | refine Calm.block ?_ | assumption)) (by kernel_rfl) (by kernel_rfl) rfl rfl rfl rfl rfl rfl rfl rfl ?_ | refine DO.loadL tab 10 1 (by repeat (first | exact Calm.ret | refine Calm.then ?_ | refine Calm.block ?_ | assumption)) (by kernel_rfl) (by kernel_rfl) rfl rfl rfl rfl rfl rfl rfl rfl ?_ | refine DO.loadL (k := 0) tab 10 0 (by repeat (first | exact Calm.ret | refine Calm.then ?_ | refine Calm.block ?_ | assumption)) (by kernel_rfl) (by kernel_rfl) rfl rfl rfl rfl rfl rfl rfl rfl ?_ | refine DO.loadL (k := 0) tab 10 1 (by repeat (first | exact Calm.ret | refine Calm.then ?_ | refine Calm.block ?_ | assumption)) (by kernel_rfl) (by kernel_rfl) rfl rfl rfl rfl rfl rfl rfl rfl ?_)
      refine DO.pure tab (by repeat (first | exact Calm.ret | refine Calm.then ?_ | refine Calm.block ?_ | assumption)) (by kernel_rfl) [11] (by kernel_rfl) rfl ?_
      refine DO.indexP (sz := 1) tab 12 f (by repeat (first | exact Calm.ret | refine Calm.then ?_ | refine Calm.block ?_ | assumption)) (by kernel_rfl) (by kernel_rfl) rfl rfl rfl rfl rfl rfl rfl rfl rfl hf ?_
      refine DO.loadM tab 13 2 (Value.int .i64) hfi (by repeat (first | exact Calm.ret | refine Calm.then ?_ | refine Calm.block ?_ | assumption)) (by kernel_rfl) (by kernel_rfl) rfl rfl rfl rfl rfl rfl rfl rfl ?_
      refine DO.pure tab (by repeat (first | exact Calm.ret | refine Calm.then ?_ | refine Calm.block ?_ | assumption)) (by kernel_rfl) [14] (by kernel_rfl) rfl ?_
      (first | refine DO.nil0 (by kernel_rfl) ?_ | refine DO.nil (by kernel_rfl) ?_)
      rotate_left 1
      repeat (first | refine TC.seq ?_ | refine TC.block ?_ | refine TC.region ?_ | refine TO.pureP tab rfl rfl ?_ | refine TO.nil ?_ | refine thenQ_n ?_ | refine blockQ_n ?_ | refine thenQ_r ?_ | refine blockQ_r ?_ | refine thenQ_x ?_ | refine blockQ_hit ?_ | refine blockQ_miss rfl ?_ | refine TC.skip ?_ | refine TC.exit ?_ | refine TC.ret ?_ | refine TC.cond_t rfl ?_ | refine TC.cond_f rfl ?_)
      refine TC.condN rfl (fun hne => ?_) (fun hne => ?_)
      · repeat (first | refine TC.seq ?_ | refine TC.block ?_ | refine TC.region ?_ | refine TO.pureP tab rfl rfl ?_ | refine TO.nil ?_ | refine thenQ_n ?_ | refine blockQ_n ?_ | refine thenQ_r ?_ | refine blockQ_r ?_ | refine thenQ_x ?_ | refine blockQ_hit ?_ | refine blockQ_miss rfl ?_ | refine TC.skip ?_ | refine TC.exit ?_ | refine TC.ret ?_ | refine TC.cond_t rfl ?_ | refine TC.cond_f rfl ?_)
        refine retQ_ret rfl (List.Sublist.refl _) ⟨rfl, s2, vs2, ?_⟩
        rw [closeV, if_pos hne]
        exact ⟨hqx, rfl⟩
      · have hcl : closeV f x = { x with stack := (popR f x.groups x.stack x.group).1, group := (popR f x.groups x.stack x.group).2, groups := x.groups + 1 } := by rw [closeV, if_neg (by simpa using hne)]
        rw [hcl]
        repeat (first | refine TC.seq ?_ | refine TC.block ?_ | refine TC.region ?_ | refine TO.pureP tab rfl rfl ?_ | refine TO.nil ?_ | refine thenQ_n ?_ | refine blockQ_n ?_ | refine thenQ_r ?_ | refine blockQ_r ?_ | refine thenQ_x ?_ | refine blockQ_hit ?_ | refine blockQ_miss rfl ?_ | refine TC.skip ?_ | refine TC.exit ?_ | refine TC.ret ?_ | refine TC.cond_t rfl ?_ | refine TC.cond_f rfl ?_)
        refine TC.loopK (ι := PS) [0, 1] rfl (fun q => []) (fun _ => m) (fun q => tI p { x with stack := q.rest, group := q.grp } q.s vs2 L)
          (fun q => popR f x.groups q.rest q.grp = popR f x.groups x.stack x.group ∧ (f : Int) ∈ q.rest ∧ MQ (Value.int .i64) q.s vs2 q.rest.reverse ∧ q.grp.length = p.n ∧ (∀ y ∈ q.rest, 0 ≤ y ∧ y < (p.n : Int)) ∧ q.rest.length ≤ p.n) (fun q => q.rest.length) ⟨x.stack, x.group, s2⟩ (by repeat (first | exact trivial | refine And.intro rfl ?_)) rfl (List.Sublist.refl _) ⟨rfl, hfm, hqx, hxg, hWx.stk, by simp only; omega⟩ ?_
        rintro ⟨rest, grp, s4⟩ ⟨hp1, hp2, hq4, hp3, hp4, hp5⟩
        simp only at hp1 hp2 hq4 hp3 hp4 hp5 ⊢
        cases rest with
        | nil => cases hp2
        | cons y rest =>
          have hrl : (y :: rest).reverse.length = rest.length + 1 := by simp
          obtain ⟨bk, ok, c, rfl, hc1, hc2⟩ := hq4.ne (by omega)
          rw [hrl] at hq4 hc1
          have hylt := hp4 y (List.mem_cons_self ..)
          have hyv : y = (y.toNat : Int) := by omega
          have hget : ((y :: rest).reverse)[rest.length]? = some y := by
            rw [List.reverse_cons, List.getElem?_append_right (by simp)]; simp
          have hpop := hq4.pop (k := rest.length) (by omega)
          have htk : ((y :: rest).reverse).take rest.length = rest.reverse := by
            rw [List.reverse_cons, List.take_append_of_le_length (by simp), List.take_of_length_le (by simp)]
          rw [htk] at hpop
          have hstep : popR f x.groups (y :: rest) grp = if y = f then (rest, grp.set y.toNat x.groups) else popR f x.groups rest (grp.set y.toNat x.groups) := rfl
          simp only [List.length_cons] at hp5
          have hv1 := hq4.get hget
          rw [hrl]
          repeat (first | refine TC.seq ?_ | refine TC.block ?_ | refine TC.region ?_ | refine TO.pureP tab rfl rfl ?_ | refine TO.nil ?_ | refine thenQ_n ?_ | refine blockQ_n ?_ | refine thenQ_r ?_ | refine blockQ_r ?_ | refine thenQ_x ?_ | refine blockQ_hit ?_ | refine blockQ_miss rfl ?_ | refine TC.skip ?_ | refine TC.exit ?_ | refine TC.ret ?_ | refine TC.cond_t rfl ?_ | refine TC.cond_f rfl ?_)
          refine TC.draw0 [] mixed 13 rfl ?_
          refine DO.pure tab (by repeat (first | exact Calm.ret | refine Calm.then ?_ | refine Calm.block ?_ | assumption)) (by kernel_rfl) [0, 1, 2] (by kernel_rfl) rfl ?_
          (first | refine DO.loadL tab 3 0 (by repeat (first | exact Calm.ret | refine Calm.then ?_ | refine Calm.block ?_ | assumption)) (by kernel_rfl) (by kernel_rfl) rfl rfl rfl rfl rfl rfl rfl rfl ?_ | refine DO.loadL tab 3 1 (by repeat (first | exact Calm.ret | refine Calm.then ?_ | refine Calm.block ?_ | assumption)) (by kernel_rfl) (by kernel_rfl) rfl rfl rfl rfl rfl rfl rfl rfl ?_ | refine DO.loadL (k := 0) tab 3 0 (by repeat (first | exact Calm.ret | refine Calm.then ?_ | refine Calm.block ?_ | assumption)) (by kernel_rfl) (by kernel_rfl) rfl rfl rfl rfl rfl rfl rfl rfl ?_ | refine DO.loadL (k := 0) tab 3 1 (by repeat (first | exact Calm.ret | refine Calm.then ?_ | refine Calm.block ?_ | assumption)) (by kernel_rfl) (by kernel_rfl) rfl rfl rfl rfl rfl rfl rfl rfl ?_)
          refine DO.pure tab (by repeat (first | exact Calm.ret | refine Calm.then ?_ | refine Calm.block ?_ | assumption)) (by kernel_rfl) [4, 5, 6] (by kernel_rfl) rfl ?_
          (first | refine DO.loadL tab 7 0 (by repeat (first | exact Calm.ret | refine Calm.then ?_ | refine Calm.block ?_ | assumption)) (by kernel_rfl) (by kernel_rfl) rfl rfl rfl rfl rfl rfl rfl rfl ?_ | refine DO.loadL tab 7 1 (by repeat (first | exact Calm.ret | refine Calm.then ?_ | refine Calm.block ?_ | assumption)) (by kernel_rfl) (by kernel_rfl) rfl rfl rfl rfl rfl rfl rfl rfl ?_ | refine DO.loadL (k := 0) tab 7 0 (by repeat (first | exact Calm.ret | refine Calm.then ?_ | refine Calm.block ?_ | assumption)) (by kernel_rfl) (by kernel_rfl) rfl rfl rfl rfl rfl rfl rfl rfl ?_ | refine DO.loadL (k := 0) tab 7 1 (by repeat (first | exact Calm.ret | refine Calm.then ?_ | refine Calm.block ?_ | assumption)) (by kernel_rfl) (by kernel_rfl) rfl rfl rfl rfl rfl rfl rfl rfl ?_)
          refine DO.pure tab (by repeat (first | exact Calm.ret | refine Calm.then ?_ | refine Calm.block ?_ | assumption)) (by kernel_rfl) [8] (by kernel_rfl) rfl ?_
          refine DO.arith 9 (r' := ((rest.length : Nat) : Int)) (by repeat (first | exact Calm.ret | refine Calm.then ?_ | refine Calm.block ?_ | assumption)) (by kernel_rfl) (by kernel_rfl) rfl rfl rfl rfl rfl rfl rfl rfl (by first | rfl | omega | (simp only; omega)) (by omega) ?_
          refine DO.indexP (sz := 1) tab 10 rest.length (by repeat (first | exact Calm.ret | refine Calm.then ?_ | refine Calm.block ?_ | assumption)) (by kernel_rfl) (by kernel_rfl) rfl rfl rfl rfl rfl rfl rfl rfl rfl (Nat.lt_succ_self _) ?_
          refine DO.loadR tab 11 0 hv1 (by repeat (first | exact Calm.ret | refine Calm.then ?_ | refine Calm.block ?_ | assumption)) (by kernel_rfl) (by kernel_rfl) rfl rfl rfl rfl rfl rfl rfl rfl ?_
          refine DO.pure tab (by repeat (first | exact Calm.ret | refine Calm.then ?_ | refine Calm.block ?_ | assumption)) (by kernel_rfl) [12] (by kernel_rfl) rfl ?_
          (first | refine DO.nil0 (by kernel_rfl) ?_ | refine DO.nil (by kernel_rfl) ?_)
          rotate_left 1
          repeat (first | refine TC.seq ?_ | refine TC.block ?_ | refine TC.region ?_ | refine TO.pureP tab rfl rfl ?_ | refine TO.nil ?_ | refine thenQ_n ?_ | refine blockQ_n ?_ | refine thenQ_r ?_ | refine blockQ_r ?_ | refine thenQ_x ?_ | refine blockQ_hit ?_ | refine blockQ_miss rfl ?_ | refine TC.skip ?_ | refine TC.exit ?_ | refine TC.ret ?_ | refine TC.cond_t rfl ?_ | refine TC.cond_f rfl ?_)
          refine TC.draw0 [14] mixed 15 rfl ?_
          refine DO.pure tab (by repeat (first | exact Calm.ret | refine Calm.then ?_ | refine Calm.block ?_ | assumption)) (by kernel_rfl) [0, 1, 2, 3] (by kernel_rfl) rfl ?_
          (first | refine DO.loadL tab 4 0 (by repeat (first | exact Calm.ret | refine Calm.then ?_ | refine Calm.block ?_ | assumption)) (by kernel_rfl) (by kernel_rfl) rfl rfl rfl rfl rfl rfl rfl rfl ?_ | refine DO.loadL tab 4 1 (by repeat (first | exact Calm.ret | refine Calm.then ?_ | refine Calm.block ?_ | assumption)) (by kernel_rfl) (by kernel_rfl) rfl rfl rfl rfl rfl rfl rfl rfl ?_ | refine DO.loadL (k := 0) tab 4 0 (by repeat (first | exact Calm.ret | refine Calm.then ?_ | refine Calm.block ?_ | assumption)) (by kernel_rfl) (by kernel_rfl) rfl rfl rfl rfl rfl rfl rfl rfl ?_ | refine DO.loadL (k := 0) tab 4 1 (by repeat (first | exact Calm.ret | refine Calm.then ?_ | refine Calm.block ?_ | assumption)) (by kernel_rfl) (by kernel_rfl) rfl rfl rfl rfl rfl rfl rfl rfl ?_)
          refine DO.pure tab (by repeat (first | exact Calm.ret | refine Calm.then ?_ | refine Calm.block ?_ | assumption)) (by kernel_rfl) [5, 6, 7] (by kernel_rfl) rfl ?_
          (first | refine DO.loadL tab 8 0 (by repeat (first | exact Calm.ret | refine Calm.then ?_ | refine Calm.block ?_ | assumption)) (by kernel_rfl) (by kernel_rfl) rfl rfl rfl rfl rfl rfl rfl rfl ?_ | refine DO.loadL tab 8 1 (by repeat (first | exact Calm.ret | refine Calm.then ?_ | refine Calm.block ?_ | assumption)) (by kernel_rfl) (by kernel_rfl) rfl rfl rfl rfl rfl rfl rfl rfl ?_ | refine DO.loadL (k := 0) tab 8 0 (by repeat (first | exact Calm.ret | refine Calm.then ?_ | refine Calm.block ?_ | assumption)) (by kernel_rfl) (by kernel_rfl) rfl rfl rfl rfl rfl rfl rfl rfl ?_ | refine DO.loadL (k := 0) tab 8 1 (by repeat (first | exact Calm.ret | refine Calm.then ?_ | refine Calm.block ?_ | assumption)) (by kernel_rfl) (by kernel_rfl) rfl rfl rfl rfl rfl rfl rfl rfl ?_)
          refine DO.pure tab (by repeat (first | exact Calm.ret | refine Calm.then ?_ | refine Calm.block ?_ | assumption)) (by kernel_rfl) [9] (by kernel_rfl) rfl ?_
          refine DO.arith 10 (r' := ((rest.length : Nat) : Int)) (by repeat (first | exact Calm.ret | refine Calm.then ?_ | refine Calm.block ?_ | assumption)) (by kernel_rfl) (by kernel_rfl) rfl rfl rfl rfl rfl rfl rfl rfl (by first | rfl | omega | (simp only; omega)) (by omega) ?_
          refine DO.takeM tab 11 rest.length rfl (show rest.length ≤ c by omega) (by repeat (first | exact Calm.ret | refine Calm.then ?_ | refine Calm.block ?_ | assumption)) (by kernel_rfl) (by kernel_rfl) rfl rfl rfl rfl rfl rfl rfl rfl ?_
          refine DO.pure tab (by repeat (first | exact Calm.ret | refine Calm.then ?_ | refine Calm.block ?_ | assumption)) (by kernel_rfl) [12, 13] (by kernel_rfl) rfl ?_
          refine DO.tail ?_
          refine DOt.run 14 rfl rfl (by kernel_rfl) rfl ?_
          refine OT.storeL tab 1 rfl rfl rfl rfl rfl rfl rfl rfl ?_
          refine DOt.nil (by kernel_rfl) ?_
          rotate_left 1
          refine thenQ_n (TC.perm perm5 ?_)
          repeat (first | refine TC.seq ?_ | refine TC.block ?_ | refine TC.region ?_ | refine TO.pureP tab rfl rfl ?_ | refine TO.nil ?_ | refine thenQ_n ?_ | refine blockQ_n ?_ | refine thenQ_r ?_ | refine blockQ_r ?_ | refine thenQ_x ?_ | refine blockQ_hit ?_ | refine blockQ_miss rfl ?_ | refine TC.skip ?_ | refine TC.exit ?_ | refine TC.ret ?_ | refine TC.cond_t rfl ?_ | refine TC.cond_f rfl ?_)
          refine TC.draw0 [10] mixed 11 rfl ?_
          refine DO.pure tab (by repeat (first | exact Calm.ret | refine Calm.then ?_ | refine Calm.block ?_ | assumption)) (by kernel_rfl) [0, 1, 2] (by kernel_rfl) rfl ?_
          (first | refine DO.loadL tab 3 0 (by repeat (first | exact Calm.ret | refine Calm.then ?_ | refine Calm.block ?_ | assumption)) (by kernel_rfl) (by kernel_rfl) rfl rfl rfl rfl rfl rfl rfl rfl ?_ | refine DO.loadL tab 3 1 (by repeat (first | exact Calm.ret | refine Calm.then ?_ | refine Calm.block ?_ | assumption)) (by kernel_rfl) (by kernel_rfl) rfl rfl rfl rfl rfl rfl rfl rfl ?_ | refine DO.loadL (k := 0) tab 3 0 (by repeat (first | exact Calm.ret | refine Calm.then ?_ | refine Calm.block ?_ | assumption)) (by kernel_rfl) (by kernel_rfl) rfl rfl rfl rfl rfl rfl rfl rfl ?_ | refine DO.loadL (k := 0) tab 3 1 (by repeat (first | exact Calm.ret | refine Calm.then ?_ | refine Calm.block ?_ | assumption)) (by kernel_rfl) (by kernel_rfl) rfl rfl rfl rfl rfl rfl rfl rfl ?_)
          refine DO.pure tab (by repeat (first | exact Calm.ret | refine Calm.then ?_ | refine Calm.block ?_ | assumption)) (by kernel_rfl) [4, 5, 6, 7] (by kernel_rfl) rfl ?_
          (first | refine DO.loadL tab 8 0 (by repeat (first | exact Calm.ret | refine Calm.then ?_ | refine Calm.block ?_ | assumption)) (by kernel_rfl) (by kernel_rfl) rfl rfl rfl rfl rfl rfl rfl rfl ?_ | refine DO.loadL tab 8 1 (by repeat (first | exact Calm.ret | refine Calm.then ?_ | refine Calm.block ?_ | assumption)) (by kernel_rfl) (by kernel_rfl) rfl rfl rfl rfl rfl rfl rfl rfl ?_ | refine DO.loadL (k := 0) tab 8 0 (by repeat (first | exact Calm.ret | refine Calm.then ?_ | refine Calm.block ?_ | assumption)) (by kernel_rfl) (by kernel_rfl) rfl rfl rfl rfl rfl rfl rfl rfl ?_ | refine DO.loadL (k := 0) tab 8 1 (by repeat (first | exact Calm.ret | refine Calm.then ?_ | refine Calm.block ?_ | assumption)) (by kernel_rfl) (by kernel_rfl) rfl rfl rfl rfl rfl rfl rfl rfl ?_)
          refine DO.indexP (sz := 1) tab 9 y.toNat (by repeat (first | exact Calm.ret | refine Calm.then ?_ | refine Calm.block ?_ | assumption)) (by kernel_rfl) (by kernel_rfl) rfl rfl rfl rfl rfl rfl rfl hyv rfl (by omega) ?_
          refine DO.tail ?_
          refine DOt.run 10 rfl rfl (by kernel_rfl) rfl ?_
          refine OT.storeM (k := y.toNat) tab 4 (Value.int .i64) x.groups rfl rfl rfl rfl rfl rfl rfl (show y.toNat < grp.length by omega) ?_
          refine DOt.nil (by kernel_rfl) ?_
          rotate_left 1
          refine thenQ_n (TC.perm perm5 ?_)
          repeat (first | refine TC.seq ?_ | refine TC.block ?_ | refine TC.region ?_ | refine TO.pureP tab rfl rfl ?_ | refine TO.nil ?_ | refine thenQ_n ?_ | refine blockQ_n ?_ | refine thenQ_r ?_ | refine blockQ_r ?_ | refine thenQ_x ?_ | refine blockQ_hit ?_ | refine blockQ_miss rfl ?_ | refine TC.skip ?_ | refine TC.exit ?_ | refine TC.ret ?_ | refine TC.cond_t rfl ?_ | refine TC.cond_f rfl ?_)
          refine TC.condP rfl (fun heq => ?_) (fun heq => ?_)
          · repeat (first | (first | refine TC.seq ?_ | refine TC.block ?_ | refine TC.region ?_ | refine TO.pureP tab rfl rfl ?_ | refine TO.nil ?_ | refine thenQ_n ?_ | refine blockQ_n ?_ | refine thenQ_r ?_ | refine blockQ_r ?_ | refine thenQ_x ?_ | refine blockQ_hit ?_ | refine blockQ_miss rfl ?_ | refine TC.skip ?_ | refine TC.exit ?_ | refine TC.ret ?_ | refine TC.cond_t rfl ?_ | refine TC.cond_f rfl ?_) | (first | refine TO.step rfl (OT.loadL tab 0 rfl rfl rfl rfl rfl rfl ?_) | refine TO.step rfl (OT.loadL0 tab 0 rfl rfl rfl rfl rfl rfl ?_) | refine TO.step rfl (OT.loadL tab 1 rfl rfl rfl rfl rfl rfl ?_) | refine TO.step rfl (OT.loadL0 tab 1 rfl rfl rfl rfl rfl rfl ?_) | refine TO.step rfl (OT.loadL tab 2 rfl rfl rfl rfl rfl rfl ?_) | refine TO.step rfl (OT.loadL0 tab 2 rfl rfl rfl rfl rfl rfl ?_) | refine TO.step rfl (OT.loadL tab 3 rfl rfl rfl rfl rfl rfl ?_) | refine TO.step rfl (OT.loadL0 tab 3 rfl rfl rfl rfl rfl rfl ?_) | refine TO.step rfl (OT.loadL tab 4 rfl rfl rfl rfl rfl rfl ?_) | refine TO.step rfl (OT.loadL0 tab 4 rfl rfl rfl rfl rfl rfl ?_) | refine TO.step rfl (OT.loadL tab 5 rfl rfl rfl rfl rfl rfl ?_) | refine TO.step rfl (OT.loadL0 tab 5 rfl rfl rfl rfl rfl rfl ?_) | refine TO.step rfl (OT.loadL tab 6 rfl rfl rfl rfl rfl rfl ?_) | refine TO.step rfl (OT.loadL0 tab 6 rfl rfl rfl rfl rfl rfl ?_) | refine TO.step rfl (OT.loadL tab 7 rfl rfl rfl rfl rfl rfl ?_) | refine TO.step rfl (OT.loadL0 tab 7 rfl rfl rfl rfl rfl rfl ?_) | refine TO.step rfl (OT.loadL tab 8 rfl rfl rfl rfl rfl rfl ?_) | refine TO.step rfl (OT.loadL0 tab 8 rfl rfl rfl rfl rfl rfl ?_) | refine TO.step rfl (OT.loadL tab 9 rfl rfl rfl rfl rfl rfl ?_) | refine TO.step rfl (OT.loadL0 tab 9 rfl rfl rfl rfl rfl rfl ?_)))
            refine TO.step rfl (OT.arith (r' := x.groups + 1) rfl rfl rfl rfl rfl rfl rfl (by omega) ?_)
            repeat (first | refine TC.seq ?_ | refine TC.block ?_ | refine TC.region ?_ | refine TO.pureP tab rfl rfl ?_ | refine TO.nil ?_ | refine thenQ_n ?_ | refine blockQ_n ?_ | refine thenQ_r ?_ | refine blockQ_r ?_ | refine thenQ_x ?_ | refine blockQ_hit ?_ | refine blockQ_miss rfl ?_ | refine TC.skip ?_ | refine TC.exit ?_ | refine TC.ret ?_ | refine TC.cond_t rfl ?_ | refine TC.cond_f rfl ?_)
            (first | refine TO.step rfl (OT.storeL tab 0 rfl rfl rfl rfl rfl rfl rfl rfl ?_) | refine TO.step rfl (OT.storeL0 tab 0 rfl rfl rfl rfl rfl rfl rfl rfl ?_) | refine TO.step rfl (OT.storeL tab 1 rfl rfl rfl rfl rfl rfl rfl rfl ?_) | refine TO.step rfl (OT.storeL0 tab 1 rfl rfl rfl rfl rfl rfl rfl rfl ?_) | refine TO.step rfl (OT.storeL tab 2 rfl rfl rfl rfl rfl rfl rfl rfl ?_) | refine TO.step rfl (OT.storeL0 tab 2 rfl rfl rfl rfl rfl rfl rfl rfl ?_) | refine TO.step rfl (OT.storeL tab 3 rfl rfl rfl rfl rfl rfl rfl rfl ?_) | refine TO.step rfl (OT.storeL0 tab 3 rfl rfl rfl rfl rfl rfl rfl rfl ?_) | refine TO.step rfl (OT.storeL tab 4 rfl rfl rfl rfl rfl rfl rfl rfl ?_) | refine TO.step rfl (OT.storeL0 tab 4 rfl rfl rfl rfl rfl rfl rfl rfl ?_) | refine TO.step rfl (OT.storeL tab 5 rfl rfl rfl rfl rfl rfl rfl rfl ?_) | refine TO.step rfl (OT.storeL0 tab 5 rfl rfl rfl rfl rfl rfl rfl rfl ?_) | refine TO.step rfl (OT.storeL tab 6 rfl rfl rfl rfl rfl rfl rfl rfl ?_) | refine TO.step rfl (OT.storeL0 tab 6 rfl rfl rfl rfl rfl rfl rfl rfl ?_) | refine TO.step rfl (OT.storeL tab 7 rfl rfl rfl rfl rfl rfl rfl rfl ?_) | refine TO.step rfl (OT.storeL0 tab 7 rfl rfl rfl rfl rfl rfl rfl rfl ?_) | refine TO.step rfl (OT.storeL tab 8 rfl rfl rfl rfl rfl rfl rfl rfl ?_) | refine TO.step rfl (OT.storeL0 tab 8 rfl rfl rfl rfl rfl rfl rfl rfl ?_) | refine TO.step rfl (OT.storeL tab 9 rfl rfl rfl rfl rfl rfl rfl rfl ?_) | refine TO.step rfl (OT.storeL0 tab 9 rfl rfl rfl rfl rfl rfl rfl rfl ?_))
            repeat (first | refine TC.seq ?_ | refine TC.block ?_ | refine TC.region ?_ | refine TO.pureP tab rfl rfl ?_ | refine TO.nil ?_ | refine thenQ_n ?_ | refine blockQ_n ?_ | refine thenQ_r ?_ | refine blockQ_r ?_ | refine thenQ_x ?_ | refine blockQ_hit ?_ | refine blockQ_miss rfl ?_ | refine TC.skip ?_ | refine TC.exit ?_ | refine TC.ret ?_ | refine TC.cond_t rfl ?_ | refine TC.cond_f rfl ?_)
            rw [if_pos heq] at hstep
            rw [← hp1, hstep]

            refine retQ_n rfl (List.Sublist.refl _) ⟨rfl, ⟨some ⟨bk, ok, none⟩, rest.length, c⟩, vs2, ?_, ?_⟩
            · exact hpop
            · rfl
          · repeat (first | refine TC.seq ?_ | refine TC.block ?_ | refine TC.region ?_ | refine TO.pureP tab rfl rfl ?_ | refine TO.nil ?_ | refine thenQ_n ?_ | refine blockQ_n ?_ | refine thenQ_r ?_ | refine blockQ_r ?_ | refine thenQ_x ?_ | refine blockQ_hit ?_ | refine blockQ_miss rfl ?_ | refine TC.skip ?_ | refine TC.exit ?_ | refine TC.ret ?_ | refine TC.cond_t rfl ?_ | refine TC.cond_f rfl ?_)
            refine ⟨⟨rest, grp.set y.toNat x.groups, ⟨some ⟨bk, ok, none⟩, rest.length, c⟩⟩, (by repeat (first | exact trivial | refine And.intro rfl ?_)), (by repeat (first | exact trivial | refine And.intro rfl ?_)), rfl, rfl, List.Sublist.refl _, ⟨?_, ?_, hpop, by simp [hp3], fun z hz => hp4 z (List.mem_cons_of_mem _ hz), by simp only; omega⟩, by simp⟩
            · simp only
              rw [← hp1, hstep, if_neg heq]
            · rcases List.mem_cons.1 hp2 with h1 | h1
              · exact absurd h1.symm heq
              · exact h1
end Go.Sep
