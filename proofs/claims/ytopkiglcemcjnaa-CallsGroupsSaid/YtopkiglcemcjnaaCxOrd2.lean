/-
  Walks of layer 13: inOrder.
-/
import Derived.Test.YtopkiglcemcjnaaCxOrd
import Derived.Test.YtopkiglcemcjnaaSepP
set_option linter.unusedVariables false
set_option linter.unusedSimpArgs false
namespace Go.Sep
open Go.Proofs
attribute [local irreducible] TC TO OT TCallX TCall DO DOt thenQ blockQ retQ At

structure OS where
  k : Nat
  g : Int
  s : Sl
  vs : List Value
  xs : List Int
  ws : List MapH
  done : List Int
  so : Sl
  m : Mem

theorem row_mkeys {ws : List MapH} {k : Nat} {x : MapH} (h : ws[k]? = some x) : row (ws.map mkeys) k = mkeys x := by simp [row, h]
theorem mtoks_at {ws : List MapH} {k : Nat} {x : MapH} (L : List Item) (h : ws[k]? = some x) : (mtoks ws ++ L)[k]? = some (mitem x) := by
  have hk := (List.getElem?_eq_some_iff.1 h).1
  rw [List.getElem?_append_left (by simpa [mtoks] using hk)]
  exact map_get _ h

theorem set_selfV {α : Type} {l : List α} {k : Nat} {v : α} (h : l[k]? = some v) : l.set k v = l := by
  obtain ⟨hk, rfl⟩ := List.getElem?_eq_some_iff.1 h
  exact List.set_getElem_self hk

set_option maxHeartbeats 4000000 in
theorem inOrder_own (m : Mem) (L : List Item) (tm ta : Sl) (ms sk : List (List Int)) (ng bw : Nat) (ws : List MapH) (hms : SlRep rInts m tm ms) (hsk : SlRep rInts m ta sk) (hml : ms.length = ng) (hng : ng ≤ 4096)
    (hp : OP ng (ws.map mkeys) sk) (hne : ∀ l ∈ ms, l ≠ []) (hlt : ∀ l ∈ ms, ∀ x ∈ l, 0 ≤ x ∧ x < 4096) :
    TCall Try.prog 23 ⟨[tm.v, .slice (some ⟨bw, 0, none⟩) ng ng, ta.v]⟩ m (.cells bw 0 (ws.map mv) :: (mtoks ws ++ L)) (fun r m' L' => m ≤ m' ∧ L' = L ∧ ∃ (t : Sl) (done : List Int), r = t.v ∧ SlRep rInts m' t (done.map fun i => row ms i.toNat) ∧ OrdOut ng (leastAt ms) (ws.map mkeys) done) := by
  have hwl : ws.length = ng := by simpa using hp.lw
  have hml2 := hms.len
  unfold TCall
  refine TCallX.enter Try.func23 rfl 70 rfl ?_
  repeat (first | refine TC.seq ?_ | refine TC.block ?_ | refine TC.region ?_ | refine TO.pureP tab rfl rfl ?_ | refine TO.nil ?_ | refine thenQ_n ?_ | refine blockQ_n ?_ | refine thenQ_r ?_ | refine blockQ_r ?_ | refine thenQ_x ?_ | refine blockQ_hit ?_ | refine blockQ_miss rfl ?_ | refine TC.skip ?_ | refine TC.exit ?_ | refine TC.ret ?_ | refine TC.cond_t rfl ?_ | refine TC.cond_f rfl ?_)
  refine TO.step rfl (OT.box rfl rfl rfl rfl rfl (fun b => ?_))
  repeat (first | refine TC.seq ?_ | refine TC.block ?_ | refine TC.region ?_ | refine TO.pureP tab rfl rfl ?_ | refine TO.nil ?_ | refine thenQ_n ?_ | refine blockQ_n ?_ | refine thenQ_r ?_ | refine blockQ_r ?_ | refine thenQ_x ?_ | refine blockQ_hit ?_ | refine blockQ_miss rfl ?_ | refine TC.skip ?_ | refine TC.exit ?_ | refine TC.ret ?_ | refine TC.cond_t rfl ?_ | refine TC.cond_f rfl ?_)
  refine TO.step rfl (OT.alloc tab rfl rfl rfl rfl (fun br => ?_))
  repeat (first | refine TC.seq ?_ | refine TC.block ?_ | refine TC.region ?_ | refine TO.pureP tab rfl rfl ?_ | refine TO.nil ?_ | refine thenQ_n ?_ | refine blockQ_n ?_ | refine thenQ_r ?_ | refine blockQ_r ?_ | refine thenQ_x ?_ | refine blockQ_hit ?_ | refine blockQ_miss rfl ?_ | refine TC.skip ?_ | refine TC.exit ?_ | refine TC.ret ?_ | refine TC.cond_t rfl ?_ | refine TC.cond_f rfl ?_)
  (first | refine TO.step rfl (OT.loadL tab 0 rfl rfl rfl rfl rfl rfl ?_) | refine TO.step rfl (OT.loadL0 tab 0 rfl rfl rfl rfl rfl rfl ?_) | refine TO.step rfl (OT.loadL tab 1 rfl rfl rfl rfl rfl rfl ?_) | refine TO.step rfl (OT.loadL0 tab 1 rfl rfl rfl rfl rfl rfl ?_) | refine TO.step rfl (OT.loadL tab 2 rfl rfl rfl rfl rfl rfl ?_) | refine TO.step rfl (OT.loadL0 tab 2 rfl rfl rfl rfl rfl rfl ?_) | refine TO.step rfl (OT.loadL tab 3 rfl rfl rfl rfl rfl rfl ?_) | refine TO.step rfl (OT.loadL0 tab 3 rfl rfl rfl rfl rfl rfl ?_) | refine TO.step rfl (OT.loadL tab 4 rfl rfl rfl rfl rfl rfl ?_) | refine TO.step rfl (OT.loadL0 tab 4 rfl rfl rfl rfl rfl rfl ?_) | refine TO.step rfl (OT.loadL tab 5 rfl rfl rfl rfl rfl rfl ?_) | refine TO.step rfl (OT.loadL0 tab 5 rfl rfl rfl rfl rfl rfl ?_) | refine TO.step rfl (OT.loadL tab 6 rfl rfl rfl rfl rfl rfl ?_) | refine TO.step rfl (OT.loadL0 tab 6 rfl rfl rfl rfl rfl rfl ?_) | refine TO.step rfl (OT.loadL tab 7 rfl rfl rfl rfl rfl rfl ?_) | refine TO.step rfl (OT.loadL0 tab 7 rfl rfl rfl rfl rfl rfl ?_) | refine TO.step rfl (OT.loadL tab 8 rfl rfl rfl rfl rfl rfl ?_) | refine TO.step rfl (OT.loadL0 tab 8 rfl rfl rfl rfl rfl rfl ?_) | refine TO.step rfl (OT.loadL tab 9 rfl rfl rfl rfl rfl rfl ?_) | refine TO.step rfl (OT.loadL0 tab 9 rfl rfl rfl rfl rfl rfl ?_))
  repeat (first | refine TC.seq ?_ | refine TC.block ?_ | refine TC.region ?_ | refine TO.pureP tab rfl rfl ?_ | refine TO.nil ?_ | refine thenQ_n ?_ | refine blockQ_n ?_ | refine thenQ_r ?_ | refine blockQ_r ?_ | refine thenQ_x ?_ | refine blockQ_hit ?_ | refine blockQ_miss rfl ?_ | refine TC.skip ?_ | refine TC.exit ?_ | refine TC.ret ?_ | refine TC.cond_t rfl ?_ | refine TC.cond_f rfl ?_)
  refine TC.mcell0 ?_
  refine TC.perm (List.Perm.swap _ _ _) ?_
  refine TC.loopK (ι := OS) [1, 2, 3, 7, 8, 16] rfl (fun x => [(17, .int .i64 (x.k : Int))]) (fun _ => m) (fun x => .cells br 0 [x.s.v] :: mcell x.s x.vs :: .cells b 0 [tm.v] :: .cells bw 0 (ws.map mv) :: (mtoks ws ++ L))
    (fun x => x.k ≤ ng ∧ MQ (Value.int .i64) x.s x.vs x.xs ∧ II ng (leastAt ms) (ws.map mkeys) x.k x.xs) (fun x => ng - x.k) ⟨0, 0, ⟨none, 0, 0⟩, [], [], [], [], ⟨none, 0, 0⟩, m⟩ (by repeat (first | exact trivial | refine And.intro rfl ?_)) rfl (List.Sublist.refl _) ⟨Nat.zero_le _, MQ.nil _, II.zero _ _ _⟩ ?_
  rintro ⟨k, _, s, vs, xs, _, _, _, _⟩ ⟨hk, hq, hII⟩
  simp only at hk hq hII ⊢
  repeat (first | refine TC.seq ?_ | refine TC.block ?_ | refine TC.region ?_ | refine TO.pureP tab rfl rfl ?_ | refine TO.nil ?_ | refine thenQ_n ?_ | refine blockQ_n ?_ | refine thenQ_r ?_ | refine blockQ_r ?_ | refine thenQ_x ?_ | refine blockQ_hit ?_ | refine blockQ_miss rfl ?_ | refine TC.skip ?_ | refine TC.exit ?_ | refine TC.ret ?_ | refine TC.cond_t rfl ?_ | refine TC.cond_f rfl ?_)
  refine TC.condP rfl (fun hlt' => ?_) (fun hlt' => ?_)
  · have hklt : k < ng := by omega
    have hwx : ws[k]? = some (ws[k]'(by omega)) := by simp [show k < ws.length by omega]
    generalize ws[k]'(by omega) = x at hwx
    have hrk := row_mkeys hwx
    have hxl : xs.length ≤ ng := nodup_len xs ng hII.nodup fun y hy => by have := hII.rng y hy; omega
    repeat (first | refine TC.seq ?_ | refine TC.block ?_ | refine TC.region ?_ | refine TO.pureP tab rfl rfl ?_ | refine TO.nil ?_ | refine thenQ_n ?_ | refine blockQ_n ?_ | refine thenQ_r ?_ | refine blockQ_r ?_ | refine thenQ_x ?_ | refine blockQ_hit ?_ | refine blockQ_miss rfl ?_ | refine TC.skip ?_ | refine TC.exit ?_ | refine TC.ret ?_ | refine TC.cond_t rfl ?_ | refine TC.cond_f rfl ?_)
    refine TO.step rfl (OT.indexP (sz := 1) tab k rfl rfl rfl rfl rfl rfl rfl (by omega) ?_)
    refine TO.step rfl (OT.loadM tab 3 mv hwx rfl rfl rfl rfl rfl rfl ?_)
    refine TO.step rfl (OT.lenMap tab (4 + k) x rfl rfl rfl rfl rfl (by rw [show 4 + k = k + 1 + 1 + 1 + 1 by omega]; exact mtoks_at L hwx) ?_)
    repeat (first | refine TC.seq ?_ | refine TC.block ?_ | refine TC.region ?_ | refine TO.pureP tab rfl rfl ?_ | refine TO.nil ?_ | refine thenQ_n ?_ | refine blockQ_n ?_ | refine thenQ_r ?_ | refine blockQ_r ?_ | refine thenQ_x ?_ | refine blockQ_hit ?_ | refine blockQ_miss rfl ?_ | refine TC.skip ?_ | refine TC.exit ?_ | refine TC.ret ?_ | refine TC.cond_t rfl ?_ | refine TC.cond_f rfl ?_)
    refine TC.condP rfl (fun he => ?_) (fun he => ?_)
    · have he' : row (ws.map mkeys) k = [] := by rw [hrk]; exact List.eq_nil_of_length_eq_zero (by omega)
      repeat (first | refine TC.seq ?_ | refine TC.block ?_ | refine TC.region ?_ | refine TO.pureP tab rfl rfl ?_ | refine TO.nil ?_ | refine thenQ_n ?_ | refine blockQ_n ?_ | refine thenQ_r ?_ | refine blockQ_r ?_ | refine thenQ_x ?_ | refine blockQ_hit ?_ | refine blockQ_miss rfl ?_ | refine TC.skip ?_ | refine TC.exit ?_ | refine TC.ret ?_ | refine TC.cond_t rfl ?_ | refine TC.cond_f rfl ?_)
      refine TO.step rfl (OT.call rfl rfl rfl rfl rfl rfl goes36 ((add_cl m (.cells bw 0 (ws.map mv) :: (mtoks ws ++ L)) b br tm ms hms s vs xs hq hII.sorted (fun y hy => by have := hII.rng y hy; omega) (by omega) k (by omega) hne hlt).x ?_));
      rintro _ _ _ ⟨rfl, s2, vs2, hq2, rfl⟩
      repeat (first | refine TC.seq ?_ | refine TC.block ?_ | refine TC.region ?_ | refine TO.pureP tab rfl rfl ?_ | refine TO.nil ?_ | refine thenQ_n ?_ | refine blockQ_n ?_ | refine thenQ_r ?_ | refine blockQ_r ?_ | refine thenQ_x ?_ | refine blockQ_hit ?_ | refine blockQ_miss rfl ?_ | refine TC.skip ?_ | refine TC.exit ?_ | refine TC.ret ?_ | refine TC.cond_t rfl ?_ | refine TC.cond_f rfl ?_)
      refine TO.step rfl (OT.arith (r' := ((k + 1 : Nat) : Int)) rfl rfl rfl rfl rfl rfl rfl (by omega) ?_)
      repeat (first | refine TC.seq ?_ | refine TC.block ?_ | refine TC.region ?_ | refine TO.pureP tab rfl rfl ?_ | refine TO.nil ?_ | refine thenQ_n ?_ | refine blockQ_n ?_ | refine thenQ_r ?_ | refine blockQ_r ?_ | refine thenQ_x ?_ | refine blockQ_hit ?_ | refine blockQ_miss rfl ?_ | refine TC.skip ?_ | refine TC.exit ?_ | refine TC.ret ?_ | refine TC.cond_t rfl ?_ | refine TC.cond_f rfl ?_)
      exact ⟨⟨k + 1, 0, s2, vs2, addL (leastAt ms) xs k, [], [], ⟨none, 0, 0⟩, m⟩, (by repeat (first | exact trivial | refine And.intro rfl ?_)), (by repeat (first | exact trivial | refine And.intro rfl ?_)), rfl, rfl, List.Sublist.refl _, ⟨by simp only; omega, hq2, hII.add he'⟩, by simp only; omega⟩
    · have he' : row (ws.map mkeys) k ≠ [] := by rw [hrk]; intro e; rw [e] at he; exact he rfl
      repeat (first | refine TC.seq ?_ | refine TC.block ?_ | refine TC.region ?_ | refine TO.pureP tab rfl rfl ?_ | refine TO.nil ?_ | refine thenQ_n ?_ | refine blockQ_n ?_ | refine thenQ_r ?_ | refine blockQ_r ?_ | refine thenQ_x ?_ | refine blockQ_hit ?_ | refine blockQ_miss rfl ?_ | refine TC.skip ?_ | refine TC.exit ?_ | refine TC.ret ?_ | refine TC.cond_t rfl ?_ | refine TC.cond_f rfl ?_)
      refine TO.step rfl (OT.arith (r' := ((k + 1 : Nat) : Int)) rfl rfl rfl rfl rfl rfl rfl (by omega) ?_)
      repeat (first | refine TC.seq ?_ | refine TC.block ?_ | refine TC.region ?_ | refine TO.pureP tab rfl rfl ?_ | refine TO.nil ?_ | refine thenQ_n ?_ | refine blockQ_n ?_ | refine thenQ_r ?_ | refine blockQ_r ?_ | refine thenQ_x ?_ | refine blockQ_hit ?_ | refine blockQ_miss rfl ?_ | refine TC.skip ?_ | refine TC.exit ?_ | refine TC.ret ?_ | refine TC.cond_t rfl ?_ | refine TC.cond_f rfl ?_)
      exact ⟨⟨k + 1, 0, s, vs, xs, [], [], ⟨none, 0, 0⟩, m⟩, (by repeat (first | exact trivial | refine And.intro rfl ?_)), (by repeat (first | exact trivial | refine And.intro rfl ?_)), rfl, rfl, List.Sublist.refl _, ⟨by simp only; omega, hq, hII.skip he'⟩, by simp only; omega⟩
  have hkn : k = ng := by omega
  subst hkn
  have hI0 := hII.start hp
  repeat (first | refine TC.seq ?_ | refine TC.block ?_ | refine TC.region ?_ | refine TO.pureP tab rfl rfl ?_ | refine TO.nil ?_ | refine thenQ_n ?_ | refine blockQ_n ?_ | refine thenQ_r ?_ | refine blockQ_r ?_ | refine thenQ_x ?_ | refine blockQ_hit ?_ | refine blockQ_miss rfl ?_ | refine TC.skip ?_ | refine TC.exit ?_ | refine TC.ret ?_ | refine TC.cond_t rfl ?_ | refine TC.cond_f rfl ?_)
  refine TC.grow0 (size := 1) ?_
  refine TC.perm pf4.symm ?_
  refine TC.loopK (ι := OS) [1, 2, 3, 7, 8] rfl (fun x => [(10, x.so.v)]) (fun x => x.m) (fun x => .cells br 0 [x.s.v] :: mcell x.s x.vs :: .cells b 0 [tm.v] :: .cells bw 0 (x.ws.map mv) :: tok x.so 1 :: (mtoks x.ws ++ L))
    (fun x => m ≤ x.m ∧ MQ (Value.int .i64) x.s x.vs x.xs ∧ x.ws.length = k ∧ Own x.so ∧ SlRep rInts x.m x.so (x.done.map fun i => row ms i.toNat) ∧ IOI k (leastAt ms) (ws.map mkeys) ⟨x.xs, x.ws.map mkeys, x.done⟩ x.g []) (fun x => k - x.done.length) ⟨0, 0, s, vs, xs, ws, [], ⟨none, 0, 0⟩, m⟩ (by repeat (first | exact trivial | refine And.intro rfl ?_)) rfl (List.Sublist.refl _) ⟨Mem.le_refl _, hq, hwl, Own.nil, SlRep.nil _ _, hI0⟩ ?_
  clear hq hII hlt' hI0
  rintro ⟨_, g0, s, vs, xs, ws1, done, so, m1⟩ ⟨hm1, hq, hwl1, hown, hso, hI⟩
  simp only at hm1 hq hwl1 hown hso hI ⊢
  have hlen := hI.len
  simp only at hlen
  have hql := hq.len
  repeat (first | (first | refine TC.seq ?_ | refine TC.block ?_ | refine TC.region ?_ | refine TO.pureP tab rfl rfl ?_ | refine TO.nil ?_ | refine thenQ_n ?_ | refine blockQ_n ?_ | refine thenQ_r ?_ | refine blockQ_r ?_ | refine thenQ_x ?_ | refine blockQ_hit ?_ | refine blockQ_miss rfl ?_ | refine TC.skip ?_ | refine TC.exit ?_ | refine TC.ret ?_ | refine TC.cond_t rfl ?_ | refine TC.cond_f rfl ?_) | (first | refine TO.step rfl (OT.loadL tab 0 rfl rfl rfl rfl rfl rfl ?_) | refine TO.step rfl (OT.loadL0 tab 0 rfl rfl rfl rfl rfl rfl ?_) | refine TO.step rfl (OT.loadL tab 1 rfl rfl rfl rfl rfl rfl ?_) | refine TO.step rfl (OT.loadL0 tab 1 rfl rfl rfl rfl rfl rfl ?_) | refine TO.step rfl (OT.loadL tab 2 rfl rfl rfl rfl rfl rfl ?_) | refine TO.step rfl (OT.loadL0 tab 2 rfl rfl rfl rfl rfl rfl ?_) | refine TO.step rfl (OT.loadL tab 3 rfl rfl rfl rfl rfl rfl ?_) | refine TO.step rfl (OT.loadL0 tab 3 rfl rfl rfl rfl rfl rfl ?_) | refine TO.step rfl (OT.loadL tab 4 rfl rfl rfl rfl rfl rfl ?_) | refine TO.step rfl (OT.loadL0 tab 4 rfl rfl rfl rfl rfl rfl ?_) | refine TO.step rfl (OT.loadL tab 5 rfl rfl rfl rfl rfl rfl ?_) | refine TO.step rfl (OT.loadL0 tab 5 rfl rfl rfl rfl rfl rfl ?_) | refine TO.step rfl (OT.loadL tab 6 rfl rfl rfl rfl rfl rfl ?_) | refine TO.step rfl (OT.loadL0 tab 6 rfl rfl rfl rfl rfl rfl ?_) | refine TO.step rfl (OT.loadL tab 7 rfl rfl rfl rfl rfl rfl ?_) | refine TO.step rfl (OT.loadL0 tab 7 rfl rfl rfl rfl rfl rfl ?_) | refine TO.step rfl (OT.loadL tab 8 rfl rfl rfl rfl rfl rfl ?_) | refine TO.step rfl (OT.loadL0 tab 8 rfl rfl rfl rfl rfl rfl ?_) | refine TO.step rfl (OT.loadL tab 9 rfl rfl rfl rfl rfl rfl ?_) | refine TO.step rfl (OT.loadL0 tab 9 rfl rfl rfl rfl rfl rfl ?_)))
  refine TC.condP rfl (fun hpos' => ?_) (fun hpos' => ?_)
  · rcases xs with _ | ⟨g, r⟩
    · simp at hql; omega
    obtain ⟨bs, o, c, hse, hc1, hc2⟩ := hq.ne (by simp)
    have hg := hI.rng g (by simp)
    have hIp := hI.pop hp
    simp only [List.length_cons] at hlen hql
    have hdl : done.length < k := by omega
    repeat (first | (first | refine TC.seq ?_ | refine TC.block ?_ | refine TC.region ?_ | refine TO.pureP tab rfl rfl ?_ | refine TO.nil ?_ | refine thenQ_n ?_ | refine blockQ_n ?_ | refine thenQ_r ?_ | refine blockQ_r ?_ | refine thenQ_x ?_ | refine blockQ_hit ?_ | refine blockQ_miss rfl ?_ | refine TC.skip ?_ | refine TC.exit ?_ | refine TC.ret ?_ | refine TC.cond_t rfl ?_ | refine TC.cond_f rfl ?_) | (first | refine TO.step rfl (OT.loadL tab 0 rfl rfl rfl rfl rfl rfl ?_) | refine TO.step rfl (OT.loadL0 tab 0 rfl rfl rfl rfl rfl rfl ?_) | refine TO.step rfl (OT.loadL tab 1 rfl rfl rfl rfl rfl rfl ?_) | refine TO.step rfl (OT.loadL0 tab 1 rfl rfl rfl rfl rfl rfl ?_) | refine TO.step rfl (OT.loadL tab 2 rfl rfl rfl rfl rfl rfl ?_) | refine TO.step rfl (OT.loadL0 tab 2 rfl rfl rfl rfl rfl rfl ?_) | refine TO.step rfl (OT.loadL tab 3 rfl rfl rfl rfl rfl rfl ?_) | refine TO.step rfl (OT.loadL0 tab 3 rfl rfl rfl rfl rfl rfl ?_) | refine TO.step rfl (OT.loadL tab 4 rfl rfl rfl rfl rfl rfl ?_) | refine TO.step rfl (OT.loadL0 tab 4 rfl rfl rfl rfl rfl rfl ?_) | refine TO.step rfl (OT.loadL tab 5 rfl rfl rfl rfl rfl rfl ?_) | refine TO.step rfl (OT.loadL0 tab 5 rfl rfl rfl rfl rfl rfl ?_) | refine TO.step rfl (OT.loadL tab 6 rfl rfl rfl rfl rfl rfl ?_) | refine TO.step rfl (OT.loadL0 tab 6 rfl rfl rfl rfl rfl rfl ?_) | refine TO.step rfl (OT.loadL tab 7 rfl rfl rfl rfl rfl rfl ?_) | refine TO.step rfl (OT.loadL0 tab 7 rfl rfl rfl rfl rfl rfl ?_) | refine TO.step rfl (OT.loadL tab 8 rfl rfl rfl rfl rfl rfl ?_) | refine TO.step rfl (OT.loadL0 tab 8 rfl rfl rfl rfl rfl rfl ?_) | refine TO.step rfl (OT.loadL tab 9 rfl rfl rfl rfl rfl rfl ?_) | refine TO.step rfl (OT.loadL0 tab 9 rfl rfl rfl rfl rfl rfl ?_)))
    subst hse
    refine TO.step rfl (OT.indexP (sz := 1) tab 0 rfl rfl rfl rfl rfl rfl rfl (by omega) ?_)
    refine TO.step rfl (OT.loadR tab 1 (hq.get (k := 0) (x := g) rfl) rfl rfl rfl rfl rfl rfl ?_)
    repeat (first | (first | refine TC.seq ?_ | refine TC.block ?_ | refine TC.region ?_ | refine TO.pureP tab rfl rfl ?_ | refine TO.nil ?_ | refine thenQ_n ?_ | refine blockQ_n ?_ | refine thenQ_r ?_ | refine blockQ_r ?_ | refine thenQ_x ?_ | refine blockQ_hit ?_ | refine blockQ_miss rfl ?_ | refine TC.skip ?_ | refine TC.exit ?_ | refine TC.ret ?_ | refine TC.cond_t rfl ?_ | refine TC.cond_f rfl ?_) | (first | refine TO.step rfl (OT.loadL tab 0 rfl rfl rfl rfl rfl rfl ?_) | refine TO.step rfl (OT.loadL0 tab 0 rfl rfl rfl rfl rfl rfl ?_) | refine TO.step rfl (OT.loadL tab 1 rfl rfl rfl rfl rfl rfl ?_) | refine TO.step rfl (OT.loadL0 tab 1 rfl rfl rfl rfl rfl rfl ?_) | refine TO.step rfl (OT.loadL tab 2 rfl rfl rfl rfl rfl rfl ?_) | refine TO.step rfl (OT.loadL0 tab 2 rfl rfl rfl rfl rfl rfl ?_) | refine TO.step rfl (OT.loadL tab 3 rfl rfl rfl rfl rfl rfl ?_) | refine TO.step rfl (OT.loadL0 tab 3 rfl rfl rfl rfl rfl rfl ?_) | refine TO.step rfl (OT.loadL tab 4 rfl rfl rfl rfl rfl rfl ?_) | refine TO.step rfl (OT.loadL0 tab 4 rfl rfl rfl rfl rfl rfl ?_) | refine TO.step rfl (OT.loadL tab 5 rfl rfl rfl rfl rfl rfl ?_) | refine TO.step rfl (OT.loadL0 tab 5 rfl rfl rfl rfl rfl rfl ?_) | refine TO.step rfl (OT.loadL tab 6 rfl rfl rfl rfl rfl rfl ?_) | refine TO.step rfl (OT.loadL0 tab 6 rfl rfl rfl rfl rfl rfl ?_) | refine TO.step rfl (OT.loadL tab 7 rfl rfl rfl rfl rfl rfl ?_) | refine TO.step rfl (OT.loadL0 tab 7 rfl rfl rfl rfl rfl rfl ?_) | refine TO.step rfl (OT.loadL tab 8 rfl rfl rfl rfl rfl rfl ?_) | refine TO.step rfl (OT.loadL0 tab 8 rfl rfl rfl rfl rfl rfl ?_) | refine TO.step rfl (OT.loadL tab 9 rfl rfl rfl rfl rfl rfl ?_) | refine TO.step rfl (OT.loadL0 tab 9 rfl rfl rfl rfl rfl rfl ?_)))
    refine TO.perm (List.Perm.swap _ _ _) ?_
    refine TO.step rfl (OT.behead tab hq rfl rfl rfl rfl rfl rfl (fun s2 vs2 hq2 => ?_))
    (first | refine TO.step rfl (OT.storeL tab 0 rfl rfl rfl rfl rfl rfl rfl rfl ?_) | refine TO.step rfl (OT.storeL0 tab 0 rfl rfl rfl rfl rfl rfl rfl rfl ?_) | refine TO.step rfl (OT.storeL tab 1 rfl rfl rfl rfl rfl rfl rfl rfl ?_) | refine TO.step rfl (OT.storeL0 tab 1 rfl rfl rfl rfl rfl rfl rfl rfl ?_) | refine TO.step rfl (OT.storeL tab 2 rfl rfl rfl rfl rfl rfl rfl rfl ?_) | refine TO.step rfl (OT.storeL0 tab 2 rfl rfl rfl rfl rfl rfl rfl rfl ?_) | refine TO.step rfl (OT.storeL tab 3 rfl rfl rfl rfl rfl rfl rfl rfl ?_) | refine TO.step rfl (OT.storeL0 tab 3 rfl rfl rfl rfl rfl rfl rfl rfl ?_) | refine TO.step rfl (OT.storeL tab 4 rfl rfl rfl rfl rfl rfl rfl rfl ?_) | refine TO.step rfl (OT.storeL0 tab 4 rfl rfl rfl rfl rfl rfl rfl rfl ?_) | refine TO.step rfl (OT.storeL tab 5 rfl rfl rfl rfl rfl rfl rfl rfl ?_) | refine TO.step rfl (OT.storeL0 tab 5 rfl rfl rfl rfl rfl rfl rfl rfl ?_) | refine TO.step rfl (OT.storeL tab 6 rfl rfl rfl rfl rfl rfl rfl rfl ?_) | refine TO.step rfl (OT.storeL0 tab 6 rfl rfl rfl rfl rfl rfl rfl rfl ?_) | refine TO.step rfl (OT.storeL tab 7 rfl rfl rfl rfl rfl rfl rfl rfl ?_) | refine TO.step rfl (OT.storeL0 tab 7 rfl rfl rfl rfl rfl rfl rfl rfl ?_) | refine TO.step rfl (OT.storeL tab 8 rfl rfl rfl rfl rfl rfl rfl rfl ?_) | refine TO.step rfl (OT.storeL0 tab 8 rfl rfl rfl rfl rfl rfl rfl rfl ?_) | refine TO.step rfl (OT.storeL tab 9 rfl rfl rfl rfl rfl rfl rfl rfl ?_) | refine TO.step rfl (OT.storeL0 tab 9 rfl rfl rfl rfl rfl rfl rfl rfl ?_))
    refine TO.perm (List.Perm.swap _ _ _) ?_
    repeat (first | (first | refine TC.seq ?_ | refine TC.block ?_ | refine TC.region ?_ | refine TO.pureP tab rfl rfl ?_ | refine TO.nil ?_ | refine thenQ_n ?_ | refine blockQ_n ?_ | refine thenQ_r ?_ | refine blockQ_r ?_ | refine thenQ_x ?_ | refine blockQ_hit ?_ | refine blockQ_miss rfl ?_ | refine TC.skip ?_ | refine TC.exit ?_ | refine TC.ret ?_ | refine TC.cond_t rfl ?_ | refine TC.cond_f rfl ?_) | (first | refine TO.step rfl (OT.loadL tab 0 rfl rfl rfl rfl rfl rfl ?_) | refine TO.step rfl (OT.loadL0 tab 0 rfl rfl rfl rfl rfl rfl ?_) | refine TO.step rfl (OT.loadL tab 1 rfl rfl rfl rfl rfl rfl ?_) | refine TO.step rfl (OT.loadL0 tab 1 rfl rfl rfl rfl rfl rfl ?_) | refine TO.step rfl (OT.loadL tab 2 rfl rfl rfl rfl rfl rfl ?_) | refine TO.step rfl (OT.loadL0 tab 2 rfl rfl rfl rfl rfl rfl ?_) | refine TO.step rfl (OT.loadL tab 3 rfl rfl rfl rfl rfl rfl ?_) | refine TO.step rfl (OT.loadL0 tab 3 rfl rfl rfl rfl rfl rfl ?_) | refine TO.step rfl (OT.loadL tab 4 rfl rfl rfl rfl rfl rfl ?_) | refine TO.step rfl (OT.loadL0 tab 4 rfl rfl rfl rfl rfl rfl ?_) | refine TO.step rfl (OT.loadL tab 5 rfl rfl rfl rfl rfl rfl ?_) | refine TO.step rfl (OT.loadL0 tab 5 rfl rfl rfl rfl rfl rfl ?_) | refine TO.step rfl (OT.loadL tab 6 rfl rfl rfl rfl rfl rfl ?_) | refine TO.step rfl (OT.loadL0 tab 6 rfl rfl rfl rfl rfl rfl ?_) | refine TO.step rfl (OT.loadL tab 7 rfl rfl rfl rfl rfl rfl ?_) | refine TO.step rfl (OT.loadL0 tab 7 rfl rfl rfl rfl rfl rfl ?_) | refine TO.step rfl (OT.loadL tab 8 rfl rfl rfl rfl rfl rfl ?_) | refine TO.step rfl (OT.loadL0 tab 8 rfl rfl rfl rfl rfl rfl ?_) | refine TO.step rfl (OT.loadL tab 9 rfl rfl rfl rfl rfl rfl ?_) | refine TO.step rfl (OT.loadL0 tab 9 rfl rfl rfl rfl rfl rfl ?_)))
    have hms1 := hms.mono hm1
    have hxg : ms[g.toNat]? = some (row ms g.toNat) := row_get (by omega)
    refine TO.step rfl (OT.index tab rInts g.toNat hms1 rfl rfl rfl rfl rfl (by first | rfl | omega) rfl hxg ?_)
    rintro b1 i1 hd hrd hA
    (first | refine TO.step rfl (OT.loadA tab hA rfl rfl rfl rfl rfl ?_) | refine TO.step rfl (OT.loadA0 tab hA rfl rfl rfl rfl rfl ?_))
    refine TO.step rfl (OT.lit tab rfl rfl rfl rfl (fun bl => ?_))
    refine TO.step rfl (OT.append1 tab rInts 4 (hd' := hd) (a := row ms g.toNat) hso hown hrd rfl rfl rfl rfl rfl rfl rfl (by simp only [List.length_map, rInts, rSl]; omega) (fun so2 m2 hm2 hso2 hown2 => ?_))
    repeat (first | refine TC.seq ?_ | refine TC.block ?_ | refine TC.region ?_ | refine TO.pureP tab rfl rfl ?_ | refine TO.nil ?_ | refine thenQ_n ?_ | refine blockQ_n ?_ | refine thenQ_r ?_ | refine blockQ_r ?_ | refine thenQ_x ?_ | refine blockQ_hit ?_ | refine blockQ_miss rfl ?_ | refine TC.skip ?_ | refine TC.exit ?_ | refine TC.ret ?_ | refine TC.cond_t rfl ?_ | refine TC.cond_f rfl ?_)
    have hsk2 := (hsk.mono hm1).mono hm2
    have hxs : sk[g.toNat]? = some (row sk g.toNat) := row_get (by have := hp.la; omega)
    have hskr := row_mem (l := sk) (k := g.toNat) (by have := hp.la; omega)
    have hrnd := hp.oka.nodup _ hskr
    refine TO.step rfl (OT.index tab rInts g.toNat hsk2 rfl rfl rfl rfl rfl (by first | rfl | omega) rfl hxs ?_)
    rintro b3 i3 hd3 hrd3 hA3
    (first | refine TO.step rfl (OT.loadA tab hA3 rfl rfl rfl rfl rfl ?_) | refine TO.step rfl (OT.loadA0 tab hA3 rfl rfl rfl rfl rfl ?_))
    have hrl := hrd3.len
    have hrs := hrd3.small rfl
    repeat (first | refine TC.seq ?_ | refine TC.block ?_ | refine TC.region ?_ | refine TO.pureP tab rfl rfl ?_ | refine TO.nil ?_ | refine thenQ_n ?_ | refine blockQ_n ?_ | refine thenQ_r ?_ | refine blockQ_r ?_ | refine thenQ_x ?_ | refine blockQ_hit ?_ | refine blockQ_miss rfl ?_ | refine TC.skip ?_ | refine TC.exit ?_ | refine TC.ret ?_ | refine TC.cond_t rfl ?_ | refine TC.cond_f rfl ?_)
    refine TC.loopK (ι := OS) [1, 2, 3, 7, 8, 10, 11, 48, 49] rfl (fun x => [(50, .int .i64 (x.k : Int))]) (fun _ => m2) (fun x => .cells br 0 [x.s.v] :: mcell x.s x.vs :: .cells b 0 [tm.v] :: .cells bw 0 (x.ws.map mv) :: tok so2 1 :: (mtoks x.ws ++ L))
      (fun x => x.k ≤ (row sk g.toNat).length ∧ MQ (Value.int .i64) x.s x.vs x.xs ∧ x.ws.length = k ∧ IOI k (leastAt ms) (ws.map mkeys) ⟨x.xs, x.ws.map mkeys, done ++ [g]⟩ g ((row sk g.toNat).drop x.k)) (fun x => (row sk g.toNat).length - x.k) ⟨0, 0, s2, vs2, r, ws1, [], ⟨none, 0, 0⟩, m⟩ (by repeat (first | exact trivial | refine And.intro rfl ?_)) rfl (List.Sublist.refl _) ⟨Nat.zero_le _, hq2, hwl1, hIp⟩ ?_
    clear hq hq2 hIp hI
    rintro ⟨j, _, s, vs, xs, ws2, _, _, _⟩ ⟨hj, hq, hwl2, hI⟩
    simp only at hj hq hwl2 hI ⊢
    have hlen2 := hI.len
    simp only [List.length_append, List.length_singleton] at hlen2
    repeat (first | refine TC.seq ?_ | refine TC.block ?_ | refine TC.region ?_ | refine TO.pureP tab rfl rfl ?_ | refine TO.nil ?_ | refine thenQ_n ?_ | refine blockQ_n ?_ | refine thenQ_r ?_ | refine blockQ_r ?_ | refine thenQ_x ?_ | refine blockQ_hit ?_ | refine blockQ_miss rfl ?_ | refine TC.skip ?_ | refine TC.exit ?_ | refine TC.ret ?_ | refine TC.cond_t rfl ?_ | refine TC.cond_f rfl ?_)
    refine TC.condP rfl (fun hlj' => ?_) (fun hlj' => ?_)
    · have hlj : j < (row sk g.toNat).length := by omega
      have hxj : (row sk g.toNat)[j]? = some (row sk g.toNat)[j] := by simp [hlj]
      have hdrop := List.drop_eq_getElem_cons hlj
      have hamem : (row sk g.toNat)[j] ∈ row sk g.toNat := List.getElem_mem hlj
      have hna : (row sk g.toNat)[j] ∉ (row sk g.toNat).drop (j + 1) := by
        have := hrnd.sublist (List.drop_sublist j _)
        rw [hdrop] at this
        exact (List.nodup_cons.1 this).1
      rw [hdrop] at hI
      generalize (row sk g.toNat)[j] = a at hxj hamem hna hI
      repeat (first | refine TC.seq ?_ | refine TC.block ?_ | refine TC.region ?_ | refine TO.pureP tab rfl rfl ?_ | refine TO.nil ?_ | refine thenQ_n ?_ | refine blockQ_n ?_ | refine thenQ_r ?_ | refine blockQ_r ?_ | refine thenQ_x ?_ | refine blockQ_hit ?_ | refine blockQ_miss rfl ?_ | refine TC.skip ?_ | refine TC.exit ?_ | refine TC.ret ?_ | refine TC.cond_t rfl ?_ | refine TC.cond_f rfl ?_)
      refine TO.step rfl (OT.index tab rInt j hrd3 rfl rfl rfl rfl rfl (by first | rfl | omega) rfl hxj ?_)
      rintro b4 i4 hd4 hrd4 hA4
      obtain rfl := (show hd4 = a from hrd4)
      (first | refine TO.step rfl (OT.loadA tab hA4 rfl rfl rfl rfl rfl ?_) | refine TO.step rfl (OT.loadA0 tab hA4 rfl rfl rfl rfl rfl ?_))
      repeat (first | refine TC.seq ?_ | refine TC.block ?_ | refine TC.region ?_ | refine TO.pureP tab rfl rfl ?_ | refine TO.nil ?_ | refine thenQ_n ?_ | refine blockQ_n ?_ | refine thenQ_r ?_ | refine blockQ_r ?_ | refine thenQ_x ?_ | refine blockQ_hit ?_ | refine blockQ_miss rfl ?_ | refine TC.skip ?_ | refine TC.exit ?_ | refine TC.ret ?_ | refine TC.cond_t rfl ?_ | refine TC.cond_f rfl ?_)
      obtain ⟨ha0, ha1, hhas⟩ := hI.has hp hg hamem
      have hask := hI.ask hp hg (by simp) hamem hna
      have hwx : ws2[hd4.toNat]? = some (ws2[hd4.toNat]'(by omega)) := by simp [show hd4.toNat < ws2.length by omega]
      generalize ws2[hd4.toNat]'(by omega) = x at hwx
      have hrk := row_mkeys hwx
      simp only at hhas
      rw [hrk] at hhas hask
      rcases x with _ | ⟨bm, es, c0⟩
      · cases hhas
      have hknd : (mkeys (some (bm, es, c0))).Nodup := by
        rw [← hrk, hI.w hd4.toNat (by omega)]
        exact (hp.okw.nodup _ (row_mem (by simp; omega))).filter _
      have hdel := mdel_keys (x := g) hknd
      refine TO.step rfl (OT.indexP (sz := 1) tab hd4.toNat rfl rfl rfl rfl rfl (by omega) rfl (by omega) ?_)
      refine TO.step rfl (OT.loadM tab 3 mv hwx rfl rfl rfl rfl rfl rfl ?_)
      repeat (first | refine TC.seq ?_ | refine TC.block ?_ | refine TC.region ?_ | refine TO.pureP tab rfl rfl ?_ | refine TO.nil ?_ | refine thenQ_n ?_ | refine blockQ_n ?_ | refine thenQ_r ?_ | refine blockQ_r ?_ | refine thenQ_x ?_ | refine blockQ_hit ?_ | refine blockQ_miss rfl ?_ | refine TC.skip ?_ | refine TC.exit ?_ | refine TC.ret ?_ | refine TC.cond_t rfl ?_ | refine TC.cond_f rfl ?_)
      refine TO.perm (((((mtoks_out L hwx).cons _).cons _).cons _).cons _ |>.cons _) ?_
      refine TO.step rfl (OT.mapDel0 tab kInt 5 g rfl rfl rfl rfl rfl rfl ?_)
      have hwk : (ws2.set hd4.toNat (some (bm, mdel es g, c0))).map mkeys = (ws2.map mkeys).set hd4.toNat ((mkeys (some (bm, es, c0))).filter fun x => decide (x ≠ g)) := by
        rw [List.map_set]; congr 1
      have hwx3 : (ws2.set hd4.toNat (some (bm, mdel es g, c0)))[hd4.toNat]? = some (some (bm, mdel es g, c0)) := by simp [show hd4.toNat < ws2.length by omega]
      have hws3 : (ws2.set hd4.toNat (some (bm, mdel es g, c0))).map mv = ws2.map mv := by
        rw [List.map_set]
        have h5 := map_get mv hwx
        exact set_selfV h5
      have hwl3 : (ws2.set hd4.toNat (some (bm, mdel es g, c0))).length = k := by simp [hwl2]
      refine TO.perm ((((((mtoks_in (x := some (bm, mdel es g, c0)) L (show hd4.toNat < ws2.length by omega)).cons _).cons _).cons _).cons _).cons _) ?_
      rw [← hws3]
      have hwk0 : ((mkeys (some (bm, es, c0))).filter fun x => decide (x ≠ g)) = [] → (ws2.map mkeys).set hd4.toNat [] = (ws2.set hd4.toNat (some (bm, mdel es g, c0))).map mkeys := fun e => by rw [hwk, e]
      rw [← hwk] at hask
      have hemp : ((mkeys (some (bm, es, c0))).filter fun x => decide (x ≠ g)) = mkeys (some (bm, mdel es g, c0)) := hdel.symm
      rw [hemp] at hask hwk0
      generalize (ws2.set hd4.toNat (some (bm, mdel es g, c0))) = ws3 at *
      repeat (first | refine TC.seq ?_ | refine TC.block ?_ | refine TC.region ?_ | refine TO.pureP tab rfl rfl ?_ | refine TO.nil ?_ | refine thenQ_n ?_ | refine blockQ_n ?_ | refine thenQ_r ?_ | refine blockQ_r ?_ | refine thenQ_x ?_ | refine blockQ_hit ?_ | refine blockQ_miss rfl ?_ | refine TC.skip ?_ | refine TC.exit ?_ | refine TC.ret ?_ | refine TC.cond_t rfl ?_ | refine TC.cond_f rfl ?_)
      refine TO.step rfl (OT.indexP (sz := 1) tab hd4.toNat rfl rfl rfl rfl rfl (by omega) rfl (by omega) ?_)
      refine TO.step rfl (OT.loadM tab 3 mv hwx3 rfl rfl rfl rfl rfl rfl ?_)
      refine TO.step rfl (OT.lenMap tab (5 + hd4.toNat) (some (bm, mdel es g, c0)) rfl rfl rfl rfl rfl (by rw [show 5 + hd4.toNat = hd4.toNat + 1 + 1 + 1 + 1 + 1 by omega]; exact mtoks_at L hwx3) ?_)
      repeat (first | refine TC.seq ?_ | refine TC.block ?_ | refine TC.region ?_ | refine TO.pureP tab rfl rfl ?_ | refine TO.nil ?_ | refine thenQ_n ?_ | refine blockQ_n ?_ | refine thenQ_r ?_ | refine blockQ_r ?_ | refine thenQ_x ?_ | refine blockQ_hit ?_ | refine blockQ_miss rfl ?_ | refine TC.skip ?_ | refine TC.exit ?_ | refine TC.ret ?_ | refine TC.cond_t rfl ?_ | refine TC.cond_f rfl ?_)
      refine TC.condP rfl (fun he => ?_) (fun he => ?_)
      · have he' : mkeys (some (bm, mdel es g, c0)) = [] := List.eq_nil_of_length_eq_zero (by omega)
        rcases hask with ⟨_, hI2⟩ | ⟨hne2, _⟩
        · repeat (first | refine TC.seq ?_ | refine TC.block ?_ | refine TC.region ?_ | refine TO.pureP tab rfl rfl ?_ | refine TO.nil ?_ | refine thenQ_n ?_ | refine blockQ_n ?_ | refine thenQ_r ?_ | refine blockQ_r ?_ | refine thenQ_x ?_ | refine blockQ_hit ?_ | refine blockQ_miss rfl ?_ | refine TC.skip ?_ | refine TC.exit ?_ | refine TC.ret ?_ | refine TC.cond_t rfl ?_ | refine TC.cond_f rfl ?_)
          rw [hwk0 he'] at hI2
          have hst := hI.sorted
          simp only at hst
          have hrg := hI.rng
          simp only at hrg
          have hadd := add_cl m2 (.cells bw 0 (ws3.map mv) :: tok so2 1 :: (mtoks ws3 ++ L)) b br tm ms (hms1.mono hm2) s vs xs hq hst (fun y hy => by rw [hml]; exact hrg y (List.mem_append_left _ hy)) (by omega) hd4.toNat (by omega) hne hlt
          rw [show ((hd4.toNat : Nat) : Int) = hd4 by omega] at hadd
          refine TO.step rfl (OT.call rfl rfl rfl rfl rfl rfl goes36 ((hadd).x ?_));
          rintro _ _ _ ⟨rfl, s3, vs3, hq3, rfl⟩
          repeat (first | refine TC.seq ?_ | refine TC.block ?_ | refine TC.region ?_ | refine TO.pureP tab rfl rfl ?_ | refine TO.nil ?_ | refine thenQ_n ?_ | refine blockQ_n ?_ | refine thenQ_r ?_ | refine blockQ_r ?_ | refine thenQ_x ?_ | refine blockQ_hit ?_ | refine blockQ_miss rfl ?_ | refine TC.skip ?_ | refine TC.exit ?_ | refine TC.ret ?_ | refine TC.cond_t rfl ?_ | refine TC.cond_f rfl ?_)
          refine TO.step rfl (OT.arith (r' := ((j + 1 : Nat) : Int)) rfl rfl rfl rfl rfl rfl rfl (by omega) ?_)
          repeat (first | refine TC.seq ?_ | refine TC.block ?_ | refine TC.region ?_ | refine TO.pureP tab rfl rfl ?_ | refine TO.nil ?_ | refine thenQ_n ?_ | refine blockQ_n ?_ | refine thenQ_r ?_ | refine blockQ_r ?_ | refine thenQ_x ?_ | refine blockQ_hit ?_ | refine blockQ_miss rfl ?_ | refine TC.skip ?_ | refine TC.exit ?_ | refine TC.ret ?_ | refine TC.cond_t rfl ?_ | refine TC.cond_f rfl ?_)
          exact ⟨⟨j + 1, 0, s3, vs3, addL (leastAt ms) xs hd4, ws3, [], ⟨none, 0, 0⟩, m⟩, (by repeat (first | exact trivial | refine And.intro rfl ?_)), (by repeat (first | exact trivial | refine And.intro rfl ?_)), rfl, rfl, List.Sublist.refl _, ⟨by simp only; omega, hq3, hwl3, hI2⟩, by simp only; omega⟩
        · exact absurd he' hne2
      · rcases hask with ⟨he2, _⟩ | ⟨_, hI2⟩
        · rw [he2] at he; exact absurd rfl he
        · repeat (first | refine TC.seq ?_ | refine TC.block ?_ | refine TC.region ?_ | refine TO.pureP tab rfl rfl ?_ | refine TO.nil ?_ | refine thenQ_n ?_ | refine blockQ_n ?_ | refine thenQ_r ?_ | refine blockQ_r ?_ | refine thenQ_x ?_ | refine blockQ_hit ?_ | refine blockQ_miss rfl ?_ | refine TC.skip ?_ | refine TC.exit ?_ | refine TC.ret ?_ | refine TC.cond_t rfl ?_ | refine TC.cond_f rfl ?_)
          refine TO.step rfl (OT.arith (r' := ((j + 1 : Nat) : Int)) rfl rfl rfl rfl rfl rfl rfl (by omega) ?_)
          repeat (first | refine TC.seq ?_ | refine TC.block ?_ | refine TC.region ?_ | refine TO.pureP tab rfl rfl ?_ | refine TO.nil ?_ | refine thenQ_n ?_ | refine blockQ_n ?_ | refine thenQ_r ?_ | refine blockQ_r ?_ | refine thenQ_x ?_ | refine blockQ_hit ?_ | refine blockQ_miss rfl ?_ | refine TC.skip ?_ | refine TC.exit ?_ | refine TC.ret ?_ | refine TC.cond_t rfl ?_ | refine TC.cond_f rfl ?_)
          exact ⟨⟨j + 1, 0, s, vs, xs, ws3, [], ⟨none, 0, 0⟩, m⟩, (by repeat (first | exact trivial | refine And.intro rfl ?_)), (by repeat (first | exact trivial | refine And.intro rfl ?_)), rfl, rfl, List.Sublist.refl _, ⟨by simp only; omega, hq, hwl3, hI2⟩, by simp only; omega⟩
    · repeat (first | refine TC.seq ?_ | refine TC.block ?_ | refine TC.region ?_ | refine TO.pureP tab rfl rfl ?_ | refine TO.nil ?_ | refine thenQ_n ?_ | refine blockQ_n ?_ | refine thenQ_r ?_ | refine blockQ_r ?_ | refine thenQ_x ?_ | refine blockQ_hit ?_ | refine blockQ_miss rfl ?_ | refine TC.skip ?_ | refine TC.exit ?_ | refine TC.ret ?_ | refine TC.cond_t rfl ?_ | refine TC.cond_f rfl ?_)
      have hdn : (row sk g.toNat).drop j = [] := List.drop_eq_nil_of_le (by omega)
      rw [hdn] at hI
      exact ⟨⟨0, g, s, vs, xs, ws2, done ++ [g], so2, m2⟩, (by repeat (first | exact trivial | refine And.intro rfl ?_)), (by repeat (first | exact trivial | refine And.intro rfl ?_)), rfl, rfl, List.Sublist.refl _, ⟨Mem.le_trans hm1 hm2, hq, hwl2, hown2, by simp only [List.map_append, List.map_cons, List.map_nil]; exact hso2, hI⟩, by simp only [List.length_append, List.length_singleton]; omega⟩
  · have hx0 : xs = [] := List.eq_nil_of_length_eq_zero (by omega)
    subst hx0
    repeat (first | refine TC.seq ?_ | refine TC.block ?_ | refine TC.region ?_ | refine TO.pureP tab rfl rfl ?_ | refine TO.nil ?_ | refine thenQ_n ?_ | refine blockQ_n ?_ | refine thenQ_r ?_ | refine blockQ_r ?_ | refine thenQ_x ?_ | refine blockQ_hit ?_ | refine blockQ_miss rfl ?_ | refine TC.skip ?_ | refine TC.exit ?_ | refine TC.ret ?_ | refine TC.cond_t rfl ?_ | refine TC.cond_f rfl ?_)
    refine retQ_ret rfl ?_ ⟨hm1, rfl, so, done, rfl, hso, hI.out⟩
    exact (((((List.sublist_append_right _ L).cons _).cons _).cons _).cons _).cons _
end Go.Sep
