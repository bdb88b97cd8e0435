/-
  Walks of layer 13: the sorted row of what is ready: BinarySearchFunc, the comparison, the insertion.
-/
import Derived.Test.YtopkiglcemcjnaaCxIns
import Derived.Test.YtopkiglcemcjnaaCxGroups
set_option linter.unusedVariables false
set_option linter.unusedSimpArgs false
namespace Go.Sep
open Go.Proofs
attribute [local irreducible] TC TO OT TCallX TCall DO DOt thenQ blockQ retQ At

theorem count_split (key : Int → Int) (t : Int) : ∀ (xs : List Int) (k : Nat), k ≤ xs.length → (∀ j x, j < k → xs[j]? = some x → key x < t) → (∀ j x, k ≤ j → xs[j]? = some x → t ≤ key x) →
    (xs.filter fun x => decide (key x < t)) = xs.take k ∧ (xs.filter fun x => !decide (key x < t)) = xs.drop k
  | [], k, hk, _, _ => by simp
  | x :: xs, 0, _, _, h2 => by
    have h := h2 0 x (Nat.le_refl _) rfl
    have ih := count_split key t xs 0 (Nat.zero_le _) (fun j y hj => by omega) (fun j y _ hy => h2 (j + 1) y (by omega) (by simpa using hy))
    have hn : ¬ (key x < t) := by omega
    simp only [List.filter_cons, hn, decide_false, Bool.not_false, List.take_zero, List.drop_zero] at ih ⊢
    exact ⟨by simpa using ih.1, by simpa using ih.2⟩
  | x :: xs, k + 1, hk, h1, h2 => by
    have h := h1 0 x (by omega) rfl
    have ih := count_split key t xs k (by simpa using hk) (fun j y hj hy => h1 (j + 1) y (by omega) (by simpa using hy)) (fun j y hj hy => h2 (j + 1) y (by omega) (by simpa using hy))
    simp only [List.filter_cons, h, decide_true, Bool.not_true, List.take_succ_cons, List.drop_succ_cons] at ih ⊢
    exact ⟨by simpa using ih.1, by simpa using ih.2⟩

theorem sorted_at {key : Int → Int} {xs : List Int} (h : xs.Pairwise fun a b => key a ≤ key b) {i j : Nat} {x y : Int} (hij : i ≤ j) (hx : xs[i]? = some x) (hy : xs[j]? = some y) : key x ≤ key y := by
  rcases Nat.lt_or_ge i j with hlt | hge
  · have hi := (List.getElem?_eq_some_iff.1 hx)
    have hj := (List.getElem?_eq_some_iff.1 hy)
    obtain ⟨h1, rfl⟩ := hi
    obtain ⟨h2, rfl⟩ := hj
    exact List.pairwise_iff_getElem.1 h i j h1 h2 hlt
  · have : i = j := by omega
    subst this
    rw [hx] at hy
    simp only [Option.some.injEq] at hy
    subst hy
    exact Int.le_refl _

set_option maxHeartbeats 1000000 in
theorem bsearch_own (m : Mem) (L : List Item) (s : Sl) (vs : List Value) (xs : List Int) (i : Nat) (hi : L[i]? = some (mcell s vs)) (hq : MQ (Value.int .i64) s vs xs) (key : Int → Int) (t : Int) (fn : FuncId) (cap : List Value) (hg : Goes Try.prog fn)
    (hsort : xs.Pairwise fun a b => key a ≤ key b) (hlen : xs.length ≤ 4611686018427387904)
    (hp : ∀ x ∈ xs, TCall Try.prog fn ⟨.int .i64 x :: .int .i64 t :: cap⟩ m L (Ret (.int .i64 (key x - t)) m L)) :
    TCall Try.prog 37 ⟨[s.v, .int .i64 t, .func (.func fn) ⟨[]⟩ ⟨cap⟩]⟩ m L (fun r m' L' => m = m' ∧ L = L' ∧ ∃ (k : Nat) (bv : Bool), k ≤ xs.length ∧ r = .tuple ⟨[.int .i64 (k : Int), .bool bv]⟩ ∧ (xs.filter fun x => decide (key x < t)) = xs.take k ∧ (xs.filter fun x => !decide (key x < t)) = xs.drop k) := by
  have hl := hq.len
  unfold TCall
  refine TCallX.enter Try.func37 rfl 49 rfl ?_
  repeat (first | refine TC.seq ?_ | refine TC.block ?_ | refine TC.region ?_ | refine TO.pureP tab rfl rfl ?_ | refine TO.nil ?_ | refine thenQ_n ?_ | refine blockQ_n ?_ | refine thenQ_r ?_ | refine blockQ_r ?_ | refine thenQ_x ?_ | refine blockQ_hit ?_ | refine blockQ_miss rfl ?_ | refine TC.skip ?_ | refine TC.exit ?_ | refine TC.ret ?_ | refine TC.cond_t rfl ?_ | refine TC.cond_f rfl ?_)
  refine TC.loopK (ι := Nat × Nat) [0, 1, 2, 8] rfl (fun k => [(9, .int .i64 (k.1 : Int)), (10, .int .i64 (k.2 : Int))]) (fun _ => m) (fun _ => L)
    (fun k => k.1 ≤ k.2 ∧ k.2 ≤ xs.length ∧ (∀ j x, j < k.1 → xs[j]? = some x → key x < t) ∧ (∀ j x, k.2 ≤ j → xs[j]? = some x → t ≤ key x)) (fun k => k.2 - k.1) (0, xs.length) ?_ rfl (by repeat (first | exact List.Sublist.refl _ | refine List.Sublist.cons_cons _ ?_ | refine List.Sublist.cons _ ?_)) ⟨Nat.zero_le _, Nat.le_refl _, fun j x hj => by omega, fun j x hj hx => by simp only at hj; have := (List.getElem?_eq_some_iff.1 hx).1; omega⟩ ?_
  · exact ⟨rfl, by rw [← hl]; exact ⟨rfl, trivial⟩⟩
  rintro ⟨lo, hi2⟩ ⟨h1, h2, h3, h4⟩
  simp only at h1 h2 h3 h4 ⊢
  repeat (first | refine TC.seq ?_ | refine TC.block ?_ | refine TC.region ?_ | refine TO.pureP tab rfl rfl ?_ | refine TO.nil ?_ | refine thenQ_n ?_ | refine blockQ_n ?_ | refine thenQ_r ?_ | refine blockQ_r ?_ | refine thenQ_x ?_ | refine blockQ_hit ?_ | refine blockQ_miss rfl ?_ | refine TC.skip ?_ | refine TC.exit ?_ | refine TC.ret ?_ | refine TC.cond_t rfl ?_ | refine TC.cond_f rfl ?_)
  refine TC.condP rfl (fun hlt' => ?_) (fun hlt' => ?_)
  · have hlt : lo < hi2 := by omega
    obtain ⟨bs, o, c, hse, hc1, hc2⟩ := hq.ne (by omega)
    subst hse
    repeat (first | refine TC.seq ?_ | refine TC.block ?_ | refine TC.region ?_ | refine TO.pureP tab rfl rfl ?_ | refine TO.nil ?_ | refine thenQ_n ?_ | refine blockQ_n ?_ | refine thenQ_r ?_ | refine blockQ_r ?_ | refine thenQ_x ?_ | refine blockQ_hit ?_ | refine blockQ_miss rfl ?_ | refine TC.skip ?_ | refine TC.exit ?_ | refine TC.ret ?_ | refine TC.cond_t rfl ?_ | refine TC.cond_f rfl ?_)
    refine TO.step rfl (OT.arith (r' := ((lo + hi2 : Nat) : Int)) rfl rfl rfl rfl rfl rfl (by omega) (by omega) ?_)
    refine TO.step rfl (OT.conv (r := ((lo + hi2 : Nat) : Int)) tab rfl rfl rfl rfl rfl rfl (IntWalk.u64_in _ ⟨by omega, by omega⟩) ?_)
    refine TO.step rfl (OT.half (r := (((lo + hi2) / 2 : Nat) : Int)) rfl rfl rfl rfl rfl (by decide) (by rw [Int.fdiv_eq_ediv_of_nonneg _ (by omega)]; omega) ?_)
    refine TO.step rfl (OT.conv (r := (((lo + hi2) / 2 : Nat) : Int)) tab rfl rfl rfl rfl rfl rfl (wrap64_in (by omega) (by omega)) ?_)
    have hm1 : lo ≤ (lo + hi2) / 2 := by omega
    have hm2 : (lo + hi2) / 2 < hi2 := by omega
    generalize (lo + hi2) / 2 = mid at hm1 hm2
    have hxm : xs[mid]? = some (xs[mid]'(by omega)) := by simp [show mid < xs.length by omega]
    have hmem : xs[mid]'(by omega) ∈ xs := List.getElem_mem _
    generalize xs[mid]'(by omega) = x at hxm hmem
    repeat (first | refine TC.seq ?_ | refine TC.block ?_ | refine TC.region ?_ | refine TO.pureP tab rfl rfl ?_ | refine TO.nil ?_ | refine thenQ_n ?_ | refine blockQ_n ?_ | refine thenQ_r ?_ | refine blockQ_r ?_ | refine thenQ_x ?_ | refine blockQ_hit ?_ | refine blockQ_miss rfl ?_ | refine TC.skip ?_ | refine TC.exit ?_ | refine TC.ret ?_ | refine TC.cond_t rfl ?_ | refine TC.cond_f rfl ?_)
    refine TO.step rfl (OT.indexP (sz := 1) tab mid rfl rfl rfl rfl rfl rfl rfl (by omega) ?_)
    refine TO.step rfl (OT.loadR tab i (hq.get hxm) rfl rfl rfl rfl hi rfl ?_)
    repeat (first | refine TC.seq ?_ | refine TC.block ?_ | refine TC.region ?_ | refine TO.pureP tab rfl rfl ?_ | refine TO.nil ?_ | refine thenQ_n ?_ | refine blockQ_n ?_ | refine thenQ_r ?_ | refine blockQ_r ?_ | refine thenQ_x ?_ | refine blockQ_hit ?_ | refine blockQ_miss rfl ?_ | refine TC.skip ?_ | refine TC.exit ?_ | refine TC.ret ?_ | refine TC.cond_t rfl ?_ | refine TC.cond_f rfl ?_)
    refine TO.step rfl (OT.call (all := .int .i64 x :: .int .i64 t :: cap) rfl rfl rfl rfl rfl (by rw [fl_eq]; rfl) hg ((hp x hmem).x ?_))
    rintro _ _ _ ⟨rfl, rfl, rfl⟩
    repeat (first | refine TC.seq ?_ | refine TC.block ?_ | refine TC.region ?_ | refine TO.pureP tab rfl rfl ?_ | refine TO.nil ?_ | refine thenQ_n ?_ | refine blockQ_n ?_ | refine thenQ_r ?_ | refine blockQ_r ?_ | refine thenQ_x ?_ | refine blockQ_hit ?_ | refine blockQ_miss rfl ?_ | refine TC.skip ?_ | refine TC.exit ?_ | refine TC.ret ?_ | refine TC.cond_t rfl ?_ | refine TC.cond_f rfl ?_)
    refine TC.condP rfl (fun hlt2 => ?_) (fun hlt2 => ?_)
    · repeat (first | refine TC.seq ?_ | refine TC.block ?_ | refine TC.region ?_ | refine TO.pureP tab rfl rfl ?_ | refine TO.nil ?_ | refine thenQ_n ?_ | refine blockQ_n ?_ | refine thenQ_r ?_ | refine blockQ_r ?_ | refine thenQ_x ?_ | refine blockQ_hit ?_ | refine blockQ_miss rfl ?_ | refine TC.skip ?_ | refine TC.exit ?_ | refine TC.ret ?_ | refine TC.cond_t rfl ?_ | refine TC.cond_f rfl ?_)
      refine TO.step rfl (OT.arith (r' := ((mid + 1 : Nat) : Int)) rfl rfl rfl rfl rfl rfl rfl (by omega) ?_)
      repeat (first | refine TC.seq ?_ | refine TC.block ?_ | refine TC.region ?_ | refine TO.pureP tab rfl rfl ?_ | refine TO.nil ?_ | refine thenQ_n ?_ | refine blockQ_n ?_ | refine thenQ_r ?_ | refine blockQ_r ?_ | refine thenQ_x ?_ | refine blockQ_hit ?_ | refine blockQ_miss rfl ?_ | refine TC.skip ?_ | refine TC.exit ?_ | refine TC.ret ?_ | refine TC.cond_t rfl ?_ | refine TC.cond_f rfl ?_)
      refine ⟨(mid + 1, hi2), (by repeat (first | exact trivial | refine And.intro rfl ?_)), (by repeat (first | exact trivial | refine And.intro rfl ?_)), rfl, rfl, (by repeat (first | exact List.Sublist.refl _ | refine List.Sublist.cons_cons _ ?_ | refine List.Sublist.cons _ ?_)), ⟨by simp only; omega, h2, fun j y hj hy => ?_, h4⟩, by simp only; omega⟩
      have := sorted_at hsort (show j ≤ mid by simp only at hj; omega) hy hxm
      omega
    · repeat (first | refine TC.seq ?_ | refine TC.block ?_ | refine TC.region ?_ | refine TO.pureP tab rfl rfl ?_ | refine TO.nil ?_ | refine thenQ_n ?_ | refine blockQ_n ?_ | refine thenQ_r ?_ | refine blockQ_r ?_ | refine thenQ_x ?_ | refine blockQ_hit ?_ | refine blockQ_miss rfl ?_ | refine TC.skip ?_ | refine TC.exit ?_ | refine TC.ret ?_ | refine TC.cond_t rfl ?_ | refine TC.cond_f rfl ?_)
      refine ⟨(lo, mid), (by repeat (first | exact trivial | refine And.intro rfl ?_)), (by repeat (first | exact trivial | refine And.intro rfl ?_)), rfl, rfl, (by repeat (first | exact List.Sublist.refl _ | refine List.Sublist.cons_cons _ ?_ | refine List.Sublist.cons _ ?_)), ⟨hm1, by simp only; omega, h3, fun j y hj hy => ?_⟩, by simp only; omega⟩
      have := sorted_at hsort (show mid ≤ j from hj) hxm hy
      omega
  · have hlo : lo = hi2 := by omega
    subst hlo
    obtain ⟨c1, c2⟩ := count_split key t xs lo h2 h3 h4
    repeat (first | refine TC.seq ?_ | refine TC.block ?_ | refine TC.region ?_ | refine TO.pureP tab rfl rfl ?_ | refine TO.nil ?_ | refine thenQ_n ?_ | refine blockQ_n ?_ | refine thenQ_r ?_ | refine blockQ_r ?_ | refine thenQ_x ?_ | refine blockQ_hit ?_ | refine blockQ_miss rfl ?_ | refine TC.skip ?_ | refine TC.exit ?_ | refine TC.ret ?_ | refine TC.cond_t rfl ?_ | refine TC.cond_f rfl ?_)
    (first | refine TO.splitP rfl rfl (fun hb => ?_) (fun hb => ?_) | refine TO.splitN rfl rfl (fun hb => ?_) (fun hb => ?_) | refine TO.split rfl rfl (fun hb => ?_) (fun hb => ?_))
    · have hlx : lo < xs.length := by omega
      obtain ⟨bs, o, c, hse, hc1, hc2⟩ := hq.ne (by omega)
      subst hse
      have hxm : xs[lo]? = some (xs[lo]'(by omega)) := by simp [hlx]
      have hmem : xs[lo]'(by omega) ∈ xs := List.getElem_mem _
      generalize xs[lo]'(by omega) = x at hxm hmem
      repeat (first | refine TC.seq ?_ | refine TC.block ?_ | refine TC.region ?_ | refine TO.pureP tab rfl rfl ?_ | refine TO.nil ?_ | refine thenQ_n ?_ | refine blockQ_n ?_ | refine thenQ_r ?_ | refine blockQ_r ?_ | refine thenQ_x ?_ | refine blockQ_hit ?_ | refine blockQ_miss rfl ?_ | refine TC.skip ?_ | refine TC.exit ?_ | refine TC.ret ?_ | refine TC.cond_t rfl ?_ | refine TC.cond_f rfl ?_)
      refine TO.step rfl (OT.indexP (sz := 1) tab lo rfl rfl rfl rfl rfl rfl rfl (by omega) ?_)
      refine TO.step rfl (OT.loadR tab i (hq.get hxm) rfl rfl rfl rfl hi rfl ?_)
      repeat (first | refine TC.seq ?_ | refine TC.block ?_ | refine TC.region ?_ | refine TO.pureP tab rfl rfl ?_ | refine TO.nil ?_ | refine thenQ_n ?_ | refine blockQ_n ?_ | refine thenQ_r ?_ | refine blockQ_r ?_ | refine thenQ_x ?_ | refine blockQ_hit ?_ | refine blockQ_miss rfl ?_ | refine TC.skip ?_ | refine TC.exit ?_ | refine TC.ret ?_ | refine TC.cond_t rfl ?_ | refine TC.cond_f rfl ?_)
      refine TO.step rfl (OT.call (all := .int .i64 x :: .int .i64 t :: cap) rfl rfl rfl rfl rfl (by rw [fl_eq]; rfl) hg ((hp x hmem).x ?_))
      rintro _ _ _ ⟨rfl, rfl, rfl⟩
      repeat (first | refine TC.seq ?_ | refine TC.block ?_ | refine TC.region ?_ | refine TO.pureP tab rfl rfl ?_ | refine TO.nil ?_ | refine thenQ_n ?_ | refine blockQ_n ?_ | refine thenQ_r ?_ | refine blockQ_r ?_ | refine thenQ_x ?_ | refine blockQ_hit ?_ | refine blockQ_miss rfl ?_ | refine TC.skip ?_ | refine TC.exit ?_ | refine TC.ret ?_ | refine TC.cond_t rfl ?_ | refine TC.cond_f rfl ?_)
      refine retQ_ret rfl (List.Sublist.refl _) ⟨rfl, rfl, lo, _, h2, rfl, c1, c2⟩
    · repeat (first | refine TC.seq ?_ | refine TC.block ?_ | refine TC.region ?_ | refine TO.pureP tab rfl rfl ?_ | refine TO.nil ?_ | refine thenQ_n ?_ | refine blockQ_n ?_ | refine thenQ_r ?_ | refine blockQ_r ?_ | refine thenQ_x ?_ | refine blockQ_hit ?_ | refine blockQ_miss rfl ?_ | refine TC.skip ?_ | refine TC.exit ?_ | refine TC.ret ?_ | refine TC.cond_t rfl ?_ | refine TC.cond_f rfl ?_)
      refine retQ_ret rfl (List.Sublist.refl _) ⟨rfl, rfl, lo, _, h2, rfl, c1, c2⟩

def leastAt (ms : List (List Int)) (k : Int) : Int := at0 (ms[k.toNat]?.getD []) 0

/-- the comparison: the least member of a group, less a number -/
theorem cmp_cl (m : Mem) (L : List Item) (b : Nat) (tm : Sl) (ms : List (List Int)) (hr : SlRep rInts m tm ms) (i : Nat) (hi : L[i]? = some (.cells b 0 [tm.v])) (k : Nat) (hk : k < ms.length) (t : Int) (hne : ∀ l ∈ ms, l ≠ [])
    (hlt : ∀ l ∈ ms, ∀ x ∈ l, 0 ≤ x ∧ x < 4096) (ht : 0 ≤ t ∧ t < 4096) :
    TCall Try.prog 38 ⟨[.int .i64 (k : Int), .int .i64 t, .pointer (some ⟨b, 0, none⟩)]⟩ m L (Ret (.int .i64 (leastAt ms k - t)) m L) := by
  unfold TCall
  refine TCallX.enter Try.func38 rfl 14 rfl ?_
  repeat (first | refine TC.seq ?_ | refine TC.block ?_ | refine TC.region ?_ | refine TO.pureP tab rfl rfl ?_ | refine TO.nil ?_ | refine thenQ_n ?_ | refine blockQ_n ?_ | refine thenQ_r ?_ | refine blockQ_r ?_ | refine thenQ_x ?_ | refine blockQ_hit ?_ | refine blockQ_miss rfl ?_ | refine TC.skip ?_ | refine TC.exit ?_ | refine TC.ret ?_ | refine TC.cond_t rfl ?_ | refine TC.cond_f rfl ?_)
  refine TO.step rfl (OT.loadL0 tab i rfl rfl rfl rfl hi rfl ?_)
  repeat (first | refine TC.seq ?_ | refine TC.block ?_ | refine TC.region ?_ | refine TO.pureP tab rfl rfl ?_ | refine TO.nil ?_ | refine thenQ_n ?_ | refine blockQ_n ?_ | refine thenQ_r ?_ | refine blockQ_r ?_ | refine thenQ_x ?_ | refine blockQ_hit ?_ | refine blockQ_miss rfl ?_ | refine TC.skip ?_ | refine TC.exit ?_ | refine TC.ret ?_ | refine TC.cond_t rfl ?_ | refine TC.cond_f rfl ?_)
  have hx : ms[k]? = some ms[k] := by simp [hk]
  refine TO.step rfl (OT.index tab rInts k hr rfl rfl rfl rfl rfl (by first | rfl | omega) rfl hx ?_)
  rintro b1 i1 hd hrd hA
  (first | refine TO.step rfl (OT.loadA tab hA rfl rfl rfl rfl rfl ?_) | refine TO.step rfl (OT.loadA0 tab hA rfl rfl rfl rfl rfl ?_))
  have hmem : ms[k] ∈ ms := List.getElem_mem hk
  have hn := hne _ hmem
  have h0 : ms[k][0]? = some (at0 ms[k] 0) := by
    cases hc : ms[k] with
    | nil => exact absurd hc hn
    | cons x xs => rfl
  have hle : leastAt ms (k : Int) = at0 ms[k] 0 := by simp [leastAt, hx]
  have hb := hlt _ hmem _ (List.mem_of_getElem? h0)
  refine TO.step rfl (OT.index tab rInt 0 hrd rfl rfl rfl rfl rfl (by first | rfl | omega) rfl h0 ?_)
  rintro b2 i2 hd2 hrd2 hA2
  (first | refine TO.step rfl (OT.loadA tab hA2 rfl rfl rfl rfl rfl ?_) | refine TO.step rfl (OT.loadA0 tab hA2 rfl rfl rfl rfl rfl ?_))
  repeat (first | refine TC.seq ?_ | refine TC.block ?_ | refine TC.region ?_ | refine TO.pureP tab rfl rfl ?_ | refine TO.nil ?_ | refine thenQ_n ?_ | refine blockQ_n ?_ | refine thenQ_r ?_ | refine blockQ_r ?_ | refine thenQ_x ?_ | refine blockQ_hit ?_ | refine blockQ_miss rfl ?_ | refine TC.skip ?_ | refine TC.exit ?_ | refine TC.ret ?_ | refine TC.cond_t rfl ?_ | refine TC.cond_f rfl ?_)
  refine TO.step rfl (OT.arith (r' := (at0 ms[k] 0 - t)) rfl rfl rfl rfl rfl rfl ?_ (by omega) ?_)
  · rw [show hd2 = at0 ms[k] 0 from hrd2]
  repeat (first | refine TC.seq ?_ | refine TC.block ?_ | refine TC.region ?_ | refine TO.pureP tab rfl rfl ?_ | refine TO.nil ?_ | refine thenQ_n ?_ | refine blockQ_n ?_ | refine thenQ_r ?_ | refine blockQ_r ?_ | refine thenQ_x ?_ | refine blockQ_hit ?_ | refine blockQ_miss rfl ?_ | refine TC.skip ?_ | refine TC.exit ?_ | refine TC.ret ?_ | refine TC.cond_t rfl ?_ | refine TC.cond_f rfl ?_)
  refine retQ_ret rfl (by repeat (first | exact List.Sublist.refl _ | refine List.Sublist.cons_cons _ ?_ | refine List.Sublist.cons _ ?_)) ⟨rfl, rfl, ?_⟩
  rw [hle]

set_option maxHeartbeats 1000000 in
theorem add_cl (m : Mem) (L : List Item) (b br : Nat) (tm : Sl) (ms : List (List Int)) (hr : SlRep rInts m tm ms) (s : Sl) (vs : List Value) (xs : List Int) (hq : MQ (Value.int .i64) s vs xs)
    (hsort : xs.Pairwise fun a b => leastAt ms a ≤ leastAt ms b) (hrg : ∀ x ∈ xs, 0 ≤ x ∧ x < (ms.length : Int)) (hlen : xs.length ≤ 4096) (k : Nat) (hk : k < ms.length) (hne : ∀ l ∈ ms, l ≠ []) (hlt : ∀ l ∈ ms, ∀ x ∈ l, 0 ≤ x ∧ x < 4096) :
    TCall Try.prog 36 ⟨[.int .i64 (k : Int), .pointer (some ⟨br, 0, none⟩), .pointer (some ⟨b, 0, none⟩)]⟩ m (.cells br 0 [s.v] :: mcell s vs :: .cells b 0 [tm.v] :: L)
      (fun _ m' L' => m = m' ∧ ∃ s' vs', MQ (Value.int .i64) s' vs' (addL (leastAt ms) xs k) ∧ L' = .cells br 0 [s'.v] :: mcell s' vs' :: .cells b 0 [tm.v] :: L) := by
  unfold TCall
  refine TCallX.enter Try.func36 rfl 23 rfl ?_
  have hx : ms[k]? = some ms[k] := by simp [hk]
  have hmem : ms[k] ∈ ms := List.getElem_mem hk
  have hn := hne _ hmem
  have h0 : ms[k][0]? = some (at0 ms[k] 0) := by
    cases hc : ms[k] with
    | nil => exact absurd hc hn
    | cons x xs => rfl
  have hle : leastAt ms (k : Int) = at0 ms[k] 0 := by simp [leastAt, hx]
  have hb := hlt _ hmem _ (List.mem_of_getElem? h0)
  repeat (first | refine TC.seq ?_ | refine TC.block ?_ | refine TC.region ?_ | refine TO.pureP tab rfl rfl ?_ | refine TO.nil ?_ | refine thenQ_n ?_ | refine blockQ_n ?_ | refine thenQ_r ?_ | refine blockQ_r ?_ | refine thenQ_x ?_ | refine blockQ_hit ?_ | refine blockQ_miss rfl ?_ | refine TC.skip ?_ | refine TC.exit ?_ | refine TC.ret ?_ | refine TC.cond_t rfl ?_ | refine TC.cond_f rfl ?_)
  have hcmp : ∀ LL : List Item, LL[2]? = some (.cells b 0 [tm.v]) → ∀ x ∈ xs, TCall Try.prog 38 ⟨.int .i64 x :: .int .i64 (at0 ms[k] 0) :: [.pointer (some ⟨b, 0, none⟩)]⟩ m LL (Ret (.int .i64 (leastAt ms x - at0 ms[k] 0)) m LL) := fun LL hLL x hx' => by
    obtain ⟨g1, g2⟩ := hrg x hx'
    have := cmp_cl m LL b tm ms hr 2 hLL x.toNat (by omega) (at0 ms[k] 0) hne hlt hb
    rwa [show ((x.toNat : Nat) : Int) = x by omega] at this
  have hql := hq.len
  refine TC.draw0 [] mixed 14 rfl ?_
  (first | refine DO.loadL tab 0 0 (by repeat (first | exact Calm.ret | refine Calm.then ?_ | refine Calm.block ?_ | assumption)) (by kernel_rfl) (by kernel_rfl) rfl rfl rfl rfl rfl rfl rfl rfl ?_ | refine DO.loadL tab 0 1 (by repeat (first | exact Calm.ret | refine Calm.then ?_ | refine Calm.block ?_ | assumption)) (by kernel_rfl) (by kernel_rfl) rfl rfl rfl rfl rfl rfl rfl rfl ?_ | refine DO.loadL tab 0 2 (by repeat (first | exact Calm.ret | refine Calm.then ?_ | refine Calm.block ?_ | assumption)) (by kernel_rfl) (by kernel_rfl) rfl rfl rfl rfl rfl rfl rfl rfl ?_ | refine DO.loadL (k := 0) tab 0 0 (by repeat (first | exact Calm.ret | refine Calm.then ?_ | refine Calm.block ?_ | assumption)) (by kernel_rfl) (by kernel_rfl) rfl rfl rfl rfl rfl rfl rfl rfl ?_ | refine DO.loadL (k := 0) tab 0 1 (by repeat (first | exact Calm.ret | refine Calm.then ?_ | refine Calm.block ?_ | assumption)) (by kernel_rfl) (by kernel_rfl) rfl rfl rfl rfl rfl rfl rfl rfl ?_ | refine DO.loadL (k := 0) tab 0 2 (by repeat (first | exact Calm.ret | refine Calm.then ?_ | refine Calm.block ?_ | assumption)) (by kernel_rfl) (by kernel_rfl) rfl rfl rfl rfl rfl rfl rfl rfl ?_)
  (first | refine DO.loadL tab 1 0 (by repeat (first | exact Calm.ret | refine Calm.then ?_ | refine Calm.block ?_ | assumption)) (by kernel_rfl) (by kernel_rfl) rfl rfl rfl rfl rfl rfl rfl rfl ?_ | refine DO.loadL tab 1 1 (by repeat (first | exact Calm.ret | refine Calm.then ?_ | refine Calm.block ?_ | assumption)) (by kernel_rfl) (by kernel_rfl) rfl rfl rfl rfl rfl rfl rfl rfl ?_ | refine DO.loadL tab 1 2 (by repeat (first | exact Calm.ret | refine Calm.then ?_ | refine Calm.block ?_ | assumption)) (by kernel_rfl) (by kernel_rfl) rfl rfl rfl rfl rfl rfl rfl rfl ?_ | refine DO.loadL (k := 0) tab 1 0 (by repeat (first | exact Calm.ret | refine Calm.then ?_ | refine Calm.block ?_ | assumption)) (by kernel_rfl) (by kernel_rfl) rfl rfl rfl rfl rfl rfl rfl rfl ?_ | refine DO.loadL (k := 0) tab 1 1 (by repeat (first | exact Calm.ret | refine Calm.then ?_ | refine Calm.block ?_ | assumption)) (by kernel_rfl) (by kernel_rfl) rfl rfl rfl rfl rfl rfl rfl rfl ?_ | refine DO.loadL (k := 0) tab 1 2 (by repeat (first | exact Calm.ret | refine Calm.then ?_ | refine Calm.block ?_ | assumption)) (by kernel_rfl) (by kernel_rfl) rfl rfl rfl rfl rfl rfl rfl rfl ?_)
  refine DO.pure tab (by repeat (first | exact Calm.ret | refine Calm.then ?_ | refine Calm.block ?_ | assumption)) (by kernel_rfl) [2] (by kernel_rfl) rfl ?_
  refine DO.index tab rInts 3 k hr (by repeat (first | exact Calm.ret | refine Calm.then ?_ | refine Calm.block ?_ | assumption)) (by kernel_rfl) (by kernel_rfl) rfl rfl rfl rfl rfl rfl rfl (by first | rfl | omega) rfl hx ?_
  rintro b1 i1 hd hrd hA
  (first | refine DO.loadA tab 4 hA (by repeat (first | exact Calm.ret | refine Calm.then ?_ | refine Calm.block ?_ | assumption)) (by kernel_rfl) (by kernel_rfl) rfl rfl rfl rfl rfl rfl rfl ?_ | refine DO.loadA (k := 0) tab 4 hA (by repeat (first | exact Calm.ret | refine Calm.then ?_ | refine Calm.block ?_ | assumption)) (by kernel_rfl) (by kernel_rfl) rfl rfl rfl rfl rfl rfl rfl ?_)
  refine DO.index tab rInt 5 0 hrd (by repeat (first | exact Calm.ret | refine Calm.then ?_ | refine Calm.block ?_ | assumption)) (by kernel_rfl) (by kernel_rfl) rfl rfl rfl rfl rfl rfl rfl (by first | rfl | omega) rfl h0 ?_
  rintro b2 i2 hd2 hrd2 hA2; obtain rfl := (show hd2 = at0 ms[k] 0 from hrd2)
  (first | refine DO.loadA tab 6 hA2 (by repeat (first | exact Calm.ret | refine Calm.then ?_ | refine Calm.block ?_ | assumption)) (by kernel_rfl) (by kernel_rfl) rfl rfl rfl rfl rfl rfl rfl ?_ | refine DO.loadA (k := 0) tab 6 hA2 (by repeat (first | exact Calm.ret | refine Calm.then ?_ | refine Calm.block ?_ | assumption)) (by kernel_rfl) (by kernel_rfl) rfl rfl rfl rfl rfl rfl rfl ?_)
  refine DO.pure tab (by repeat (first | exact Calm.ret | refine Calm.then ?_ | refine Calm.block ?_ | assumption)) (by kernel_rfl) [7] (by kernel_rfl) rfl ?_
  refine DO.run 8 rfl rfl (by kernel_rfl) rfl (OT.call rfl rfl rfl rfl rfl rfl goes37 ((bsearch_own m _ s vs xs 1 rfl hq (leastAt ms) (at0 ms[k] 0) 38 [.pointer (some ⟨b, 0, none⟩)] goes38 hsort (by omega) (hcmp _ rfl)).x ?_))
  rintro _ _ _ ⟨rfl, rfl, j, bv, hj, rfl, c1, c2⟩; refine ⟨Mem.le_refl _, _, List.Perm.refl _, ?_⟩
  refine DO.pure tab (by repeat (first | exact Calm.ret | refine Calm.then ?_ | refine Calm.block ?_ | assumption)) (by kernel_rfl) [9, 10, 11, 12, 13] (by kernel_rfl) rfl ?_
  (first | refine DO.nil0 (by kernel_rfl) ?_ | refine DO.nil (by kernel_rfl) ?_)
  rotate_left 1
  repeat (first | refine TC.seq ?_ | refine TC.block ?_ | refine TC.region ?_ | refine TO.pureP tab rfl rfl ?_ | refine TO.nil ?_ | refine thenQ_n ?_ | refine blockQ_n ?_ | refine thenQ_r ?_ | refine blockQ_r ?_ | refine thenQ_x ?_ | refine blockQ_hit ?_ | refine blockQ_miss rfl ?_ | refine TC.skip ?_ | refine TC.exit ?_ | refine TC.ret ?_ | refine TC.cond_t rfl ?_ | refine TC.cond_f rfl ?_)
  (first | refine TO.step rfl (OT.loadL tab 0 rfl rfl rfl rfl rfl rfl ?_) | refine TO.step rfl (OT.loadL0 tab 0 rfl rfl rfl rfl rfl rfl ?_) | refine TO.step rfl (OT.loadL tab 1 rfl rfl rfl rfl rfl rfl ?_) | refine TO.step rfl (OT.loadL0 tab 1 rfl rfl rfl rfl rfl rfl ?_) | refine TO.step rfl (OT.loadL tab 2 rfl rfl rfl rfl rfl rfl ?_) | refine TO.step rfl (OT.loadL0 tab 2 rfl rfl rfl rfl rfl rfl ?_) | refine TO.step rfl (OT.loadL tab 3 rfl rfl rfl rfl rfl rfl ?_) | refine TO.step rfl (OT.loadL0 tab 3 rfl rfl rfl rfl rfl rfl ?_) | refine TO.step rfl (OT.loadL tab 4 rfl rfl rfl rfl rfl rfl ?_) | refine TO.step rfl (OT.loadL0 tab 4 rfl rfl rfl rfl rfl rfl ?_) | refine TO.step rfl (OT.loadL tab 5 rfl rfl rfl rfl rfl rfl ?_) | refine TO.step rfl (OT.loadL0 tab 5 rfl rfl rfl rfl rfl rfl ?_) | refine TO.step rfl (OT.loadL tab 6 rfl rfl rfl rfl rfl rfl ?_) | refine TO.step rfl (OT.loadL0 tab 6 rfl rfl rfl rfl rfl rfl ?_) | refine TO.step rfl (OT.loadL tab 7 rfl rfl rfl rfl rfl rfl ?_) | refine TO.step rfl (OT.loadL0 tab 7 rfl rfl rfl rfl rfl rfl ?_) | refine TO.step rfl (OT.loadL tab 8 rfl rfl rfl rfl rfl rfl ?_) | refine TO.step rfl (OT.loadL0 tab 8 rfl rfl rfl rfl rfl rfl ?_) | refine TO.step rfl (OT.loadL tab 9 rfl rfl rfl rfl rfl rfl ?_) | refine TO.step rfl (OT.loadL0 tab 9 rfl rfl rfl rfl rfl rfl ?_))
  repeat (first | refine TC.seq ?_ | refine TC.block ?_ | refine TC.region ?_ | refine TO.pureP tab rfl rfl ?_ | refine TO.nil ?_ | refine thenQ_n ?_ | refine blockQ_n ?_ | refine thenQ_r ?_ | refine blockQ_r ?_ | refine thenQ_x ?_ | refine blockQ_hit ?_ | refine blockQ_miss rfl ?_ | refine TC.skip ?_ | refine TC.exit ?_ | refine TC.ret ?_ | refine TC.cond_t rfl ?_ | refine TC.cond_f rfl ?_)
  refine TO.step rfl (OT.lit tab rfl rfl rfl rfl (fun bl => ?_))
  refine TO.perm ((List.Perm.swap _ _ _).cons _) ?_
  refine TO.step rfl (OT.call rfl rfl rfl rfl rfl rfl goes39 ((insert_own m _ bl s vs xs (k : Int) j hq hj (by omega)).x ?_));
  rintro _ _ _ ⟨rfl, s2, vs2, rfl, hq2, rfl⟩
  refine TO.step rfl (OT.storeL0 tab 1 rfl rfl rfl rfl rfl rfl rfl rfl ?_)
  refine TO.perm (List.Perm.swap _ _ _) ?_
  repeat (first | refine TC.seq ?_ | refine TC.block ?_ | refine TC.region ?_ | refine TO.pureP tab rfl rfl ?_ | refine TO.nil ?_ | refine thenQ_n ?_ | refine blockQ_n ?_ | refine thenQ_r ?_ | refine blockQ_r ?_ | refine thenQ_x ?_ | refine blockQ_hit ?_ | refine blockQ_miss rfl ?_ | refine TC.skip ?_ | refine TC.exit ?_ | refine TC.ret ?_ | refine TC.cond_t rfl ?_ | refine TC.cond_f rfl ?_)
  refine retQ_n rfl (List.Sublist.refl _) ⟨rfl, s2, vs2, ?_, rfl⟩
  rw [addL, hle, c1, c2]
  exact hq2
end Go.Sep
