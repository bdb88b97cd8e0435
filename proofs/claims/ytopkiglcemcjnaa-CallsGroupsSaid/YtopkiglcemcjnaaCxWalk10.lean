/-
  Walks of layer 13: small, SameLists.
-/
import Derived.Test.YtopkiglcemcjnaaCxWalk9
set_option linter.unusedVariables false
set_option linter.unusedSimpArgs false
namespace Go.Sep
open Go.Proofs
attribute [local irreducible] TC TO OT TCallX TCall DO DOt thenQ blockQ retQ At

def smallM (h : Hier) : Bool := decide (h.funcs ≤ 60 ∧ h.sites.length ≤ 200 ∧ h.classes.length ≤ 50)

set_option maxHeartbeats 1000000 in
theorem small_law (m : Mem) (L : List Item) (hh : HHier) (h : Hier) (hr : HierRep m hh h) :
    TCall Try.prog 13 ⟨[hierV hh]⟩ m L (Ret (.bool (smallM h)) m L) := by
  have h1 := hr.classes.len
  have h3 := hr.sites.len
  have h4 := hr.funcs
  unfold TCall
  refine TCallX.enter Try.func13 rfl 18 rfl ?_
  repeat (first | refine TC.seq ?_ | refine TC.block ?_ | refine TC.region ?_ | refine TO.pureP tab rfl rfl ?_ | refine TO.nil ?_ | refine thenQ_n ?_ | refine blockQ_n ?_ | refine thenQ_r ?_ | refine blockQ_r ?_ | refine thenQ_x ?_ | refine blockQ_hit ?_ | refine blockQ_miss rfl ?_ | refine TC.skip ?_ | refine TC.exit ?_ | refine TC.ret ?_ | refine TC.cond_t rfl ?_ | refine TC.cond_f rfl ?_)
  refine TO.step rfl (OT.box rfl rfl rfl rfl rfl (fun b => ?_))
  repeat' (first | (first | refine TC.seq ?_ | refine TC.block ?_ | refine TC.region ?_ | refine TO.pureP tab rfl rfl ?_ | refine TO.nil ?_ | refine thenQ_n ?_ | refine blockQ_n ?_ | refine thenQ_r ?_ | refine blockQ_r ?_ | refine thenQ_x ?_ | refine blockQ_hit ?_ | refine blockQ_miss rfl ?_ | refine TC.skip ?_ | refine TC.exit ?_ | refine TC.ret ?_ | refine TC.cond_t rfl ?_ | refine TC.cond_f rfl ?_) | (first | refine TO.step rfl (OT.loadL tab 0 rfl rfl rfl rfl rfl rfl ?_) | refine TO.step rfl (OT.loadL0 tab 0 rfl rfl rfl rfl rfl rfl ?_) | refine TO.step rfl (OT.loadL tab 1 rfl rfl rfl rfl rfl rfl ?_) | refine TO.step rfl (OT.loadL0 tab 1 rfl rfl rfl rfl rfl rfl ?_) | refine TO.step rfl (OT.loadL tab 2 rfl rfl rfl rfl rfl rfl ?_) | refine TO.step rfl (OT.loadL0 tab 2 rfl rfl rfl rfl rfl rfl ?_) | refine TO.step rfl (OT.loadL tab 3 rfl rfl rfl rfl rfl rfl ?_) | refine TO.step rfl (OT.loadL0 tab 3 rfl rfl rfl rfl rfl rfl ?_) | refine TO.step rfl (OT.loadL tab 4 rfl rfl rfl rfl rfl rfl ?_) | refine TO.step rfl (OT.loadL0 tab 4 rfl rfl rfl rfl rfl rfl ?_) | refine TO.step rfl (OT.loadL tab 5 rfl rfl rfl rfl rfl rfl ?_) | refine TO.step rfl (OT.loadL0 tab 5 rfl rfl rfl rfl rfl rfl ?_) | refine TO.step rfl (OT.loadL tab 6 rfl rfl rfl rfl rfl rfl ?_) | refine TO.step rfl (OT.loadL0 tab 6 rfl rfl rfl rfl rfl rfl ?_) | refine TO.step rfl (OT.loadL tab 7 rfl rfl rfl rfl rfl rfl ?_) | refine TO.step rfl (OT.loadL0 tab 7 rfl rfl rfl rfl rfl rfl ?_) | refine TO.step rfl (OT.loadL tab 8 rfl rfl rfl rfl rfl rfl ?_) | refine TO.step rfl (OT.loadL0 tab 8 rfl rfl rfl rfl rfl rfl ?_) | refine TO.step rfl (OT.loadL tab 9 rfl rfl rfl rfl rfl rfl ?_) | refine TO.step rfl (OT.loadL0 tab 9 rfl rfl rfl rfl rfl rfl ?_)) | (first | refine TO.splitP rfl rfl (fun hb => ?_) (fun hb => ?_) | refine TO.splitN rfl rfl (fun hb => ?_) (fun hb => ?_)))
  all_goals
    refine retQ_ret rfl (by repeat (first | exact List.Sublist.refl _ | refine List.Sublist.cons_cons _ ?_ | refine List.Sublist.cons _ ?_)) ⟨rfl, rfl, ?_⟩
    congr 1
    rw [smallM, Bool.eq_iff_iff]
    simp only [decide_eq_true_eq, Bool.false_eq_true, false_iff, true_iff, h4, h3, h1]
    omega

set_option maxHeartbeats 1000000 in
theorem sameLists_law (m : Mem) (L : List Item) (sa sb : Sl) (la lb : List (List Int)) (ha : SlRep rInts m sa la) (hb : SlRep rInts m sb lb) :
    TCall Try.prog 14 ⟨[sa.v, sb.v]⟩ m L (Ret (.bool (decide (la = lb))) m L) := by
  have h1 := ha.len
  have h2 := hb.len
  have q1 := ha.small rfl
  unfold TCall
  refine TCallX.enter Try.func14 rfl 53 rfl ?_
  repeat (first | refine TC.seq ?_ | refine TC.block ?_ | refine TC.region ?_ | refine TO.pureP tab rfl rfl ?_ | refine TO.nil ?_ | refine thenQ_n ?_ | refine blockQ_n ?_ | refine thenQ_r ?_ | refine blockQ_r ?_ | refine thenQ_x ?_ | refine blockQ_hit ?_ | refine blockQ_miss rfl ?_ | refine TC.skip ?_ | refine TC.exit ?_ | refine TC.ret ?_ | refine TC.cond_t rfl ?_ | refine TC.cond_f rfl ?_)
  refine TC.condN rfl (fun hne => ?_) (fun hne => ?_)
  · repeat (first | refine TC.seq ?_ | refine TC.block ?_ | refine TC.region ?_ | refine TO.pureP tab rfl rfl ?_ | refine TO.nil ?_ | refine thenQ_n ?_ | refine blockQ_n ?_ | refine thenQ_r ?_ | refine blockQ_r ?_ | refine thenQ_x ?_ | refine blockQ_hit ?_ | refine blockQ_miss rfl ?_ | refine TC.skip ?_ | refine TC.exit ?_ | refine TC.ret ?_ | refine TC.cond_t rfl ?_ | refine TC.cond_f rfl ?_)
    refine retQ_ret rfl (by repeat (first | exact List.Sublist.refl _ | refine List.Sublist.cons_cons _ ?_ | refine List.Sublist.cons _ ?_)) ⟨rfl, rfl, ?_⟩
    have : la ≠ lb := fun e => by subst e; omega
    simp [this]
  have hll : la.length = lb.length := by omega
  repeat (first | refine TC.seq ?_ | refine TC.block ?_ | refine TC.region ?_ | refine TO.pureP tab rfl rfl ?_ | refine TO.nil ?_ | refine thenQ_n ?_ | refine blockQ_n ?_ | refine thenQ_r ?_ | refine blockQ_r ?_ | refine thenQ_x ?_ | refine blockQ_hit ?_ | refine blockQ_miss rfl ?_ | refine TC.skip ?_ | refine TC.exit ?_ | refine TC.ret ?_ | refine TC.cond_t rfl ?_ | refine TC.cond_f rfl ?_)
  refine TC.loopK (ι := Nat) [0, 1] rfl (fun k => [(5, .int .i64 (k : Int))]) (fun _ => m) (fun _ => L) (fun k => k ≤ la.length ∧ ∀ i, i < k → la[i]? = lb[i]?) (fun k => la.length - k) 0 (by repeat (first | exact trivial | refine And.intro rfl ?_)) rfl (by repeat (first | exact List.Sublist.refl _ | refine List.Sublist.cons_cons _ ?_ | refine List.Sublist.cons _ ?_)) ⟨Nat.zero_le _, by simp⟩ ?_
  rintro k ⟨hk, hI⟩
  repeat (first | refine TC.seq ?_ | refine TC.block ?_ | refine TC.region ?_ | refine TO.pureP tab rfl rfl ?_ | refine TO.nil ?_ | refine thenQ_n ?_ | refine blockQ_n ?_ | refine thenQ_r ?_ | refine blockQ_r ?_ | refine thenQ_x ?_ | refine blockQ_hit ?_ | refine blockQ_miss rfl ?_ | refine TC.skip ?_ | refine TC.exit ?_ | refine TC.ret ?_ | refine TC.cond_t rfl ?_ | refine TC.cond_f rfl ?_)
  refine TC.condP rfl (fun hlt' => ?_) (fun hlt' => ?_)
  · have hlt : k < la.length := by omega
    have hxa : la[k]? = some la[k] := by simp [hlt]
    have hxb : lb[k]? = some (lb[k]'(by omega)) := by simp [show k < lb.length by omega]
    generalize hra : la[k] = ra at *
    generalize hrb : lb[k]'(by omega) = rb at *
    repeat (first | refine TC.seq ?_ | refine TC.block ?_ | refine TC.region ?_ | refine TO.pureP tab rfl rfl ?_ | refine TO.nil ?_ | refine thenQ_n ?_ | refine blockQ_n ?_ | refine thenQ_r ?_ | refine blockQ_r ?_ | refine thenQ_x ?_ | refine blockQ_hit ?_ | refine blockQ_miss rfl ?_ | refine TC.skip ?_ | refine TC.exit ?_ | refine TC.ret ?_ | refine TC.cond_t rfl ?_ | refine TC.cond_f rfl ?_)
    refine TC.draw0 [] mixed 11 rfl ?_
    refine DO.pure tab (by repeat (first | exact Calm.ret | refine Calm.then ?_ | refine Calm.block ?_ | assumption)) (by kernel_rfl) [0, 1] (by kernel_rfl) rfl ?_
    refine DO.index tab rInts 2 k ha (by repeat (first | exact Calm.ret | refine Calm.then ?_ | refine Calm.block ?_ | assumption)) (by kernel_rfl) (by kernel_rfl) rfl rfl rfl rfl rfl rfl rfl (by first | rfl | omega) rfl hxa ?_
    rintro b1 i1 s1 hs1 hA1
    (first | refine DO.loadA tab 3 hA1 (by repeat (first | exact Calm.ret | refine Calm.then ?_ | refine Calm.block ?_ | assumption)) (by kernel_rfl) (by kernel_rfl) rfl rfl rfl rfl rfl rfl rfl ?_ | refine DO.loadA (k := 0) tab 3 hA1 (by repeat (first | exact Calm.ret | refine Calm.then ?_ | refine Calm.block ?_ | assumption)) (by kernel_rfl) (by kernel_rfl) rfl rfl rfl rfl rfl rfl rfl ?_)
    refine DO.pure tab (by repeat (first | exact Calm.ret | refine Calm.then ?_ | refine Calm.block ?_ | assumption)) (by kernel_rfl) [4, 5, 6] (by kernel_rfl) rfl ?_
    refine DO.index tab rInts 7 k hb (by repeat (first | exact Calm.ret | refine Calm.then ?_ | refine Calm.block ?_ | assumption)) (by kernel_rfl) (by kernel_rfl) rfl rfl rfl rfl rfl rfl rfl (by first | rfl | omega) rfl hxb ?_
    rintro b2 i2 s2 hs2 hA2
    (first | refine DO.loadA tab 8 hA2 (by repeat (first | exact Calm.ret | refine Calm.then ?_ | refine Calm.block ?_ | assumption)) (by kernel_rfl) (by kernel_rfl) rfl rfl rfl rfl rfl rfl rfl ?_ | refine DO.loadA (k := 0) tab 8 hA2 (by repeat (first | exact Calm.ret | refine Calm.then ?_ | refine Calm.block ?_ | assumption)) (by kernel_rfl) (by kernel_rfl) rfl rfl rfl rfl rfl rfl rfl ?_)
    refine DO.pure tab (by repeat (first | exact Calm.ret | refine Calm.then ?_ | refine Calm.block ?_ | assumption)) (by kernel_rfl) [9, 10] (by kernel_rfl) rfl ?_
    (first | refine DO.nil0 (by kernel_rfl) ?_ | refine DO.nil (by kernel_rfl) ?_)
    rotate_left 1
    have hl1 := hs1.len
    have hl2 := hs2.len
    have qs1 := hs1.small rfl
    repeat (first | refine TC.seq ?_ | refine TC.block ?_ | refine TC.region ?_ | refine TO.pureP tab rfl rfl ?_ | refine TO.nil ?_ | refine thenQ_n ?_ | refine blockQ_n ?_ | refine thenQ_r ?_ | refine blockQ_r ?_ | refine thenQ_x ?_ | refine blockQ_hit ?_ | refine blockQ_miss rfl ?_ | refine TC.skip ?_ | refine TC.exit ?_ | refine TC.ret ?_ | refine TC.cond_t rfl ?_ | refine TC.cond_f rfl ?_)
    refine TC.condN rfl (fun hne2 => ?_) (fun hne2 => ?_)
    · repeat (first | refine TC.seq ?_ | refine TC.block ?_ | refine TC.region ?_ | refine TO.pureP tab rfl rfl ?_ | refine TO.nil ?_ | refine thenQ_n ?_ | refine blockQ_n ?_ | refine thenQ_r ?_ | refine blockQ_r ?_ | refine thenQ_x ?_ | refine blockQ_hit ?_ | refine blockQ_miss rfl ?_ | refine TC.skip ?_ | refine TC.exit ?_ | refine TC.ret ?_ | refine TC.cond_t rfl ?_ | refine TC.cond_f rfl ?_)
      refine retQ_ret rfl (by repeat (first | exact List.Sublist.refl _ | refine List.Sublist.cons_cons _ ?_ | refine List.Sublist.cons _ ?_)) ⟨rfl, rfl, ?_⟩
      have : la ≠ lb := fun e => by subst e; rw [hxa] at hxb; simp only [Option.some.injEq] at hxb; subst hxb; omega
      simp [this]
    repeat (first | refine TC.seq ?_ | refine TC.block ?_ | refine TC.region ?_ | refine TO.pureP tab rfl rfl ?_ | refine TO.nil ?_ | refine thenQ_n ?_ | refine blockQ_n ?_ | refine thenQ_r ?_ | refine blockQ_r ?_ | refine thenQ_x ?_ | refine blockQ_hit ?_ | refine blockQ_miss rfl ?_ | refine TC.skip ?_ | refine TC.exit ?_ | refine TC.ret ?_ | refine TC.cond_t rfl ?_ | refine TC.cond_f rfl ?_)
    refine TC.loopK (ι := Nat) [0, 1, 5] rfl (fun j => [(6, .int .i64 (j : Int))]) (fun _ => m) (fun _ => L) (fun j => j ≤ ra.length ∧ ∀ i, i < j → ra[i]? = rb[i]?) (fun j => ra.length - j) 0 (by repeat (first | exact trivial | refine And.intro rfl ?_)) rfl (by repeat (first | exact List.Sublist.refl _ | refine List.Sublist.cons_cons _ ?_ | refine List.Sublist.cons _ ?_)) ⟨Nat.zero_le _, by simp⟩ ?_
    rintro j ⟨hj, hJ⟩
    repeat (first | refine TC.seq ?_ | refine TC.block ?_ | refine TC.region ?_ | refine TO.pureP tab rfl rfl ?_ | refine TO.nil ?_ | refine thenQ_n ?_ | refine blockQ_n ?_ | refine thenQ_r ?_ | refine blockQ_r ?_ | refine thenQ_x ?_ | refine blockQ_hit ?_ | refine blockQ_miss rfl ?_ | refine TC.skip ?_ | refine TC.exit ?_ | refine TC.ret ?_ | refine TC.cond_t rfl ?_ | refine TC.cond_f rfl ?_)
    refine TO.step rfl (OT.index tab rInts k ha rfl rfl rfl rfl rfl (by first | rfl | omega) rfl hxa ?_)
    rintro b3 i3 s3 hs3 hA3
    (first | refine TO.step rfl (OT.loadA tab hA3 rfl rfl rfl rfl rfl ?_) | refine TO.step rfl (OT.loadA0 tab hA3 rfl rfl rfl rfl rfl ?_))
    have hl3 := hs3.len
    repeat (first | refine TC.seq ?_ | refine TC.block ?_ | refine TC.region ?_ | refine TO.pureP tab rfl rfl ?_ | refine TO.nil ?_ | refine thenQ_n ?_ | refine blockQ_n ?_ | refine thenQ_r ?_ | refine blockQ_r ?_ | refine thenQ_x ?_ | refine blockQ_hit ?_ | refine blockQ_miss rfl ?_ | refine TC.skip ?_ | refine TC.exit ?_ | refine TC.ret ?_ | refine TC.cond_t rfl ?_ | refine TC.cond_f rfl ?_)
    refine TC.condP rfl (fun hlj' => ?_) (fun hlj' => ?_)
    · have hlj : j < ra.length := by omega
      have hya : ra[j]? = some ra[j] := by simp [hlj]
      have hyb : rb[j]? = some (rb[j]'(by omega)) := by simp [show j < rb.length by omega]
      generalize hva : ra[j] = va at *
      generalize hvb : rb[j]'(by omega) = vb at *
      repeat (first | refine TC.seq ?_ | refine TC.block ?_ | refine TC.region ?_ | refine TO.pureP tab rfl rfl ?_ | refine TO.nil ?_ | refine thenQ_n ?_ | refine blockQ_n ?_ | refine thenQ_r ?_ | refine blockQ_r ?_ | refine thenQ_x ?_ | refine blockQ_hit ?_ | refine blockQ_miss rfl ?_ | refine TC.skip ?_ | refine TC.exit ?_ | refine TC.ret ?_ | refine TC.cond_t rfl ?_ | refine TC.cond_f rfl ?_)
      refine TC.draw0 [] mixed 15 rfl ?_
      refine DO.pure tab (by repeat (first | exact Calm.ret | refine Calm.then ?_ | refine Calm.block ?_ | assumption)) (by kernel_rfl) [0, 1] (by kernel_rfl) rfl ?_
      refine DO.index tab rInts 2 k ha (by repeat (first | exact Calm.ret | refine Calm.then ?_ | refine Calm.block ?_ | assumption)) (by kernel_rfl) (by kernel_rfl) rfl rfl rfl rfl rfl rfl rfl (by first | rfl | omega) rfl hxa ?_
      rintro b4 i4 s4 hs4 hA4
      (first | refine DO.loadA tab 3 hA4 (by repeat (first | exact Calm.ret | refine Calm.then ?_ | refine Calm.block ?_ | assumption)) (by kernel_rfl) (by kernel_rfl) rfl rfl rfl rfl rfl rfl rfl ?_ | refine DO.loadA (k := 0) tab 3 hA4 (by repeat (first | exact Calm.ret | refine Calm.then ?_ | refine Calm.block ?_ | assumption)) (by kernel_rfl) (by kernel_rfl) rfl rfl rfl rfl rfl rfl rfl ?_)
      refine DO.pure tab (by repeat (first | exact Calm.ret | refine Calm.then ?_ | refine Calm.block ?_ | assumption)) (by kernel_rfl) [4] (by kernel_rfl) rfl ?_
      refine DO.index tab rInt 5 j hs4 (by repeat (first | exact Calm.ret | refine Calm.then ?_ | refine Calm.block ?_ | assumption)) (by kernel_rfl) (by kernel_rfl) rfl rfl rfl rfl rfl rfl rfl (by first | rfl | omega) rfl hya ?_
      rintro b5 i5 v5 hv5 hA5; obtain rfl : va = v5 := hv5.symm
      (first | refine DO.loadA tab 6 hA5 (by repeat (first | exact Calm.ret | refine Calm.then ?_ | refine Calm.block ?_ | assumption)) (by kernel_rfl) (by kernel_rfl) rfl rfl rfl rfl rfl rfl rfl ?_ | refine DO.loadA (k := 0) tab 6 hA5 (by repeat (first | exact Calm.ret | refine Calm.then ?_ | refine Calm.block ?_ | assumption)) (by kernel_rfl) (by kernel_rfl) rfl rfl rfl rfl rfl rfl rfl ?_)
      refine DO.pure tab (by repeat (first | exact Calm.ret | refine Calm.then ?_ | refine Calm.block ?_ | assumption)) (by kernel_rfl) [7, 8] (by kernel_rfl) rfl ?_
      refine DO.index tab rInts 9 k hb (by repeat (first | exact Calm.ret | refine Calm.then ?_ | refine Calm.block ?_ | assumption)) (by kernel_rfl) (by kernel_rfl) rfl rfl rfl rfl rfl rfl rfl (by first | rfl | omega) rfl hxb ?_
      rintro b6 i6 s6 hs6 hA6
      (first | refine DO.loadA tab 10 hA6 (by repeat (first | exact Calm.ret | refine Calm.then ?_ | refine Calm.block ?_ | assumption)) (by kernel_rfl) (by kernel_rfl) rfl rfl rfl rfl rfl rfl rfl ?_ | refine DO.loadA (k := 0) tab 10 hA6 (by repeat (first | exact Calm.ret | refine Calm.then ?_ | refine Calm.block ?_ | assumption)) (by kernel_rfl) (by kernel_rfl) rfl rfl rfl rfl rfl rfl rfl ?_)
      refine DO.pure tab (by repeat (first | exact Calm.ret | refine Calm.then ?_ | refine Calm.block ?_ | assumption)) (by kernel_rfl) [11] (by kernel_rfl) rfl ?_
      refine DO.index tab rInt 12 j hs6 (by repeat (first | exact Calm.ret | refine Calm.then ?_ | refine Calm.block ?_ | assumption)) (by kernel_rfl) (by kernel_rfl) rfl rfl rfl rfl rfl rfl rfl (by first | rfl | omega) rfl hyb ?_
      rintro b7 i7 v7 hv7 hA7; obtain rfl : vb = v7 := hv7.symm
      (first | refine DO.loadA tab 13 hA7 (by repeat (first | exact Calm.ret | refine Calm.then ?_ | refine Calm.block ?_ | assumption)) (by kernel_rfl) (by kernel_rfl) rfl rfl rfl rfl rfl rfl rfl ?_ | refine DO.loadA (k := 0) tab 13 hA7 (by repeat (first | exact Calm.ret | refine Calm.then ?_ | refine Calm.block ?_ | assumption)) (by kernel_rfl) (by kernel_rfl) rfl rfl rfl rfl rfl rfl rfl ?_)
      refine DO.pure tab (by repeat (first | exact Calm.ret | refine Calm.then ?_ | refine Calm.block ?_ | assumption)) (by kernel_rfl) [14] (by kernel_rfl) rfl ?_
      (first | refine DO.nil0 (by kernel_rfl) ?_ | refine DO.nil (by kernel_rfl) ?_)
      rotate_left 1
      repeat (first | refine TC.seq ?_ | refine TC.block ?_ | refine TC.region ?_ | refine TO.pureP tab rfl rfl ?_ | refine TO.nil ?_ | refine thenQ_n ?_ | refine blockQ_n ?_ | refine thenQ_r ?_ | refine blockQ_r ?_ | refine thenQ_x ?_ | refine blockQ_hit ?_ | refine blockQ_miss rfl ?_ | refine TC.skip ?_ | refine TC.exit ?_ | refine TC.ret ?_ | refine TC.cond_t rfl ?_ | refine TC.cond_f rfl ?_)
      refine TC.condN rfl (fun hnv => ?_) (fun hnv => ?_)
      · repeat (first | refine TC.seq ?_ | refine TC.block ?_ | refine TC.region ?_ | refine TO.pureP tab rfl rfl ?_ | refine TO.nil ?_ | refine thenQ_n ?_ | refine blockQ_n ?_ | refine thenQ_r ?_ | refine blockQ_r ?_ | refine thenQ_x ?_ | refine blockQ_hit ?_ | refine blockQ_miss rfl ?_ | refine TC.skip ?_ | refine TC.exit ?_ | refine TC.ret ?_ | refine TC.cond_t rfl ?_ | refine TC.cond_f rfl ?_)
        refine retQ_ret rfl (by repeat (first | exact List.Sublist.refl _ | refine List.Sublist.cons_cons _ ?_ | refine List.Sublist.cons _ ?_)) ⟨rfl, rfl, ?_⟩
        have : la ≠ lb := fun e => by
          subst e; rw [hxa] at hxb; simp only [Option.some.injEq] at hxb; subst hxb
          rw [hya] at hyb; simp only [Option.some.injEq] at hyb; exact hnv hyb
        simp [this]
      · repeat (first | refine TC.seq ?_ | refine TC.block ?_ | refine TC.region ?_ | refine TO.pureP tab rfl rfl ?_ | refine TO.nil ?_ | refine thenQ_n ?_ | refine blockQ_n ?_ | refine thenQ_r ?_ | refine blockQ_r ?_ | refine thenQ_x ?_ | refine blockQ_hit ?_ | refine blockQ_miss rfl ?_ | refine TC.skip ?_ | refine TC.exit ?_ | refine TC.ret ?_ | refine TC.cond_t rfl ?_ | refine TC.cond_f rfl ?_)
        refine TO.step rfl (OT.arith (r' := ((j + 1 : Nat) : Int)) rfl rfl rfl rfl rfl rfl rfl (by omega) ?_)
        repeat (first | refine TC.seq ?_ | refine TC.block ?_ | refine TC.region ?_ | refine TO.pureP tab rfl rfl ?_ | refine TO.nil ?_ | refine thenQ_n ?_ | refine blockQ_n ?_ | refine thenQ_r ?_ | refine blockQ_r ?_ | refine thenQ_x ?_ | refine blockQ_hit ?_ | refine blockQ_miss rfl ?_ | refine TC.skip ?_ | refine TC.exit ?_ | refine TC.ret ?_ | refine TC.cond_t rfl ?_ | refine TC.cond_f rfl ?_)
        refine ⟨j + 1, (by repeat (first | exact trivial | refine And.intro rfl ?_)), (by repeat (first | exact trivial | refine And.intro rfl ?_)), rfl, rfl, (by repeat (first | exact List.Sublist.refl _ | refine List.Sublist.cons_cons _ ?_ | refine List.Sublist.cons _ ?_)), ⟨by omega, fun i hi => ?_⟩, by omega⟩
        by_cases e : i = j
        · subst e; rw [hya, hyb, hnv]
        · exact hJ i (by omega)
    · repeat (first | refine TC.seq ?_ | refine TC.block ?_ | refine TC.region ?_ | refine TO.pureP tab rfl rfl ?_ | refine TO.nil ?_ | refine thenQ_n ?_ | refine blockQ_n ?_ | refine thenQ_r ?_ | refine blockQ_r ?_ | refine thenQ_x ?_ | refine blockQ_hit ?_ | refine blockQ_miss rfl ?_ | refine TC.skip ?_ | refine TC.exit ?_ | refine TC.ret ?_ | refine TC.cond_t rfl ?_ | refine TC.cond_f rfl ?_)
      refine TO.step rfl (OT.arith (r' := ((k + 1 : Nat) : Int)) rfl rfl rfl rfl rfl rfl rfl (by omega) ?_)
      repeat (first | refine TC.seq ?_ | refine TC.block ?_ | refine TC.region ?_ | refine TO.pureP tab rfl rfl ?_ | refine TO.nil ?_ | refine thenQ_n ?_ | refine blockQ_n ?_ | refine thenQ_r ?_ | refine blockQ_r ?_ | refine thenQ_x ?_ | refine blockQ_hit ?_ | refine blockQ_miss rfl ?_ | refine TC.skip ?_ | refine TC.exit ?_ | refine TC.ret ?_ | refine TC.cond_t rfl ?_ | refine TC.cond_f rfl ?_)
      refine ⟨k + 1, (by repeat (first | exact trivial | refine And.intro rfl ?_)), (by repeat (first | exact trivial | refine And.intro rfl ?_)), rfl, rfl, (by repeat (first | exact List.Sublist.refl _ | refine List.Sublist.cons_cons _ ?_ | refine List.Sublist.cons _ ?_)), ⟨by omega, fun i hi => ?_⟩, by omega⟩
      by_cases e : i = k
      · subst e
        rw [hxa, hxb]
        congr 1
        apply List.ext_getElem?
        intro i
        by_cases hi' : i < j
        · exact hJ i hi'
        · rw [List.getElem?_eq_none (by omega), List.getElem?_eq_none (by omega)]
      · exact hI i (by omega)
  · repeat (first | refine TC.seq ?_ | refine TC.block ?_ | refine TC.region ?_ | refine TO.pureP tab rfl rfl ?_ | refine TO.nil ?_ | refine thenQ_n ?_ | refine blockQ_n ?_ | refine thenQ_r ?_ | refine blockQ_r ?_ | refine thenQ_x ?_ | refine blockQ_hit ?_ | refine blockQ_miss rfl ?_ | refine TC.skip ?_ | refine TC.exit ?_ | refine TC.ret ?_ | refine TC.cond_t rfl ?_ | refine TC.cond_f rfl ?_)
    refine retQ_ret rfl (by repeat (first | exact List.Sublist.refl _ | refine List.Sublist.cons_cons _ ?_ | refine List.Sublist.cons _ ?_)) ⟨rfl, rfl, ?_⟩
    have : la = lb := by
      apply List.ext_getElem?
      intro i
      by_cases hi' : i < k
      · exact hI i hi'
      · rw [List.getElem?_eq_none (by omega), List.getElem?_eq_none (by omega)]
    simp [this]
end Go.Sep
