/-
  Changes sorted in place: parted by what equals the pivot.
-/
import Derived.Test.YtggfaplmdcpccaaB10
set_option linter.unusedVariables false
set_option linter.unusedSimpArgs false
namespace Go.Sep
open Go.Proofs
attribute [local irreducible] TC TO OT TCallX TCall DO DOt thenQ blockQ retQ At
set_option maxHeartbeats 4000000 in
theorem partitionEqual_ch (m : Mem) (L : List Item) (bd c a b p : Nat) (xs : List Ch) (hD0 : DomC xs) (hab : a + 1 < b) (hp : a ≤ p ∧ p < b) (hl : b ≤ xs.length) (hlim : xs.length ≤ 1000000) :
    TCall Try.prog 43 ⟨[.slice (some ⟨bd, 0, none⟩) xs.length c, .int .i64 (a : Int), .int .i64 (b : Int), .int .i64 (p : Int), chF]⟩ m (chR bd xs :: L) (fun r m' L' => m = m' ∧ ∃ ys i j, r = .int .i64 ((i : Nat) : Int) ∧ PeI ltC (sw xs a p) a b i j ys ∧ j < i ∧ chR bd ys :: L = L') := by
  unfold TCall
  refine TCallX.enter Try.func43 rfl 90 rfl ?_
  repeat (first|refine q1 ?_|refine q3 ?_|refine q4 tab rfl rfl ?_|refine q5 ?_|refine q6 ?_)
  refine TC.draw [13, 14, 15] mixed 16 rfl [chR bd xs] L (by first | exact List.Perm.refl _ | (rw [List.append_nil]; exact List.Perm.refl _)) ?_
  refine DO.pure tab (by repeat (first|exact Calm.ret|refine Calm.then ?_)) (by kernel_rfl) [0, 1, 2, 3, 4, 5] (by kernel_rfl) rfl ?_
  refine DO.indexP (sz := 2) tab 6 p (by repeat (first|exact Calm.ret|refine Calm.then ?_)) (by kernel_rfl) (by kernel_rfl) rfl rfl rfl rfl rfl rfl rfl rfl rfl (by omega) ?_
  refine DO.loadE (jj := 0) tab 7 0 rCh (gk_get (xs := xs) (k := p) (by omega)) (by simp only [rCh]; omega) (fun _ => rfl) (by repeat (first|exact Calm.ret|refine Calm.then ?_)) (by kernel_rfl) (by kernel_rfl) rfl rfl rfl rfl rfl rfl rfl ?_
  refine DO.pure tab (by repeat (first|exact Calm.ret|refine Calm.then ?_)) (by kernel_rfl) [8, 9] (by kernel_rfl) rfl ?_
  refine DO.indexP (sz := 2) tab 10 a (by repeat (first|exact Calm.ret|refine Calm.then ?_)) (by kernel_rfl) (by kernel_rfl) rfl rfl rfl rfl rfl rfl rfl rfl rfl (by omega) ?_
  refine DO.loadE (jj := 0) tab 11 0 rCh (gk_get (xs := xs) (k := a) (by omega)) (by simp only [rCh]; omega) (fun _ => rfl) (by repeat (first|exact Calm.ret|refine Calm.then ?_)) (by kernel_rfl) (by kernel_rfl) rfl rfl rfl rfl rfl rfl rfl ?_
  refine DO.indexP (sz := 2) tab 12 a (by repeat (first|exact Calm.ret|refine Calm.then ?_)) (by kernel_rfl) (by kernel_rfl) rfl rfl rfl rfl rfl rfl rfl rfl rfl (by omega) ?_
  refine DO.tail ?_
  refine DOt.run 13 rfl rfl (by kernel_rfl) rfl ?_
  refine OT.storeE (h2 := gk xs p) tab 0 rCh (gk_get (xs := xs) (k := a) (by omega)) (j := 0) (by simp only [rCh]; omega) (fun _ => rfl) (Nat.le_refl _) rfl rfl rfl rfl rfl rfl rfl ?_
  refine DOt.run 14 rfl rfl (by kernel_rfl) rfl ?_
  refine OT.indexP (sz := 2) tab p rfl rfl rfl rfl rfl rfl rfl (by omega) ?_
  refine DOt.run 15 rfl rfl (by kernel_rfl) rfl ?_
  refine OT.storeE (h2 := gk xs a) (h := gk (List.set xs a (gk xs p)) p) tab 0 rCh (k := p) (gk_get (by simp; omega)) (j := 0) (by simp only [rCh]; omega) (fun _ => rfl) (Nat.le_refl _) rfl rfl rfl rfl rfl rfl rfl ?_
  refine DOt.nil (by kernel_rfl) ?_
  rotate_left 1
  have hS0 : Sg a b xs (sw xs a p) := Sg.sw (by omega) hp hl
  have hDs := hD0.perm hS0.perm
  have hsl := hS0.len
  repeat (first|refine q1 ?_|refine q3 ?_|refine q4 tab rfl rfl ?_|refine q6 ?_)
  refine TO.step rfl (OT.arith (r' := ((a + 1 : Nat) : Int)) rfl rfl rfl rfl rfl rfl rfl (by omega) ?_)
  repeat (refine q4 tab rfl rfl ?_)
  refine TO.step rfl (OT.arith (r' := ((b - 1 : Nat) : Int)) rfl rfl rfl rfl rfl rfl (by omega) (by omega) ?_)
  repeat (first|refine q1 ?_|refine q2 ?_|refine q4 tab rfl rfl ?_|refine q5 ?_|refine q6 ?_)
  have hP : PeI ltC (sw xs a p) a b (a + 1) (b - 1) (sw xs a p) := PeI.start (a := a) (b := b) hab
  refine TC.loopK (ι := Nat × Nat × List Ch) [0, 1, 4] rfl (fun x => [(11, .int .i64 (x.1 : Int)), (12, .int .i64 (x.2.1 : Int))]) (fun _ => m) (fun x => chR bd x.2.2 :: L) (fun x => PeI ltC (sw xs a p) a b x.1 x.2.1 x.2.2) (fun x => b + 1 + x.2.1 - x.1) (a + 1, b - 1, sw xs a p) (by repeat (first|exact trivial|refine And.intro rfl ?_)) rfl (by repeat (exact List.Sublist.refl _)) hP ?_
  clear hP
  rintro ⟨i, j, ws⟩ hP
  simp only at hP ⊢
  have hwl := hP.seg.len
  have hD : DomC ws := hDs.perm hP.seg.perm
  have hr0 := hP.rng
  repeat (first|refine q1 ?_|refine q2 ?_)
  refine TC.loopK (ι := Nat) [0, 1, 4, 12] rfl (fun i => [(11, .int .i64 (i : Int))]) (fun _ => m) (fun _ => chR bd ws :: L) (fun k => i ≤ k ∧ PeI ltC (sw xs a p) a b k j ws) (fun k => b + 1 - k) i (by repeat (first|exact trivial|refine And.intro rfl ?_)) rfl (by repeat (exact List.Sublist.refl _)) ⟨Nat.le_refl _, hP⟩ ?_
  clear hP
  obtain ⟨i0, hi0⟩ : ∃ i0, i0 = i := ⟨_, rfl⟩
  rw [← hi0] at hr0 ⊢
  clear hi0
  rintro i ⟨hi0, hP⟩
  have hr := hP.rng
  repeat (refine q1 ?_)
  refine TC.draw [] mixed 17 rfl [chR bd ws] L (by first | exact List.Perm.refl _ | (rw [List.append_nil]; exact List.Perm.refl _)) ?_
  refine DO.pure tab (by repeat (first|exact Calm.ret|refine Calm.then ?_|refine Calm.block ?_)) (by kernel_rfl) [0, 1, 2, 3] (by kernel_rfl) rfl ?_
  (refine DO.splitP (d := 34) rfl (fun hg3 => ?_) (fun hg3 => ?_))
  refine DO.pure tab (by repeat (first|exact Calm.ret|refine Calm.then ?_|refine Calm.block ?_)) (by kernel_rfl) [4, 5, 6] (by kernel_rfl) rfl ?_
  refine DO.indexP (sz := 2) tab 7 a (by repeat (first|exact Calm.ret|refine Calm.then ?_|refine Calm.block ?_)) (by kernel_rfl) (by kernel_rfl) rfl rfl rfl rfl rfl rfl rfl rfl rfl (by omega) ?_
  refine DO.loadE (jj := 0) tab 8 0 rCh (gk_get (xs := ws) (k := a) (by omega)) (by simp only [rCh]; omega) (fun _ => rfl) (by repeat (first|exact Calm.ret|refine Calm.then ?_|refine Calm.block ?_)) (by kernel_rfl) (by kernel_rfl) rfl rfl rfl rfl rfl rfl rfl ?_
  refine DO.pure tab (by repeat (first|exact Calm.ret|refine Calm.then ?_|refine Calm.block ?_)) (by kernel_rfl) [9, 10] (by kernel_rfl) rfl ?_
  refine DO.indexP (sz := 2) tab 11 i (by repeat (first|exact Calm.ret|refine Calm.then ?_|refine Calm.block ?_)) (by kernel_rfl) (by kernel_rfl) rfl rfl rfl rfl rfl rfl rfl rfl rfl (by omega) ?_
  refine DO.loadE (jj := 0) tab 12 0 rCh (gk_get (xs := ws) (k := i) (by omega)) (by simp only [rCh]; omega) (fun _ => rfl) (by repeat (first|exact Calm.ret|refine Calm.then ?_|refine Calm.block ?_)) (by kernel_rfl) (by kernel_rfl) rfl rfl rfl rfl rfl rfl rfl ?_
  refine DO.run 13 rfl rfl (by kernel_rfl) rfl (OT.call rfl rfl rfl rfl rfl rfl goes23 ((chcmp_law m _ (gk ws a) (gk ws i) (hD.gk (by omega)) (hD.gk (by omega))).x ?_))
  rintro _ _ _ ⟨rfl, rfl, rfl⟩; refine ⟨Mem.le_refl _, _, List.Perm.refl _, ?_⟩
  refine DO.pure tab (by repeat (first|exact Calm.ret|refine Calm.then ?_|refine Calm.block ?_)) (by kernel_rfl) [14, 15, 16] (by kernel_rfl) rfl ?_
  (refine DO.nil (by kernel_rfl) ?_)
  rotate_left 1
  refine DO.pure tab (by repeat (first|exact Calm.ret|refine Calm.then ?_|refine Calm.block ?_)) (by kernel_rfl) [4, 5, 6, 7, 8, 9, 10, 11, 12, 13, 14, 15, 16] (by kernel_rfl) rfl ?_
  (refine DO.nil (by kernel_rfl) ?_)
  rotate_left 1
  · repeat (refine q6 ?_)
    simp only [ch_dec]
    cases hc1 : ltC (gk ws a) (gk ws i) with
    | false =>
      repeat (first|refine q2 ?_|refine q3 ?_|refine q4 tab rfl rfl ?_|refine q6 ?_|refine q13 ?_|refine q16 rfl ?_)
      refine TO.step rfl (OT.arith (r' := ((i + 1 : Nat) : Int)) rfl rfl rfl rfl rfl rfl rfl (by omega) ?_)
      repeat (first|refine q4 tab rfl rfl ?_|refine q5 ?_|refine q6 ?_|refine q7 ?_)
      exact ⟨i + 1, (by repeat (first|exact trivial|refine And.intro rfl ?_)), (by repeat (first|exact trivial|refine And.intro rfl ?_)), rfl, rfl, (by repeat (exact List.Sublist.refl _)), ⟨by omega, hP.left (by omega) hc1⟩, by omega⟩
    | true =>
      repeat (first|refine q1 ?_|refine q2 ?_|refine q6 ?_|refine q10 ?_|refine q11 ?_|refine q14 ?_|refine q17 rfl ?_)
      refine TC.loopK (ι := Nat) [0, 1, 4, 11] rfl (fun j => [(12, .int .i64 (j : Int))]) (fun _ => m) (fun _ => chR bd ws :: L) (fun j2 => j2 ≤ j ∧ PeI ltC (sw xs a p) a b i j2 ws) (fun j => j) j (by repeat (first|exact trivial|refine And.intro rfl ?_)) rfl (by repeat (exact List.Sublist.refl _)) ⟨Nat.le_refl _, hP⟩ ?_
      rintro j2 ⟨hj2, hP2⟩
      have hr2 := hP2.rng
      repeat (refine q1 ?_)
      refine TC.draw [] mixed 16 rfl [chR bd ws] L (by first | exact List.Perm.refl _ | (rw [List.append_nil]; exact List.Perm.refl _)) ?_
      refine DO.pure tab (by repeat (first|exact Calm.ret|refine Calm.then ?_|refine Calm.block ?_)) (by kernel_rfl) [0, 1, 2, 3] (by kernel_rfl) rfl ?_
      (refine DO.splitP (d := 53) rfl (fun hg3 => ?_) (fun hg3 => ?_))
      refine DO.pure tab (by repeat (first|exact Calm.ret|refine Calm.then ?_|refine Calm.block ?_)) (by kernel_rfl) [4, 5, 6] (by kernel_rfl) rfl ?_
      refine DO.indexP (sz := 2) tab 7 a (by repeat (first|exact Calm.ret|refine Calm.then ?_|refine Calm.block ?_)) (by kernel_rfl) (by kernel_rfl) rfl rfl rfl rfl rfl rfl rfl rfl rfl (by omega) ?_
      refine DO.loadE (jj := 0) tab 8 0 rCh (gk_get (xs := ws) (k := a) (by omega)) (by simp only [rCh]; omega) (fun _ => rfl) (by repeat (first|exact Calm.ret|refine Calm.then ?_|refine Calm.block ?_)) (by kernel_rfl) (by kernel_rfl) rfl rfl rfl rfl rfl rfl rfl ?_
      refine DO.pure tab (by repeat (first|exact Calm.ret|refine Calm.then ?_|refine Calm.block ?_)) (by kernel_rfl) [9, 10] (by kernel_rfl) rfl ?_
      refine DO.indexP (sz := 2) tab 11 j2 (by repeat (first|exact Calm.ret|refine Calm.then ?_|refine Calm.block ?_)) (by kernel_rfl) (by kernel_rfl) rfl rfl rfl rfl rfl rfl rfl rfl rfl (by omega) ?_
      refine DO.loadE (jj := 0) tab 12 0 rCh (gk_get (xs := ws) (k := j2) (by omega)) (by simp only [rCh]; omega) (fun _ => rfl) (by repeat (first|exact Calm.ret|refine Calm.then ?_|refine Calm.block ?_)) (by kernel_rfl) (by kernel_rfl) rfl rfl rfl rfl rfl rfl rfl ?_
      refine DO.run 13 rfl rfl (by kernel_rfl) rfl (OT.call rfl rfl rfl rfl rfl rfl goes23 ((chcmp_law m _ (gk ws a) (gk ws j2) (hD.gk (by omega)) (hD.gk (by omega))).x ?_))
      rintro _ _ _ ⟨rfl, rfl, rfl⟩; refine ⟨Mem.le_refl _, _, List.Perm.refl _, ?_⟩
      refine DO.pure tab (by repeat (first|exact Calm.ret|refine Calm.then ?_|refine Calm.block ?_)) (by kernel_rfl) [14, 15] (by kernel_rfl) rfl ?_
      (refine DO.nil (by kernel_rfl) ?_)
      rotate_left 1
      refine DO.pure tab (by repeat (first|exact Calm.ret|refine Calm.then ?_|refine Calm.block ?_)) (by kernel_rfl) [4, 5, 6, 7, 8, 9, 10, 11, 12, 13, 14, 15] (by kernel_rfl) rfl ?_
      (refine DO.nil (by kernel_rfl) ?_)
      rotate_left 1
      · repeat (refine q6 ?_)
        simp only [ch_dec]
        cases hc2 : ltC (gk ws a) (gk ws j2) with
        | true =>
          repeat (first|refine q2 ?_|refine q3 ?_|refine q4 tab rfl rfl ?_|refine q6 ?_|refine q13 ?_|refine q16 rfl ?_)
          refine TO.step rfl (OT.arith (r' := ((j2 - 1 : Nat) : Int)) rfl rfl rfl rfl rfl rfl (by omega) (by omega) ?_)
          repeat (first|refine q4 tab rfl rfl ?_|refine q5 ?_|refine q6 ?_|refine q7 ?_)
          exact ⟨j2 - 1, (by repeat (first|exact trivial|refine And.intro rfl ?_)), (by repeat (first|exact trivial|refine And.intro rfl ?_)), rfl, rfl, (by repeat (exact List.Sublist.refl _)), ⟨by omega, hP2.right (by omega) hc2⟩, by omega⟩
        | false =>
          repeat (first|refine q1 ?_|refine q3 ?_|refine q4 tab rfl rfl ?_|refine q5 ?_|refine q6 ?_|refine q10 ?_|refine q11 ?_|refine q14 ?_|refine q17 rfl ?_)
          refine TC.condP rfl (fun hgt => ?_) (fun hgt => ?_)
          · repeat (first|refine q1 ?_|refine q3 ?_|refine q4 tab rfl rfl ?_|refine q5 ?_|refine q6 ?_|refine q10 ?_|refine q11 ?_|refine q12 rfl ?_|refine q14 ?_|refine q15 ?_)
            refine retQ_ret rfl (L' := chR bd ws :: L) (by repeat (exact List.Sublist.refl _)) ⟨rfl, ws, i, j2, rfl, hP2, by omega, rfl⟩
          · have hpair : ltC (gk ws a) (gk ws i) = true ∧ ltC (gk ws a) (gk ws j2) = false := by
              constructor
              · first | exact hc1 | (exfalso; omega)
              · first | exact hc2 | (exfalso; omega)
            obtain ⟨hN, hlt⟩ := hP2.swap (by omega) (by omega) hpair.1 hpair.2
            repeat (first|refine q1 ?_|refine q6 ?_|refine q13 ?_)
            refine TC.draw [13, 14, 15] mixed 16 rfl [chR bd ws] L (by first | exact List.Perm.refl _ | (rw [List.append_nil]; exact List.Perm.refl _)) ?_
            refine DO.pure tab (by repeat (first|exact Calm.ret|refine Calm.then ?_|refine Calm.block ?_)) (by kernel_rfl) [0, 1, 2, 3, 4, 5] (by kernel_rfl) rfl ?_
            refine DO.indexP (sz := 2) tab 6 j2 (by repeat (first|exact Calm.ret|refine Calm.then ?_|refine Calm.block ?_)) (by kernel_rfl) (by kernel_rfl) rfl rfl rfl rfl rfl rfl rfl rfl rfl (by omega) ?_
            refine DO.loadE (jj := 0) tab 7 0 rCh (gk_get (xs := ws) (k := j2) (by omega)) (by simp only [rCh]; omega) (fun _ => rfl) (by repeat (first|exact Calm.ret|refine Calm.then ?_|refine Calm.block ?_)) (by kernel_rfl) (by kernel_rfl) rfl rfl rfl rfl rfl rfl rfl ?_
            refine DO.pure tab (by repeat (first|exact Calm.ret|refine Calm.then ?_|refine Calm.block ?_)) (by kernel_rfl) [8, 9] (by kernel_rfl) rfl ?_
            refine DO.indexP (sz := 2) tab 10 i (by repeat (first|exact Calm.ret|refine Calm.then ?_|refine Calm.block ?_)) (by kernel_rfl) (by kernel_rfl) rfl rfl rfl rfl rfl rfl rfl rfl rfl (by omega) ?_
            refine DO.loadE (jj := 0) tab 11 0 rCh (gk_get (xs := ws) (k := i) (by omega)) (by simp only [rCh]; omega) (fun _ => rfl) (by repeat (first|exact Calm.ret|refine Calm.then ?_|refine Calm.block ?_)) (by kernel_rfl) (by kernel_rfl) rfl rfl rfl rfl rfl rfl rfl ?_
            refine DO.indexP (sz := 2) tab 12 i (by repeat (first|exact Calm.ret|refine Calm.then ?_|refine Calm.block ?_)) (by kernel_rfl) (by kernel_rfl) rfl rfl rfl rfl rfl rfl rfl rfl rfl (by omega) ?_
            refine DO.tail ?_
            refine DOt.run 13 rfl rfl (by kernel_rfl) rfl ?_
            refine OT.storeE (h2 := gk ws j2) tab 0 rCh (gk_get (xs := ws) (k := i) (by omega)) (j := 0) (by simp only [rCh]; omega) (fun _ => rfl) (Nat.le_refl _) rfl rfl rfl rfl rfl rfl rfl ?_
            refine DOt.run 14 rfl rfl (by kernel_rfl) rfl ?_
            refine OT.indexP (sz := 2) tab j2 rfl rfl rfl rfl rfl rfl rfl (by omega) ?_
            refine DOt.run 15 rfl rfl (by kernel_rfl) rfl ?_
            refine OT.storeE (h2 := gk ws i) (h := gk (List.set ws i (gk ws j2)) j2) tab 0 rCh (k := j2) (gk_get (by simp; omega)) (j := 0) (by simp only [rCh]; omega) (fun _ => rfl) (Nat.le_refl _) rfl rfl rfl rfl rfl rfl rfl ?_
            refine DOt.nil (by kernel_rfl) ?_
            rotate_left 1
            repeat (first|refine q1 ?_|refine q3 ?_|refine q4 tab rfl rfl ?_|refine q6 ?_)
            refine TO.step rfl (OT.arith (r' := ((i + 1 : Nat) : Int)) rfl rfl rfl rfl rfl rfl rfl (by omega) ?_)
            repeat (first|refine q3 ?_|refine q4 tab rfl rfl ?_|refine q5 ?_|refine q6 ?_)
            refine TO.step rfl (OT.arith (r' := ((j2 - 1 : Nat) : Int)) rfl rfl rfl rfl rfl rfl (by omega) (by omega) ?_)
            repeat (first|refine q4 tab rfl rfl ?_|refine q5 ?_|refine q6 ?_|refine q7 ?_)
            exact ⟨(i + 1, j2 - 1, sw ws i j2), (by repeat (first|exact trivial|refine And.intro rfl ?_)), (by repeat (first|exact trivial|refine And.intro rfl ?_)), rfl, rfl, (by repeat (exact List.Sublist.refl _)), hN, by simp only; omega⟩
      · have hc2 : j2 < i := by omega
        repeat (first|refine q1 ?_|refine q3 ?_|refine q4 tab rfl rfl ?_|refine q5 ?_|refine q6 ?_|refine q10 ?_|refine q11 ?_|refine q14 ?_|refine q17 rfl ?_)
        refine TC.condP rfl (fun hgt => ?_) (fun hgt => ?_)
        · repeat (first|refine q1 ?_|refine q3 ?_|refine q4 tab rfl rfl ?_|refine q5 ?_|refine q6 ?_|refine q10 ?_|refine q11 ?_|refine q12 rfl ?_|refine q14 ?_|refine q15 ?_)
          refine retQ_ret rfl (L' := chR bd ws :: L) (by repeat (exact List.Sublist.refl _)) ⟨rfl, ws, i, j2, rfl, hP2, by omega, rfl⟩
        · have hpair : ltC (gk ws a) (gk ws i) = true ∧ ltC (gk ws a) (gk ws j2) = false := by
            constructor
            · first | exact hc1 | (exfalso; omega)
            · first | exact hc2 | (exfalso; omega)
          obtain ⟨hN, hlt⟩ := hP2.swap (by omega) (by omega) hpair.1 hpair.2
          repeat (first|refine q1 ?_|refine q6 ?_|refine q13 ?_)
          refine TC.draw [13, 14, 15] mixed 16 rfl [chR bd ws] L (by first | exact List.Perm.refl _ | (rw [List.append_nil]; exact List.Perm.refl _)) ?_
          refine DO.pure tab (by repeat (first|exact Calm.ret|refine Calm.then ?_|refine Calm.block ?_)) (by kernel_rfl) [0, 1, 2, 3, 4, 5] (by kernel_rfl) rfl ?_
          refine DO.indexP (sz := 2) tab 6 j2 (by repeat (first|exact Calm.ret|refine Calm.then ?_|refine Calm.block ?_)) (by kernel_rfl) (by kernel_rfl) rfl rfl rfl rfl rfl rfl rfl rfl rfl (by omega) ?_
          refine DO.loadE (jj := 0) tab 7 0 rCh (gk_get (xs := ws) (k := j2) (by omega)) (by simp only [rCh]; omega) (fun _ => rfl) (by repeat (first|exact Calm.ret|refine Calm.then ?_|refine Calm.block ?_)) (by kernel_rfl) (by kernel_rfl) rfl rfl rfl rfl rfl rfl rfl ?_
          refine DO.pure tab (by repeat (first|exact Calm.ret|refine Calm.then ?_|refine Calm.block ?_)) (by kernel_rfl) [8, 9] (by kernel_rfl) rfl ?_
          refine DO.indexP (sz := 2) tab 10 i (by repeat (first|exact Calm.ret|refine Calm.then ?_|refine Calm.block ?_)) (by kernel_rfl) (by kernel_rfl) rfl rfl rfl rfl rfl rfl rfl rfl rfl (by omega) ?_
          refine DO.loadE (jj := 0) tab 11 0 rCh (gk_get (xs := ws) (k := i) (by omega)) (by simp only [rCh]; omega) (fun _ => rfl) (by repeat (first|exact Calm.ret|refine Calm.then ?_|refine Calm.block ?_)) (by kernel_rfl) (by kernel_rfl) rfl rfl rfl rfl rfl rfl rfl ?_
          refine DO.indexP (sz := 2) tab 12 i (by repeat (first|exact Calm.ret|refine Calm.then ?_|refine Calm.block ?_)) (by kernel_rfl) (by kernel_rfl) rfl rfl rfl rfl rfl rfl rfl rfl rfl (by omega) ?_
          refine DO.tail ?_
          refine DOt.run 13 rfl rfl (by kernel_rfl) rfl ?_
          refine OT.storeE (h2 := gk ws j2) tab 0 rCh (gk_get (xs := ws) (k := i) (by omega)) (j := 0) (by simp only [rCh]; omega) (fun _ => rfl) (Nat.le_refl _) rfl rfl rfl rfl rfl rfl rfl ?_
          refine DOt.run 14 rfl rfl (by kernel_rfl) rfl ?_
          refine OT.indexP (sz := 2) tab j2 rfl rfl rfl rfl rfl rfl rfl (by omega) ?_
          refine DOt.run 15 rfl rfl (by kernel_rfl) rfl ?_
          refine OT.storeE (h2 := gk ws i) (h := gk (List.set ws i (gk ws j2)) j2) tab 0 rCh (k := j2) (gk_get (by simp; omega)) (j := 0) (by simp only [rCh]; omega) (fun _ => rfl) (Nat.le_refl _) rfl rfl rfl rfl rfl rfl rfl ?_
          refine DOt.nil (by kernel_rfl) ?_
          rotate_left 1
          repeat (first|refine q1 ?_|refine q3 ?_|refine q4 tab rfl rfl ?_|refine q6 ?_)
          refine TO.step rfl (OT.arith (r' := ((i + 1 : Nat) : Int)) rfl rfl rfl rfl rfl rfl rfl (by omega) ?_)
          repeat (first|refine q3 ?_|refine q4 tab rfl rfl ?_|refine q5 ?_|refine q6 ?_)
          refine TO.step rfl (OT.arith (r' := ((j2 - 1 : Nat) : Int)) rfl rfl rfl rfl rfl rfl (by omega) (by omega) ?_)
          repeat (first|refine q4 tab rfl rfl ?_|refine q5 ?_|refine q6 ?_|refine q7 ?_)
          exact ⟨(i + 1, j2 - 1, sw ws i j2), (by repeat (first|exact trivial|refine And.intro rfl ?_)), (by repeat (first|exact trivial|refine And.intro rfl ?_)), rfl, rfl, (by repeat (exact List.Sublist.refl _)), hN, by simp only; omega⟩
  · have hc1 : j < i := by omega
    repeat (first|refine q1 ?_|refine q2 ?_|refine q6 ?_|refine q10 ?_|refine q11 ?_|refine q14 ?_|refine q17 rfl ?_)
    refine TC.loopK (ι := Nat) [0, 1, 4, 11] rfl (fun j => [(12, .int .i64 (j : Int))]) (fun _ => m) (fun _ => chR bd ws :: L) (fun j2 => j2 ≤ j ∧ PeI ltC (sw xs a p) a b i j2 ws) (fun j => j) j (by repeat (first|exact trivial|refine And.intro rfl ?_)) rfl (by repeat (exact List.Sublist.refl _)) ⟨Nat.le_refl _, hP⟩ ?_
    rintro j2 ⟨hj2, hP2⟩
    have hr2 := hP2.rng
    repeat (refine q1 ?_)
    refine TC.draw [] mixed 16 rfl [chR bd ws] L (by first | exact List.Perm.refl _ | (rw [List.append_nil]; exact List.Perm.refl _)) ?_
    refine DO.pure tab (by repeat (first|exact Calm.ret|refine Calm.then ?_|refine Calm.block ?_)) (by kernel_rfl) [0, 1, 2, 3] (by kernel_rfl) rfl ?_
    (refine DO.splitP (d := 53) rfl (fun hg3 => ?_) (fun hg3 => ?_))
    refine DO.pure tab (by repeat (first|exact Calm.ret|refine Calm.then ?_|refine Calm.block ?_)) (by kernel_rfl) [4, 5, 6] (by kernel_rfl) rfl ?_
    refine DO.indexP (sz := 2) tab 7 a (by repeat (first|exact Calm.ret|refine Calm.then ?_|refine Calm.block ?_)) (by kernel_rfl) (by kernel_rfl) rfl rfl rfl rfl rfl rfl rfl rfl rfl (by omega) ?_
    refine DO.loadE (jj := 0) tab 8 0 rCh (gk_get (xs := ws) (k := a) (by omega)) (by simp only [rCh]; omega) (fun _ => rfl) (by repeat (first|exact Calm.ret|refine Calm.then ?_|refine Calm.block ?_)) (by kernel_rfl) (by kernel_rfl) rfl rfl rfl rfl rfl rfl rfl ?_
    refine DO.pure tab (by repeat (first|exact Calm.ret|refine Calm.then ?_|refine Calm.block ?_)) (by kernel_rfl) [9, 10] (by kernel_rfl) rfl ?_
    refine DO.indexP (sz := 2) tab 11 j2 (by repeat (first|exact Calm.ret|refine Calm.then ?_|refine Calm.block ?_)) (by kernel_rfl) (by kernel_rfl) rfl rfl rfl rfl rfl rfl rfl rfl rfl (by omega) ?_
    refine DO.loadE (jj := 0) tab 12 0 rCh (gk_get (xs := ws) (k := j2) (by omega)) (by simp only [rCh]; omega) (fun _ => rfl) (by repeat (first|exact Calm.ret|refine Calm.then ?_|refine Calm.block ?_)) (by kernel_rfl) (by kernel_rfl) rfl rfl rfl rfl rfl rfl rfl ?_
    refine DO.run 13 rfl rfl (by kernel_rfl) rfl (OT.call rfl rfl rfl rfl rfl rfl goes23 ((chcmp_law m _ (gk ws a) (gk ws j2) (hD.gk (by omega)) (hD.gk (by omega))).x ?_))
    rintro _ _ _ ⟨rfl, rfl, rfl⟩; refine ⟨Mem.le_refl _, _, List.Perm.refl _, ?_⟩
    refine DO.pure tab (by repeat (first|exact Calm.ret|refine Calm.then ?_|refine Calm.block ?_)) (by kernel_rfl) [14, 15] (by kernel_rfl) rfl ?_
    (refine DO.nil (by kernel_rfl) ?_)
    rotate_left 1
    refine DO.pure tab (by repeat (first|exact Calm.ret|refine Calm.then ?_|refine Calm.block ?_)) (by kernel_rfl) [4, 5, 6, 7, 8, 9, 10, 11, 12, 13, 14, 15] (by kernel_rfl) rfl ?_
    (refine DO.nil (by kernel_rfl) ?_)
    rotate_left 1
    · repeat (refine q6 ?_)
      simp only [ch_dec]
      cases hc2 : ltC (gk ws a) (gk ws j2) with
      | true =>
        repeat (first|refine q2 ?_|refine q3 ?_|refine q4 tab rfl rfl ?_|refine q6 ?_|refine q13 ?_|refine q16 rfl ?_)
        refine TO.step rfl (OT.arith (r' := ((j2 - 1 : Nat) : Int)) rfl rfl rfl rfl rfl rfl (by omega) (by omega) ?_)
        repeat (first|refine q4 tab rfl rfl ?_|refine q5 ?_|refine q6 ?_|refine q7 ?_)
        exact ⟨j2 - 1, (by repeat (first|exact trivial|refine And.intro rfl ?_)), (by repeat (first|exact trivial|refine And.intro rfl ?_)), rfl, rfl, (by repeat (exact List.Sublist.refl _)), ⟨by omega, hP2.right (by omega) hc2⟩, by omega⟩
      | false =>
        repeat (first|refine q1 ?_|refine q3 ?_|refine q4 tab rfl rfl ?_|refine q5 ?_|refine q6 ?_|refine q10 ?_|refine q11 ?_|refine q14 ?_|refine q17 rfl ?_)
        refine TC.condP rfl (fun hgt => ?_) (fun hgt => ?_)
        · repeat (first|refine q1 ?_|refine q3 ?_|refine q4 tab rfl rfl ?_|refine q5 ?_|refine q6 ?_|refine q10 ?_|refine q11 ?_|refine q12 rfl ?_|refine q14 ?_|refine q15 ?_)
          refine retQ_ret rfl (L' := chR bd ws :: L) (by repeat (exact List.Sublist.refl _)) ⟨rfl, ws, i, j2, rfl, hP2, by omega, rfl⟩
        · have hpair : ltC (gk ws a) (gk ws i) = true ∧ ltC (gk ws a) (gk ws j2) = false := by
            constructor
            · first | exact hc1 | (exfalso; omega)
            · first | exact hc2 | (exfalso; omega)
          obtain ⟨hN, hlt⟩ := hP2.swap (by omega) (by omega) hpair.1 hpair.2
          repeat (first|refine q1 ?_|refine q6 ?_|refine q13 ?_)
          refine TC.draw [13, 14, 15] mixed 16 rfl [chR bd ws] L (by first | exact List.Perm.refl _ | (rw [List.append_nil]; exact List.Perm.refl _)) ?_
          refine DO.pure tab (by repeat (first|exact Calm.ret|refine Calm.then ?_|refine Calm.block ?_)) (by kernel_rfl) [0, 1, 2, 3, 4, 5] (by kernel_rfl) rfl ?_
          refine DO.indexP (sz := 2) tab 6 j2 (by repeat (first|exact Calm.ret|refine Calm.then ?_|refine Calm.block ?_)) (by kernel_rfl) (by kernel_rfl) rfl rfl rfl rfl rfl rfl rfl rfl rfl (by omega) ?_
          refine DO.loadE (jj := 0) tab 7 0 rCh (gk_get (xs := ws) (k := j2) (by omega)) (by simp only [rCh]; omega) (fun _ => rfl) (by repeat (first|exact Calm.ret|refine Calm.then ?_|refine Calm.block ?_)) (by kernel_rfl) (by kernel_rfl) rfl rfl rfl rfl rfl rfl rfl ?_
          refine DO.pure tab (by repeat (first|exact Calm.ret|refine Calm.then ?_|refine Calm.block ?_)) (by kernel_rfl) [8, 9] (by kernel_rfl) rfl ?_
          refine DO.indexP (sz := 2) tab 10 i (by repeat (first|exact Calm.ret|refine Calm.then ?_|refine Calm.block ?_)) (by kernel_rfl) (by kernel_rfl) rfl rfl rfl rfl rfl rfl rfl rfl rfl (by omega) ?_
          refine DO.loadE (jj := 0) tab 11 0 rCh (gk_get (xs := ws) (k := i) (by omega)) (by simp only [rCh]; omega) (fun _ => rfl) (by repeat (first|exact Calm.ret|refine Calm.then ?_|refine Calm.block ?_)) (by kernel_rfl) (by kernel_rfl) rfl rfl rfl rfl rfl rfl rfl ?_
          refine DO.indexP (sz := 2) tab 12 i (by repeat (first|exact Calm.ret|refine Calm.then ?_|refine Calm.block ?_)) (by kernel_rfl) (by kernel_rfl) rfl rfl rfl rfl rfl rfl rfl rfl rfl (by omega) ?_
          refine DO.tail ?_
          refine DOt.run 13 rfl rfl (by kernel_rfl) rfl ?_
          refine OT.storeE (h2 := gk ws j2) tab 0 rCh (gk_get (xs := ws) (k := i) (by omega)) (j := 0) (by simp only [rCh]; omega) (fun _ => rfl) (Nat.le_refl _) rfl rfl rfl rfl rfl rfl rfl ?_
          refine DOt.run 14 rfl rfl (by kernel_rfl) rfl ?_
          refine OT.indexP (sz := 2) tab j2 rfl rfl rfl rfl rfl rfl rfl (by omega) ?_
          refine DOt.run 15 rfl rfl (by kernel_rfl) rfl ?_
          refine OT.storeE (h2 := gk ws i) (h := gk (List.set ws i (gk ws j2)) j2) tab 0 rCh (k := j2) (gk_get (by simp; omega)) (j := 0) (by simp only [rCh]; omega) (fun _ => rfl) (Nat.le_refl _) rfl rfl rfl rfl rfl rfl rfl ?_
          refine DOt.nil (by kernel_rfl) ?_
          rotate_left 1
          repeat (first|refine q1 ?_|refine q3 ?_|refine q4 tab rfl rfl ?_|refine q6 ?_)
          refine TO.step rfl (OT.arith (r' := ((i + 1 : Nat) : Int)) rfl rfl rfl rfl rfl rfl rfl (by omega) ?_)
          repeat (first|refine q3 ?_|refine q4 tab rfl rfl ?_|refine q5 ?_|refine q6 ?_)
          refine TO.step rfl (OT.arith (r' := ((j2 - 1 : Nat) : Int)) rfl rfl rfl rfl rfl rfl (by omega) (by omega) ?_)
          repeat (first|refine q4 tab rfl rfl ?_|refine q5 ?_|refine q6 ?_|refine q7 ?_)
          exact ⟨(i + 1, j2 - 1, sw ws i j2), (by repeat (first|exact trivial|refine And.intro rfl ?_)), (by repeat (first|exact trivial|refine And.intro rfl ?_)), rfl, rfl, (by repeat (exact List.Sublist.refl _)), hN, by simp only; omega⟩
    · have hc2 : j2 < i := by omega
      repeat (first|refine q1 ?_|refine q3 ?_|refine q4 tab rfl rfl ?_|refine q5 ?_|refine q6 ?_|refine q10 ?_|refine q11 ?_|refine q14 ?_|refine q17 rfl ?_)
      refine TC.condP rfl (fun hgt => ?_) (fun hgt => ?_)
      · repeat (first|refine q1 ?_|refine q3 ?_|refine q4 tab rfl rfl ?_|refine q5 ?_|refine q6 ?_|refine q10 ?_|refine q11 ?_|refine q12 rfl ?_|refine q14 ?_|refine q15 ?_)
        refine retQ_ret rfl (L' := chR bd ws :: L) (by repeat (exact List.Sublist.refl _)) ⟨rfl, ws, i, j2, rfl, hP2, by omega, rfl⟩
      · have hpair : ltC (gk ws a) (gk ws i) = true ∧ ltC (gk ws a) (gk ws j2) = false := by
          constructor
          · first | exact hc1 | (exfalso; omega)
          · first | exact hc2 | (exfalso; omega)
        obtain ⟨hN, hlt⟩ := hP2.swap (by omega) (by omega) hpair.1 hpair.2
        repeat (first|refine q1 ?_|refine q6 ?_|refine q13 ?_)
        refine TC.draw [13, 14, 15] mixed 16 rfl [chR bd ws] L (by first | exact List.Perm.refl _ | (rw [List.append_nil]; exact List.Perm.refl _)) ?_
        refine DO.pure tab (by repeat (first|exact Calm.ret|refine Calm.then ?_|refine Calm.block ?_)) (by kernel_rfl) [0, 1, 2, 3, 4, 5] (by kernel_rfl) rfl ?_
        refine DO.indexP (sz := 2) tab 6 j2 (by repeat (first|exact Calm.ret|refine Calm.then ?_|refine Calm.block ?_)) (by kernel_rfl) (by kernel_rfl) rfl rfl rfl rfl rfl rfl rfl rfl rfl (by omega) ?_
        refine DO.loadE (jj := 0) tab 7 0 rCh (gk_get (xs := ws) (k := j2) (by omega)) (by simp only [rCh]; omega) (fun _ => rfl) (by repeat (first|exact Calm.ret|refine Calm.then ?_|refine Calm.block ?_)) (by kernel_rfl) (by kernel_rfl) rfl rfl rfl rfl rfl rfl rfl ?_
        refine DO.pure tab (by repeat (first|exact Calm.ret|refine Calm.then ?_|refine Calm.block ?_)) (by kernel_rfl) [8, 9] (by kernel_rfl) rfl ?_
        refine DO.indexP (sz := 2) tab 10 i (by repeat (first|exact Calm.ret|refine Calm.then ?_|refine Calm.block ?_)) (by kernel_rfl) (by kernel_rfl) rfl rfl rfl rfl rfl rfl rfl rfl rfl (by omega) ?_
        refine DO.loadE (jj := 0) tab 11 0 rCh (gk_get (xs := ws) (k := i) (by omega)) (by simp only [rCh]; omega) (fun _ => rfl) (by repeat (first|exact Calm.ret|refine Calm.then ?_|refine Calm.block ?_)) (by kernel_rfl) (by kernel_rfl) rfl rfl rfl rfl rfl rfl rfl ?_
        refine DO.indexP (sz := 2) tab 12 i (by repeat (first|exact Calm.ret|refine Calm.then ?_|refine Calm.block ?_)) (by kernel_rfl) (by kernel_rfl) rfl rfl rfl rfl rfl rfl rfl rfl rfl (by omega) ?_
        refine DO.tail ?_
        refine DOt.run 13 rfl rfl (by kernel_rfl) rfl ?_
        refine OT.storeE (h2 := gk ws j2) tab 0 rCh (gk_get (xs := ws) (k := i) (by omega)) (j := 0) (by simp only [rCh]; omega) (fun _ => rfl) (Nat.le_refl _) rfl rfl rfl rfl rfl rfl rfl ?_
        refine DOt.run 14 rfl rfl (by kernel_rfl) rfl ?_
        refine OT.indexP (sz := 2) tab j2 rfl rfl rfl rfl rfl rfl rfl (by omega) ?_
        refine DOt.run 15 rfl rfl (by kernel_rfl) rfl ?_
        refine OT.storeE (h2 := gk ws i) (h := gk (List.set ws i (gk ws j2)) j2) tab 0 rCh (k := j2) (gk_get (by simp; omega)) (j := 0) (by simp only [rCh]; omega) (fun _ => rfl) (Nat.le_refl _) rfl rfl rfl rfl rfl rfl rfl ?_
        refine DOt.nil (by kernel_rfl) ?_
        rotate_left 1
        repeat (first|refine q1 ?_|refine q3 ?_|refine q4 tab rfl rfl ?_|refine q6 ?_)
        refine TO.step rfl (OT.arith (r' := ((i + 1 : Nat) : Int)) rfl rfl rfl rfl rfl rfl rfl (by omega) ?_)
        repeat (first|refine q3 ?_|refine q4 tab rfl rfl ?_|refine q5 ?_|refine q6 ?_)
        refine TO.step rfl (OT.arith (r' := ((j2 - 1 : Nat) : Int)) rfl rfl rfl rfl rfl rfl (by omega) (by omega) ?_)
        repeat (first|refine q4 tab rfl rfl ?_|refine q5 ?_|refine q6 ?_|refine q7 ?_)
        exact ⟨(i + 1, j2 - 1, sw ws i j2), (by repeat (first|exact trivial|refine And.intro rfl ?_)), (by repeat (first|exact trivial|refine And.intro rfl ?_)), rfl, rfl, (by repeat (exact List.Sublist.refl _)), hN, by simp only; omega⟩
end Go.Sep

/-
  Changes sorted in place: what is almost in order.
-/
set_option linter.unusedVariables false
set_option linter.unusedSimpArgs false
namespace Go.Sep
open Go.Proofs
attribute [local irreducible] TC TO OT TCallX TCall DO DOt thenQ blockQ retQ At
set_option maxHeartbeats 4000000 in
theorem partial_ch (m : Mem) (L : List Item) (bd c a b : Nat) (xs : List Ch) (hD0 : DomC xs) (hab : a < b) (hl : b ≤ xs.length) (hlim : xs.length ≤ 1000000) (hL : Low ltC xs a b) :
    TCall Try.prog 42 ⟨[.slice (some ⟨bd, 0, none⟩) xs.length c, .int .i64 (a : Int), .int .i64 (b : Int), chF]⟩ m (chR bd xs :: L) (fun r m' L' => m = m' ∧ ∃ ys bv, r = .bool bv ∧ Sg a b xs ys ∧ (bv = true → Sn ltC ys a b) ∧ chR bd ys :: L = L') := by
  unfold TCall
  refine TCallX.enter Try.func42 rfl 141 rfl ?_
  repeat (first|refine q1 ?_|refine q3 ?_|refine q4 tab rfl rfl ?_|refine q5 ?_|refine q6 ?_)
  refine TO.step rfl (OT.arith (r' := ((a + 1 : Nat) : Int)) rfl rfl rfl rfl rfl rfl rfl (by omega) ?_)
  repeat (first|refine q1 ?_|refine q2 ?_|refine q3 ?_|refine q4 tab rfl rfl ?_|refine q5 ?_|refine q6 ?_)
  refine TC.loopK (ι := Nat × Nat × List Ch) [0, 1, 2, 3] rfl (fun x => [(10, .int .i64 (x.1 : Int)), (9, .int .i64 (x.2.1 : Int))]) (fun _ => m) (fun x => chR bd x.2.2 :: L) (fun x => x.1 ≤ 5 ∧ a + 1 ≤ x.2.1 ∧ x.2.1 ≤ b ∧ Sg a b xs x.2.2 ∧ Sn ltC x.2.2 a x.2.1) (fun x => 5 - x.1) (0, a + 1, xs) (by repeat (first|exact trivial|refine And.intro rfl ?_)) rfl (by repeat (exact List.Sublist.refl _)) ⟨by simp only; omega, Nat.le_refl _, by simp only; omega, Sg.refl _ _ _, fun i j h1 h2 h3 => by simp only at h3; omega⟩ ?_
  rintro ⟨q, i, ys⟩ ⟨hq, hi0, hi1, hS, hO⟩
  simp only at hq hi0 hi1 hS hO ⊢
  have hyl := hS.len
  repeat (first|refine q1 ?_|refine q3 ?_|refine q4 tab rfl rfl ?_|refine q5 ?_|refine q6 ?_)
  refine TC.condP rfl (fun hq5 => ?_) (fun hq5 => ?_)
  · have hD : DomC ys := hD0.perm hS.perm
    repeat (first|refine q1 ?_|refine q6 ?_|refine q13 ?_)
    refine TC.block ?_
    repeat (refine q1 ?_)
    refine TC.cutT (ι := Nat) [0, 1, 2, 3, 10] rfl (fun k => [(9, .int .i64 (k : Int))]) (fun _ => m) (fun _ => chR bd ys :: L) (fun k => a + 1 ≤ k ∧ k ≤ b ∧ Sn ltC ys a k ∧ (k < b → ltC (gk ys k) (gk ys (k - 1)) = true)) ?_ (fun k hk => ?_)
    · repeat (refine q2 ?_)
      refine TC.loopK (ι := Nat) [0, 1, 2, 3, 10] rfl (fun k => [(9, .int .i64 (k : Int))]) (fun _ => m) (fun _ => chR bd ys :: L) (fun k => a + 1 ≤ k ∧ k ≤ b ∧ Sn ltC ys a k) (fun k => b - k) i (by repeat (first|exact trivial|refine And.intro rfl ?_)) rfl (by repeat (exact List.Sublist.refl _)) ⟨hi0, hi1, hO⟩ ?_
      clear hi0 hi1 hO
      rintro i ⟨hi0, hi1, hO⟩
      repeat (refine q1 ?_)
      refine TC.draw [] mixed 18 rfl [chR bd ys] L (by first | exact List.Perm.refl _ | (rw [List.append_nil]; exact List.Perm.refl _)) ?_
      refine DO.pure tab (by repeat (first|exact Calm.ret|refine Calm.then ?_|refine Calm.block ?_)) (by kernel_rfl) [0, 1, 2, 3] (by kernel_rfl) rfl ?_
      (refine DO.splitP (d := 22) rfl (fun hg3 => ?_) (fun hg3 => ?_))
      refine DO.pure tab (by repeat (first|exact Calm.ret|refine Calm.then ?_|refine Calm.block ?_)) (by kernel_rfl) [4, 5, 6] (by kernel_rfl) rfl ?_
      refine DO.indexP (sz := 2) tab 7 i (by repeat (first|exact Calm.ret|refine Calm.then ?_|refine Calm.block ?_)) (by kernel_rfl) (by kernel_rfl) rfl rfl rfl rfl rfl rfl rfl rfl rfl (by omega) ?_
      refine DO.loadE (jj := 0) tab 8 0 rCh (gk_get (xs := ys) (k := i) (by omega)) (by simp only [rCh]; omega) (fun _ => rfl) (by repeat (first|exact Calm.ret|refine Calm.then ?_|refine Calm.block ?_)) (by kernel_rfl) (by kernel_rfl) rfl rfl rfl rfl rfl rfl rfl ?_
      refine DO.pure tab (by repeat (first|exact Calm.ret|refine Calm.then ?_|refine Calm.block ?_)) (by kernel_rfl) [9, 10] (by kernel_rfl) rfl ?_
      refine DO.arith 11 (r' := (((i - 1) : Nat) : Int)) (by repeat (first|exact Calm.ret|refine Calm.then ?_|refine Calm.block ?_)) (by kernel_rfl) (by kernel_rfl) rfl rfl rfl rfl rfl rfl rfl rfl (by first | rfl | omega | (simp only; omega)) (by omega) ?_
      refine DO.indexP (sz := 2) tab 12 (i - 1) (by repeat (first|exact Calm.ret|refine Calm.then ?_|refine Calm.block ?_)) (by kernel_rfl) (by kernel_rfl) rfl rfl rfl rfl rfl rfl rfl rfl rfl (by omega) ?_
      refine DO.loadE (jj := 0) tab 13 0 rCh (gk_get (xs := ys) (k := (i - 1)) (by omega)) (by simp only [rCh]; omega) (fun _ => rfl) (by repeat (first|exact Calm.ret|refine Calm.then ?_|refine Calm.block ?_)) (by kernel_rfl) (by kernel_rfl) rfl rfl rfl rfl rfl rfl rfl ?_
      refine DO.run 14 rfl rfl (by kernel_rfl) rfl (OT.call rfl rfl rfl rfl rfl rfl goes23 ((chcmp_law m _ (gk ys i) (gk ys (i - 1)) (hD.gk (by omega)) (hD.gk (by omega))).x ?_))
      rintro _ _ _ ⟨rfl, rfl, rfl⟩; refine ⟨Mem.le_refl _, _, List.Perm.refl _, ?_⟩
      refine DO.pure tab (by repeat (first|exact Calm.ret|refine Calm.then ?_|refine Calm.block ?_)) (by kernel_rfl) [15, 16, 17] (by kernel_rfl) rfl ?_
      (refine DO.nil (by kernel_rfl) ?_)
      rotate_left 1
      refine DO.pure tab (by repeat (first|exact Calm.ret|refine Calm.then ?_|refine Calm.block ?_)) (by kernel_rfl) [4, 5, 6, 7, 8, 9, 10, 11, 12, 13, 14, 15, 16, 17] (by kernel_rfl) rfl ?_
      (refine DO.nil (by kernel_rfl) ?_)
      rotate_left 1
      · repeat (refine q6 ?_)
        simp only [ch_dec]
        cases hc : ltC (gk ys i) (gk ys (i - 1)) with
        | false =>
          repeat (first|refine q2 ?_|refine q3 ?_|refine q4 tab rfl rfl ?_|refine q6 ?_|refine q13 ?_|refine q16 rfl ?_)
          refine TO.step rfl (OT.arith (r' := ((i + 1 : Nat) : Int)) rfl rfl rfl rfl rfl rfl rfl (by omega) ?_)
          repeat (first|refine q4 tab rfl rfl ?_|refine q5 ?_|refine q6 ?_|refine q7 ?_)
          refine ⟨i + 1, (by repeat (first|exact trivial|refine And.intro rfl ?_)), (by repeat (first|exact trivial|refine And.intro rfl ?_)), rfl, rfl, (by repeat (exact List.Sublist.refl _)), ⟨by omega, by omega, fun s t h1 h2 h3 => ?_⟩, by omega⟩
          by_cases e : t = i
          · by_cases e2 : s = i - 1
            · rw [e, e2]; exact hc
            · rw [e]; exact ltC_ord.trans _ _ _ (hO s (i - 1) h1 (by omega) (by omega)) hc
          · exact hO s t h1 h2 (by omega)
        | true =>
          repeat (first|refine q6 ?_|refine q10 ?_|refine q11 ?_|refine q14 ?_|refine q17 rfl ?_)
          exact ⟨i, (by repeat (first|exact trivial|refine And.intro rfl ?_)), (by repeat (first|exact trivial|refine And.intro rfl ?_)), rfl, rfl, (by repeat (exact List.Sublist.refl _)), hi0, hi1, hO, fun _ => hc⟩
      · repeat (first|refine q6 ?_|refine q10 ?_|refine q11 ?_|refine q14 ?_|refine q17 rfl ?_)
        exact ⟨i, (by repeat (first|exact trivial|refine And.intro rfl ?_)), (by repeat (first|exact trivial|refine And.intro rfl ?_)), rfl, rfl, (by repeat (exact List.Sublist.refl _)), hi0, hi1, hO, fun h => by omega⟩
    · clear hi0 hi1 hO
      obtain ⟨i, hki⟩ : ∃ i, i = k := ⟨_, rfl⟩
      rw [← hki] at hk ⊢
      clear hki
      obtain ⟨hi0, hi1, hO, hlt⟩ := hk
      repeat (first|refine q1 ?_|refine q3 ?_|refine q4 tab rfl rfl ?_|refine q5 ?_|refine q6 ?_)
      refine TC.condP rfl (fun heq => ?_) (fun heq => ?_)
      · repeat (first|refine q1 ?_|refine q3 ?_|refine q4 tab rfl rfl ?_|refine q5 ?_|refine q6 ?_|refine q8 ?_|refine q9 ?_|refine q15 ?_)
        refine retQ_ret rfl (L' := chR bd ys :: L) (by repeat (exact List.Sublist.refl _)) ⟨rfl, ys, true, rfl, hS, fun _ => ?_, rfl⟩
        have : i = b := by omega
        rw [this] at hO; exact hO
      · repeat (first|refine q1 ?_|refine q3 ?_|refine q4 tab rfl rfl ?_|refine q6 ?_|refine q13 ?_)
        refine TO.step rfl (OT.arith (r' := ((b - a : Nat) : Int)) rfl rfl rfl rfl rfl rfl (by omega) (by omega) ?_)
        repeat (first|refine q4 tab rfl rfl ?_|refine q5 ?_|refine q6 ?_)
        refine TC.condP rfl (fun hsh => ?_) (fun hsh => ?_)
        · repeat (first|refine q1 ?_|refine q3 ?_|refine q4 tab rfl rfl ?_|refine q5 ?_|refine q6 ?_|refine q8 ?_|refine q9 ?_|refine q15 ?_)
          refine retQ_ret rfl (L' := chR bd ys :: L) (by repeat (exact List.Sublist.refl _)) ⟨rfl, ys, false, rfl, hS, (fun h => by cases h), rfl⟩
        · repeat (first|refine q1 ?_|refine q6 ?_|refine q13 ?_)
          refine TC.draw [15, 16, 17] mixed 18 rfl [chR bd ys] L (by first | exact List.Perm.refl _ | (rw [List.append_nil]; exact List.Perm.refl _)) ?_
          refine DO.pure tab (by repeat (first|exact Calm.ret|refine Calm.then ?_|refine Calm.block ?_)) (by kernel_rfl) [0, 1, 2, 3] (by kernel_rfl) rfl ?_
          refine DO.arith 4 (r' := (((i - 1) : Nat) : Int)) (by repeat (first|exact Calm.ret|refine Calm.then ?_|refine Calm.block ?_)) (by kernel_rfl) (by kernel_rfl) rfl rfl rfl rfl rfl rfl rfl rfl (by first | rfl | omega | (simp only; omega)) (by omega) ?_
          refine DO.pure tab (by repeat (first|exact Calm.ret|refine Calm.then ?_|refine Calm.block ?_)) (by kernel_rfl) [5, 6] (by kernel_rfl) rfl ?_
          refine DO.arith 7 (r' := (((i - 1) : Nat) : Int)) (by repeat (first|exact Calm.ret|refine Calm.then ?_|refine Calm.block ?_)) (by kernel_rfl) (by kernel_rfl) rfl rfl rfl rfl rfl rfl rfl rfl (by first | rfl | omega | (simp only; omega)) (by omega) ?_
          refine DO.indexP (sz := 2) tab 8 (i - 1) (by repeat (first|exact Calm.ret|refine Calm.then ?_|refine Calm.block ?_)) (by kernel_rfl) (by kernel_rfl) rfl rfl rfl rfl rfl rfl rfl rfl rfl (by omega) ?_
          refine DO.loadE (jj := 0) tab 9 0 rCh (gk_get (xs := ys) (k := (i - 1)) (by omega)) (by simp only [rCh]; omega) (fun _ => rfl) (by repeat (first|exact Calm.ret|refine Calm.then ?_|refine Calm.block ?_)) (by kernel_rfl) (by kernel_rfl) rfl rfl rfl rfl rfl rfl rfl ?_
          refine DO.pure tab (by repeat (first|exact Calm.ret|refine Calm.then ?_|refine Calm.block ?_)) (by kernel_rfl) [10, 11] (by kernel_rfl) rfl ?_
          refine DO.indexP (sz := 2) tab 12 i (by repeat (first|exact Calm.ret|refine Calm.then ?_|refine Calm.block ?_)) (by kernel_rfl) (by kernel_rfl) rfl rfl rfl rfl rfl rfl rfl rfl rfl (by omega) ?_
          refine DO.loadE (jj := 0) tab 13 0 rCh (gk_get (xs := ys) (k := i) (by omega)) (by simp only [rCh]; omega) (fun _ => rfl) (by repeat (first|exact Calm.ret|refine Calm.then ?_|refine Calm.block ?_)) (by kernel_rfl) (by kernel_rfl) rfl rfl rfl rfl rfl rfl rfl ?_
          refine DO.indexP (sz := 2) tab 14 i (by repeat (first|exact Calm.ret|refine Calm.then ?_|refine Calm.block ?_)) (by kernel_rfl) (by kernel_rfl) rfl rfl rfl rfl rfl rfl rfl rfl rfl (by omega) ?_
          refine DO.tail ?_
          refine DOt.run 15 rfl rfl (by kernel_rfl) rfl ?_
          refine OT.storeE (h2 := gk ys (i - 1)) tab 0 rCh (gk_get (xs := ys) (k := i) (by omega)) (j := 0) (by simp only [rCh]; omega) (fun _ => rfl) (Nat.le_refl _) rfl rfl rfl rfl rfl rfl rfl ?_
          refine DOt.run 16 rfl rfl (by kernel_rfl) rfl ?_
          refine OT.indexP (sz := 2) tab (i - 1) rfl rfl rfl rfl rfl rfl rfl (by omega) ?_
          refine DOt.run 17 rfl rfl (by kernel_rfl) rfl ?_
          refine OT.storeE (h2 := gk ys i) (h := gk (List.set ys i (gk ys (i - 1))) (i - 1)) tab 0 rCh (k := (i - 1)) (gk_get (by simp; omega)) (j := 0) (by simp only [rCh]; omega) (fun _ => rfl) (Nat.le_refl _) rfl rfl rfl rfl rfl rfl rfl ?_
          refine DOt.nil (by kernel_rfl) ?_
          rotate_left 1
          have hlt := hlt (by omega)
          obtain ⟨zs, hzs⟩ : ∃ zs, zs = sw ys i (i - 1) := ⟨_, rfl⟩
          have hSz0 : Sg a b ys zs := by rw [hzs]; exact Sg.sw (by omega) (by omega) (by omega)
          have hSz : Sg a b xs zs := hS.trans hSz0
          have hOz : Sn ltC zs a (i - 1) := by
            refine Sn.of (fun s t h1 h2 h3 => hO s t h1 h2 (by omega)) fun t h1 h2 => ?_
            rw [hzs, gk_sw (by omega) (by omega), if_neg (by omega), if_neg (by omega)]
          have hzl := hSz.len
          have hDz : DomC zs := hD0.perm hSz.perm
          have hLz : Low ltC zs a b := hL.seg hSz
          refine thenQ_n ?_
          refine TC.drop (L' := chR bd (sw ys i (i - 1)) :: L) (by repeat (exact List.Sublist.refl _)) ?_
          rw [← hzs]
          repeat (first|refine q1 ?_|refine q3 ?_|refine q4 tab rfl rfl ?_)
          refine TO.step rfl (OT.arith (r' := ((i - a : Nat) : Int)) rfl rfl rfl rfl rfl rfl (by omega) (by omega) ?_)
          repeat (first|refine q4 tab rfl rfl ?_|refine q5 ?_|refine q6 ?_)
          refine TC.cutT (ι := List Ch) [0, 1, 2, 3, 9, 10] rfl (fun us => []) (fun _ => m) (fun us => chR bd us :: L) (fun ws => Sg a b xs ws ∧ Sn ltC ws a i) ?_ (fun ws hws => ?_)
          · refine TC.condP rfl (fun hge => ?_) (fun hge => ?_)
            · repeat (first|refine q1 ?_|refine q3 ?_|refine q4 tab rfl rfl ?_)
              refine TO.step rfl (OT.arith (r' := ((i - 1 : Nat) : Int)) rfl rfl rfl rfl rfl rfl (by omega) (by omega) ?_)
              repeat (first|refine q2 ?_|refine q4 tab rfl rfl ?_|refine q5 ?_|refine q6 ?_)
              refine TC.loopK (ι := Nat × List Ch) [0, 1, 2, 3, 9, 10] rfl (fun x => [(11, .int .i64 (x.1 : Int))]) (fun _ => m) (fun x => chR bd x.2 :: L) (fun x => CaI ltC zs a (i - 1) x.1 x.2) (fun x => x.1) (i - 1, zs) (by repeat (first|exact trivial|refine And.intro rfl ?_)) rfl (by repeat (exact List.Sublist.refl _)) (CaI.start (by omega)) ?_
              rintro ⟨j, ws⟩ hJ
              simp only at hJ ⊢
              have hwl := hJ.seg.len
              have hjl := hJ.le
              have hD : DomC ws := hDz.perm hJ.seg.perm
              have hLw : Low ltC ws a b := hLz.seg (hJ.seg.mono (Nat.le_refl _) (by omega))
              repeat (first|refine q1 ?_|refine q3 ?_|refine q4 tab rfl rfl ?_|refine q5 ?_|refine q6 ?_)
              refine TC.condP rfl (fun hj1 => ?_) (fun hj1 => ?_)
              · repeat (first|refine q1 ?_|refine q2 ?_|refine q6 ?_|refine q13 ?_)
                refine TC.draw [] mixed 13 rfl [chR bd ws] L (by first | exact List.Perm.refl _ | (rw [List.append_nil]; exact List.Perm.refl _)) ?_
                refine DO.pure tab (by repeat (first|exact Calm.ret|refine Calm.then ?_|refine Calm.block ?_)) (by kernel_rfl) [0, 1, 2] (by kernel_rfl) rfl ?_
                refine DO.indexP (sz := 2) tab 3 j (by repeat (first|exact Calm.ret|refine Calm.then ?_|refine Calm.block ?_)) (by kernel_rfl) (by kernel_rfl) rfl rfl rfl rfl rfl rfl rfl rfl rfl (by omega) ?_
                refine DO.loadE (jj := 0) tab 4 0 rCh (gk_get (xs := ws) (k := j) (by omega)) (by simp only [rCh]; omega) (fun _ => rfl) (by repeat (first|exact Calm.ret|refine Calm.then ?_|refine Calm.block ?_)) (by kernel_rfl) (by kernel_rfl) rfl rfl rfl rfl rfl rfl rfl ?_
                refine DO.pure tab (by repeat (first|exact Calm.ret|refine Calm.then ?_|refine Calm.block ?_)) (by kernel_rfl) [5, 6] (by kernel_rfl) rfl ?_
                refine DO.arith 7 (r' := (((j - 1) : Nat) : Int)) (by repeat (first|exact Calm.ret|refine Calm.then ?_|refine Calm.block ?_)) (by kernel_rfl) (by kernel_rfl) rfl rfl rfl rfl rfl rfl rfl rfl (by first | rfl | omega | (simp only; omega)) (by omega) ?_
                refine DO.indexP (sz := 2) tab 8 (j - 1) (by repeat (first|exact Calm.ret|refine Calm.then ?_|refine Calm.block ?_)) (by kernel_rfl) (by kernel_rfl) rfl rfl rfl rfl rfl rfl rfl rfl rfl (by omega) ?_
                refine DO.loadE (jj := 0) tab 9 0 rCh (gk_get (xs := ws) (k := (j - 1)) (by omega)) (by simp only [rCh]; omega) (fun _ => rfl) (by repeat (first|exact Calm.ret|refine Calm.then ?_|refine Calm.block ?_)) (by kernel_rfl) (by kernel_rfl) rfl rfl rfl rfl rfl rfl rfl ?_
                refine DO.run 10 rfl rfl (by kernel_rfl) rfl (OT.call rfl rfl rfl rfl rfl rfl goes23 ((chcmp_law m _ (gk ws j) (gk ws (j - 1)) (hD.gk (by omega)) (hD.gk (by omega))).x ?_))
                rintro _ _ _ ⟨rfl, rfl, rfl⟩; refine ⟨Mem.le_refl _, _, List.Perm.refl _, ?_⟩
                refine DO.pure tab (by repeat (first|exact Calm.ret|refine Calm.then ?_|refine Calm.block ?_)) (by kernel_rfl) [11, 12] (by kernel_rfl) rfl ?_
                (refine DO.nil (by kernel_rfl) ?_)
                rotate_left 1
                repeat (refine q6 ?_)
                simp only [ch_dec]
                cases hc : ltC (gk ws j) (gk ws (j - 1)) with
                | true =>
                  have hja : a < j := by
                    rcases Nat.lt_or_ge a j with h | h
                    · exact h
                    · have e : j = a := by omega
                      have := hLw (by omega) j (by omega) (by omega)
                      rw [← e, hc] at this; cases this
                  repeat (first|refine q6 ?_|refine q13 ?_|refine q17 rfl ?_)
                  refine TC.draw [15, 16, 17] mixed 18 rfl [chR bd ws] L (by first | exact List.Perm.refl _ | (rw [List.append_nil]; exact List.Perm.refl _)) ?_
                  refine DO.pure tab (by repeat (first|exact Calm.ret|refine Calm.then ?_|refine Calm.block ?_)) (by kernel_rfl) [0, 1, 2, 3] (by kernel_rfl) rfl ?_
                  refine DO.arith 4 (r' := (((j - 1) : Nat) : Int)) (by repeat (first|exact Calm.ret|refine Calm.then ?_|refine Calm.block ?_)) (by kernel_rfl) (by kernel_rfl) rfl rfl rfl rfl rfl rfl rfl rfl (by first | rfl | omega | (simp only; omega)) (by omega) ?_
                  refine DO.pure tab (by repeat (first|exact Calm.ret|refine Calm.then ?_|refine Calm.block ?_)) (by kernel_rfl) [5, 6] (by kernel_rfl) rfl ?_
                  refine DO.arith 7 (r' := (((j - 1) : Nat) : Int)) (by repeat (first|exact Calm.ret|refine Calm.then ?_|refine Calm.block ?_)) (by kernel_rfl) (by kernel_rfl) rfl rfl rfl rfl rfl rfl rfl rfl (by first | rfl | omega | (simp only; omega)) (by omega) ?_
                  refine DO.indexP (sz := 2) tab 8 (j - 1) (by repeat (first|exact Calm.ret|refine Calm.then ?_|refine Calm.block ?_)) (by kernel_rfl) (by kernel_rfl) rfl rfl rfl rfl rfl rfl rfl rfl rfl (by omega) ?_
                  refine DO.loadE (jj := 0) tab 9 0 rCh (gk_get (xs := ws) (k := (j - 1)) (by omega)) (by simp only [rCh]; omega) (fun _ => rfl) (by repeat (first|exact Calm.ret|refine Calm.then ?_|refine Calm.block ?_)) (by kernel_rfl) (by kernel_rfl) rfl rfl rfl rfl rfl rfl rfl ?_
                  refine DO.pure tab (by repeat (first|exact Calm.ret|refine Calm.then ?_|refine Calm.block ?_)) (by kernel_rfl) [10, 11] (by kernel_rfl) rfl ?_
                  refine DO.indexP (sz := 2) tab 12 j (by repeat (first|exact Calm.ret|refine Calm.then ?_|refine Calm.block ?_)) (by kernel_rfl) (by kernel_rfl) rfl rfl rfl rfl rfl rfl rfl rfl rfl (by omega) ?_
                  refine DO.loadE (jj := 0) tab 13 0 rCh (gk_get (xs := ws) (k := j) (by omega)) (by simp only [rCh]; omega) (fun _ => rfl) (by repeat (first|exact Calm.ret|refine Calm.then ?_|refine Calm.block ?_)) (by kernel_rfl) (by kernel_rfl) rfl rfl rfl rfl rfl rfl rfl ?_
                  refine DO.indexP (sz := 2) tab 14 j (by repeat (first|exact Calm.ret|refine Calm.then ?_|refine Calm.block ?_)) (by kernel_rfl) (by kernel_rfl) rfl rfl rfl rfl rfl rfl rfl rfl rfl (by omega) ?_
                  refine DO.tail ?_
                  refine DOt.run 15 rfl rfl (by kernel_rfl) rfl ?_
                  refine OT.storeE (h2 := gk ws (j - 1)) tab 0 rCh (gk_get (xs := ws) (k := j) (by omega)) (j := 0) (by simp only [rCh]; omega) (fun _ => rfl) (Nat.le_refl _) rfl rfl rfl rfl rfl rfl rfl ?_
                  refine DOt.run 16 rfl rfl (by kernel_rfl) rfl ?_
                  refine OT.indexP (sz := 2) tab (j - 1) rfl rfl rfl rfl rfl rfl rfl (by omega) ?_
                  refine DOt.run 17 rfl rfl (by kernel_rfl) rfl ?_
                  refine OT.storeE (h2 := gk ws j) (h := gk (List.set ws j (gk ws (j - 1))) (j - 1)) tab 0 rCh (k := (j - 1)) (gk_get (by simp; omega)) (j := 0) (by simp only [rCh]; omega) (fun _ => rfl) (Nat.le_refl _) rfl rfl rfl rfl rfl rfl rfl ?_
                  refine DOt.nil (by kernel_rfl) ?_
                  rotate_left 1
                  repeat (first|refine q3 ?_|refine q4 tab rfl rfl ?_|refine q6 ?_|refine q7 ?_)
                  refine TO.step rfl (OT.arith (r' := ((j - 1 : Nat) : Int)) rfl rfl rfl rfl rfl rfl (by omega) (by omega) ?_)
                  repeat (first|refine q4 tab rfl rfl ?_|refine q5 ?_|refine q6 ?_)
                  exact ⟨(j - 1, sw ws j (j - 1)), (by repeat (first|exact trivial|refine And.intro rfl ?_)), (by repeat (first|exact trivial|refine And.intro rfl ?_)), rfl, rfl, (by repeat (exact List.Sublist.refl _)), hJ.step hja (by omega) hc, by simp only; omega⟩
                | false =>
                  have hN := hJ.done ltC_ord hOz (.inr hc)
                  rw [Nat.sub_add_cancel (by omega)] at hN
                  repeat (first|refine q6 ?_|refine q10 ?_|refine q11 ?_|refine q12 rfl ?_|refine q14 ?_|refine q16 rfl ?_)
                  exact ⟨ws, (by repeat (exact trivial)), (by repeat (first|exact trivial|refine And.intro rfl ?_)), rfl, rfl, (by repeat (exact List.Sublist.refl _)), hSz.trans (hJ.seg.mono (Nat.le_refl _) (by omega)), hN⟩
              · have hN := hJ.done ltC_ord hOz (.inl (by omega))
                rw [Nat.sub_add_cancel (by omega)] at hN
                repeat (first|refine q6 ?_|refine q10 ?_|refine q11 ?_|refine q14 ?_)
                exact ⟨ws, (by repeat (exact trivial)), (by repeat (first|exact trivial|refine And.intro rfl ?_)), rfl, rfl, (by repeat (exact List.Sublist.refl _)), hSz.trans (hJ.seg.mono (Nat.le_refl _) (by omega)), hN⟩
            · repeat (first|refine q6 ?_|refine q13 ?_)
              exact ⟨zs, (by repeat (exact trivial)), (by repeat (first|exact trivial|refine And.intro rfl ?_)), rfl, rfl, (by repeat (exact List.Sublist.refl _)), hSz, fun s t h1 h2 h3 => by omega⟩
          · obtain ⟨hSw, hOw⟩ := hws
            have hwl := hSw.len
            have hDw : DomC ws := hD0.perm hSw.perm
            repeat (first|refine q1 ?_|refine q3 ?_|refine q4 tab rfl rfl ?_)
            refine TO.step rfl (OT.arith (r' := ((b - i : Nat) : Int)) rfl rfl rfl rfl rfl rfl (by omega) (by omega) ?_)
            repeat (first|refine q4 tab rfl rfl ?_|refine q5 ?_|refine q6 ?_)
            refine TC.condP rfl (fun hge => ?_) (fun hge => ?_)
            · repeat (first|refine q1 ?_|refine q3 ?_|refine q4 tab rfl rfl ?_)
              refine TO.step rfl (OT.arith (r' := ((i + 1 : Nat) : Int)) rfl rfl rfl rfl rfl rfl rfl (by omega) ?_)
              repeat (first|refine q2 ?_|refine q4 tab rfl rfl ?_|refine q5 ?_|refine q6 ?_)
              refine TC.loopK (ι := Nat × List Ch) [0, 1, 2, 3, 9, 10] rfl (fun x => [(12, .int .i64 (x.1 : Int))]) (fun _ => m) (fun x => chR bd x.2 :: L) (fun x => i + 1 ≤ x.1 ∧ x.1 ≤ b ∧ Sg i b ws x.2) (fun x => b - x.1) (i + 1, ws) (by repeat (first|exact trivial|refine And.intro rfl ?_)) rfl (by repeat (exact List.Sublist.refl _)) ⟨Nat.le_refl _, by simp only; omega, Sg.refl _ _ _⟩ ?_
              rintro ⟨k, us⟩ ⟨hk1, hk2, hSu⟩
              simp only at hk1 hk2 hSu ⊢
              have hul := hSu.len
              have hD : DomC us := hDw.perm hSu.perm
              repeat (first|refine q1 ?_|refine q3 ?_|refine q4 tab rfl rfl ?_|refine q5 ?_|refine q6 ?_)
              refine TC.condP rfl (fun hkb => ?_) (fun hkb => ?_)
              · repeat (first|refine q1 ?_|refine q2 ?_|refine q6 ?_|refine q13 ?_)
                refine TC.draw [] mixed 13 rfl [chR bd us] L (by first | exact List.Perm.refl _ | (rw [List.append_nil]; exact List.Perm.refl _)) ?_
                refine DO.pure tab (by repeat (first|exact Calm.ret|refine Calm.then ?_|refine Calm.block ?_)) (by kernel_rfl) [0, 1, 2] (by kernel_rfl) rfl ?_
                refine DO.indexP (sz := 2) tab 3 k (by repeat (first|exact Calm.ret|refine Calm.then ?_|refine Calm.block ?_)) (by kernel_rfl) (by kernel_rfl) rfl rfl rfl rfl rfl rfl rfl rfl rfl (by omega) ?_
                refine DO.loadE (jj := 0) tab 4 0 rCh (gk_get (xs := us) (k := k) (by omega)) (by simp only [rCh]; omega) (fun _ => rfl) (by repeat (first|exact Calm.ret|refine Calm.then ?_|refine Calm.block ?_)) (by kernel_rfl) (by kernel_rfl) rfl rfl rfl rfl rfl rfl rfl ?_
                refine DO.pure tab (by repeat (first|exact Calm.ret|refine Calm.then ?_|refine Calm.block ?_)) (by kernel_rfl) [5, 6] (by kernel_rfl) rfl ?_
                refine DO.arith 7 (r' := (((k - 1) : Nat) : Int)) (by repeat (first|exact Calm.ret|refine Calm.then ?_|refine Calm.block ?_)) (by kernel_rfl) (by kernel_rfl) rfl rfl rfl rfl rfl rfl rfl rfl (by first | rfl | omega | (simp only; omega)) (by omega) ?_
                refine DO.indexP (sz := 2) tab 8 (k - 1) (by repeat (first|exact Calm.ret|refine Calm.then ?_|refine Calm.block ?_)) (by kernel_rfl) (by kernel_rfl) rfl rfl rfl rfl rfl rfl rfl rfl rfl (by omega) ?_
                refine DO.loadE (jj := 0) tab 9 0 rCh (gk_get (xs := us) (k := (k - 1)) (by omega)) (by simp only [rCh]; omega) (fun _ => rfl) (by repeat (first|exact Calm.ret|refine Calm.then ?_|refine Calm.block ?_)) (by kernel_rfl) (by kernel_rfl) rfl rfl rfl rfl rfl rfl rfl ?_
                refine DO.run 10 rfl rfl (by kernel_rfl) rfl (OT.call rfl rfl rfl rfl rfl rfl goes23 ((chcmp_law m _ (gk us k) (gk us (k - 1)) (hD.gk (by omega)) (hD.gk (by omega))).x ?_))
                rintro _ _ _ ⟨rfl, rfl, rfl⟩; refine ⟨Mem.le_refl _, _, List.Perm.refl _, ?_⟩
                refine DO.pure tab (by repeat (first|exact Calm.ret|refine Calm.then ?_|refine Calm.block ?_)) (by kernel_rfl) [11, 12] (by kernel_rfl) rfl ?_
                (refine DO.nil (by kernel_rfl) ?_)
                rotate_left 1
                repeat (refine q6 ?_)
                simp only [ch_dec]
                cases hc : ltC (gk us k) (gk us (k - 1)) with
                | true =>
                  repeat (first|refine q6 ?_|refine q13 ?_|refine q17 rfl ?_)
                  refine TC.draw [15, 16, 17] mixed 18 rfl [chR bd us] L (by first | exact List.Perm.refl _ | (rw [List.append_nil]; exact List.Perm.refl _)) ?_
                  refine DO.pure tab (by repeat (first|exact Calm.ret|refine Calm.then ?_|refine Calm.block ?_)) (by kernel_rfl) [0, 1, 2, 3] (by kernel_rfl) rfl ?_
                  refine DO.arith 4 (r' := (((k - 1) : Nat) : Int)) (by repeat (first|exact Calm.ret|refine Calm.then ?_|refine Calm.block ?_)) (by kernel_rfl) (by kernel_rfl) rfl rfl rfl rfl rfl rfl rfl rfl (by first | rfl | omega | (simp only; omega)) (by omega) ?_
                  refine DO.pure tab (by repeat (first|exact Calm.ret|refine Calm.then ?_|refine Calm.block ?_)) (by kernel_rfl) [5, 6] (by kernel_rfl) rfl ?_
                  refine DO.arith 7 (r' := (((k - 1) : Nat) : Int)) (by repeat (first|exact Calm.ret|refine Calm.then ?_|refine Calm.block ?_)) (by kernel_rfl) (by kernel_rfl) rfl rfl rfl rfl rfl rfl rfl rfl (by first | rfl | omega | (simp only; omega)) (by omega) ?_
                  refine DO.indexP (sz := 2) tab 8 (k - 1) (by repeat (first|exact Calm.ret|refine Calm.then ?_|refine Calm.block ?_)) (by kernel_rfl) (by kernel_rfl) rfl rfl rfl rfl rfl rfl rfl rfl rfl (by omega) ?_
                  refine DO.loadE (jj := 0) tab 9 0 rCh (gk_get (xs := us) (k := (k - 1)) (by omega)) (by simp only [rCh]; omega) (fun _ => rfl) (by repeat (first|exact Calm.ret|refine Calm.then ?_|refine Calm.block ?_)) (by kernel_rfl) (by kernel_rfl) rfl rfl rfl rfl rfl rfl rfl ?_
                  refine DO.pure tab (by repeat (first|exact Calm.ret|refine Calm.then ?_|refine Calm.block ?_)) (by kernel_rfl) [10, 11] (by kernel_rfl) rfl ?_
                  refine DO.indexP (sz := 2) tab 12 k (by repeat (first|exact Calm.ret|refine Calm.then ?_|refine Calm.block ?_)) (by kernel_rfl) (by kernel_rfl) rfl rfl rfl rfl rfl rfl rfl rfl rfl (by omega) ?_
                  refine DO.loadE (jj := 0) tab 13 0 rCh (gk_get (xs := us) (k := k) (by omega)) (by simp only [rCh]; omega) (fun _ => rfl) (by repeat (first|exact Calm.ret|refine Calm.then ?_|refine Calm.block ?_)) (by kernel_rfl) (by kernel_rfl) rfl rfl rfl rfl rfl rfl rfl ?_
                  refine DO.indexP (sz := 2) tab 14 k (by repeat (first|exact Calm.ret|refine Calm.then ?_|refine Calm.block ?_)) (by kernel_rfl) (by kernel_rfl) rfl rfl rfl rfl rfl rfl rfl rfl rfl (by omega) ?_
                  refine DO.tail ?_
                  refine DOt.run 15 rfl rfl (by kernel_rfl) rfl ?_
                  refine OT.storeE (h2 := gk us (k - 1)) tab 0 rCh (gk_get (xs := us) (k := k) (by omega)) (j := 0) (by simp only [rCh]; omega) (fun _ => rfl) (Nat.le_refl _) rfl rfl rfl rfl rfl rfl rfl ?_
                  refine DOt.run 16 rfl rfl (by kernel_rfl) rfl ?_
                  refine OT.indexP (sz := 2) tab (k - 1) rfl rfl rfl rfl rfl rfl rfl (by omega) ?_
                  refine DOt.run 17 rfl rfl (by kernel_rfl) rfl ?_
                  refine OT.storeE (h2 := gk us k) (h := gk (List.set us k (gk us (k - 1))) (k - 1)) tab 0 rCh (k := (k - 1)) (gk_get (by simp; omega)) (j := 0) (by simp only [rCh]; omega) (fun _ => rfl) (Nat.le_refl _) rfl rfl rfl rfl rfl rfl rfl ?_
                  refine DOt.nil (by kernel_rfl) ?_
                  rotate_left 1
                  repeat (first|refine q3 ?_|refine q4 tab rfl rfl ?_|refine q6 ?_|refine q7 ?_)
                  refine TO.step rfl (OT.arith (r' := ((k + 1 : Nat) : Int)) rfl rfl rfl rfl rfl rfl rfl (by omega) ?_)
                  repeat (first|refine q4 tab rfl rfl ?_|refine q5 ?_|refine q6 ?_)
                  exact ⟨(k + 1, sw us k (k - 1)), (by repeat (first|exact trivial|refine And.intro rfl ?_)), (by repeat (first|exact trivial|refine And.intro rfl ?_)), rfl, rfl, (by repeat (exact List.Sublist.refl _)), ⟨by simp only; omega, by simp only; omega, hSu.trans (Sg.sw (by omega) (by omega) (by omega))⟩, by simp only; omega⟩
                | false =>
                  have hOu : Sn ltC us a i := hOw.of fun t h1 h2 => hSu.out t (by omega)
                  have hSu : Sg a b xs us := hSw.trans (hSu.mono (by omega) (Nat.le_refl _))
                  repeat (first|refine q3 ?_|refine q4 tab rfl rfl ?_|refine q6 ?_|refine q7 ?_|refine q10 ?_|refine q11 ?_|refine q12 rfl ?_|refine q14 ?_|refine q16 rfl ?_)
                  refine TO.step rfl (OT.arith (r' := ((q + 1 : Nat) : Int)) rfl rfl rfl rfl rfl rfl (by omega) (by omega) ?_)
                  repeat (first|refine q4 tab rfl rfl ?_|refine q5 ?_|refine q6 ?_)
                  exact ⟨(q + 1, i, us), (by repeat (first|exact trivial|refine And.intro rfl ?_)), (by repeat (first|exact trivial|refine And.intro rfl ?_)), rfl, rfl, (by repeat (exact List.Sublist.refl _)), ⟨by simp only; omega, hi0, hi1, hSu, hOu⟩, by simp only; omega⟩
              · skip
                have hOu : Sn ltC us a i := hOw.of fun t h1 h2 => hSu.out t (by omega)
                have hSu : Sg a b xs us := hSw.trans (hSu.mono (by omega) (Nat.le_refl _))
                repeat (first|refine q3 ?_|refine q4 tab rfl rfl ?_|refine q6 ?_|refine q7 ?_|refine q10 ?_|refine q11 ?_|refine q14 ?_)
                refine TO.step rfl (OT.arith (r' := ((q + 1 : Nat) : Int)) rfl rfl rfl rfl rfl rfl (by omega) (by omega) ?_)
                repeat (first|refine q4 tab rfl rfl ?_|refine q5 ?_|refine q6 ?_)
                exact ⟨(q + 1, i, us), (by repeat (first|exact trivial|refine And.intro rfl ?_)), (by repeat (first|exact trivial|refine And.intro rfl ?_)), rfl, rfl, (by repeat (exact List.Sublist.refl _)), ⟨by simp only; omega, hi0, hi1, hSu, hOu⟩, by simp only; omega⟩
            · have hSu := hSw
              have hOu := hOw
              have hul := hwl
              obtain ⟨us, hus⟩ : ∃ us, us = ws := ⟨_, rfl⟩
              rw [← hus] at hSu hOu hul ⊢
              repeat (first|refine q3 ?_|refine q4 tab rfl rfl ?_|refine q6 ?_|refine q7 ?_|refine q13 ?_)
              refine TO.step rfl (OT.arith (r' := ((q + 1 : Nat) : Int)) rfl rfl rfl rfl rfl rfl (by omega) (by omega) ?_)
              repeat (first|refine q4 tab rfl rfl ?_|refine q5 ?_|refine q6 ?_)
              exact ⟨(q + 1, i, us), (by repeat (first|exact trivial|refine And.intro rfl ?_)), (by repeat (first|exact trivial|refine And.intro rfl ?_)), rfl, rfl, (by repeat (exact List.Sublist.refl _)), ⟨by simp only; omega, hi0, hi1, hSu, hOu⟩, by simp only; omega⟩
  · repeat (first|refine q1 ?_|refine q3 ?_|refine q4 tab rfl rfl ?_|refine q5 ?_|refine q6 ?_|refine q10 ?_|refine q11 ?_|refine q14 ?_|refine q15 ?_)
    refine retQ_ret rfl (L' := chR bd ys :: L) (by repeat (exact List.Sublist.refl _)) ⟨rfl, ys, false, rfl, hS, (fun h => by cases h), rfl⟩
end Go.Sep

/-
  Changes sorted in place: medians.
-/
set_option linter.unusedVariables false
set_option linter.unusedSimpArgs false
namespace Go.Sep
open Go.Proofs
attribute [local irreducible] TC TO OT TCallX TCall DO DOt thenQ blockQ retQ At
@[reducible] def nqI (bq n : Nat) : Item := .cells bq 0 [.int .i64 (n : Int)]
@[reducible] def pqV (bq : Nat) : Value := .pointer (some ⟨bq, 0, none⟩)
set_option maxHeartbeats 1000000 in
theorem order2_ch (m : Mem) (L0 : List Item) (bd bq c a b n : Nat) (xs : List Ch) (hD : DomC xs) (ha : a < xs.length) (hb : b < xs.length) (hn : n ≤ 1000) (hlim : xs.length ≤ 1000000) :
    TCall Try.prog 54 ⟨[.slice (some ⟨bd, 0, none⟩) xs.length c, .int .i64 (a : Int), .int .i64 (b : Int), pqV bq, chF]⟩ m (chR bd xs :: nqI bq n :: L0) (fun r m' L' => m = m' ∧ ∃ n' x y : Nat, n' ≤ n + 1 ∧ ((x = a ∧ y = b) ∨ (x = b ∧ y = a)) ∧ r = .tuple ⟨[.int .i64 (x : Int), .int .i64 (y : Int)]⟩ ∧ chR bd xs :: nqI bq n' :: L0 = L') := by
  unfold TCall
  obtain ⟨L, hLq⟩ : ∃ L, L = nqI bq n :: L0 := ⟨_, rfl⟩
  rw [← hLq]
  refine TCallX.enter Try.func54 rfl 32 rfl ?_
  repeat (first|refine q1 ?_|refine q3 ?_|refine q4 tab rfl rfl ?_|refine q5 ?_|refine q6 ?_)
  refine TC.draw [] mixed 11 rfl [chR bd xs] L (by first | exact List.Perm.refl _ | (rw [List.append_nil]; exact List.Perm.refl _)) ?_
  refine DO.pure tab (by repeat (first|exact Calm.ret|refine Calm.then ?_)) (by kernel_rfl) [0, 1, 2] (by kernel_rfl) rfl ?_
  refine DO.indexP (sz := 2) tab 3 b (by repeat (first|exact Calm.ret|refine Calm.then ?_)) (by kernel_rfl) (by kernel_rfl) rfl rfl rfl rfl rfl rfl rfl rfl rfl (by omega) ?_
  refine DO.loadE (jj := 0) tab 4 0 rCh (gk_get (xs := xs) (k := b) (by omega)) (by simp only [rCh]; omega) (fun _ => rfl) (by repeat (first|exact Calm.ret|refine Calm.then ?_)) (by kernel_rfl) (by kernel_rfl) rfl rfl rfl rfl rfl rfl rfl ?_
  refine DO.pure tab (by repeat (first|exact Calm.ret|refine Calm.then ?_)) (by kernel_rfl) [5, 6] (by kernel_rfl) rfl ?_
  refine DO.indexP (sz := 2) tab 7 a (by repeat (first|exact Calm.ret|refine Calm.then ?_)) (by kernel_rfl) (by kernel_rfl) rfl rfl rfl rfl rfl rfl rfl rfl rfl (by omega) ?_
  refine DO.loadE (jj := 0) tab 8 0 rCh (gk_get (xs := xs) (k := a) (by omega)) (by simp only [rCh]; omega) (fun _ => rfl) (by repeat (first|exact Calm.ret|refine Calm.then ?_)) (by kernel_rfl) (by kernel_rfl) rfl rfl rfl rfl rfl rfl rfl ?_
  refine DO.run 9 rfl rfl (by kernel_rfl) rfl (OT.call rfl rfl rfl rfl rfl rfl goes23 ((chcmp_law m _ (gk xs b) (gk xs a) (hD.gk (by omega)) (hD.gk (by omega))).x ?_))
  rintro _ _ _ ⟨rfl, rfl, rfl⟩; refine ⟨Mem.le_refl _, _, List.Perm.refl _, ?_⟩
  refine DO.pure tab (by repeat (first|exact Calm.ret|refine Calm.then ?_)) (by kernel_rfl) [10] (by kernel_rfl) rfl ?_
  (refine DO.nil (by kernel_rfl) ?_)
  rotate_left 1
  repeat (refine q6 ?_)
  simp only [ch_dec]
  cases hc : ltC (gk xs b) (gk xs a) with
  | true =>
    refine TC.drop (L' := chR bd xs :: nqI bq n :: L0) (by rw [hLq]; exact List.Sublist.refl _) ?_
    repeat (first|refine q1 ?_|refine q3 ?_|refine q4 tab rfl rfl ?_|refine q16 rfl ?_)
    (refine qs rfl (qz tab 1 rfl rfl rfl rfl rfl rfl ?_))
    refine TO.step rfl (OT.arith (r' := ((n + 1 : Nat) : Int)) rfl rfl rfl rfl rfl rfl rfl (by omega) ?_)
    repeat (refine q4 tab rfl rfl ?_)
    (refine TO.step rfl (OT.storeL0 tab 1 rfl rfl rfl rfl rfl rfl rfl rfl ?_))
    repeat (first|refine q1 ?_|refine q3 ?_|refine q4 tab rfl rfl ?_|refine q5 ?_|refine q6 ?_|refine q8 ?_|refine q15 ?_)
    refine retQ_ret rfl (L' := chR bd xs :: nqI bq (n + 1) :: L0) (by repeat (exact List.Sublist.refl _)) ⟨rfl, n + 1, b, a, by omega, .inr ⟨rfl, rfl⟩, rfl, rfl⟩
  | false =>
    repeat (first|refine q1 ?_|refine q3 ?_|refine q4 tab rfl rfl ?_|refine q5 ?_|refine q6 ?_|refine q13 ?_|refine q15 ?_|refine q17 rfl ?_)
    refine retQ_ret rfl (L' := chR bd xs :: nqI bq n :: L0) (by rw [hLq]; exact List.Sublist.refl _) ⟨rfl, n, a, b, by omega, .inl ⟨rfl, rfl⟩, rfl, rfl⟩
set_option maxHeartbeats 1000000 in
theorem median_ch (m : Mem) (L0 : List Item) (bd bq c a b e n : Nat) (xs : List Ch) (hD : DomC xs) (ha : a < xs.length) (hb : b < xs.length) (he : e < xs.length) (hn : n ≤ 100) (hlim : xs.length ≤ 1000000) :
    TCall Try.prog 52 ⟨[.slice (some ⟨bd, 0, none⟩) xs.length c, .int .i64 (a : Int), .int .i64 (b : Int), .int .i64 (e : Int), pqV bq, chF]⟩ m (chR bd xs :: nqI bq n :: L0) (fun r m' L' => m = m' ∧ ∃ n' x : Nat, n' ≤ n + 3 ∧ (x = a ∨ x = b ∨ x = e) ∧ r = .int .i64 (x : Int) ∧ chR bd xs :: nqI bq n' :: L0 = L') := by
  unfold TCall
  refine TCallX.enter Try.func52 rfl 41 rfl ?_
  repeat (first|refine q1 ?_|refine q3 ?_|refine q4 tab rfl rfl ?_|refine q5 ?_|refine q6 ?_)
  refine TO.step rfl (OT.call rfl rfl rfl rfl rfl rfl goes54 ((order2_ch m L0 bd bq c a b n xs hD ha hb (by omega) hlim).x ?_));
  rintro r1 m1 L1 ⟨rfl, n1, x1, y1, hn1, hxy1, rfl, rfl⟩
  repeat (first|refine q1 ?_|refine q3 ?_|refine q4 tab rfl rfl ?_|refine q5 ?_|refine q6 ?_)
  refine TO.step rfl (OT.call rfl rfl rfl rfl rfl rfl goes54 ((order2_ch m L0 bd bq c y1 e n1 xs hD (by omega) he (by omega) hlim).x ?_));
  rintro r1 m1 L1 ⟨rfl, n2, x2, y2, hn2, hxy2, rfl, rfl⟩
  repeat (first|refine q1 ?_|refine q3 ?_|refine q4 tab rfl rfl ?_|refine q5 ?_|refine q6 ?_)
  refine TO.step rfl (OT.call rfl rfl rfl rfl rfl rfl goes54 ((order2_ch m L0 bd bq c x1 x2 n2 xs hD (by omega) (by omega) (by omega) hlim).x ?_));
  rintro r1 m1 L1 ⟨rfl, n3, x3, y3, hn3, hxy3, rfl, rfl⟩
  repeat (first|refine q1 ?_|refine q3 ?_|refine q4 tab rfl rfl ?_|refine q5 ?_|refine q6 ?_|refine q15 ?_)
  refine retQ_ret rfl (L' := chR bd xs :: nqI bq n3 :: L0) (by repeat (exact List.Sublist.refl _)) ⟨rfl, n3, y3, by omega, by omega, rfl, rfl⟩
set_option maxHeartbeats 1000000 in
theorem medianAdj_ch (m : Mem) (L0 : List Item) (bd bq c a n : Nat) (xs : List Ch) (hD : DomC xs) (h0 : 0 < a) (ha : a + 1 < xs.length) (hn : n ≤ 100) (hlim : xs.length ≤ 1000000) :
    TCall Try.prog 51 ⟨[.slice (some ⟨bd, 0, none⟩) xs.length c, .int .i64 (a : Int), pqV bq, chF]⟩ m (chR bd xs :: nqI bq n :: L0) (fun r m' L' => m = m' ∧ ∃ n' x : Nat, n' ≤ n + 3 ∧ (a - 1 ≤ x ∧ x ≤ a + 1) ∧ r = .int .i64 (x : Int) ∧ chR bd xs :: nqI bq n' :: L0 = L') := by
  unfold TCall
  refine TCallX.enter Try.func51 rfl 18 rfl ?_
  repeat (first|refine q1 ?_|refine q3 ?_|refine q4 tab rfl rfl ?_|refine q5 ?_|refine q6 ?_)
  refine TO.step rfl (OT.arith (r' := ((a - 1 : Nat) : Int)) rfl rfl rfl rfl rfl rfl (by omega) (by omega) ?_)
  repeat (refine q4 tab rfl rfl ?_)
  refine TO.step rfl (OT.arith (r' := ((a + 1 : Nat) : Int)) rfl rfl rfl rfl rfl rfl rfl (by omega) ?_)
  repeat (refine q4 tab rfl rfl ?_)
  refine TO.step rfl (OT.call rfl rfl rfl rfl rfl rfl goes52 ((median_ch m L0 bd bq c (a - 1) a (a + 1) n xs hD (by omega) (by omega) (by omega) hn hlim).x ?_));
  rintro r1 m1 L1 ⟨rfl, n1, x1, hn1, hx1, rfl, rfl⟩
  repeat (first|refine q4 tab rfl rfl ?_|refine q5 ?_|refine q6 ?_|refine q15 ?_)
  refine retQ_ret rfl (L' := chR bd xs :: nqI bq n1 :: L0) (by repeat (exact List.Sublist.refl _)) ⟨rfl, n1, x1, hn1, by omega, rfl, rfl⟩
theorem quo4 (n : Nat) (h : n ≤ 1000000) : IntKind.i64.wrap (Int.tdiv (n : Int) 4) = ((n / 4 : Nat) : Int) := by
  rw [show Int.tdiv (n : Int) 4 = ((n / 4 : Nat) : Int) from (Int.ofNat_tdiv n 4).symm]
  exact wrap64_in (by omega) (by omega)
set_option maxHeartbeats 2000000 in
theorem choose_ch (m : Mem) (L : List Item) (bd c a b : Nat) (xs : List Ch) (hD : DomC xs) (hab : a < b) (hl : b ≤ xs.length) (hlim : xs.length ≤ 1000000) :
    TCall Try.prog 40 ⟨[.slice (some ⟨bd, 0, none⟩) xs.length c, .int .i64 (a : Int), .int .i64 (b : Int), chF]⟩ m (chR bd xs :: L) (fun r m' L' => m = m' ∧ ∃ (p : Nat) (hint : Int), r = .tuple ⟨[.int .i64 (p : Int), .int .i64 hint]⟩ ∧ (a ≤ p ∧ p < b) ∧ chR bd xs :: L = L') := by
  unfold TCall
  refine TCallX.enter Try.func40 rfl 63 rfl ?_
  repeat (first|refine q1 ?_|refine q3 ?_|refine q4 tab rfl rfl ?_|refine q5 ?_|refine q6 ?_)
  refine TO.step rfl (OT.arith (r' := ((b - a : Nat) : Int)) rfl rfl rfl rfl rfl rfl (by omega) (by omega) ?_)
  repeat (first|refine q1 ?_|refine q3 ?_|refine q4 tab rfl rfl ?_|refine q5 ?_|refine q6 ?_)
  refine TO.step rfl (OT.alloc tab rfl rfl rfl rfl (fun bq => ?_))
  repeat (first|refine q1 ?_|refine q3 ?_|refine q4 tab rfl rfl ?_|refine q5 ?_|refine q6 ?_)
  refine TO.step rfl (OT.quoK rfl rfl rfl rfl rfl (by decide) (quo4 (b - a) (by omega)) ?_)
  skip
  refine TO.step rfl (OT.arith (r' := (((b - a) / 4 : Nat) : Int)) rfl rfl rfl rfl rfl rfl (by omega) (by omega) ?_)
  skip
  refine TO.step rfl (OT.arith (r' := ((a + (b - a) / 4 : Nat) : Int)) rfl rfl rfl rfl rfl rfl (by omega) (by omega) ?_)
  repeat (first|refine q1 ?_|refine q3 ?_|refine q4 tab rfl rfl ?_|refine q5 ?_|refine q6 ?_)
  refine TO.step rfl (OT.quoK rfl rfl rfl rfl rfl (by decide) (quo4 (b - a) (by omega)) ?_)
  skip
  refine TO.step rfl (OT.arith (r' := (((b - a) / 4 * 2 : Nat) : Int)) rfl rfl rfl rfl rfl rfl (by omega) (by omega) ?_)
  skip
  refine TO.step rfl (OT.arith (r' := ((a + (b - a) / 4 * 2 : Nat) : Int)) rfl rfl rfl rfl rfl rfl (by omega) (by omega) ?_)
  repeat (first|refine q1 ?_|refine q3 ?_|refine q4 tab rfl rfl ?_|refine q5 ?_|refine q6 ?_)
  refine TO.step rfl (OT.quoK rfl rfl rfl rfl rfl (by decide) (quo4 (b - a) (by omega)) ?_)
  skip
  refine TO.step rfl (OT.arith (r' := (((b - a) / 4 * 3 : Nat) : Int)) rfl rfl rfl rfl rfl rfl (by omega) (by omega) ?_)
  skip
  refine TO.step rfl (OT.arith (r' := ((a + (b - a) / 4 * 3 : Nat) : Int)) rfl rfl rfl rfl rfl rfl (by omega) (by omega) ?_)
  refine TO.perm (List.Perm.swap _ _ _) ?_
  obtain ⟨q, hq⟩ : ∃ q, q = (b - a) / 4 := ⟨_, rfl⟩
  rw [← hq]
  repeat (first|refine q1 ?_|refine q3 ?_|refine q4 tab rfl rfl ?_|refine q5 ?_|refine q6 ?_)
  refine TC.cutT (ι := Nat × Nat) [0, 1, 2, 3, 11] rfl (fun x => [(13, .int .i64 (x.1 : Int))]) (fun _ => m) (fun x => chR bd xs :: nqI bq x.2 :: L) (fun x => a ≤ x.1 ∧ x.1 < b) ?_ (fun x hx => ?_)
  · refine TC.condP rfl (fun h8 => ?_) (fun h8 => ?_)
    · repeat (first|refine q1 ?_|refine q3 ?_|refine q4 tab rfl rfl ?_|refine q5 ?_|refine q6 ?_)
      refine TC.cutT (ι := Nat × Nat × Nat × Nat) [0, 1, 2, 3, 11] rfl (fun x => [(12, .int .i64 (x.1 : Int)), (13, .int .i64 (x.2.1 : Int)), (14, .int .i64 (x.2.2.1 : Int))]) (fun _ => m) (fun x => chR bd xs :: nqI bq x.2.2.2 :: L) (fun x => (a ≤ x.1 ∧ x.1 < b) ∧ (a ≤ x.2.1 ∧ x.2.1 < b) ∧ (a ≤ x.2.2.1 ∧ x.2.2.1 < b) ∧ x.2.2.2 ≤ 9) ?_ (fun x hx => ?_)
      · refine TC.condP rfl (fun h50 => ?_) (fun h50 => ?_)
        · repeat (first|refine q1 ?_|refine q3 ?_|refine q4 tab rfl rfl ?_)
          refine TO.step rfl (OT.call rfl rfl rfl rfl rfl rfl goes51 ((medianAdj_ch m L bd bq c (a + q) 0 xs hD (by omega) (by omega) (by omega) hlim).x ?_));
          rintro r1 m1 L1 ⟨rfl, n1, x1, hn1, hx1, rfl, rfl⟩
          repeat (first|refine q1 ?_|refine q3 ?_|refine q4 tab rfl rfl ?_|refine q5 ?_|refine q6 ?_)
          refine TO.step rfl (OT.call rfl rfl rfl rfl rfl rfl goes51 ((medianAdj_ch m L bd bq c (a + q * 2) n1 xs hD (by omega) (by omega) (by omega) hlim).x ?_));
          rintro r1 m1 L1 ⟨rfl, n2, x2, hn2, hx2, rfl, rfl⟩
          repeat (first|refine q3 ?_|refine q4 tab rfl rfl ?_|refine q5 ?_|refine q6 ?_)
          refine TO.step rfl (OT.call rfl rfl rfl rfl rfl rfl goes51 ((medianAdj_ch m L bd bq c (a + q * 3) n2 xs hD (by omega) (by omega) (by omega) hlim).x ?_));
          rintro r1 m1 L1 ⟨rfl, n3, x3, hn3, hx3, rfl, rfl⟩
          repeat (first|refine q4 tab rfl rfl ?_|refine q5 ?_|refine q6 ?_)
          exact ⟨(x1, x2, x3, n3), (by repeat (first|exact trivial|refine And.intro rfl ?_)), (by repeat (first|exact trivial|refine And.intro rfl ?_)), rfl, rfl, (by repeat (exact List.Sublist.refl _)), by simp only; omega⟩
        · repeat (first|refine q6 ?_|refine q13 ?_)
          exact ⟨(a + q, a + q * 2, a + q * 3, 0), (by repeat (first|exact trivial|refine And.intro rfl ?_)), (by repeat (first|exact trivial|refine And.intro rfl ?_)), rfl, rfl, (by repeat (exact List.Sublist.refl _)), by simp only; omega⟩
      · obtain ⟨i, j, k, nn⟩ := x
        simp only at hx ⊢
        repeat (first|refine q3 ?_|refine q4 tab rfl rfl ?_)
        refine TO.step rfl (OT.call rfl rfl rfl rfl rfl rfl goes52 ((median_ch m L bd bq c i j k nn xs hD (by omega) (by omega) (by omega) (by omega) hlim).x ?_));
        rintro r1 m1 L1 ⟨rfl, n1, x1, hn1, hx1, rfl, rfl⟩
        repeat (first|refine q4 tab rfl rfl ?_|refine q5 ?_|refine q6 ?_)
        exact ⟨(x1, n1), (by repeat (first|exact trivial|refine And.intro rfl ?_)), (by repeat (first|exact trivial|refine And.intro rfl ?_)), rfl, rfl, (by repeat (exact List.Sublist.refl _)), by simp only; omega⟩
    · repeat (first|refine q6 ?_|refine q13 ?_)
      exact ⟨(a + q * 2, 0), (by repeat (first|exact trivial|refine And.intro rfl ?_)), (by repeat (first|exact trivial|refine And.intro rfl ?_)), rfl, rfl, (by repeat (exact List.Sublist.refl _)), by simp only; omega⟩
  · obtain ⟨p, nf⟩ := x
    simp only at hx ⊢
    repeat (first|refine q1 ?_|refine q3 ?_)
    (refine qs rfl (qz tab 1 rfl rfl rfl rfl rfl rfl ?_))
    repeat (first|refine q1 ?_|refine q2 ?_|refine q3 ?_|refine q4 tab rfl rfl ?_|refine q5 ?_|refine q6 ?_)
    refine TC.condP rfl (fun hz => ?_) (fun hz => ?_)
    · repeat (first|refine q1 ?_|refine q3 ?_|refine q4 tab rfl rfl ?_|refine q5 ?_|refine q6 ?_|refine q9 ?_|refine q15 ?_)
      refine retQ_ret rfl (L' := chR bd xs :: L) (by repeat (first|exact List.Sublist.refl _|refine List.Sublist.cons_cons _ ?_|refine List.Sublist.cons _ ?_)) ⟨rfl, p, _, rfl, hx, rfl⟩
    · repeat (first|refine q1 ?_|refine q3 ?_|refine q4 tab rfl rfl ?_|refine q5 ?_|refine q6 ?_)
      refine TC.condP rfl (fun hz2 => ?_) (fun hz2 => ?_)
      · repeat (first|refine q1 ?_|refine q3 ?_|refine q4 tab rfl rfl ?_|refine q5 ?_|refine q6 ?_|refine q9 ?_|refine q15 ?_)
        refine retQ_ret rfl (L' := chR bd xs :: L) (by repeat (first|exact List.Sublist.refl _|refine List.Sublist.cons_cons _ ?_|refine List.Sublist.cons _ ?_)) ⟨rfl, p, _, rfl, hx, rfl⟩
      · repeat (first|refine q1 ?_|refine q3 ?_|refine q4 tab rfl rfl ?_|refine q5 ?_|refine q6 ?_|refine q9 ?_|refine q15 ?_)
        refine retQ_ret rfl (L' := chR bd xs :: L) (by repeat (first|exact List.Sublist.refl _|refine List.Sublist.cons_cons _ ?_|refine List.Sublist.cons _ ?_)) ⟨rfl, p, _, rfl, hx, rfl⟩
end Go.Sep

/-
  Bits of numbers inside a region that draws its order; and with a mask.
-/
set_option linter.unusedVariables false
set_option linter.unusedSimpArgs false
namespace Go.Sep
section
variable {P : Program} {N : Nat} {D : List Deferred} {m : Mem} {L : List Item} {Q : EPost} {K : Env → Mem → List Item → Prop} {ρ : Env} {ops listed : List _} {ts : List Nat} {fuel : Nat} {Ls Lp : List Item}
theorem DO.shK {ops : List Oper} {listed : List Bool} (i : Nat) {op : BinOp} {t t' : TypeId} {x y : Operand} {o : Oper} {k ky : IntKind} {d : Nat} {a b r : Int} (hop : op = .shl ∨ op = .shr) (hb : 0 ≤ b) (hc : Calm Q) (hns : Region.noSelect ⟨ops⟩ = true) (hok : orderOkP ops ts [i] listed = true)
    (hi : ops[i]? = some o) (hg : gv ops ρ o = some true) (ho : o.op = .binOp op t x y t') (hd : o.dst = some d) (hN : Nat.blt d N = true)
    (hx : ev ρ x = some (.int k a)) (hy : ev ρ y = some (.int ky b)) (he : (if op = .shl then k.wrap (a * 2 ^ (min b.toNat k.bits)) else a.fdiv (2 ^ (min b.toNat k.bits))) = r)
    (h : DO P N ops ts fuel (listed.set i true) ((d, .int k r) :: ρ) D m Ls Lp Q) : DO P N ops ts (fuel + 1) listed ρ D m Ls Lp Q := by
  simp only [orderOkP, Bool.and_eq_true] at hok
  obtain ⟨o1, o2, o3, _⟩ := hok
  subst he
  have hb' : ¬ b < 0 := by omega
  refine DO.takeP i hc hi hd hN hg hns o1 o2 (by simpa using o3) (fun ac w hA => ?_) h
  rcases hop with rfl | rfl <;> simp [execOp, ho, hA.eval hx, hA.eval hy, eqGuard, binOp, Op.shift, hb']
theorem DO.xorK {ops : List Oper} {listed : List Bool} (i : Nat) {t t' : TypeId} {x y : Operand} {o : Oper} {k : IntKind} {d : Nat} {a b r : Int} (hc : Calm Q) (hns : Region.noSelect ⟨ops⟩ = true) (hok : orderOkP ops ts [i] listed = true)
    (hi : ops[i]? = some o) (hg : gv ops ρ o = some true) (ho : o.op = .binOp .xor t x y t') (hd : o.dst = some d) (hN : Nat.blt d N = true)
    (hx : ev ρ x = some (.int k a)) (hy : ev ρ y = some (.int k b)) (he : k.wrap ((BitVec.ofInt k.bits a ^^^ BitVec.ofInt k.bits b).toNat : Int) = r)
    (h : DO P N ops ts fuel (listed.set i true) ((d, .int k r) :: ρ) D m Ls Lp Q) : DO P N ops ts (fuel + 1) listed ρ D m Ls Lp Q := by
  simp only [orderOkP, Bool.and_eq_true] at hok
  obtain ⟨o1, o2, o3, _⟩ := hok
  subst he
  refine DO.takeP i hc hi hd hN hg hns o1 o2 (by simpa using o3) (fun ac w hA => ?_) h
  simp [execOp, ho, hA.eval hx, hA.eval hy, eqGuard, binOp, Op.intBits]
theorem u64_in' {n : Int} (h1 : 0 ≤ n) (h2 : n < 18446744073709551616) : IntKind.u64.wrap n = n := by
  simp only [IntKind.wrap, IntKind.bits, IntKind.signed]
  simp
  omega
/-- a mask's answer is below it -/
theorem mask_u64 {P : Program} (a : Int) (M : Nat) (hM : 0 < M) (hM2 : M ≤ 1099511627776) : ∃ z : Nat, z < M ∧ ∀ w, (Op.intBits .and .u64 a ((M - 1 : Nat) : Int)).run P w = .ok (.int .u64 (z : Int)) w := by
  have hb : (BitVec.ofInt 64 ((M - 1 : Nat) : Int)).toNat = M - 1 := by
    rw [BitVec.toNat_ofInt]
    omega
  have hle : (BitVec.ofInt 64 a &&& BitVec.ofInt 64 ((M - 1 : Nat) : Int)).toNat ≤ M - 1 := by
    rw [BitVec.toNat_and, hb]
    exact Nat.and_le_right
  refine ⟨(BitVec.ofInt 64 a &&& BitVec.ofInt 64 ((M - 1 : Nat) : Int)).toNat, by omega, fun w => ?_⟩
  generalize hz : (BitVec.ofInt 64 a &&& BitVec.ofInt 64 ((M - 1 : Nat) : Int)).toNat = z at hle
  have hw : IntKind.u64.wrap (z : Int) = (z : Int) := u64_in' (by omega) (by omega)
  show (Pure.pure (Value.int .u64 (IntKind.u64.wrap _)) : Sem Value).run P w = _
  rw [Sem.run_pure]
  exact congrArg (fun q => Result.ok (Value.int .u64 q) w) ((congrArg (fun q : Nat => IntKind.u64.wrap (q : Int)) hz).trans hw)
end
end Go.Sep

/-
  Changes sorted in place: patterns broken (a draw of numbers, the next power of two).
-/
set_option linter.unusedVariables false
set_option linter.unusedSimpArgs false
namespace Go.Sep
open Go.Proofs
attribute [local irreducible] TC TO OT TCallX TCall DO DOt thenQ blockQ retQ At
def len8 : Str := ([0, 1, 2, 2, 3, 3, 3, 3, 4, 4, 4, 4, 4, 4, 4, 4, 5, 5, 5, 5, 5, 5, 5, 5, 5, 5, 5, 5, 5, 5, 5, 5, 6, 6, 6, 6, 6, 6, 6, 6, 6, 6, 6, 6, 6, 6, 6, 6, 6, 6, 6, 6, 6, 6, 6, 6, 6, 6, 6, 6, 6, 6, 6, 6].append [7, 7, 7, 7, 7, 7, 7, 7, 7, 7, 7, 7, 7, 7, 7, 7, 7, 7, 7, 7, 7, 7, 7, 7, 7, 7, 7, 7, 7, 7, 7, 7, 7, 7, 7, 7, 7, 7, 7, 7, 7, 7, 7, 7, 7, 7, 7, 7, 7, 7, 7, 7, 7, 7, 7, 7, 7, 7, 7, 7, 7, 7, 7, 7]).append ([8, 8, 8, 8, 8, 8, 8, 8, 8, 8, 8, 8, 8, 8, 8, 8, 8, 8, 8, 8, 8, 8, 8, 8, 8, 8, 8, 8, 8, 8, 8, 8, 8, 8, 8, 8, 8, 8, 8, 8, 8, 8, 8, 8, 8, 8, 8, 8, 8, 8, 8, 8, 8, 8, 8, 8, 8, 8, 8, 8, 8, 8, 8, 8].append [8, 8, 8, 8, 8, 8, 8, 8, 8, 8, 8, 8, 8, 8, 8, 8, 8, 8, 8, 8, 8, 8, 8, 8, 8, 8, 8, 8, 8, 8, 8, 8, 8, 8, 8, 8, 8, 8, 8, 8, 8, 8, 8, 8, 8, 8, 8, 8, 8, 8, 8, 8, 8, 8, 8, 8, 8, 8, 8, 8, 8, 8, 8, 8])
theorem len8_ok (x : Nat) (hx : x < 256) (h0 : 0 < x) : ∃ b : UInt8, len8[x]? = some b ∧ x < 2 ^ b.toNat ∧ 2 ^ b.toNat ≤ 2 * x ∧ b.toNat ≤ 8 := by
  have := (by decide +kernel : ∀ n : Fin 256, n.1 = 0 ∨ (match len8[n.1]? with | some b => decide (n.1 < 2 ^ b.toNat ∧ 2 ^ b.toNat ≤ 2 * n.1 ∧ b.toNat ≤ 8) | none => false) = true) ⟨x, hx⟩
  rcases this with h | h
  · simp only at h; omega
  · simp only at h
    split at h
    · rename_i b hb
      exact ⟨b, hb, of_decide_eq_true h⟩
    · cases h
theorem shr_u64 (n k K : Nat) (hk : k < 64) (hK : 2 ^ k = K) : (if BinOp.shr = .shl then IntKind.u64.wrap ((n : Int) * 2 ^ (min (Int.toNat (k : Int)) IntKind.u64.bits)) else Int.fdiv (n : Int) (2 ^ (min (Int.toNat (k : Int)) IntKind.u64.bits))) = ((n / K : Nat) : Int) := by
  have : (min (Int.toNat (k : Int)) IntKind.u64.bits) = k := by
    show min (Int.toNat (k : Int)) 64 = k
    omega
  rw [this, if_neg (by decide), Int.fdiv_eq_ediv_of_nonneg _ (by exact Int.le_of_lt (Int.pow_pos (by decide)))]
  rw [← hK]
  simp
theorem shl1_u64 (k : Nat) (hk : k < 64) : (if BinOp.shl = .shl then IntKind.u64.wrap ((1 : Int) * 2 ^ (min (Int.toNat (k : Int)) IntKind.u64.bits)) else Int.fdiv (1 : Int) (2 ^ (min (Int.toNat (k : Int)) IntKind.u64.bits))) = ((2 ^ k : Nat) : Int) := by
  have : (min (Int.toNat (k : Int)) IntKind.u64.bits) = k := by
    show min (Int.toNat (k : Int)) 64 = k
    omega
  rw [this, if_pos rfl, Int.one_mul]
  have h2 : (2 : Int) ^ k = ((2 ^ k : Nat) : Int) := by simp
  rw [h2]
  have : 2 ^ k < 2 ^ 64 := Nat.pow_lt_pow_right (by decide) hk
  generalize 2 ^ k = T at this ⊢
  exact u64_in' (by omega) (by omega)
theorem u8_in' {n : Int} (h1 : 0 ≤ n) (h2 : n < 256) : IntKind.u8.wrap n = n := by
  simp only [IntKind.wrap, IntKind.signed, IntKind.bits, Bool.false_and, Bool.false_eq_true, if_false]
  omega
theorem len64_law (m : Mem) (L : List Item) (n : Nat) (h0 : 0 < n) (hn : n ≤ 2000000) : TCall Try.prog 46 ⟨[.int .u64 (n : Int)]⟩ m L (fun r m' L' => m = m' ∧ L = L' ∧ ∃ k : Nat, r = .int .i64 (k : Int) ∧ k ≤ 40 ∧ n < 2 ^ k ∧ 2 ^ k ≤ 2 * n) := by
  unfold TCall
  refine TCallX.enter Try.func46 rfl 25 rfl ?_
  repeat (first|refine q1 ?_|refine q3 ?_|refine q4 tab rfl rfl ?_|refine q5 ?_|refine q6 ?_)
  refine TC.condP rfl (fun hbig => ?_) (fun hbig => ?_)
  · exact absurd hbig (by omega)
  · repeat (first|refine q1 ?_|refine q3 ?_|refine q4 tab rfl rfl ?_|refine q5 ?_|refine q6 ?_|refine q13 ?_)
    refine TC.cutT (ι := Nat × Nat) [] rfl (fun x => [(0, .int .u64 (x.1 : Int)), (2, .int .i64 (x.2 : Int))]) (fun _ => m) (fun _ => L) (fun x => 0 < x.1 ∧ x.1 < 65536 ∧ ((x.1 = n ∧ x.2 = 0) ∨ (x.1 = n / 65536 ∧ x.2 = 16 ∧ 65536 ≤ n))) ?_ (fun x hx => ?_)
    · refine TC.condP rfl (fun h16 => ?_) (fun h16 => ?_)
      · repeat (first|refine q1 ?_|refine q3 ?_|refine q4 tab rfl rfl ?_)
        refine TO.step rfl (OT.shK rfl (.inr rfl) rfl rfl rfl rfl (by decide) (shr_u64 n 16 65536 (by decide) (by decide)) ?_)
        repeat (first|refine q3 ?_|refine q4 tab rfl rfl ?_|refine q5 ?_|refine q6 ?_)
        refine TO.step rfl (OT.arith (r' := ((16 : Nat) : Int)) rfl rfl rfl rfl rfl rfl (by omega) (by omega) ?_)
        repeat (first|refine q4 tab rfl rfl ?_|refine q5 ?_|refine q6 ?_)
        exact ⟨(n / 65536, 16), (by repeat (first|exact trivial|refine And.intro rfl ?_)), (by repeat (exact trivial)), rfl, rfl, (by repeat (exact List.Sublist.refl _)), by simp only; omega, by simp only; omega, .inr ⟨rfl, rfl, by omega⟩⟩
      · repeat (first|refine q6 ?_|refine q13 ?_)
        exact ⟨(n, 0), (by repeat (first|exact trivial|refine And.intro rfl ?_)), (by repeat (exact trivial)), rfl, rfl, (by repeat (exact List.Sublist.refl _)), by simp only; omega, by simp only; omega, .inl ⟨rfl, rfl⟩⟩
    · obtain ⟨x, k⟩ := x
      simp only at hx ⊢
      repeat (first|refine q1 ?_|refine q3 ?_|refine q4 tab rfl rfl ?_|refine q5 ?_|refine q6 ?_)
      refine TC.cutT (ι := Nat × Nat) [] rfl (fun x => [(0, .int .u64 (x.1 : Int)), (2, .int .i64 (x.2 : Int))]) (fun _ => m) (fun _ => L) (fun y => 0 < y.1 ∧ y.1 < 256 ∧ ((y.1 = x ∧ y.2 = k) ∨ (y.1 = x / 256 ∧ y.2 = k + 8 ∧ 256 ≤ x))) ?_ (fun y hy => ?_)
      · refine TC.condP rfl (fun h8 => ?_) (fun h8 => ?_)
        · repeat (first|refine q1 ?_|refine q3 ?_|refine q4 tab rfl rfl ?_)
          refine TO.step rfl (OT.shK rfl (.inr rfl) rfl rfl rfl rfl (by decide) (shr_u64 x 8 256 (by decide) (by decide)) ?_)
          repeat (first|refine q3 ?_|refine q4 tab rfl rfl ?_|refine q5 ?_|refine q6 ?_)
          refine TO.step rfl (OT.arith (r' := ((k + 8 : Nat) : Int)) rfl rfl rfl rfl rfl rfl (by omega) (by omega) ?_)
          repeat (first|refine q4 tab rfl rfl ?_|refine q5 ?_|refine q6 ?_)
          exact ⟨(x / 256, k + 8), (by repeat (first|exact trivial|refine And.intro rfl ?_)), (by repeat (exact trivial)), rfl, rfl, (by repeat (exact List.Sublist.refl _)), by simp only; omega, by simp only; omega, .inr ⟨rfl, rfl, by omega⟩⟩
        · repeat (first|refine q6 ?_|refine q13 ?_)
          exact ⟨(x, k), (by repeat (first|exact trivial|refine And.intro rfl ?_)), (by repeat (exact trivial)), rfl, rfl, (by repeat (exact List.Sublist.refl _)), by simp only; omega, by simp only; omega, .inl ⟨rfl, rfl⟩⟩
      · obtain ⟨y, k2⟩ := y
        simp only at hy ⊢
        obtain ⟨b, hb, hb1, hb2, hb3⟩ := len8_ok y hy.2.1 hy.1
        repeat (first|refine q1 ?_|refine q3 ?_|refine q4 tab rfl rfl ?_)
        refine TO.step rfl (OT.conv tab (r := (y : Int)) rfl rfl rfl rfl rfl rfl (by rw [u8_in' (by omega) (by omega)]) ?_)
        skip
        refine TO.step rfl (OT.sidxK tab (s := len8) y rfl rfl rfl rfl rfl rfl rfl hb ?_)
        skip
        refine TO.step rfl (OT.conv tab (r := (b.toNat : Int)) rfl rfl rfl rfl rfl rfl (wrap64_in (by omega) (by omega)) ?_)
        skip
        refine TO.step rfl (OT.arith (r' := ((k2 + b.toNat : Nat) : Int)) rfl rfl rfl rfl rfl rfl (by omega) (by omega) ?_)
        repeat (first|refine q4 tab rfl rfl ?_|refine q5 ?_|refine q6 ?_|refine q15 ?_)
        refine retQ_ret rfl (by repeat (exact List.Sublist.refl _)) ⟨rfl, rfl, k2 + b.toNat, rfl, by omega, ?_⟩
        have e8 : 2 ^ (8 + b.toNat) = 256 * 2 ^ b.toNat := by rw [Nat.pow_add]
        have e16 : 2 ^ (16 + b.toNat) = 65536 * 2 ^ b.toNat := by rw [Nat.pow_add]
        have e24 : 2 ^ (24 + b.toNat) = 16777216 * 2 ^ b.toNat := by rw [Nat.pow_add]
        obtain ⟨hx1, hx2, hx3⟩ := hx
        obtain ⟨hy1, hy2, hy3⟩ := hy
        rcases hx3 with ⟨q1, q2⟩ | ⟨q1, q2, q3⟩ <;> rcases hy3 with ⟨q4, q5⟩ | ⟨q4, q5, q6⟩
        · rw [q5, q2, Nat.zero_add]
          generalize 2 ^ b.toNat = T at *
          omega
        · rw [q5, q2, Nat.zero_add, e8]
          generalize 2 ^ b.toNat = T at *
          omega
        · rw [q5, q2, e16]
          generalize 2 ^ b.toNat = T at *
          omega
        · rw [q5, q2, e24]
          generalize 2 ^ b.toNat = T at *
          omega
theorem len_law (m : Mem) (L : List Item) (n : Nat) (h0 : 0 < n) (hn : n ≤ 2000000) : TCall Try.prog 33 ⟨[.int .u64 (n : Int)]⟩ m L (fun r m' L' => m = m' ∧ L = L' ∧ ∃ k : Nat, r = .int .i64 (k : Int) ∧ k ≤ 40 ∧ n < 2 ^ k ∧ 2 ^ k ≤ 2 * n) := by
  unfold TCall
  refine TCallX.enter Try.func33 rfl 8 rfl ?_
  repeat (first|refine q1 ?_|refine q3 ?_|refine q4 tab rfl rfl ?_|refine q5 ?_|refine q6 ?_|refine q13 ?_|refine q17 rfl ?_)
  refine TO.step rfl (OT.call rfl rfl rfl rfl rfl rfl goes46 ((len64_law m L n h0 hn).x ?_));
  rintro r1 m1 L1 ⟨rfl, rfl, k, rfl, hk1, hk2, hk3⟩
  repeat (first|refine q4 tab rfl rfl ?_|refine q5 ?_|refine q6 ?_|refine q15 ?_)
  refine retQ_ret rfl (by repeat (exact List.Sublist.refl _)) ⟨rfl, rfl, k, rfl, hk1, hk2, hk3⟩
theorem nextPow_law (m : Mem) (L : List Item) (n : Nat) (h0 : 0 < n) (hn : n ≤ 2000000) : TCall Try.prog 49 ⟨[.int .i64 (n : Int)]⟩ m L (fun r m' L' => m = m' ∧ L = L' ∧ ∃ M : Nat, r = .int .u64 (M : Int) ∧ n < M ∧ M ≤ 2 * n) := by
  unfold TCall
  refine TCallX.enter Try.func49 rfl 7 rfl ?_
  repeat (first|refine q1 ?_|refine q3 ?_|refine q4 tab rfl rfl ?_|refine q5 ?_|refine q6 ?_)
  refine TO.step rfl (OT.conv tab (r := (n : Int)) rfl rfl rfl rfl rfl rfl (u64_in' (by omega) (by omega)) ?_)
  skip
  refine TO.step rfl (OT.call rfl rfl rfl rfl rfl rfl goes33 ((len_law m L n h0 hn).x ?_));
  rintro r1 m1 L1 ⟨rfl, rfl, k, rfl, hk1, hk2, hk3⟩
  skip
  refine TO.step rfl (OT.shK rfl (.inl rfl) rfl rfl rfl rfl (by omega) (shl1_u64 k (by omega)) ?_)
  repeat (first|refine q4 tab rfl rfl ?_|refine q5 ?_|refine q6 ?_|refine q15 ?_)
  refine retQ_ret rfl (by repeat (exact List.Sublist.refl _)) ⟨rfl, rfl, 2 ^ k, rfl, hk2, hk3⟩
@[reducible] def rqI (bq : Nat) (v : Int) : Item := .cells bq 0 [.int .u64 v]
set_option maxHeartbeats 1000000 in
theorem next_law (m : Mem) (L0 : List Item) (bq : Nat) (v : Int) : TCall Try.prog 50 ⟨[pqV bq]⟩ m (rqI bq v :: L0) (fun r m' L' => m = m' ∧ ∃ u : Int, r = .int .u64 u ∧ rqI bq u :: L0 = L') := by
  unfold TCall
  refine TCallX.enter Try.func50 rfl 33 rfl ?_
  repeat (first|refine q1 ?_|refine q3 ?_|refine q4 tab rfl rfl ?_|refine q5 ?_|refine q6 ?_)
  refine TC.cutT (ι := Int) [0] rfl (fun _ => []) (fun _ => m) (fun v => rqI bq v :: L0) (fun _ => True) ?_ (fun v _ => ?_)
  · refine TC.draw [9] mixed 10 rfl [rqI bq v] L0 (by first | exact List.Perm.refl _ | (rw [List.append_nil]; exact List.Perm.refl _)) ?_
    refine DO.pure tab (by repeat (first|exact Calm.ret|refine Calm.then ?_)) (by kernel_rfl) [0, 1] (by kernel_rfl) rfl ?_
    (refine DO.loadL (k := 0) tab 2 0 (by repeat (first|exact Calm.ret|refine Calm.then ?_)) (by kernel_rfl) (by kernel_rfl) rfl rfl rfl rfl rfl rfl rfl rfl ?_)
    refine DO.pure tab (by repeat (first|exact Calm.ret|refine Calm.then ?_)) (by kernel_rfl) [3, 4] (by kernel_rfl) rfl ?_
    (refine DO.loadL (k := 0) tab 5 0 (by repeat (first|exact Calm.ret|refine Calm.then ?_)) (by kernel_rfl) (by kernel_rfl) rfl rfl rfl rfl rfl rfl rfl rfl ?_)
    refine DO.shK (b := 13) 6 (.inl rfl) (by decide) (by repeat (first|exact Calm.ret|refine Calm.then ?_)) (by kernel_rfl) (by kernel_rfl) rfl rfl rfl rfl rfl rfl rfl rfl ?_
    refine DO.xorK 7 (by repeat (first|exact Calm.ret|refine Calm.then ?_)) (by kernel_rfl) (by kernel_rfl) rfl rfl rfl rfl rfl rfl rfl rfl ?_
    refine DO.pure tab (by repeat (first|exact Calm.ret|refine Calm.then ?_)) (by kernel_rfl) [8] (by kernel_rfl) rfl ?_
    refine DO.tail ?_
    refine DOt.run 9 rfl rfl (by kernel_rfl) rfl ?_
    refine OT.storeL0 tab 0 rfl rfl rfl rfl rfl rfl rfl rfl ?_
    refine DOt.nil (by kernel_rfl) ?_
    rotate_left 1
    repeat (refine q6 ?_)
    exact ⟨_, (by repeat (exact trivial)), (by repeat (first|exact trivial|refine And.intro rfl ?_)), rfl, rfl, (by repeat (exact List.Sublist.refl _)), trivial⟩
  repeat (refine q1 ?_)
  refine TC.cutT (ι := Int) [0] rfl (fun _ => []) (fun _ => m) (fun v => rqI bq v :: L0) (fun _ => True) ?_ (fun v _ => ?_)
  · refine TC.draw [9] mixed 10 rfl [rqI bq v] L0 (by first | exact List.Perm.refl _ | (rw [List.append_nil]; exact List.Perm.refl _)) ?_
    refine DO.pure tab (by repeat (first|exact Calm.ret|refine Calm.then ?_)) (by kernel_rfl) [0, 1] (by kernel_rfl) rfl ?_
    (refine DO.loadL (k := 0) tab 2 0 (by repeat (first|exact Calm.ret|refine Calm.then ?_)) (by kernel_rfl) (by kernel_rfl) rfl rfl rfl rfl rfl rfl rfl rfl ?_)
    refine DO.pure tab (by repeat (first|exact Calm.ret|refine Calm.then ?_)) (by kernel_rfl) [3, 4] (by kernel_rfl) rfl ?_
    (refine DO.loadL (k := 0) tab 5 0 (by repeat (first|exact Calm.ret|refine Calm.then ?_)) (by kernel_rfl) (by kernel_rfl) rfl rfl rfl rfl rfl rfl rfl rfl ?_)
    refine DO.shK (b := 7) 6 (.inr rfl) (by decide) (by repeat (first|exact Calm.ret|refine Calm.then ?_)) (by kernel_rfl) (by kernel_rfl) rfl rfl rfl rfl rfl rfl rfl rfl ?_
    refine DO.xorK 7 (by repeat (first|exact Calm.ret|refine Calm.then ?_)) (by kernel_rfl) (by kernel_rfl) rfl rfl rfl rfl rfl rfl rfl rfl ?_
    refine DO.pure tab (by repeat (first|exact Calm.ret|refine Calm.then ?_)) (by kernel_rfl) [8] (by kernel_rfl) rfl ?_
    refine DO.tail ?_
    refine DOt.run 9 rfl rfl (by kernel_rfl) rfl ?_
    refine OT.storeL0 tab 0 rfl rfl rfl rfl rfl rfl rfl rfl ?_
    refine DOt.nil (by kernel_rfl) ?_
    rotate_left 1
    repeat (refine q6 ?_)
    exact ⟨_, (by repeat (exact trivial)), (by repeat (first|exact trivial|refine And.intro rfl ?_)), rfl, rfl, (by repeat (exact List.Sublist.refl _)), trivial⟩
  repeat (refine q1 ?_)
  refine TC.cutT (ι := Int) [0] rfl (fun _ => []) (fun _ => m) (fun v => rqI bq v :: L0) (fun _ => True) ?_ (fun v _ => ?_)
  · refine TC.draw [9] mixed 10 rfl [rqI bq v] L0 (by first | exact List.Perm.refl _ | (rw [List.append_nil]; exact List.Perm.refl _)) ?_
    refine DO.pure tab (by repeat (first|exact Calm.ret|refine Calm.then ?_)) (by kernel_rfl) [0, 1] (by kernel_rfl) rfl ?_
    (refine DO.loadL (k := 0) tab 2 0 (by repeat (first|exact Calm.ret|refine Calm.then ?_)) (by kernel_rfl) (by kernel_rfl) rfl rfl rfl rfl rfl rfl rfl rfl ?_)
    refine DO.pure tab (by repeat (first|exact Calm.ret|refine Calm.then ?_)) (by kernel_rfl) [3, 4] (by kernel_rfl) rfl ?_
    (refine DO.loadL (k := 0) tab 5 0 (by repeat (first|exact Calm.ret|refine Calm.then ?_)) (by kernel_rfl) (by kernel_rfl) rfl rfl rfl rfl rfl rfl rfl rfl ?_)
    refine DO.shK (b := 17) 6 (.inl rfl) (by decide) (by repeat (first|exact Calm.ret|refine Calm.then ?_)) (by kernel_rfl) (by kernel_rfl) rfl rfl rfl rfl rfl rfl rfl rfl ?_
    refine DO.xorK 7 (by repeat (first|exact Calm.ret|refine Calm.then ?_)) (by kernel_rfl) (by kernel_rfl) rfl rfl rfl rfl rfl rfl rfl rfl ?_
    refine DO.pure tab (by repeat (first|exact Calm.ret|refine Calm.then ?_)) (by kernel_rfl) [8] (by kernel_rfl) rfl ?_
    refine DO.tail ?_
    refine DOt.run 9 rfl rfl (by kernel_rfl) rfl ?_
    refine OT.storeL0 tab 0 rfl rfl rfl rfl rfl rfl rfl rfl ?_
    refine DOt.nil (by kernel_rfl) ?_
    rotate_left 1
    repeat (refine q6 ?_)
    exact ⟨_, (by repeat (exact trivial)), (by repeat (first|exact trivial|refine And.intro rfl ?_)), rfl, rfl, (by repeat (exact List.Sublist.refl _)), trivial⟩
  repeat (first|refine q1 ?_|refine q3 ?_|refine q4 tab rfl rfl ?_)
  (refine qs rfl (qz tab 0 rfl rfl rfl rfl rfl rfl ?_))
  repeat (first|refine q4 tab rfl rfl ?_|refine q5 ?_|refine q6 ?_|refine q15 ?_)
  refine retQ_ret rfl (by repeat (exact List.Sublist.refl _)) ⟨rfl, v, rfl, rfl⟩
set_option maxHeartbeats 2000000 in
theorem break_ch (m : Mem) (L0 : List Item) (bd c a b : Nat) (xs : List Ch) (hD0 : DomC xs) (hab : a < b) (hl : b ≤ xs.length) (hlim : xs.length ≤ 1000000) :
    TCall Try.prog 39 ⟨[.slice (some ⟨bd, 0, none⟩) xs.length c, .int .i64 (a : Int), .int .i64 (b : Int), chF]⟩ m (chR bd xs :: L0) (fun r m' L' => m = m' ∧ ∃ ys, Sg a b xs ys ∧ chR bd ys :: L0 = L') := by
  unfold TCall
  refine TCallX.enter Try.func39 rfl 67 rfl ?_
  repeat (first|refine q1 ?_|refine q3 ?_|refine q4 tab rfl rfl ?_)
  refine TO.step rfl (OT.arith (r' := ((b - a : Nat) : Int)) rfl rfl rfl rfl rfl rfl (by omega) (by omega) ?_)
  repeat (first|refine q1 ?_|refine q3 ?_|refine q4 tab rfl rfl ?_|refine q5 ?_|refine q6 ?_)
  refine TC.condP rfl (fun h8 => ?_) (fun h8 => ?_)
  · repeat (first|refine q1 ?_|refine q3 ?_|refine q4 tab rfl rfl ?_)
    refine TO.step rfl (OT.conv tab (r := ((b - a : Nat) : Int)) rfl rfl rfl rfl rfl rfl (u64_in' (by omega) (by omega)) ?_)
    skip
    refine TO.step rfl (OT.alloc tab rfl rfl rfl rfl (fun bq => ?_))
    (refine TO.step rfl (OT.storeL0 tab 0 rfl rfl rfl rfl rfl rfl rfl rfl ?_))
    repeat (first|refine q1 ?_|refine q3 ?_|refine q4 tab rfl rfl ?_|refine q5 ?_|refine q6 ?_)
    refine TO.step rfl (OT.call rfl rfl rfl rfl rfl rfl goes49 ((nextPow_law m (rqI bq ((b - a : Nat) : Int) :: chR bd xs :: L0) (b - a) (by omega) (by omega)).x ?_));
    rintro r1 m1 L1 ⟨rfl, rfl, M, rfl, hM1, hM2⟩
    repeat (first|refine q1 ?_|refine q3 ?_|refine q4 tab rfl rfl ?_|refine q5 ?_|refine q6 ?_)
    refine TO.step rfl (OT.quoK rfl rfl rfl rfl rfl (by decide) (quo4 (b - a) (by omega)) ?_)
    skip
    refine TO.step rfl (OT.arith (r' := (((b - a) / 4 * 2 : Nat) : Int)) rfl rfl rfl rfl rfl rfl (by omega) (by omega) ?_)
    skip
    refine TO.step rfl (OT.arith (r' := ((a + (b - a) / 4 * 2 : Nat) : Int)) rfl rfl rfl rfl rfl rfl (by omega) (by omega) ?_)
    skip
    refine TO.step rfl (OT.arith (r' := ((a + (b - a) / 4 * 2 - 1 : Nat) : Int)) rfl rfl rfl rfl rfl rfl (by omega) (by omega) ?_)
    repeat (first|refine q2 ?_|refine q4 tab rfl rfl ?_|refine q5 ?_|refine q6 ?_)
    refine TC.loopK (ι := Nat × Int × List Ch) [0, 1, 2, 3, 8, 9, 10] rfl (fun x => [(11, .int .i64 (x.1 : Int))]) (fun _ => m) (fun x => rqI bq x.2.1 :: chR bd x.2.2 :: L0) (fun x => a ≤ x.1 ∧ Sg a b xs x.2.2) (fun x => b + 1 - x.1) (a + (b - a) / 4 * 2 - 1, ((b - a : Nat) : Int), xs) (by repeat (first|exact trivial|refine And.intro rfl ?_)) rfl (by repeat (exact List.Sublist.refl _)) ⟨by simp only; omega, Sg.refl _ _ _⟩ ?_
    rintro ⟨i, v, ys⟩ ⟨hi, hS⟩
    simp only at hi hS ⊢
    have hyl := hS.len
    have hD : DomC ys := hD0.perm hS.perm
    repeat (first|refine q1 ?_|refine q3 ?_|refine q4 tab rfl rfl ?_)
    refine TO.step rfl (OT.quoK rfl rfl rfl rfl rfl (by decide) (quo4 (b - a) (by omega)) ?_)
    skip
    refine TO.step rfl (OT.arith (r' := (((b - a) / 4 * 2 : Nat) : Int)) rfl rfl rfl rfl rfl rfl (by omega) (by omega) ?_)
    skip
    refine TO.step rfl (OT.arith (r' := ((a + (b - a) / 4 * 2 : Nat) : Int)) rfl rfl rfl rfl rfl rfl (by omega) (by omega) ?_)
    skip
    refine TO.step rfl (OT.arith (r' := ((a + (b - a) / 4 * 2 + 1 : Nat) : Int)) rfl rfl rfl rfl rfl rfl (by omega) (by omega) ?_)
    repeat (first|refine q4 tab rfl rfl ?_|refine q5 ?_|refine q6 ?_)
    refine TC.condP rfl (fun hle => ?_) (fun hle => ?_)
    · repeat (first|refine q1 ?_|refine q2 ?_|refine q3 ?_|refine q6 ?_|refine q13 ?_)
      refine TO.step rfl (OT.call rfl rfl rfl rfl rfl rfl goes50 ((next_law m (chR bd ys :: L0) bq v).x ?_));
      rintro r1 m1 L1 ⟨rfl, u, rfl, rfl⟩
      obtain ⟨z, hz, hzr⟩ := mask_u64 (P := Try.prog) u M (by omega) (by omega)
      repeat (refine q4 tab rfl rfl ?_)
      refine TO.step rfl (OT.arithK (r' := ((M - 1 : Nat) : Int)) rfl rfl rfl rfl rfl rfl (by rw [u64_in' (by omega) (by omega)]; omega) ?_)
      skip
      refine TO.step rfl (OT.andK rfl rfl rfl rfl rfl hzr ?_)
      skip
      refine TO.step rfl (OT.conv tab (r := (z : Int)) rfl rfl rfl rfl rfl rfl (wrap64_in (by omega) (by omega)) ?_)
      repeat (first|refine q1 ?_|refine q3 ?_|refine q4 tab rfl rfl ?_|refine q5 ?_|refine q6 ?_)
      refine TC.cutT (ι := Nat) [0, 1, 2, 3, 8, 9, 10, 11] rfl (fun o => [(12, .int .i64 (o : Int))]) (fun _ => m) (fun _ => chR bd ys :: rqI bq u :: L0) (fun o => o < b - a) ?_ (fun o ho => ?_)
      · refine TC.perm (List.Perm.swap _ _ _) ?_
        refine TC.condP rfl (fun hge => ?_) (fun hge => ?_)
        · repeat (first|refine q3 ?_|refine q4 tab rfl rfl ?_)
          refine TO.step rfl (OT.arith (r' := ((z - (b - a) : Nat) : Int)) rfl rfl rfl rfl rfl rfl (by omega) (by omega) ?_)
          repeat (first|refine q4 tab rfl rfl ?_|refine q5 ?_|refine q6 ?_)
          exact ⟨z - (b - a), (by repeat (first|exact trivial|refine And.intro rfl ?_)), (by repeat (first|exact trivial|refine And.intro rfl ?_)), rfl, rfl, (by repeat (exact List.Sublist.refl _)), by omega⟩
        · repeat (first|refine q6 ?_|refine q13 ?_)
          exact ⟨z, (by repeat (first|exact trivial|refine And.intro rfl ?_)), (by repeat (first|exact trivial|refine And.intro rfl ?_)), rfl, rfl, (by repeat (exact List.Sublist.refl _)), by omega⟩
      · obtain ⟨L, hLq⟩ : ∃ L, L = rqI bq u :: L0 := ⟨_, rfl⟩
        rw [← hLq]
        skip
        refine TC.draw [17, 18, 19] mixed 20 rfl [chR bd ys] L (by first | exact List.Perm.refl _ | (rw [List.append_nil]; exact List.Perm.refl _)) ?_
        refine DO.pure tab (by repeat (first|exact Calm.ret|refine Calm.then ?_|refine Calm.block ?_)) (by kernel_rfl) [0, 1, 2, 3, 4] (by kernel_rfl) rfl ?_
        refine DO.arith 5 (r' := (((a + o) : Nat) : Int)) (by repeat (first|exact Calm.ret|refine Calm.then ?_|refine Calm.block ?_)) (by kernel_rfl) (by kernel_rfl) rfl rfl rfl rfl rfl rfl rfl rfl (by first | rfl | omega | (simp only; omega)) (by omega) ?_
        refine DO.pure tab (by repeat (first|exact Calm.ret|refine Calm.then ?_|refine Calm.block ?_)) (by kernel_rfl) [6, 7, 8] (by kernel_rfl) rfl ?_
        refine DO.arith 9 (r' := (((a + o) : Nat) : Int)) (by repeat (first|exact Calm.ret|refine Calm.then ?_|refine Calm.block ?_)) (by kernel_rfl) (by kernel_rfl) rfl rfl rfl rfl rfl rfl rfl rfl (by first | rfl | omega | (simp only; omega)) (by omega) ?_
        refine DO.indexP (sz := 2) tab 10 (a + o) (by repeat (first|exact Calm.ret|refine Calm.then ?_|refine Calm.block ?_)) (by kernel_rfl) (by kernel_rfl) rfl rfl rfl rfl rfl rfl rfl rfl rfl (by omega) ?_
        refine DO.loadE (jj := 0) tab 11 0 rCh (gk_get (xs := ys) (k := (a + o)) (by omega)) (by simp only [rCh]; omega) (fun _ => rfl) (by repeat (first|exact Calm.ret|refine Calm.then ?_|refine Calm.block ?_)) (by kernel_rfl) (by kernel_rfl) rfl rfl rfl rfl rfl rfl rfl ?_
        refine DO.pure tab (by repeat (first|exact Calm.ret|refine Calm.then ?_|refine Calm.block ?_)) (by kernel_rfl) [12, 13] (by kernel_rfl) rfl ?_
        refine DO.indexP (sz := 2) tab 14 i (by repeat (first|exact Calm.ret|refine Calm.then ?_|refine Calm.block ?_)) (by kernel_rfl) (by kernel_rfl) rfl rfl rfl rfl rfl rfl rfl rfl rfl (by omega) ?_
        refine DO.loadE (jj := 0) tab 15 0 rCh (gk_get (xs := ys) (k := i) (by omega)) (by simp only [rCh]; omega) (fun _ => rfl) (by repeat (first|exact Calm.ret|refine Calm.then ?_|refine Calm.block ?_)) (by kernel_rfl) (by kernel_rfl) rfl rfl rfl rfl rfl rfl rfl ?_
        refine DO.indexP (sz := 2) tab 16 i (by repeat (first|exact Calm.ret|refine Calm.then ?_|refine Calm.block ?_)) (by kernel_rfl) (by kernel_rfl) rfl rfl rfl rfl rfl rfl rfl rfl rfl (by omega) ?_
        refine DO.tail ?_
        refine DOt.run 17 rfl rfl (by kernel_rfl) rfl ?_
        refine OT.storeE (h2 := gk ys (a + o)) tab 0 rCh (gk_get (xs := ys) (k := i) (by omega)) (j := 0) (by simp only [rCh]; omega) (fun _ => rfl) (Nat.le_refl _) rfl rfl rfl rfl rfl rfl rfl ?_
        refine DOt.run 18 rfl rfl (by kernel_rfl) rfl ?_
        refine OT.indexP (sz := 2) tab (a + o) rfl rfl rfl rfl rfl rfl rfl (by omega) ?_
        refine DOt.run 19 rfl rfl (by kernel_rfl) rfl ?_
        refine OT.storeE (h2 := gk ys i) (h := gk (List.set ys i (gk ys (a + o))) (a + o)) tab 0 rCh (k := (a + o)) (gk_get (by simp; omega)) (j := 0) (by simp only [rCh]; omega) (fun _ => rfl) (Nat.le_refl _) rfl rfl rfl rfl rfl rfl rfl ?_
        refine DOt.nil (by kernel_rfl) ?_
        rotate_left 1
        refine blockQ_n ?_
        refine thenQ_n ?_
        refine TC.drop (L' := chR bd (sw ys i (a + o)) :: rqI bq u :: L0) (by rw [hLq]; exact List.Sublist.refl _) ?_
        refine TC.perm (List.Perm.swap _ _ _) ?_
        repeat (first|refine q3 ?_|refine q4 tab rfl rfl ?_)
        refine TO.step rfl (OT.arith (r' := ((i + 1 : Nat) : Int)) rfl rfl rfl rfl rfl rfl rfl (by omega) ?_)
        repeat (first|refine q4 tab rfl rfl ?_|refine q5 ?_|refine q6 ?_)
        exact ⟨(i + 1, u, sw ys i (a + o)), (by repeat (first|exact trivial|refine And.intro rfl ?_)), (by repeat (first|exact trivial|refine And.intro rfl ?_)), rfl, rfl, (by repeat (exact List.Sublist.refl _)), ⟨by simp only; omega, hS.trans (Sg.sw (by omega) (by omega) (by omega))⟩, by simp only; omega⟩
    · repeat (first|refine q10 ?_|refine q11 ?_|refine q14 ?_)
      refine retQ_n rfl (L' := chR bd ys :: L0) (by repeat (first|exact List.Sublist.refl _|refine List.Sublist.cons _ ?_)) ⟨rfl, ys, hS, rfl⟩
  · repeat (refine q13 ?_)
    refine retQ_n rfl (L' := chR bd xs :: L0) (by repeat (exact List.Sublist.refl _)) ⟨rfl, xs, Sg.refl _ _ _, rfl⟩
end Go.Sep

/-
  Changes sorted in place: pdqsort, SortFunc.
-/
set_option linter.unusedVariables false
set_option linter.unusedSimpArgs false
namespace Go.Sep
open Go.Proofs
attribute [local irreducible] TC TO OT TCallX TCall DO DOt thenQ blockQ retQ At
theorem Low.left {lt : Ch → Ch → Bool} {xs ys : List Ch} {a b mid : Nat} (h : Low lt xs a b) (p : Parted lt a b mid xs ys) : Low lt ys a mid := fun h0 i h1 h2 => (h.seg p.seg) h0 i h1 (by have := p.rng; omega)
theorem Low.right {lt : Ch → Ch → Bool} {xs ys : List Ch} {a b mid : Nat} (p : Parted lt a b mid xs ys) : Low lt ys (mid + 1) b := fun _ i h1 h2 => by rw [Nat.add_sub_cancel]; exact p.hi i (by omega) h2
theorem quo8 (n : Nat) (h : n ≤ 1000000) : IntKind.i64.wrap (Int.tdiv (n : Int) 8) = ((n / 8 : Nat) : Int) := by
  rw [show Int.tdiv (n : Int) 8 = ((n / 8 : Nat) : Int) from (Int.ofNat_tdiv n 8).symm]
  exact wrap64_in (by omega) (by omega)
set_option maxHeartbeats 4000000 in
theorem pdq_ch (bd c : Nat) : ∀ (n : Nat) (m : Mem) (L : List Item) (a b lim : Nat) (xs : List Ch), b - a ≤ n → a ≤ b → b ≤ xs.length → DomC xs → xs.length ≤ 1000000 ∧ lim ≤ 1000000 → Low ltC xs a b →
    TCall Try.prog 32 ⟨[.slice (some ⟨bd, 0, none⟩) xs.length c, .int .i64 (a : Int), .int .i64 (b : Int), .int .i64 (lim : Int), chF]⟩ m (chR bd xs :: L) (fun r m' L' => m = m' ∧ ∃ ys, Sg a b xs ys ∧ Sn ltC ys a b ∧ chR bd ys :: L = L') := by
  intro n
  induction n using Nat.strongRecOn with
  | _ n ih0 =>
  intro m L A B lim0 xs0 hn hAB hB hD0 hlim hL0
  have ih : ∀ (m : Mem) (L : List Item) (a b lim : Nat) (xs : List Ch), b - a < B - A → a ≤ b → b ≤ xs.length → DomC xs → xs.length ≤ 1000000 ∧ lim ≤ 1000000 → Low ltC xs a b →
    TCall Try.prog 32 ⟨[.slice (some ⟨bd, 0, none⟩) xs.length c, .int .i64 (a : Int), .int .i64 (b : Int), .int .i64 (lim : Int), chF]⟩ m (chR bd xs :: L) (fun r m' L' => m = m' ∧ ∃ ys, Sg a b xs ys ∧ Sn ltC ys a b ∧ chR bd ys :: L = L') :=
    fun m L a b lim xs h1 => ih0 (b - a) (by omega) m L a b lim xs (Nat.le_refl _)
  clear ih0
  unfold TCall
  refine TCallX.enter Try.func32 rfl 148 rfl ?_
  repeat (first|refine q1 ?_|refine q2 ?_|refine q3 ?_|refine q4 tab rfl rfl ?_|refine q5 ?_|refine q6 ?_)
  refine TC.loopK (ι := Nat × Nat × Nat × Bool × Bool × List Ch) [0, 4] rfl (fun x => [(1, .int .i64 (x.1 : Int)), (2, .int .i64 (x.2.1 : Int)), (3, .int .i64 (x.2.2.1 : Int)), (10, .bool x.2.2.2.1), (11, .bool x.2.2.2.2.1)]) (fun _ => m) (fun x => chR bd x.2.2.2.2.2 :: L) (fun x => A ≤ x.1 ∧ x.1 ≤ x.2.1 ∧ x.2.1 ≤ B ∧ x.2.2.1 ≤ 1000000 ∧ Rest ltC A B xs0 x.2.2.2.2.2 x.1 x.2.1 ∧ Low ltC x.2.2.2.2.2 x.1 x.2.1 ∧ DomC x.2.2.2.2.2 ∧ x.2.2.2.2.2.length = xs0.length) (fun x => x.2.1 - x.1) (A, B, lim0, true, true, xs0) (by repeat (first|exact trivial|refine And.intro rfl ?_)) rfl (by repeat (exact List.Sublist.refl _)) ⟨Nat.le_refl _, hAB, Nat.le_refl _, hlim.2, Rest.start _ _ _, hL0, hD0, rfl⟩ ?_
  rintro ⟨a, b, lim, wb, wp, xs⟩ ⟨ha, hab, hb, hlm, hR, hLo, hD, hxl⟩
  simp only at ha hab hb hlm hR hLo hD hxl ⊢
  rw [← hxl] at hB hlim
  repeat (first|refine q1 ?_|refine q2 ?_|refine q3 ?_|refine q4 tab rfl rfl ?_)
  refine TO.step rfl (OT.arith (r' := ((b - a : Nat) : Int)) rfl rfl rfl rfl rfl rfl (by omega) (by omega) ?_)
  repeat (first|refine q1 ?_|refine q3 ?_|refine q4 tab rfl rfl ?_|refine q5 ?_|refine q6 ?_)
  refine TC.condP rfl (fun h12 => ?_) (fun h12 => ?_)
  · repeat (first|refine q1 ?_|refine q3 ?_|refine q4 tab rfl rfl ?_)
    rw [← hxl]
    refine TO.step rfl (OT.call rfl rfl rfl rfl rfl rfl goes37 ((insort_ch m L bd c a b xs hD hab (by omega) (by omega)).x ?_));
    rintro r1 m1 L1 ⟨rfl, ys, hS, hO, rfl⟩
    obtain ⟨hS2, hO2⟩ := hR ys hS hO
    repeat (first|refine q5 ?_|refine q6 ?_|refine q8 ?_|refine q9 ?_|refine q15 ?_)
    refine retQ_ret rfl (by repeat (exact List.Sublist.refl _)) ⟨rfl, ys, hS2, hO2, rfl⟩
  · repeat (first|refine q1 ?_|refine q3 ?_|refine q4 tab rfl rfl ?_|refine q5 ?_|refine q6 ?_|refine q13 ?_)
    refine TC.condP rfl (fun hl0 => ?_) (fun hl0 => ?_)
    · repeat (first|refine q1 ?_|refine q3 ?_|refine q4 tab rfl rfl ?_)
      rw [← hxl]
      refine TO.step rfl (OT.call rfl rfl rfl rfl rfl rfl goes38 ((heapsort_ch m L bd c a b xs hD (by omega) (by omega) (by omega)).x ?_));
      rintro r1 m1 L1 ⟨rfl, ys, hS, hO, rfl⟩
      obtain ⟨hS2, hO2⟩ := hR ys hS hO
      repeat (first|refine q5 ?_|refine q6 ?_|refine q8 ?_|refine q9 ?_|refine q15 ?_)
      refine retQ_ret rfl (by repeat (exact List.Sublist.refl _)) ⟨rfl, ys, hS2, hO2, rfl⟩
    · repeat (first|refine q1 ?_|refine q3 ?_|refine q4 tab rfl rfl ?_|refine q5 ?_|refine q6 ?_|refine q13 ?_)
      refine TC.cutT (ι := Nat × List Ch) [0, 1, 2, 4, 10, 11, 12] rfl (fun x => [(3, .int .i64 (x.1 : Int))]) (fun _ => m) (fun x => chR bd x.2 :: L) (fun x => x.1 ≤ 1000000 ∧ Sg a b xs x.2) ?_ (fun x hx => ?_)
      · cases wb with
        | true =>
          repeat (first|refine q6 ?_|refine q13 ?_|refine q17 rfl ?_)
          exact ⟨(lim, xs), (by repeat (first|exact trivial|refine And.intro rfl ?_)), (by repeat (first|exact trivial|refine And.intro rfl ?_)), rfl, rfl, (by repeat (exact List.Sublist.refl _)), hlm, Sg.refl _ _ _⟩
        | false =>
          repeat (first|refine q1 ?_|refine q3 ?_|refine q4 tab rfl rfl ?_|refine q16 rfl ?_)
          rw [← hxl]
          refine TO.step rfl (OT.call rfl rfl rfl rfl rfl rfl goes39 ((break_ch m L bd c a b xs hD (by omega) (by omega) (by omega)).x ?_));
          rintro r1 m1 L1 ⟨rfl, ys, hS, rfl⟩
          repeat (first|refine q3 ?_|refine q4 tab rfl rfl ?_|refine q5 ?_|refine q6 ?_)
          refine TO.step rfl (OT.arith (r' := ((lim - 1 : Nat) : Int)) rfl rfl rfl rfl rfl rfl (by omega) (by omega) ?_)
          repeat (first|refine q4 tab rfl rfl ?_|refine q5 ?_|refine q6 ?_)
          exact ⟨(lim - 1, ys), (by repeat (first|exact trivial|refine And.intro rfl ?_)), (by repeat (first|exact trivial|refine And.intro rfl ?_)), rfl, rfl, (by repeat (exact List.Sublist.refl _)), by simp only; omega, hS⟩
      · obtain ⟨lim, xs1⟩ := x
        obtain ⟨hlm, hS1⟩ := hx
        simp only at hlm hS1 ⊢
        have hx1 := hS1.len
        have hD1 : DomC xs1 := hD.perm hS1.perm
        have hR1 := hR.seg hS1
        have hLo1 := hLo.seg hS1
        repeat (first|refine q1 ?_|refine q3 ?_|refine q4 tab rfl rfl ?_)
        rw [← hxl, ← hx1]
        refine TO.step rfl (OT.call rfl rfl rfl rfl rfl rfl goes40 ((choose_ch m L bd c a b xs1 hD1 (by omega) (by omega) (by omega)).x ?_));
        rintro r1 m1 L1 ⟨rfl, p, hint, rfl, hp, rfl⟩
        repeat (first|refine q1 ?_|refine q3 ?_|refine q4 tab rfl rfl ?_|refine q5 ?_|refine q6 ?_)
        refine TC.cutT (ι := Nat × Int × List Ch) [0, 1, 2, 3, 4, 10, 11, 12] rfl (fun x => [(13, .int .i64 (x.1 : Int)), (14, .int .i64 x.2.1)]) (fun _ => m) (fun x => chR bd x.2.2 :: L) (fun x => (a ≤ x.1 ∧ x.1 < b) ∧ Sg a b xs1 x.2.2) ?_ (fun x hx => ?_)
        · refine TC.condP rfl (fun hh2 => ?_) (fun hh2 => ?_)
          · repeat (first|refine q1 ?_|refine q3 ?_|refine q4 tab rfl rfl ?_)
            refine TO.step rfl (OT.call rfl rfl rfl rfl rfl rfl goes41 ((reverse_ch m L bd c a b xs1 (by omega) (by omega) (by omega)).x ?_));
            rintro r1 m1 L1 ⟨rfl, ys, hS, rfl⟩
            repeat (first|refine q1 ?_|refine q3 ?_|refine q4 tab rfl rfl ?_|refine q5 ?_|refine q6 ?_)
            refine TO.step rfl (OT.arith (r' := ((b - 1 : Nat) : Int)) rfl rfl rfl rfl rfl rfl (by omega) (by omega) ?_)
            repeat (refine q4 tab rfl rfl ?_)
            refine TO.step rfl (OT.arith (r' := ((p - a : Nat) : Int)) rfl rfl rfl rfl rfl rfl (by omega) (by omega) ?_)
            skip
            refine TO.step rfl (OT.arith (r' := ((b - 1 - (p - a) : Nat) : Int)) rfl rfl rfl rfl rfl rfl (by omega) (by omega) ?_)
            repeat (first|refine q3 ?_|refine q4 tab rfl rfl ?_|refine q5 ?_|refine q6 ?_)
            exact ⟨(b - 1 - (p - a), 1, ys), (by repeat (first|exact trivial|refine And.intro rfl ?_)), (by repeat (first|exact trivial|refine And.intro rfl ?_)), rfl, rfl, (by repeat (exact List.Sublist.refl _)), by simp only; omega, hS⟩
          · repeat (first|refine q6 ?_|refine q13 ?_)
            exact ⟨(p, hint, xs1), (by repeat (first|exact trivial|refine And.intro rfl ?_)), (by repeat (first|exact trivial|refine And.intro rfl ?_)), rfl, rfl, (by repeat (exact List.Sublist.refl _)), hp, Sg.refl _ _ _⟩
        · clear hp
          obtain ⟨p, hint, xs2⟩ := x
          obtain ⟨hp, hS2⟩ := hx
          simp only at hp hS2 ⊢
          have hx2 := hS2.len
          have hD2 : DomC xs2 := hD1.perm hS2.perm
          have hR2 := hR1.seg hS2
          have hLo2 := hLo1.seg hS2
          rw [← hx2]
          refine TC.seq ?_
          refine TC.cutT (ι := List Ch) [0, 1, 2, 3, 4, 10, 11, 12, 13] rfl (fun x => []) (fun _ => m) (fun x => chR bd x :: L) (fun x => Sg a b xs2 x) ?_ (fun zs hSz => ?_)
          · cases wb with
            | false =>
              repeat (first|refine q1 ?_|refine q3 ?_|refine q4 tab rfl rfl ?_|refine q5 ?_|refine q6 ?_|refine q13 ?_|refine q17 rfl ?_)
              exact ⟨xs2, (by repeat (exact trivial)), (by repeat (first|exact trivial|refine And.intro rfl ?_)), rfl, rfl, (by repeat (exact List.Sublist.refl _)), Sg.refl _ _ _⟩
            | true =>
              cases wp with
              | false =>
                repeat (first|refine q1 ?_|refine q3 ?_|refine q4 tab rfl rfl ?_|refine q5 ?_|refine q6 ?_|refine q13 ?_|refine q17 rfl ?_)
                exact ⟨xs2, (by repeat (exact trivial)), (by repeat (first|exact trivial|refine And.intro rfl ?_)), rfl, rfl, (by repeat (exact List.Sublist.refl _)), Sg.refl _ _ _⟩
              | true =>
                repeat (first|refine q1 ?_|refine q3 ?_|refine q4 tab rfl rfl ?_|refine q5 ?_|refine q6 ?_)
                refine TC.condP rfl (fun hh1 => ?_) (fun hh1 => ?_)
                · repeat (first|refine q1 ?_|refine q3 ?_|refine q4 tab rfl rfl ?_)
                  refine TO.step rfl (OT.call rfl rfl rfl rfl rfl rfl goes42 ((partial_ch m L bd c a b xs2 hD2 (by omega) (by omega) (by omega) hLo2).x ?_));
                  rintro r1 m1 L1 ⟨rfl, ys, bv, rfl, hS, hO, rfl⟩
                  cases bv with
                  | true =>
                    obtain ⟨hS3, hO3⟩ := hR2 ys hS (hO rfl)
                    repeat (first|refine q5 ?_|refine q6 ?_|refine q8 ?_|refine q9 ?_|refine q15 ?_|refine q16 rfl ?_)
                    refine retQ_ret rfl (by repeat (exact List.Sublist.refl _)) ⟨rfl, ys, hS3, hO3, rfl⟩
                  | false =>
                    repeat (first|refine q5 ?_|refine q6 ?_|refine q13 ?_|refine q17 rfl ?_)
                    exact ⟨ys, (by repeat (exact trivial)), (by repeat (first|exact trivial|refine And.intro rfl ?_)), rfl, rfl, (by repeat (exact List.Sublist.refl _)), hS⟩
                · repeat (first|refine q6 ?_|refine q13 ?_)
                  exact ⟨xs2, (by repeat (exact trivial)), (by repeat (first|exact trivial|refine And.intro rfl ?_)), rfl, rfl, (by repeat (exact List.Sublist.refl _)), Sg.refl _ _ _⟩
          · have hzl := hSz.len
            have hDz : DomC zs := hD2.perm hSz.perm
            have hRz := hR2.seg hSz
            have hLz := hLo2.seg hSz
            have hD := hDz
            rw [← hzl]
            repeat (refine q1 ?_)
            refine TC.draw [] mixed 17 rfl [chR bd zs] L (by first | exact List.Perm.refl _ | (rw [List.append_nil]; exact List.Perm.refl _)) ?_
            refine DO.pure tab (by repeat (first|exact Calm.ret|refine Calm.then ?_|refine Calm.block ?_)) (by kernel_rfl) [0, 1, 2] (by kernel_rfl) rfl ?_
            (refine DO.splitP (d := 83) rfl (fun hg2 => ?_) (fun hg2 => ?_))
            refine DO.pure tab (by repeat (first|exact Calm.ret|refine Calm.then ?_|refine Calm.block ?_)) (by kernel_rfl) [3, 4, 5] (by kernel_rfl) rfl ?_
            refine DO.arith 6 (r' := (((a - 1) : Nat) : Int)) (by repeat (first|exact Calm.ret|refine Calm.then ?_|refine Calm.block ?_)) (by kernel_rfl) (by kernel_rfl) rfl rfl rfl rfl rfl rfl rfl rfl (by first | rfl | omega | (simp only; omega)) (by omega) ?_
            refine DO.indexP (sz := 2) tab 7 (a - 1) (by repeat (first|exact Calm.ret|refine Calm.then ?_|refine Calm.block ?_)) (by kernel_rfl) (by kernel_rfl) rfl rfl rfl rfl rfl rfl rfl rfl rfl (by omega) ?_
            refine DO.loadE (jj := 0) tab 8 0 rCh (gk_get (xs := zs) (k := (a - 1)) (by omega)) (by simp only [rCh]; omega) (fun _ => rfl) (by repeat (first|exact Calm.ret|refine Calm.then ?_|refine Calm.block ?_)) (by kernel_rfl) (by kernel_rfl) rfl rfl rfl rfl rfl rfl rfl ?_
            refine DO.pure tab (by repeat (first|exact Calm.ret|refine Calm.then ?_|refine Calm.block ?_)) (by kernel_rfl) [9, 10] (by kernel_rfl) rfl ?_
            refine DO.indexP (sz := 2) tab 11 p (by repeat (first|exact Calm.ret|refine Calm.then ?_|refine Calm.block ?_)) (by kernel_rfl) (by kernel_rfl) rfl rfl rfl rfl rfl rfl rfl rfl rfl (by omega) ?_
            refine DO.loadE (jj := 0) tab 12 0 rCh (gk_get (xs := zs) (k := p) (by omega)) (by simp only [rCh]; omega) (fun _ => rfl) (by repeat (first|exact Calm.ret|refine Calm.then ?_|refine Calm.block ?_)) (by kernel_rfl) (by kernel_rfl) rfl rfl rfl rfl rfl rfl rfl ?_
            refine DO.run 13 rfl rfl (by kernel_rfl) rfl (OT.call rfl rfl rfl rfl rfl rfl goes23 ((chcmp_law m _ (gk zs (a - 1)) (gk zs p) (hD.gk (by omega)) (hD.gk (by omega))).x ?_))
            rintro _ _ _ ⟨rfl, rfl, rfl⟩; refine ⟨Mem.le_refl _, _, List.Perm.refl _, ?_⟩
            refine DO.pure tab (by repeat (first|exact Calm.ret|refine Calm.then ?_|refine Calm.block ?_)) (by kernel_rfl) [14, 15, 16] (by kernel_rfl) rfl ?_
            (refine DO.nil (by kernel_rfl) ?_)
            rotate_left 1
            refine DO.pure tab (by repeat (first|exact Calm.ret|refine Calm.then ?_|refine Calm.block ?_)) (by kernel_rfl) [3, 4, 5, 6, 7, 8, 9, 10, 11, 12, 13, 14, 15, 16] (by kernel_rfl) rfl ?_
            (refine DO.nil (by kernel_rfl) ?_)
            rotate_left 1
            · repeat (refine q6 ?_)
              simp only [ch_dec]
              cases hc : ltC (gk zs (a - 1)) (gk zs p) with
              | false =>
                repeat (first|refine q1 ?_|refine q3 ?_|refine q4 tab rfl rfl ?_|refine q16 rfl ?_)
                refine TO.step rfl (OT.call rfl rfl rfl rfl rfl rfl goes43 ((partitionEqual_ch m L bd c a b p zs hDz (by omega) hp (by omega) (by omega)).x ?_));
                rintro r1 m1 L1 ⟨rfl, ys, i, j, rfl, hP, hji, rfl⟩
                have hS0 : Sg a b zs (sw zs a p) := Sg.sw (by omega) hp (by omega)
                have hyl := hP.seg.len
                have hsl := hS0.len
                have e1 : gk (sw zs a p) (a - 1) = gk zs (a - 1) := hS0.out _ (by omega)
                have e2 : gk (sw zs a p) a = gk zs p := by
                  rw [gk_sw (by omega) (by omega)]
                  by_cases e : a = p
                  · rw [if_pos e, e]
                  · rw [if_neg e, if_pos rfl]
                obtain ⟨hR3, hL3, hai, hib⟩ := (hRz.seg hS0).equal ltC_ord (hLz.seg hS0) (by omega) hP hji (by rw [e1, e2]; exact hc)
                repeat (first|refine q1 ?_|refine q3 ?_|refine q4 tab rfl rfl ?_|refine q5 ?_|refine q6 ?_|refine q10 ?_|refine q11 ?_|refine q14 ?_)
                exact ⟨(i, b, lim, wb, wp, ys), (by repeat (first|exact trivial|refine And.intro rfl ?_)), (by repeat (first|exact trivial|refine And.intro rfl ?_)), rfl, rfl, (by repeat (exact List.Sublist.refl _)), ⟨by simp only; omega, by simp only; omega, by simp only; omega, by simp only; omega, hR3, hL3, (hDz.perm hS0.perm).perm hP.seg.perm, by simp only; omega⟩, by simp only; omega⟩
              | true =>
                repeat (first|refine q1 ?_|refine q3 ?_|refine q4 tab rfl rfl ?_|refine q6 ?_|refine q13 ?_|refine q17 rfl ?_)
                refine TO.step rfl (OT.call rfl rfl rfl rfl rfl rfl goes44 ((partition_ch m L bd c a b p zs hDz (by omega) hp (by omega) (by omega)).x ?_));
                rintro r1 m1 L1 ⟨rfl, ys, mid, bv, rfl, hPa, rfl⟩
                have hyl := hPa.seg.len
                have hmr := hPa.rng
                have hDy : DomC ys := hDz.perm hPa.seg.perm
                repeat (first|refine q1 ?_|refine q3 ?_|refine q4 tab rfl rfl ?_|refine q5 ?_|refine q6 ?_)
                refine TO.step rfl (OT.arith (r' := ((mid - a : Nat) : Int)) rfl rfl rfl rfl rfl rfl (by omega) (by omega) ?_)
                repeat (refine q4 tab rfl rfl ?_)
                refine TO.step rfl (OT.arith (r' := ((b - mid : Nat) : Int)) rfl rfl rfl rfl rfl rfl (by omega) (by omega) ?_)
                repeat (first|refine q1 ?_|refine q3 ?_|refine q4 tab rfl rfl ?_|refine q5 ?_|refine q6 ?_)
                refine TO.step rfl (OT.quoK rfl rfl rfl rfl rfl (by decide) (quo8 (b - a) (by omega)) ?_)
                repeat (first|refine q1 ?_|refine q3 ?_|refine q4 tab rfl rfl ?_|refine q5 ?_|refine q6 ?_)
                refine TC.condP rfl (fun hlr => ?_) (fun hlr => ?_)
                · repeat (first|refine q1 ?_|refine q3 ?_|refine q4 tab rfl rfl ?_|refine q5 ?_|refine q6 ?_)
                  rw [← hyl]
                  refine TO.step rfl (OT.call rfl rfl rfl rfl rfl rfl goes32 ((ih m L a mid lim ys (by omega) (by omega) (by omega) hDy (by omega) (hLz.left hPa)).x ?_));
                  rintro r1 m1 L1 ⟨rfl, us, hSu, hOu, rfl⟩
                  have hul := hSu.len
                  obtain ⟨hR2, hL2⟩ := hRz.right ltC_ord hPa hSu hOu
                  repeat (first|refine q3 ?_|refine q4 tab rfl rfl ?_|refine q5 ?_|refine q6 ?_)
                  refine TO.step rfl (OT.arith (r' := ((mid + 1 : Nat) : Int)) rfl rfl rfl rfl rfl rfl rfl (by omega) ?_)
                  repeat (first|refine q4 tab rfl rfl ?_|refine q5 ?_|refine q6 ?_|refine q7 ?_)
                  exact ⟨(mid + 1, b, lim, _, bv, us), (by repeat (first|exact trivial|refine And.intro rfl ?_)), (by repeat (first|exact trivial|refine And.intro rfl ?_)), rfl, rfl, (by repeat (exact List.Sublist.refl _)), ⟨by simp only; omega, by simp only; omega, by simp only; omega, by simp only; omega, hR2, hL2, hDy.perm hSu.perm, by simp only; omega⟩, by simp only; omega⟩
                · repeat (first|refine q1 ?_|refine q3 ?_|refine q4 tab rfl rfl ?_|refine q5 ?_|refine q6 ?_)
                  refine TO.step rfl (OT.arith (r' := ((mid + 1 : Nat) : Int)) rfl rfl rfl rfl rfl rfl rfl (by omega) ?_)
                  repeat (refine q4 tab rfl rfl ?_)
                  rw [← hyl]
                  refine TO.step rfl (OT.call rfl rfl rfl rfl rfl rfl goes32 ((ih m L (mid + 1) b lim ys (by omega) (by omega) (by omega) hDy (by omega) (Low.right hPa)).x ?_));
                  rintro r1 m1 L1 ⟨rfl, us, hSu, hOu, rfl⟩
                  have hul := hSu.len
                  obtain ⟨hR2, hL2⟩ := hRz.left ltC_ord hLz hPa hSu hOu
                  repeat (first|refine q3 ?_|refine q4 tab rfl rfl ?_|refine q5 ?_|refine q6 ?_|refine q7 ?_)
                  exact ⟨(a, mid, lim, _, bv, us), (by repeat (first|exact trivial|refine And.intro rfl ?_)), (by repeat (first|exact trivial|refine And.intro rfl ?_)), rfl, rfl, (by repeat (exact List.Sublist.refl _)), ⟨by simp only; omega, by simp only; omega, by simp only; omega, by simp only; omega, hR2, hL2, hDy.perm hSu.perm, by simp only; omega⟩, by simp only; omega⟩
            · skip
              repeat (first|refine q1 ?_|refine q3 ?_|refine q4 tab rfl rfl ?_|refine q6 ?_|refine q13 ?_|refine q17 rfl ?_)
              refine TO.step rfl (OT.call rfl rfl rfl rfl rfl rfl goes44 ((partition_ch m L bd c a b p zs hDz (by omega) hp (by omega) (by omega)).x ?_));
              rintro r1 m1 L1 ⟨rfl, ys, mid, bv, rfl, hPa, rfl⟩
              have hyl := hPa.seg.len
              have hmr := hPa.rng
              have hDy : DomC ys := hDz.perm hPa.seg.perm
              repeat (first|refine q1 ?_|refine q3 ?_|refine q4 tab rfl rfl ?_|refine q5 ?_|refine q6 ?_)
              refine TO.step rfl (OT.arith (r' := ((mid - a : Nat) : Int)) rfl rfl rfl rfl rfl rfl (by omega) (by omega) ?_)
              repeat (refine q4 tab rfl rfl ?_)
              refine TO.step rfl (OT.arith (r' := ((b - mid : Nat) : Int)) rfl rfl rfl rfl rfl rfl (by omega) (by omega) ?_)
              repeat (first|refine q1 ?_|refine q3 ?_|refine q4 tab rfl rfl ?_|refine q5 ?_|refine q6 ?_)
              refine TO.step rfl (OT.quoK rfl rfl rfl rfl rfl (by decide) (quo8 (b - a) (by omega)) ?_)
              repeat (first|refine q1 ?_|refine q3 ?_|refine q4 tab rfl rfl ?_|refine q5 ?_|refine q6 ?_)
              refine TC.condP rfl (fun hlr => ?_) (fun hlr => ?_)
              · repeat (first|refine q1 ?_|refine q3 ?_|refine q4 tab rfl rfl ?_|refine q5 ?_|refine q6 ?_)
                rw [← hyl]
                refine TO.step rfl (OT.call rfl rfl rfl rfl rfl rfl goes32 ((ih m L a mid lim ys (by omega) (by omega) (by omega) hDy (by omega) (hLz.left hPa)).x ?_));
                rintro r1 m1 L1 ⟨rfl, us, hSu, hOu, rfl⟩
                have hul := hSu.len
                obtain ⟨hR2, hL2⟩ := hRz.right ltC_ord hPa hSu hOu
                repeat (first|refine q3 ?_|refine q4 tab rfl rfl ?_|refine q5 ?_|refine q6 ?_)
                refine TO.step rfl (OT.arith (r' := ((mid + 1 : Nat) : Int)) rfl rfl rfl rfl rfl rfl rfl (by omega) ?_)
                repeat (first|refine q4 tab rfl rfl ?_|refine q5 ?_|refine q6 ?_|refine q7 ?_)
                exact ⟨(mid + 1, b, lim, _, bv, us), (by repeat (first|exact trivial|refine And.intro rfl ?_)), (by repeat (first|exact trivial|refine And.intro rfl ?_)), rfl, rfl, (by repeat (exact List.Sublist.refl _)), ⟨by simp only; omega, by simp only; omega, by simp only; omega, by simp only; omega, hR2, hL2, hDy.perm hSu.perm, by simp only; omega⟩, by simp only; omega⟩
              · repeat (first|refine q1 ?_|refine q3 ?_|refine q4 tab rfl rfl ?_|refine q5 ?_|refine q6 ?_)
                refine TO.step rfl (OT.arith (r' := ((mid + 1 : Nat) : Int)) rfl rfl rfl rfl rfl rfl rfl (by omega) ?_)
                repeat (refine q4 tab rfl rfl ?_)
                rw [← hyl]
                refine TO.step rfl (OT.call rfl rfl rfl rfl rfl rfl goes32 ((ih m L (mid + 1) b lim ys (by omega) (by omega) (by omega) hDy (by omega) (Low.right hPa)).x ?_));
                rintro r1 m1 L1 ⟨rfl, us, hSu, hOu, rfl⟩
                have hul := hSu.len
                obtain ⟨hR2, hL2⟩ := hRz.left ltC_ord hLz hPa hSu hOu
                repeat (first|refine q3 ?_|refine q4 tab rfl rfl ?_|refine q5 ?_|refine q6 ?_|refine q7 ?_)
                exact ⟨(a, mid, lim, _, bv, us), (by repeat (first|exact trivial|refine And.intro rfl ?_)), (by repeat (first|exact trivial|refine And.intro rfl ?_)), rfl, rfl, (by repeat (exact List.Sublist.refl _)), ⟨by simp only; omega, by simp only; omega, by simp only; omega, by simp only; omega, hR2, hL2, hDy.perm hSu.perm, by simp only; omega⟩, by simp only; omega⟩
theorem sortfunc_ch (m : Mem) (L : List Item) (bd c : Nat) (xs : List Ch) (hD : DomC xs) (hlim : xs.length ≤ 1000000) (h0 : 0 < xs.length) :
    TCall Try.prog 22 ⟨[.slice (some ⟨bd, 0, none⟩) xs.length c, chF]⟩ m (chR bd xs :: L) (fun r m' L' => m = m' ∧ ∃ ys, ys.Perm xs ∧ Sn ltC ys 0 ys.length ∧ chR bd ys :: L = L') := by
  unfold TCall
  refine TCallX.enter Try.func22 rfl 14 rfl ?_
  repeat (first|refine q1 ?_|refine q3 ?_|refine q4 tab rfl rfl ?_|refine q5 ?_|refine q6 ?_)
  refine TO.step rfl (OT.conv tab (r := (xs.length : Int)) rfl rfl rfl rfl rfl rfl (u64_in' (by omega) (by omega)) ?_)
  skip
  refine TO.step rfl (OT.call rfl rfl rfl rfl rfl rfl goes33 ((len_law m _ xs.length h0 (by omega)).x ?_));
  rintro r1 m1 L1 ⟨rfl, rfl, k, rfl, hk1, hk2, hk3⟩
  repeat (refine q4 tab rfl rfl ?_)
  refine TO.step rfl (OT.call rfl rfl rfl rfl rfl rfl goes32 ((pdq_ch bd c xs.length m L 0 xs.length k xs (by omega) (by omega) (Nat.le_refl _) hD ⟨hlim, by omega⟩ (fun h => by omega)).x ?_));
  rintro r1 m1 L1 ⟨rfl, ys, hS, hO, rfl⟩
  repeat (refine q5 ?_)
  refine retQ_n rfl (by repeat (exact List.Sublist.refl _)) ⟨rfl, ys, hS.perm, by rw [hS.len]; exact hO, rfl⟩
end Go.Sep

/-
  Several put behind an owned row.
-/
set_option linter.unusedVariables false
set_option linter.unusedSimpArgs false
namespace Go.Sep
section
variable {P : Program} {N : Nat} {ρ : Env} {D : List Deferred} {m : Mem} {L : List Item} {Q : EPost} {full : List Oper} {o : Oper} {K : Env → Mem → List Item → Prop}
theorem run_pushN {H α : Type} (T : Tab P) (r : R H α) {t t2 e e2 ty : TypeId} {ei ei2 : TI} {w : World} {s s2 : Sl} {hs : List H} {z : H} {xs : List H} (he : T.elem t = some (e, ei)) (he2 : T.elem t2 = some (e2, ei2))
    (hw : St m w (mcell s (encs r hs) :: L)) (hM : ORow s hs) (hsz : ei.size = r.size) (hy : Src w s2 ei.size (encs r xs)) (hn : s2.len = xs.length) (hx0 : 0 < xs.length) (hz : ei.zero.cells = ⟨r.enc z⟩) (hrp : 0 < r.size)
    (hb : 0 < ei.bytes) (hfit : (s.len + xs.length) * ei.bytes ≤ 140737488355328) :
    ∃ s' hs' w', (Builtin.append_ #[t, t2] ty #[s.v, s2.v]).run P w = .ok s'.v w' ∧ St m w' (mcell s' (encs r hs') :: L) ∧ ORow s' hs' ∧ s'.len = s.len + xs.length ∧ hs'.take s'.len = hs.take s.len ++ xs := by
  obtain ⟨ti, h4, h5, h6⟩ := elem_get he
  obtain ⟨ti2, k4, k5, k6⟩ := elem_get he2
  obtain ⟨_, _, hu, _⟩ := T.ok t ti h4
  rw [h5] at hu
  obtain ⟨_, _, hu2, _⟩ := T.ok t2 ti2 k4
  rw [k5] at hu2
  obtain ⟨info, q1, q2, q3, q4, q5⟩ := T.ok e ei h6
  have hnew := run_first (P := P) hy
  have hbound : s.len + xs.length ≤ 140737488355328 := Nat.le_trans (Nat.le_mul_of_pos_right _ hb) hfit
  have hcap := hM.len
  have hall := hM.all
  have hsrc : Src w s ei.size (encs r (hs.take s.len)) := by
    refine ⟨by rw [hsz, encs_len, List.length_take]; congr 1; omega, ?_⟩
    rcases hM.adr with h | ⟨b, h⟩
    · left; rw [h]
    · right
      refine ⟨b, 0, h, fun j v hv => ?_⟩
      have hc := hw.cells (i := 0) (b := b) (off := 0) (vs := encs r hs) (by simp [mcell, h])
      refine hc j v ?_
      have e : encs r hs = encs r (hs.take s.len) ++ encs r (hs.drop s.len) := by rw [← encs_append, List.take_append_drop]
      rw [e, List.getElem?_append_left (List.getElem?_eq_some_iff.1 hv).1]
      exact hv
  by_cases hroom : s.len + s2.len ≤ s.cap
  · rcases hM.adr with hnil | ⟨b, ha⟩
    · subst hnil; simp only at hroom; omega
    · obtain ⟨a, n, c⟩ := s
      simp only at ha hroom hcap hbound hfit hall hsrc
      subst ha
      simp only [mcell] at hw
      have hnl : n + xs.length ≤ hs.length := by omega
      have hlen2 : (n + xs.length) * r.size ≤ hs.length * r.size := Nat.mul_le_mul_right _ hnl
      obtain ⟨w', hr, hst'⟩ := run_storeCells (P := P) (encs r xs) (encs r hs) (n * r.size) 0 w hw (encs_one r xs) (by rw [encs_len, encs_len]; rw [Nat.add_mul] at hlen2; omega)
      have hput : putAt (encs r hs) (n * r.size + 0) (encs r xs) = encs r (hs.take n ++ xs ++ hs.drop (n + xs.length)) := by
        have e1 : encs r hs = encs r (hs.take n) ++ encs r (hs.drop n) := by rw [← encs_append, List.take_append_drop]
        have e2 : (encs r (hs.take n)).length = n * r.size := by rw [encs_len, List.length_take, Nat.min_eq_left (by omega)]
        have e3 : hs.drop n = (hs.drop n).take xs.length ++ hs.drop (n + xs.length) := by rw [← List.drop_drop, List.take_append_drop]
        have e4 : (encs r ((hs.drop n).take xs.length)).length = (encs r xs).length := by rw [encs_len, encs_len, List.length_take, List.length_drop, Nat.min_eq_left (by omega)]
        rw [e1, ← e2, Nat.add_zero]
        have := putAt_front (encs r xs) (encs r (hs.drop n)) (by rw [encs_len, encs_len, List.length_drop]; exact Nat.mul_le_mul_right _ (by omega)) (encs r (hs.take n))
        rw [this, e3, encs_append, ← e4, List.drop_left, encs_append, encs_append]
      rw [hput] at hst'
      have hxl : (hs.take n ++ xs).length = n + xs.length := by rw [List.length_append, List.length_take, Nat.min_eq_left (by omega)]
      refine ⟨⟨some ⟨b, 0, none⟩, n + s2.len, c⟩, hs.take n ++ xs ++ hs.drop (n + xs.length), w', ?_, hst', ⟨hroom, by rw [List.length_append, hxl, List.length_drop]; show _ = c; omega, .inr ⟨b, rfl⟩⟩, by rw [hn], ?_⟩
      · have hr' : (storeCells ((⟨b, 0, none⟩ : Addr).add (n * ei.size)) (encs r xs)).run P w = .ok () w' := by rw [hsz, addr_add]; exact hr
        simp only [Sl.v] at hnew
        simp [Builtin.append_, run_underlying hu, run_underlying hu2, sizeOf, typeInfo, q1, q3, Builtin.lenOf, hroom, hnew] at hnew ⊢
        simp [hnew, hr']
      · simp only [hn]
        rw [← hxl, List.take_left]
  · have hlt : s.cap < s.len + s2.len := by omega
    have h48 : ¬ (Builtin.nextslicecap (s.len + s2.len) s.cap * ei.bytes > 281474976710656) := by
      have := growslice_fits hlt (by rw [hn]; exact hfit)
      omega
    have hold := run_first (P := P) (hsrc.drew)
    have hnew' := run_first (P := P) (hy.drew)
    obtain ⟨nc, hnc, hge⟩ : ∃ nc, nc = (Question.appendCap (s.len + s2.len) s.cap e).cut (w.tape w.drawn (.appendCap (s.len + s2.len) s.cap e)) ∧ s.len + s2.len ≤ nc := ⟨_, rfl, by simp [Question.cut]⟩
    have hst := (hw.sub (List.sublist_cons_self _ _)).drew.allocCells ((⟨encs r (hs.take s.len)⟩ : Array Value) ++ (⟨encs r xs⟩ : Array Value) ++ Builtin.zeroCells ei.zero.cells (nc - (s.len + s2.len))) e
    have hcs : ((⟨encs r (hs.take s.len)⟩ : Array Value) ++ (⟨encs r xs⟩ : Array Value) ++ Builtin.zeroCells ei.zero.cells (nc - (s.len + s2.len))).toList = encs r (hs.take s.len ++ xs ++ List.replicate (nc - (s.len + s2.len)) z) := by
      rw [Array.toList_append, Array.toList_append, hz, zeroCells_list _ (by rw [r.enc_len]; exact hrp), encs_append, encs_append, encs_rep]
    rw [hcs] at hst
    refine ⟨⟨some ⟨w.heap.size, 0, none⟩, s.len + s2.len, nc⟩, hs.take s.len ++ xs ++ List.replicate (nc - (s.len + s2.len)) z, w.drew.alloc (.cells ((⟨encs r (hs.take s.len)⟩ : Array Value) ++ (⟨encs r xs⟩ : Array Value) ++ Builtin.zeroCells ei.zero.cells (nc - (s.len + s2.len))) e), ?_, hst, ⟨hge, ?_, .inr ⟨_, rfl⟩⟩, by rw [hn], ?_⟩
    · simp only [Sl.v] at hold hnew'
      have hb0 : ei.bytes ≠ 0 := by omega
      have hmax : ¬ (9223372036854775807 < (s.len : Int) + (s2.len : Int)) := by omega
      simp [Builtin.append_, run_underlying hu, run_underlying hu2, sizeOf, typeInfo, zeroValue, q1, q3, q4, q5, Builtin.lenOf, hroom, hold, hnew', h48, hmax, Question.forced, newRow, ← hnc, IntKind.max, IntKind.signed, IntKind.bits, hb0]
      congr 2
      apply Array.ext'
      simp
    · simp
      omega
    · simp only [hn]
      have hxl : (hs.take s.len ++ xs).length = s.len + xs.length := by rw [List.length_append, List.length_take, Nat.min_eq_left (by omega)]
      rw [← hxl, List.take_left]

theorem OT.pushN {H α : Type} (T : Tab P) (r : R H α) {s : Sl} {hs : List H} {z : H} {xs : List H} {b : Nat} {x y : Operand} {t t2 : TypeId} {d : Nat} {e e2 : TypeId} {ei ei2 : TI} (hM : ORow s hs) (n : Nat) (hn : xs.length = n) (hn0 : 0 < n)
    (ho : o.op = .call ⟨.builtin .append, ⟨[x, y]⟩, ⟨[t, t2]⟩⟩) (hd : o.dst = some d) (hN : Nat.blt d N = true) (hx : ev ρ x = some s.v) (hy : ev ρ y = some (.slice (some ⟨b, 0, none⟩) n n))
    (he : T.elem t = some (e, ei)) (he2 : T.elem t2 = some (e2, ei2)) (hsz : Nat.beq ei.size r.size = true) (hz : cellsF ei.zero = some (r.enc z)) (hrp : Nat.blt 0 r.size = true) (hb : Nat.blt 0 ei.bytes = true)
    (hfit : (s.len + n) * ei.bytes ≤ 140737488355328)
    (hK : ∀ s' hs', ORow s' hs' → s'.len = s.len + n → hs'.take (s.len + n) = hs.take s.len ++ xs → K ((d, s'.v) :: ρ) m (mcell s' (encs r hs') :: L)) : OT P N o ρ D m (.cells b 0 (encs r xs) :: mcell s (encs r hs) :: L) Q K := by
  intro ac w ha
  have hsz' := Nat.eq_of_beq_eq_true hsz
  have hcells := ha.st.cells (i := 0) rfl
  have hsub : St m w (mcell s (encs r hs) :: L) := ha.st.sub (List.sublist_cons_self _ _)
  have hsrc : Src w ⟨some ⟨b, 0, none⟩, n, n⟩ ei.size (encs r xs) := ⟨by rw [hsz', encs_len, hn], .inr ⟨b, 0, rfl, hcells⟩⟩
  obtain ⟨s', hs', w', hr, g1, g2, g3, g4⟩ := run_pushN (P := P) (ty := o.type) (z := z) T r he he2 hsub hM hsz' hsrc hn.symm (by omega) (by rw [cellsF_eq hz]) (by simpa [Nat.blt_eq] using hrp) (by simpa [Nat.blt_eq] using hb) (by rw [hn]; exact hfit)
  rw [hn] at g3
  have he : (execOp ac.eval o).run P w = .ok (.value s'.v) w' := by
    simp only [execOp, ho, resolve, invoke, builtin, Sem.run_bind, Sem.run_pure, Result.andThen_ok, List.map_toArray, List.map_cons, List.map_nil, ha.env.eval hx, ha.env.eval hy]
    simp only [List.map_toArray, List.map_cons, List.map_nil, ha.env.eval hx, ha.env.eval hy, hr, Result.andThen_ok]
  simp only [Oper.wp, he, Oper.upon]
  rw [hd]
  have hp := ha.put hN s'.v
  refine ⟨_, _, _, ⟨hp.size, hp.env, hp.defers, g1⟩, hK s' hs' g2 g3 ?_⟩
  rw [← g4, g3]
end
end Go.Sep

/-
  The walk of Most.
-/
set_option linter.unusedVariables false
set_option linter.unusedSimpArgs false
namespace Go.Sep
open Go.Proofs
section
variable {P : Program} {N : Nat} {ρ : Env} {D : List Deferred} {m : Mem} {L : List Item} {Q : EPost} {full ops : List Oper}
theorem TO.takeE {H α : Type} (r : R H α) {hs : List H} (n : Nat) {b : Nat} (h : TO P N ⟨full⟩ ops ρ D m (.cells b 0 (encs r (hs.take n)) :: L) Q) : TO P N ⟨full⟩ ops ρ D m (.cells b 0 (encs r hs) :: L) Q := fun a w ha => by
  refine h a w ⟨ha.size, ha.env, ha.defers, ?_⟩
  have e : encs r hs = encs r (hs.take n) ++ encs r (hs.drop n) := by rw [← encs_append, List.take_append_drop]
  have := ha.st
  rw [e] at this
  exact this.split.sub (List.Sublist.cons_cons _ (List.sublist_cons_self _ _))
end
section
variable {P : Program} {N : Nat} {ρ : Env} {D : List Deferred} {m : Mem} {L : List Item} {Q : EPost} {o : Oper} {K : Env → Mem → List Item → Prop}
theorem OT.max2 {x y : Operand} {ts : Array TypeId} {d : Nat} {a b r : Int} (ho : o.op = .call ⟨.builtin .max, ⟨[x, y]⟩, ts⟩) (hd : o.dst = some d) (hN : Nat.blt d N = true)
    (hx : ev ρ x = some (.int .i64 a)) (hy : ev ρ y = some (.int .i64 b)) (he : max a b = r) (hK : K ((d, .int .i64 r) :: ρ) m L) : OT P N o ρ D m L Q K := by
  subst he
  refine OT.run hd hN (fun ac w ha => ⟨w, ?_, ha.st⟩) hK
  simp only [execOp, ho, resolve, invoke, builtin, Sem.run_bind, Sem.run_pure, Result.andThen_ok, List.map_toArray, List.map_cons, List.map_nil, ha.env.eval hx, ha.env.eval hy]
  simp only [List.map_toArray, List.map_cons, List.map_nil, ha.env.eval hx, ha.env.eval hy, Builtin.max_, List.foldlM_cons, List.foldlM_nil, Builtin.max2, Sem.run_bind, Sem.run_pure, Result.andThen_ok]
  have hm : (if b > a then b else a) = max a b := by
    by_cases h : b > a
    · rw [if_pos h, Int.max_eq_right (by omega)]
    · rw [if_neg h, Int.max_eq_left (by omega)]
  rw [hm]
end
attribute [local irreducible] TC TO OT TCallX TCall DO DOt thenQ blockQ retQ At
theorem len64_0 (m : Mem) (L : List Item) : TCall Try.prog 46 ⟨[.int .u64 0]⟩ m L (Ret (.int .i64 0) m L) := by
  unfold TCall
  refine TCallX.enter Try.func46 rfl 25 rfl ?_
  repeat (first|refine q1 ?_|refine q3 ?_|refine q4 tab rfl rfl ?_|refine q5 ?_|refine q6 ?_|refine q13 ?_|refine q17 rfl ?_)
  refine TO.step rfl (OT.conv tab (r := 0) rfl rfl rfl rfl rfl rfl rfl ?_)
  skip
  refine TO.step rfl (OT.sidxK tab (s := len8) (b := 0) 0 rfl rfl rfl rfl rfl rfl rfl rfl ?_)
  skip
  refine TO.step rfl (OT.conv tab (r := 0) rfl rfl rfl rfl rfl rfl rfl ?_)
  skip
  refine TO.step rfl (OT.arith (r' := 0) rfl rfl rfl rfl rfl rfl rfl (by decide) ?_)
  repeat (first|refine q4 tab rfl rfl ?_|refine q5 ?_|refine q6 ?_|refine q15 ?_)
  refine retQ_ret rfl (by repeat (exact List.Sublist.refl _)) ⟨rfl, rfl, ?_⟩
  rfl
theorem len_0 (m : Mem) (L : List Item) : TCall Try.prog 33 ⟨[.int .u64 0]⟩ m L (Ret (.int .i64 0) m L) := by
  unfold TCall
  refine TCallX.enter Try.func33 rfl 8 rfl ?_
  repeat (first|refine q1 ?_|refine q3 ?_|refine q4 tab rfl rfl ?_|refine q5 ?_|refine q6 ?_|refine q13 ?_|refine q17 rfl ?_)
  refine TO.step rfl (OT.call rfl rfl rfl rfl rfl rfl goes46 ((len64_0 m L).x ?_));
  rintro _ _ _ ⟨rfl, rfl, rfl⟩
  repeat (first|refine q4 tab rfl rfl ?_|refine q5 ?_|refine q6 ?_|refine q15 ?_)
  refine retQ_ret rfl (by repeat (exact List.Sublist.refl _)) ⟨rfl, rfl, ?_⟩
  rfl
theorem insort_0 (m : Mem) (L : List Item) : TCall Try.prog 37 ⟨[.slice none 0 0, .int .i64 0, .int .i64 0, chF]⟩ m L (fun r m' L' => m = m' ∧ L = L') := by
  unfold TCall
  refine TCallX.enter Try.func37 rfl 53 rfl ?_
  repeat (first|refine q1 ?_|refine q3 ?_|refine q4 tab rfl rfl ?_)
  refine TO.step rfl (OT.arith (r' := 1) rfl rfl rfl rfl rfl rfl rfl (by decide) ?_)
  repeat (first|refine q2 ?_|refine q4 tab rfl rfl ?_|refine q5 ?_|refine q6 ?_)
  refine TC.loopK (ι := Unit) [0, 1, 2, 3, 8] rfl (fun x => []) (fun _ => m) (fun x => L) (fun x => True) (fun x => 0) () (by repeat (exact trivial)) rfl (by repeat (exact List.Sublist.refl _)) trivial ?_
  rintro _ _
  repeat (first|refine q1 ?_|refine q3 ?_|refine q4 tab rfl rfl ?_|refine q5 ?_|refine q6 ?_|refine q10 ?_|refine q11 ?_|refine q14 ?_|refine q17 rfl ?_)
  refine retQ_n rfl (by repeat (exact List.Sublist.refl _)) ⟨rfl, rfl⟩
theorem pdq_0 (m : Mem) (L : List Item) : TCall Try.prog 32 ⟨[.slice none 0 0, .int .i64 0, .int .i64 0, .int .i64 0, chF]⟩ m L (fun r m' L' => m = m' ∧ L = L') := by
  unfold TCall
  refine TCallX.enter Try.func32 rfl 148 rfl ?_
  repeat (first|refine q1 ?_|refine q2 ?_|refine q3 ?_|refine q4 tab rfl rfl ?_|refine q5 ?_|refine q6 ?_)
  refine TC.loopK (ι := Unit) [0, 1, 2, 3, 4, 10, 11] rfl (fun x => []) (fun _ => m) (fun x => L) (fun x => True) (fun x => 0) () (by repeat (exact trivial)) rfl (by repeat (exact List.Sublist.refl _)) trivial ?_
  rintro _ _
  repeat (first|refine q1 ?_|refine q2 ?_|refine q3 ?_|refine q4 tab rfl rfl ?_)
  refine TO.step rfl (OT.arith (r' := 0) rfl rfl rfl rfl rfl rfl rfl (by decide) ?_)
  repeat (first|refine q1 ?_|refine q3 ?_|refine q4 tab rfl rfl ?_|refine q5 ?_|refine q6 ?_|refine q16 rfl ?_)
  refine TO.step rfl (OT.call rfl rfl rfl rfl rfl rfl goes37 ((insort_0 m L).x ?_));
  rintro _ _ _ ⟨rfl, rfl⟩
  repeat (first|refine q5 ?_|refine q6 ?_|refine q8 ?_|refine q9 ?_|refine q15 ?_)
  refine retQ_ret rfl (by repeat (exact List.Sublist.refl _)) ⟨rfl, rfl⟩
theorem sortfunc_0 (m : Mem) (L : List Item) :
    TCall Try.prog 22 ⟨[.slice none 0 0, chF]⟩ m L (fun r m' L' => m = m' ∧ L = L') := by
  unfold TCall
  refine TCallX.enter Try.func22 rfl 14 rfl ?_
  repeat (first|refine q1 ?_|refine q3 ?_|refine q4 tab rfl rfl ?_|refine q5 ?_|refine q6 ?_)
  refine TO.step rfl (OT.conv tab (r := 0) rfl rfl rfl rfl rfl rfl rfl ?_)
  skip
  refine TO.step rfl (OT.call rfl rfl rfl rfl rfl rfl goes33 ((len_0 m L).x ?_));
  rintro _ _ _ ⟨rfl, rfl, rfl⟩
  repeat (refine q4 tab rfl rfl ?_)
  refine TO.step rfl (OT.call rfl rfl rfl rfl rfl rfl goes32 ((pdq_0 m L).x ?_));
  rintro _ _ _ ⟨rfl, rfl⟩
  repeat (refine q5 ?_)
  refine retQ_n rfl (by repeat (exact List.Sublist.refl _)) ⟨rfl, rfl⟩
def MostOut (l : List Rg) (m : Mem) (L : List Item) : Value → Mem → List Item → Prop := Made m L fun r m' => ∃ n : Int, r = .tuple ⟨[.int .i64 n, .int .i64 (checkM l)]⟩ ∧ (checkM l = 0 → MostIs l n) ∧ (checkM l ≠ 0 → n = 0)
set_option maxHeartbeats 2000000 in
theorem most_law (m : Mem) (L : List Item) (ss : Sl) (l : List Rg) (hss : SlRep rRg m ss l) :
    TCall Try.prog 10 ⟨[ss.v]⟩ m L (MostOut l m L) := by
  have hl := hss.len
  unfold TCall
  refine TCallX.enter Try.func10 rfl 50 rfl ?_
  repeat (first|refine q1 ?_|refine q3 ?_|refine q4 tab rfl rfl ?_|refine q5 ?_|refine q6 ?_)
  refine TO.step rfl (OT.call rfl rfl rfl rfl rfl rfl goes14 ((check_law m _ ss l hss).x ?_));
  rintro _ _ _ ⟨rfl, rfl, rfl⟩
  repeat (first|refine q1 ?_|refine q3 ?_|refine q4 tab rfl rfl ?_|refine q5 ?_|refine q6 ?_)
  refine TC.condN rfl (fun hb => ?_) (fun hb => ?_)
  · repeat (first|refine q1 ?_|refine q3 ?_|refine q4 tab rfl rfl ?_|refine q5 ?_|refine q6 ?_|refine q8 ?_|refine q15 ?_)
    refine retQ_ret rfl (L' := L) (by repeat (exact List.Sublist.refl _)) ⟨Mem.le_refl _, rfl, 0, rfl, fun h => absurd h hb, fun _ => rfl⟩
  · have h0 : checkM l = 0 := by simpa using hb
    obtain ⟨hsd, hlen⟩ := sound_of h0
    repeat (first|refine q1 ?_|refine q2 ?_|refine q3 ?_|refine q4 tab rfl rfl ?_|refine q5 ?_|refine q6 ?_|refine q13 ?_)
    refine TC.mcell0 ?_
    refine TC.loopK (ι := Nat × Sl × List Ch) [0, 17, 18] rfl (fun x => [(19, .int .i64 (x.1 : Int)), (5, x.2.1.v)]) (fun _ => m) (fun x => mcell x.2.1 (encs rCh x.2.2) :: L) (fun x => x.1 ≤ l.length ∧ ORow x.2.1 x.2.2 ∧ (x.1 = 0 → x.2.1 = ⟨none, 0, 0⟩) ∧ x.2.1.len = 2 * x.1 ∧ x.2.2.take (2 * x.1) = chs (l.take x.1)) (fun x => l.length - x.1) (0, ⟨none, 0, 0⟩, []) (by repeat (first|exact trivial|refine And.intro rfl ?_)) rfl (by repeat (exact List.Sublist.refl _)) ⟨Nat.zero_le _, ORow.nil, fun _ => rfl, rfl, rfl⟩ ?_
    rintro ⟨k, s, hs⟩ ⟨hk, hM, hnil, hsl, ht⟩
    simp only at hk hM hnil hsl ht ⊢
    repeat (first|refine q1 ?_|refine q3 ?_|refine q4 tab rfl rfl ?_|refine q5 ?_|refine q6 ?_)
    refine TC.condP rfl (fun hlt' => ?_) (fun hlt' => ?_)
    · have hlt : k < l.length := by omega
      have hx : l[k]? = some l[k] := by simp [hlt]
      have hxt : l.take (k + 1) = l.take k ++ [l[k]] := List.take_succ_eq_append_getElem hlt
      generalize l[k] = x at hx hxt
      repeat (first|refine q1 ?_|refine q2 ?_|refine q3 ?_|refine q6 ?_|refine q13 ?_)
      refine TO.step rfl (OT.index tab rRg k hss rfl rfl rfl rfl rfl (by first | rfl | omega | (simp only; omega)) rfl hx ?_)
      rintro b2 i2 f2 hf2 hA2
      obtain rfl := (show f2 = x from hf2)
      (refine TO.step rfl (OT.loadA0 tab hA2 rfl rfl rfl rfl rfl ?_))
      refine TO.step rfl (OT.alloc tab rfl rfl rfl rfl (fun bx => ?_))
      (refine TO.step rfl (OT.storeL0 tab 0 rfl rfl rfl rfl rfl rfl rfl rfl ?_))
      repeat (first|refine q3 ?_|refine q4 tab rfl rfl ?_|refine q5 ?_|refine q6 ?_)
      (refine qs rfl (ql tab 0 rfl rfl rfl rfl rfl rfl ?_))
      repeat (refine q4 tab rfl rfl ?_)
      (refine qs rfl (ql tab 0 rfl rfl rfl rfl rfl rfl ?_))
      repeat (refine q4 tab rfl rfl ?_)
      refine TO.step rfl (OT.lit tab rfl rfl rfl rfl (fun bl => ?_))
      refine TO.perm (L' := .cells bl 0 (encs rCh [⟨f2.frm, 1⟩, ⟨f2.to, -1⟩]) :: mcell s (encs rCh hs) :: .cells bx 0 [.int .i64 f2.frm, .int .i64 f2.to] :: L) (List.Perm.cons _ (List.Perm.swap _ _ _)) ?_
      refine TO.step rfl (OT.pushN tab rCh (z := ⟨0, 0⟩) hM 2 rfl (by decide) rfl rfl rfl rfl rfl rfl rfl rfl rfl rfl rfl (by show (s.len + 2) * 16 ≤ _; omega) (fun s2 hs2 h1 h2 h3 => ?_))
      repeat (first|refine q3 ?_|refine q4 tab rfl rfl ?_|refine q5 ?_|refine q6 ?_|refine q7 ?_)
      refine TO.step rfl (OT.arith (r' := ((k + 1 : Nat) : Int)) rfl rfl rfl rfl rfl rfl rfl (by omega) ?_)
      repeat (first|refine q4 tab rfl rfl ?_|refine q5 ?_|refine q6 ?_)
      refine ⟨(k + 1, s2, hs2), (by repeat (first|exact trivial|refine And.intro rfl ?_)), (by repeat (first|exact trivial|refine And.intro rfl ?_)), rfl, rfl, (by repeat (first|exact List.Sublist.refl _|refine List.Sublist.cons_cons _ ?_|refine List.Sublist.cons _ ?_)), ⟨by simp only; omega, h1, fun h => (by simp only at h; omega), by simp only; omega, ?_⟩, by simp only; omega⟩
      simp only
      rw [show 2 * (k + 1) = s.len + 2 by omega, h3, hsl, ht, hxt, chs_snoc]
    · have hkl : k = l.length := by omega
      subst hkl
      rw [List.take_length] at ht
      by_cases hl0 : l.length = 0
      · obtain rfl := hnil hl0
        obtain rfl := List.length_eq_zero_iff.1 hl0
        repeat (first|refine q1 ?_|refine q3 ?_|refine q4 tab rfl rfl ?_|refine q6 ?_|refine q10 ?_|refine q11 ?_|refine q14 ?_)
        refine TO.step rfl (OT.call rfl rfl rfl rfl rfl rfl goes22 ((sortfunc_0 m _).x ?_));
        rintro _ _ _ ⟨rfl, rfl⟩
        repeat (first|refine q1 ?_|refine q2 ?_|refine q3 ?_|refine q4 tab rfl rfl ?_|refine q5 ?_|refine q6 ?_)
        refine TC.loopK (ι := Unit) [0, 5, 8, 9, 35, 36, 37] rfl (fun x => []) (fun _ => m) (fun x => L) (fun x => True) (fun x => 0) () (by repeat (exact trivial)) rfl (by repeat (first|exact List.Sublist.refl _|refine List.Sublist.cons _ ?_)) trivial ?_
        rintro _ _
        repeat (first|refine q1 ?_|refine q3 ?_|refine q4 tab rfl rfl ?_|refine q5 ?_|refine q6 ?_|refine q10 ?_|refine q11 ?_|refine q14 ?_|refine q15 ?_|refine q17 rfl ?_)
        refine retQ_ret rfl (by repeat (exact List.Sublist.refl _)) ⟨Mem.le_refl _, rfl, 0, rfl, fun _ => ⟨Int.le_refl _, fun r hr => (by cases hr), .inl rfl⟩, fun _ => rfl⟩
      · obtain ⟨b, hsb⟩ := hM.pos (by omega)
        obtain ⟨sa, sn, sc⟩ := s
        simp only at hsl hsb ht
        have hall := hM.all
        have hcp := hM.len
        simp only at hall hcp
        subst hsl
        cases hsb
        repeat (first|refine q1 ?_|refine q3 ?_|refine q4 tab rfl rfl ?_|refine q6 ?_|refine q10 ?_|refine q11 ?_|refine q14 ?_)
        refine TO.takeE rCh (2 * l.length) ?_
        rw [ht]
        have hlc := chs_len l
        rw [← hlc]
        refine TO.step rfl (OT.call rfl rfl rfl rfl rfl rfl goes22 ((sortfunc_ch m L b sc (chs l) (chs_dom l) (by omega) (by omega)).x ?_));
        rintro r1 m1 L1 ⟨rfl, ys, hp, hO, rfl⟩
        have hyl := hp.length_eq
        have hAsc := asc_of hO
        have hDy : DomC ys := (chs_dom l).perm hp
        rw [← hyl]
        repeat (first|refine q1 ?_|refine q2 ?_|refine q3 ?_|refine q4 tab rfl rfl ?_|refine q5 ?_|refine q6 ?_)
        refine TC.loopK (ι := Nat × Int × Int) [0, 35, 36] rfl (fun x => [(37, .int .i64 (x.1 : Int)), (8, .int .i64 x.2.1), (9, .int .i64 x.2.2)]) (fun _ => m) (fun x => chR b ys :: L) (fun x => x.1 ≤ ys.length ∧ x.2.1 = sumC (ys.take x.1) ∧ (∀ j, j ≤ x.1 → sumC (ys.take j) ≤ x.2.2) ∧ ∃ j, j ≤ x.1 ∧ sumC (ys.take j) = x.2.2) (fun x => ys.length - x.1) (0, 0, 0) (by repeat (first|exact trivial|refine And.intro rfl ?_)) rfl (by repeat (exact List.Sublist.refl _)) ⟨Nat.zero_le _, rfl, fun j hj => (by simp only at hj; rw [Nat.le_zero.1 hj]; exact Int.le_refl _), 0, Nat.le_refl _, rfl⟩ ?_
        rintro ⟨k, now, most⟩ ⟨hk2, hnow, hup, hat⟩
        simp only at hk2 hnow hup hat ⊢
        repeat (first|refine q1 ?_|refine q3 ?_|refine q4 tab rfl rfl ?_|refine q5 ?_|refine q6 ?_)
        refine TC.condP rfl (fun hlt2' => ?_) (fun hlt2' => ?_)
        · have hlt2 : k < ys.length := by omega
          have hyt : ys.take (k + 1) = ys.take k ++ [gk ys k] := by rw [gk_lt hlt2]; exact List.take_succ_eq_append_getElem hlt2
          have hyd := hDy.gk hlt2
          have hnb := sumC_bnd (a := ys.take k) (fun x hx => hDy x (List.mem_of_mem_take hx))
          rw [List.length_take, Nat.min_eq_left (by omega)] at hnb
          have hs1 : sumC (ys.take (k + 1)) = now + (gk ys k).by_ := by rw [hyt, sumC_append, hnow]; simp [sumC]
          repeat (first|refine q1 ?_|refine q2 ?_|refine q3 ?_|refine q6 ?_|refine q13 ?_)
          refine TO.step rfl (OT.indexP (sz := 2) tab k rfl rfl rfl rfl rfl rfl rfl (by omega) ?_)
          refine TO.step rfl (OT.loadE (h := gk ys k) (j := 0) tab 0 rCh (gk_get hlt2) (by simp only [rCh]; omega) (fun _ => rfl) rfl rfl rfl rfl rfl ?_)
          skip
          refine TO.step rfl (OT.alloc tab rfl rfl rfl rfl (fun bx => ?_))
          (refine TO.step rfl (OT.storeL0 tab 0 rfl rfl rfl rfl rfl rfl rfl rfl ?_))
          repeat (first|refine q1 ?_|refine q3 ?_|refine q4 tab rfl rfl ?_|refine q5 ?_|refine q6 ?_)
          (refine qs rfl (ql tab 0 rfl rfl rfl rfl rfl rfl ?_))
          skip
          refine TO.step rfl (OT.arith (r' := now + (gk ys k).by_) rfl rfl rfl rfl rfl rfl rfl (by have := hyd.1; have := hyd.2; omega) ?_)
          repeat (first|refine q3 ?_|refine q4 tab rfl rfl ?_|refine q5 ?_|refine q6 ?_)
          refine TO.step rfl (OT.max2 rfl rfl rfl rfl rfl rfl ?_)
          repeat (first|refine q3 ?_|refine q4 tab rfl rfl ?_|refine q5 ?_|refine q6 ?_|refine q7 ?_)
          refine TO.step rfl (OT.arith (r' := ((k + 1 : Nat) : Int)) rfl rfl rfl rfl rfl rfl rfl (by omega) ?_)
          repeat (first|refine q4 tab rfl rfl ?_|refine q5 ?_|refine q6 ?_)
          refine ⟨(k + 1, now + (gk ys k).by_, max most (now + (gk ys k).by_)), (by repeat (first|exact trivial|refine And.intro rfl ?_)), (by repeat (first|exact trivial|refine And.intro rfl ?_)), rfl, rfl, (by repeat (first|exact List.Sublist.refl _|refine List.Sublist.cons _ ?_)), ⟨by simp only; omega, hs1.symm, fun j hj => ?_, ?_⟩, by simp only; omega⟩
          · simp only at hj ⊢
            by_cases e : j = k + 1
            · rw [e, hs1]; exact Int.le_max_right _ _
            · exact Int.le_trans (hup j (by omega)) (Int.le_max_left _ _)
          · simp only
            rcases Int.le_total most (now + (gk ys k).by_) with h | h
            · rw [Int.max_eq_right h]; exact ⟨k + 1, Nat.le_refl _, hs1⟩
            · rw [Int.max_eq_left h]; obtain ⟨j, h1, h2⟩ := hat; exact ⟨j, by omega, h2⟩
        · repeat (first|refine q1 ?_|refine q3 ?_|refine q4 tab rfl rfl ?_|refine q5 ?_|refine q6 ?_|refine q10 ?_|refine q11 ?_|refine q14 ?_|refine q15 ?_)
          refine retQ_ret rfl (by repeat (first|exact List.Sublist.refl _|refine List.Sublist.cons _ ?_)) ⟨Mem.le_refl _, rfl, most, by rw [h0], fun _ => most_of hsd hp hAsc (fun p s e => ?_) ?_, fun h => absurd h0 h⟩
          · have := hup p.length (by have := congrArg List.length e; simp at this; omega)
            rw [e, List.take_left] at this
            exact this
          · obtain ⟨j, _, h2⟩ := hat
            exact ⟨ys.take j, ys.drop j, (List.take_append_drop _ _).symm, h2⟩
end Go.Sep

/-
  The document's Check and Most.
-/
set_option linter.unusedVariables false
set_option linter.unusedSimpArgs false
namespace Go.Sep
open Go.Proofs
attribute [local irreducible] TC TO OT TCallX TCall DO DOt thenQ blockQ retQ At
theorem rgD_get {l : List Rg} {k : Nat} (h : k < l.length) : l[k]? = some (rgD l k) := by unfold rgD; rw [List.getElem?_eq_getElem h]; rfl
set_option maxHeartbeats 1000000 in
theorem refcheck_law (m : Mem) (L : List Item) (ss : Sl) (l : List Rg) (hss : SlRep rRg m ss l) :
    TCall Try.prog 11 ⟨[ss.v]⟩ m L (Ret (.int .i64 (checkM l)) m L) := by
  have hl := hss.len
  have hsm := hss.small rfl
  unfold TCall
  refine TCallX.enter Try.func11 rfl 32 rfl ?_
  repeat (first|refine q1 ?_|refine q3 ?_|refine q4 tab rfl rfl ?_|refine q5 ?_|refine q6 ?_)
  refine TC.condP rfl (fun hbig => ?_) (fun hbig => ?_)
  · repeat (first|refine q1 ?_|refine q3 ?_|refine q4 tab rfl rfl ?_|refine q5 ?_|refine q6 ?_|refine q8 ?_|refine q15 ?_)
    refine retQ_ret rfl (by repeat (exact List.Sublist.refl _)) ⟨rfl, rfl, ?_⟩
    unfold checkM
    rw [if_pos (by omega)]
  · repeat (first|refine q1 ?_|refine q2 ?_|refine q3 ?_|refine q4 tab rfl rfl ?_|refine q5 ?_|refine q6 ?_|refine q13 ?_)
    refine TC.loopK (ι := Nat) [0] rfl (fun k => [(3, .int .i64 (k : Int))]) (fun _ => m) (fun _ => L) (fun k => k ≤ l.length ∧ (l.take k).any badR = false) (fun k => l.length - k) 0 (by repeat (first|exact trivial|refine And.intro rfl ?_)) rfl (by repeat (exact List.Sublist.refl _)) ⟨Nat.zero_le _, rfl⟩ ?_
    rintro k ⟨hk, hI⟩
    repeat (first|refine q1 ?_|refine q3 ?_|refine q4 tab rfl rfl ?_|refine q5 ?_|refine q6 ?_)
    refine TC.condP rfl (fun hlt' => ?_) (fun hlt' => ?_)
    · have hlt : k < l.length := by omega
      have hxe := rgD_get hlt
      have hxt : l.take (k + 1) = l.take k ++ [rgD l k] := by rw [List.take_succ_eq_append_getElem hlt]; congr 2; unfold rgD; rw [List.getElem?_eq_getElem hlt]; rfl
      repeat (first|refine q1 ?_|refine q2 ?_|refine q6 ?_|refine q13 ?_)
      refine TC.draw [] mixed 19 rfl L [] (by rw [List.append_nil]) ?_
      refine DO.pure tab (by repeat (first|exact Calm.ret|refine Calm.then ?_|refine Calm.block ?_)) (by kernel_rfl) [0, 1] (by kernel_rfl) rfl ?_
      refine DO.index tab rRg 2 k hss (by repeat (first|exact Calm.ret|refine Calm.then ?_|refine Calm.block ?_)) (by kernel_rfl) (by kernel_rfl) rfl rfl rfl rfl rfl rfl rfl (by first | rfl | omega) rfl hxe ?_
      rintro b1 i1 h1 e1 hA1; obtain rfl := (show h1 = rgD l k from e1)
      refine DO.pure tab (by repeat (first|exact Calm.ret|refine Calm.then ?_|refine Calm.block ?_)) (by kernel_rfl) [3] (by kernel_rfl) rfl ?_
      (refine DO.loadA tab 4 hA1 (by repeat (first|exact Calm.ret|refine Calm.then ?_|refine Calm.block ?_)) (by kernel_rfl) (by kernel_rfl) rfl rfl rfl rfl rfl rfl rfl ?_)
      refine DO.pure tab (by repeat (first|exact Calm.ret|refine Calm.then ?_|refine Calm.block ?_)) (by kernel_rfl) [5, 6] (by kernel_rfl) rfl ?_
      (refine DO.splitP (d := 19) rfl (fun hg6 => ?_) (fun hg6 => ?_))
      refine DO.pure tab (by repeat (first|exact Calm.ret|refine Calm.then ?_|refine Calm.block ?_)) (by kernel_rfl) [7, 8, 9, 10, 11, 12, 13, 14, 15, 16, 17, 18] (by kernel_rfl) rfl ?_
      (refine DO.nil0 (by kernel_rfl) ?_)
      rotate_left 1
      refine DO.pure tab (by repeat (first|exact Calm.ret|refine Calm.then ?_|refine Calm.block ?_)) (by kernel_rfl) [7, 8] (by kernel_rfl) rfl ?_
      refine DO.index tab rRg 9 k hss (by repeat (first|exact Calm.ret|refine Calm.then ?_|refine Calm.block ?_)) (by kernel_rfl) (by kernel_rfl) rfl rfl rfl rfl rfl rfl rfl (by first | rfl | omega) rfl hxe ?_
      rintro b2 i2 h2 e2 hA2; obtain rfl := (show h2 = rgD l k from e2)
      refine DO.pure tab (by repeat (first|exact Calm.ret|refine Calm.then ?_|refine Calm.block ?_)) (by kernel_rfl) [10] (by kernel_rfl) rfl ?_
      (refine DO.loadA tab 11 hA2 (by repeat (first|exact Calm.ret|refine Calm.then ?_|refine Calm.block ?_)) (by kernel_rfl) (by kernel_rfl) rfl rfl rfl rfl rfl rfl rfl ?_)
      refine DO.pure tab (by repeat (first|exact Calm.ret|refine Calm.then ?_|refine Calm.block ?_)) (by kernel_rfl) [12, 13] (by kernel_rfl) rfl ?_
      refine DO.index tab rRg 14 k hss (by repeat (first|exact Calm.ret|refine Calm.then ?_|refine Calm.block ?_)) (by kernel_rfl) (by kernel_rfl) rfl rfl rfl rfl rfl rfl rfl (by first | rfl | omega) rfl hxe ?_
      rintro b3 i3 h3 e3 hA3; obtain rfl := (show h3 = rgD l k from e3)
      refine DO.pure tab (by repeat (first|exact Calm.ret|refine Calm.then ?_|refine Calm.block ?_)) (by kernel_rfl) [15] (by kernel_rfl) rfl ?_
      (refine DO.loadA tab 16 hA3 (by repeat (first|exact Calm.ret|refine Calm.then ?_|refine Calm.block ?_)) (by kernel_rfl) (by kernel_rfl) rfl rfl rfl rfl rfl rfl rfl ?_)
      refine DO.pure tab (by repeat (first|exact Calm.ret|refine Calm.then ?_|refine Calm.block ?_)) (by kernel_rfl) [17, 18] (by kernel_rfl) rfl ?_
      (refine DO.nil0 (by kernel_rfl) ?_)
      rotate_left 1
      · have hbad : badR (rgD l k) = true := by simp only [badR, Bool.or_eq_true, decide_eq_true_eq]; omega
        repeat (first|refine q1 ?_|refine q3 ?_|refine q4 tab rfl rfl ?_|refine q5 ?_|refine q6 ?_|refine q8 ?_|refine q9 ?_|refine q15 ?_|refine q16 rfl ?_)
        refine retQ_ret rfl (by repeat (exact List.Sublist.refl _)) ⟨rfl, rfl, ?_⟩
        have hany : l.any badR = true := List.any_eq_true.2 ⟨rgD l k, List.mem_of_getElem? hxe, hbad⟩
        unfold checkM
        rw [if_neg (by omega), if_pos hany]
      · repeat (refine q6 ?_)
        refine TC.condP rfl (fun hle => ?_) (fun hle => ?_)
        · have hbad : badR (rgD l k) = true := by simp only [badR, Bool.or_eq_true, decide_eq_true_eq]; omega
          repeat (first|refine q1 ?_|refine q3 ?_|refine q4 tab rfl rfl ?_|refine q5 ?_|refine q6 ?_|refine q8 ?_|refine q9 ?_|refine q15 ?_)
          refine retQ_ret rfl (by repeat (exact List.Sublist.refl _)) ⟨rfl, rfl, ?_⟩
          have hany : l.any badR = true := List.any_eq_true.2 ⟨rgD l k, List.mem_of_getElem? hxe, hbad⟩
          unfold checkM
          rw [if_neg (by omega), if_pos hany]
        · have hok : badR (rgD l k) = false := by simp only [badR, Bool.or_eq_false_iff, decide_eq_false_iff_not]; omega
          repeat (first|refine q3 ?_|refine q4 tab rfl rfl ?_|refine q6 ?_|refine q7 ?_|refine q13 ?_)
          refine TO.step rfl (OT.arith (r' := ((k + 1 : Nat) : Int)) rfl rfl rfl rfl rfl rfl rfl (by omega) ?_)
          repeat (first|refine q4 tab rfl rfl ?_|refine q5 ?_|refine q6 ?_)
          exact ⟨k + 1, (by repeat (first|exact trivial|refine And.intro rfl ?_)), (by repeat (first|exact trivial|refine And.intro rfl ?_)), rfl, rfl, (by repeat (exact List.Sublist.refl _)), ⟨by omega, by rw [hxt, List.any_append, hI]; simp [hok]⟩, by omega⟩
    · repeat (first|refine q1 ?_|refine q3 ?_|refine q4 tab rfl rfl ?_|refine q5 ?_|refine q6 ?_|refine q10 ?_|refine q11 ?_|refine q14 ?_|refine q15 ?_)
      refine retQ_ret rfl (by repeat (exact List.Sublist.refl _)) ⟨rfl, rfl, ?_⟩
      rw [List.take_of_length_le (by omega)] at hI
      unfold checkM
      rw [if_neg (by omega), hI]
      rfl
def isIn (l : List Rg) (t : Int) (k : Nat) : Bool := decide ((rgD l k).frm ≤ t) && decide (t < (rgD l k).to)
theorem cover_take {l : List Rg} {t : Int} {k : Nat} (h : k < l.length) : cover (l.take (k + 1)) t = cover (l.take k) t + if isIn l t k then 1 else 0 := by
  have hxt : l.take (k + 1) = l.take k ++ [rgD l k] := by rw [List.take_succ_eq_append_getElem h]; congr 2; unfold rgD; rw [List.getElem?_eq_getElem h]; rfl
  unfold cover
  rw [hxt, List.countP_append]
  simp [isIn]
set_option maxHeartbeats 2000000 in
theorem refmost_law (m : Mem) (L : List Item) (ss : Sl) (l : List Rg) (hss : SlRep rRg m ss l) (hlim : l.length ≤ 1000000) :
    TCall Try.prog 13 ⟨[ss.v]⟩ m L (fun r m' L' => m = m' ∧ L = L' ∧ ∃ n : Int, r = .int .i64 n ∧ MostIs l n) := by
  have hl := hss.len
  unfold TCall
  refine TCallX.enter Try.func13 rfl 50 rfl ?_
  repeat (first|refine q1 ?_|refine q2 ?_|refine q3 ?_|refine q4 tab rfl rfl ?_|refine q5 ?_|refine q6 ?_)
  refine TC.loopK (ι := Nat × Nat) [0] rfl (fun x => [(4, .int .i64 (x.1 : Int)), (3, .int .i64 (x.2 : Int))]) (fun _ => m) (fun _ => L) (fun x => x.1 ≤ l.length ∧ (∀ i, i < x.1 → cover l (rgD l i).frm ≤ x.2) ∧ (x.2 = 0 ∨ ∃ i, i < x.1 ∧ x.2 = cover l (rgD l i).frm)) (fun x => l.length - x.1) (0, 0) (by repeat (first|exact trivial|refine And.intro rfl ?_)) rfl (by repeat (exact List.Sublist.refl _)) ⟨Nat.zero_le _, fun i hi => by simp only at hi; omega, .inl rfl⟩ ?_
  rintro ⟨k, most⟩ ⟨hk, hup, hat⟩
  simp only at hk hup hat ⊢
  repeat (first|refine q1 ?_|refine q3 ?_|refine q4 tab rfl rfl ?_|refine q5 ?_|refine q6 ?_)
  refine TC.condP rfl (fun hlt' => ?_) (fun hlt' => ?_)
  · have hlt : k < l.length := by omega
    have hxk := rgD_get hlt
    obtain ⟨t, ht⟩ : ∃ t, t = (rgD l k).frm := ⟨_, rfl⟩
    repeat (first|refine q1 ?_|refine q6 ?_|refine q13 ?_)
    refine TC.block ?_
    repeat (first|refine q1 ?_|refine q3 ?_|refine q4 tab rfl rfl ?_|refine q5 ?_|refine q6 ?_)
    refine TC.cutT (ι := Unit) [0, 3, 4] rfl (fun x => [(5, .int .i64 (cover l t : Int))]) (fun _ => m) (fun _ => L) (fun _ => True) ?_ (fun x hx => ?_)
    · repeat (refine q2 ?_)
      refine TC.loopK (ι := Nat) [0, 3, 4] rfl (fun i => [(6, .int .i64 (i : Int)), (5, .int .i64 (cover (l.take i) t : Int))]) (fun _ => m) (fun _ => L) (fun i => i ≤ l.length) (fun i => l.length - i) 0 (by repeat (first|exact trivial|refine And.intro rfl ?_)) rfl (by repeat (exact List.Sublist.refl _)) (Nat.zero_le _) ?_
      rintro i hi
      repeat (first|refine q1 ?_|refine q3 ?_|refine q4 tab rfl rfl ?_|refine q5 ?_|refine q6 ?_)
      refine TC.condP rfl (fun hlt2' => ?_) (fun hlt2' => ?_)
      · have hlt2 : i < l.length := by omega
        have hxi := rgD_get hlt2
        have hct := cover_take (t := t) hlt2
        have hcl : cover (l.take i) t ≤ l.length := Nat.le_trans List.countP_le_length (by rw [List.length_take]; omega)
        repeat (first|refine q1 ?_|refine q2 ?_|refine q6 ?_|refine q13 ?_)
        refine TC.draw [] mixed 24 rfl L [] (by rw [List.append_nil]) ?_
        refine DO.pure tab (by repeat (first|exact Calm.ret|refine Calm.then ?_|refine Calm.block ?_)) (by kernel_rfl) [0, 1] (by kernel_rfl) rfl ?_
        refine DO.index tab rRg 2 i hss (by repeat (first|exact Calm.ret|refine Calm.then ?_|refine Calm.block ?_)) (by kernel_rfl) (by kernel_rfl) rfl rfl rfl rfl rfl rfl rfl (by first | rfl | omega) rfl hxi ?_
        rintro b1 i1 h1 e1 hA1; obtain rfl := (show h1 = rgD l i from e1)
        refine DO.pure tab (by repeat (first|exact Calm.ret|refine Calm.then ?_|refine Calm.block ?_)) (by kernel_rfl) [3] (by kernel_rfl) rfl ?_
        (refine DO.loadA tab 4 hA1 (by repeat (first|exact Calm.ret|refine Calm.then ?_|refine Calm.block ?_)) (by kernel_rfl) (by kernel_rfl) rfl rfl rfl rfl rfl rfl rfl ?_)
        refine DO.pure tab (by repeat (first|exact Calm.ret|refine Calm.then ?_|refine Calm.block ?_)) (by kernel_rfl) [5, 6] (by kernel_rfl) rfl ?_
        refine DO.index tab rRg 7 k hss (by repeat (first|exact Calm.ret|refine Calm.then ?_|refine Calm.block ?_)) (by kernel_rfl) (by kernel_rfl) rfl rfl rfl rfl rfl rfl rfl (by first | rfl | omega) rfl hxk ?_
        rintro b2 i2 h2 e2 hA2; obtain rfl := (show h2 = rgD l k from e2)
        refine DO.pure tab (by repeat (first|exact Calm.ret|refine Calm.then ?_|refine Calm.block ?_)) (by kernel_rfl) [8] (by kernel_rfl) rfl ?_
        (refine DO.loadA tab 9 hA2 (by repeat (first|exact Calm.ret|refine Calm.then ?_|refine Calm.block ?_)) (by kernel_rfl) (by kernel_rfl) rfl rfl rfl rfl rfl rfl rfl ?_)
        refine DO.pure tab (by repeat (first|exact Calm.ret|refine Calm.then ?_|refine Calm.block ?_)) (by kernel_rfl) [10, 11] (by kernel_rfl) rfl ?_
        (refine DO.splitP (d := 30) rfl (fun hg11 => ?_) (fun hg11 => ?_))
        refine DO.pure tab (by repeat (first|exact Calm.ret|refine Calm.then ?_|refine Calm.block ?_)) (by kernel_rfl) [12, 13] (by kernel_rfl) rfl ?_
        refine DO.index tab rRg 14 k hss (by repeat (first|exact Calm.ret|refine Calm.then ?_|refine Calm.block ?_)) (by kernel_rfl) (by kernel_rfl) rfl rfl rfl rfl rfl rfl rfl (by first | rfl | omega) rfl hxk ?_
        rintro b3 i3 h3 e3 hA3; obtain rfl := (show h3 = rgD l k from e3)
        refine DO.pure tab (by repeat (first|exact Calm.ret|refine Calm.then ?_|refine Calm.block ?_)) (by kernel_rfl) [15] (by kernel_rfl) rfl ?_
        (refine DO.loadA tab 16 hA3 (by repeat (first|exact Calm.ret|refine Calm.then ?_|refine Calm.block ?_)) (by kernel_rfl) (by kernel_rfl) rfl rfl rfl rfl rfl rfl rfl ?_)
        refine DO.pure tab (by repeat (first|exact Calm.ret|refine Calm.then ?_|refine Calm.block ?_)) (by kernel_rfl) [17, 18] (by kernel_rfl) rfl ?_
        refine DO.index tab rRg 19 i hss (by repeat (first|exact Calm.ret|refine Calm.then ?_|refine Calm.block ?_)) (by kernel_rfl) (by kernel_rfl) rfl rfl rfl rfl rfl rfl rfl (by first | rfl | omega) rfl hxi ?_
        rintro b4 i4 h4 e4 hA4; obtain rfl := (show h4 = rgD l i from e4)
        refine DO.pure tab (by repeat (first|exact Calm.ret|refine Calm.then ?_|refine Calm.block ?_)) (by kernel_rfl) [20] (by kernel_rfl) rfl ?_
        (refine DO.loadA tab 21 hA4 (by repeat (first|exact Calm.ret|refine Calm.then ?_|refine Calm.block ?_)) (by kernel_rfl) (by kernel_rfl) rfl rfl rfl rfl rfl rfl rfl ?_)
        refine DO.pure tab (by repeat (first|exact Calm.ret|refine Calm.then ?_|refine Calm.block ?_)) (by kernel_rfl) [22, 23] (by kernel_rfl) rfl ?_
        (refine DO.nil0 (by kernel_rfl) ?_)
        rotate_left 1
        refine DO.pure tab (by repeat (first|exact Calm.ret|refine Calm.then ?_|refine Calm.block ?_)) (by kernel_rfl) [12, 13, 14, 15, 16, 17, 18, 19, 20, 21, 22, 23] (by kernel_rfl) rfl ?_
        (refine DO.nil0 (by kernel_rfl) ?_)
        rotate_left 1
        · repeat (refine q6 ?_)
          refine TC.condP rfl (fun hg2 => ?_) (fun hg2 => ?_)
          · have hin : isIn l t i = true := by simp only [isIn, Bool.and_eq_true, decide_eq_true_eq]; omega
            rw [hin, if_pos rfl] at hct
            repeat (first|refine q3 ?_|refine q4 tab rfl rfl ?_)
            refine TO.step rfl (OT.arith (r' := (cover (l.take (i + 1)) t : Int)) rfl rfl rfl rfl rfl rfl (by omega) (by omega) ?_)
            repeat (first|refine q3 ?_|refine q4 tab rfl rfl ?_|refine q5 ?_|refine q6 ?_|refine q7 ?_)
            refine TO.step rfl (OT.arith (r' := ((i + 1 : Nat) : Int)) rfl rfl rfl rfl rfl rfl rfl (by omega) ?_)
            repeat (first|refine q4 tab rfl rfl ?_|refine q5 ?_|refine q6 ?_)
            exact ⟨i + 1, (by repeat (first|exact trivial|refine And.intro rfl ?_)), (by repeat (first|exact trivial|refine And.intro rfl ?_)), rfl, rfl, (by repeat (exact List.Sublist.refl _)), by omega, by omega⟩
          · have hin : isIn l t i = false := by simp only [isIn, Bool.and_eq_false_iff, decide_eq_false_iff_not]; omega
            rw [hin] at hct
            simp only [Bool.false_eq_true, if_false, Nat.add_zero] at hct
            rw [← hct]
            repeat (first|refine q3 ?_|refine q4 tab rfl rfl ?_|refine q6 ?_|refine q7 ?_|refine q13 ?_)
            refine TO.step rfl (OT.arith (r' := ((i + 1 : Nat) : Int)) rfl rfl rfl rfl rfl rfl rfl (by omega) ?_)
            repeat (first|refine q4 tab rfl rfl ?_|refine q5 ?_|refine q6 ?_)
            exact ⟨i + 1, (by repeat (first|exact trivial|refine And.intro rfl ?_)), (by repeat (first|exact trivial|refine And.intro rfl ?_)), rfl, rfl, (by repeat (exact List.Sublist.refl _)), by omega, by omega⟩
        · have hin : isIn l t i = false := by simp only [isIn, Bool.and_eq_false_iff, decide_eq_false_iff_not]; omega
          rw [hin] at hct
          simp only [Bool.false_eq_true, if_false, Nat.add_zero] at hct
          rw [← hct]
          repeat (first|refine q3 ?_|refine q4 tab rfl rfl ?_|refine q6 ?_|refine q7 ?_|refine q13 ?_|refine q17 rfl ?_)
          refine TO.step rfl (OT.arith (r' := ((i + 1 : Nat) : Int)) rfl rfl rfl rfl rfl rfl rfl (by omega) ?_)
          repeat (first|refine q4 tab rfl rfl ?_|refine q5 ?_|refine q6 ?_)
          exact ⟨i + 1, (by repeat (first|exact trivial|refine And.intro rfl ?_)), (by repeat (first|exact trivial|refine And.intro rfl ?_)), rfl, rfl, (by repeat (exact List.Sublist.refl _)), by omega, by omega⟩
      · rw [List.take_of_length_le (by omega)]
        repeat (first|refine q6 ?_|refine q10 ?_|refine q11 ?_|refine q14 ?_)
        exact ⟨(), (by repeat (first|exact trivial|refine And.intro rfl ?_)), (by repeat (first|exact trivial|refine And.intro rfl ?_)), rfl, rfl, (by repeat (exact List.Sublist.refl _)), trivial⟩
    · repeat (first|refine q1 ?_|refine q3 ?_|refine q4 tab rfl rfl ?_|refine q5 ?_|refine q6 ?_)
      refine TC.condP rfl (fun hgt => ?_) (fun hgt => ?_)
      · repeat (first|refine q3 ?_|refine q4 tab rfl rfl ?_|refine q5 ?_|refine q6 ?_|refine q7 ?_)
        refine TO.step rfl (OT.arith (r' := ((k + 1 : Nat) : Int)) rfl rfl rfl rfl rfl rfl rfl (by omega) ?_)
        repeat (first|refine q4 tab rfl rfl ?_|refine q5 ?_|refine q6 ?_)
        refine ⟨(k + 1, cover l t), (by repeat (first|exact trivial|refine And.intro rfl ?_)), (by repeat (first|exact trivial|refine And.intro rfl ?_)), rfl, rfl, (by repeat (exact List.Sublist.refl _)), ⟨by simp only; omega, fun i hi => ?_, .inr ⟨k, by simp only; omega, by simp only [ht]⟩⟩, by simp only; omega⟩
        simp only at hi ⊢
        by_cases e : i = k
        · rw [e, ← ht]; exact Nat.le_refl _
        · have := hup i (by omega); omega
      · repeat (first|refine q3 ?_|refine q4 tab rfl rfl ?_|refine q6 ?_|refine q7 ?_|refine q13 ?_)
        refine TO.step rfl (OT.arith (r' := ((k + 1 : Nat) : Int)) rfl rfl rfl rfl rfl rfl rfl (by omega) ?_)
        repeat (first|refine q4 tab rfl rfl ?_|refine q5 ?_|refine q6 ?_)
        refine ⟨(k + 1, most), (by repeat (first|exact trivial|refine And.intro rfl ?_)), (by repeat (first|exact trivial|refine And.intro rfl ?_)), rfl, rfl, (by repeat (exact List.Sublist.refl _)), ⟨by simp only; omega, fun i hi => ?_, ?_⟩, by simp only; omega⟩
        · simp only at hi ⊢
          by_cases e : i = k
          · rw [e, ← ht]; omega
          · exact hup i (by omega)
        · simp only
          rcases hat with h | ⟨i, h1, h2⟩
          · exact .inl h
          · exact .inr ⟨i, by omega, h2⟩
  · repeat (first|refine q1 ?_|refine q3 ?_|refine q4 tab rfl rfl ?_|refine q5 ?_|refine q6 ?_|refine q10 ?_|refine q11 ?_|refine q14 ?_|refine q15 ?_)
    refine retQ_ret rfl (by repeat (exact List.Sublist.refl _)) ⟨rfl, rfl, most, rfl, by omega, fun r hr => ?_, ?_⟩
    · obtain ⟨i, hi⟩ := List.getElem?_of_mem hr
      have hil : i < l.length := (List.getElem?_eq_some_iff.1 hi).1
      rw [rgD_get hil] at hi
      have := hup i (by omega)
      rw [Option.some.inj hi] at this
      omega
    · rcases hat with h | ⟨i, h1, h2⟩
      · exact .inl (by omega)
      · exact .inr ⟨rgD l i, List.mem_of_getElem? (rgD_get (by omega)), by omega⟩
end Go.Sep
