/-
  Changes sorted in place: parted by a pivot.
-/
import Derived.Test.YtggfaplmdcpccaaB9
set_option linter.unusedVariables false
set_option linter.unusedSimpArgs false
namespace Go.Sep
open Go.Proofs
attribute [local irreducible] TC TO OT TCallX TCall DO DOt thenQ blockQ retQ At
set_option maxHeartbeats 4000000 in
theorem partition_ch (m : Mem) (L : List Item) (bd c a b p : Nat) (xs : List Ch) (hD0 : DomC xs) (hab : a + 1 < b) (hp : a ≤ p ∧ p < b) (hl : b ≤ xs.length) (hlim : xs.length ≤ 1000000) :
    TCall Try.prog 44 ⟨[.slice (some ⟨bd, 0, none⟩) xs.length c, .int .i64 (a : Int), .int .i64 (b : Int), .int .i64 (p : Int), chF]⟩ m (chR bd xs :: L) (fun r m' L' => m = m' ∧ ∃ ys mid bv, r = .tuple ⟨[.int .i64 ((mid : Nat) : Int), .bool bv]⟩ ∧ Parted ltC a b mid xs ys ∧ chR bd ys :: L = L') := by
  unfold TCall
  refine TCallX.enter Try.func44 rfl 178 rfl ?_
  repeat (first|refine q1 ?_|refine q3 ?_|refine q4 tab rfl rfl ?_|refine q5 ?_|refine q6 ?_)
  refine TC.draw [13, 14, 15] mixed 16 rfl [chR bd xs] L (by first | exact List.Perm.refl _ | (rw [List.append_nil]; exact List.Perm.refl _)) ?_
  refine DO.pure tab (by repeat (first|exact Calm.ret|refine Calm.then ?_)) (by kernel_rfl) [0, 1, 2, 3, 4, 5] (by kernel_rfl) rfl ?_
  refine DO.indexP (sz := 2) tab 6 p (by repeat (first|exact Calm.ret|refine Calm.then ?_)) (by kernel_rfl) (by kernel_rfl) rfl rfl rfl rfl rfl rfl rfl rfl rfl (by omega) ?_
  refine DO.loadE (jj := 0) tab 7 0 rCh (gk_get (xs := xs) (k := p) (by omega)) (by simp only [rCh]; omega) (fun _ => rfl) (by repeat (first|exact Calm.ret|refine Calm.then ?_)) (by kernel_rfl) (by kernel_rfl) rfl rfl rfl rfl rfl rfl rfl ?_
  refine DO.pure tab (by repeat (first|exact Calm.ret|refine Calm.then ?_)) (by kernel_rfl) [8, 9] (by kernel_rfl) rfl ?_
  refine DO.indexP (sz := 2) tab 10 a (by repeat (first|exact Calm.ret|refine Calm.then ?_)) (by kernel_rfl) (by kernel_rfl) rfl rfl rfl rfl rfl rfl rfl rfl rfl (by omega) ?_
  refine DO.loadE (jj := 0) tab 11 0 rCh (gk_get (xs := xs) (k := a) (by omega)) (by simp only [rCh]; omega) (fun _ => rfl) (by repeat (first|exact Calm.ret|refine Calm.then ?_)) (by kernel_rfl) (by kernel_rfl) rfl rfl rfl rfl rfl rfl rfl ?_
  refine DO.indexP (sz := 2) tab 12 a (by repeat (first|exact Calm.ret|refine Calm.then ?_)) (by kernel_rfl) (by kernel_rfl) rfl rfl rfl rfl rfl rfl rfl rfl rfl (by omega) ?_
  refine DO.tail ?_
  refine DOt.run 13 rfl rfl (by kernel_rfl) rfl ?_
  refine OT.storeE (h2 := gk xs p) tab 0 rCh (gk_get (xs := xs) (k := a) (by omega)) (j := 0) (by simp only [rCh]; omega) (fun _ => rfl) (Nat.le_refl _) rfl rfl rfl rfl rfl rfl rfl ?_
  refine DOt.run 14 rfl rfl (by kernel_rfl) rfl ?_
  refine OT.indexP (sz := 2) tab p rfl rfl rfl rfl rfl rfl rfl (by omega) ?_
  refine DOt.run 15 rfl rfl (by kernel_rfl) rfl ?_
  refine OT.storeE (h2 := gk xs a) (h := gk (List.set xs a (gk xs p)) p) tab 0 rCh (k := p) (gk_get (by simp; omega)) (j := 0) (by simp only [rCh]; omega) (fun _ => rfl) (Nat.le_refl _) rfl rfl rfl rfl rfl rfl rfl ?_
  refine DOt.nil (by kernel_rfl) ?_
  rotate_left 1
  have hS0 : Sg a b xs (sw xs a p) := Sg.sw (by omega) hp hl
  have hDs := hD0.perm hS0.perm
  have hsl := hS0.len
  repeat (first|refine q1 ?_|refine q3 ?_|refine q4 tab rfl rfl ?_|refine q6 ?_)
  refine TO.step rfl (OT.arith (r' := ((a + 1 : Nat) : Int)) rfl rfl rfl rfl rfl rfl rfl (by omega) ?_)
  repeat (refine q4 tab rfl rfl ?_)
  refine TO.step rfl (OT.arith (r' := ((b - 1 : Nat) : Int)) rfl rfl rfl rfl rfl rfl (by omega) (by omega) ?_)
  repeat (first|refine q1 ?_|refine q2 ?_|refine q4 tab rfl rfl ?_|refine q5 ?_|refine q6 ?_)
  have hP : PaI ltC (sw xs a p) a b (a + 1) (b - 1) (sw xs a p) := PaI.start (a := a) (b := b) (by omega) hab
  obtain ⟨zs, hzs⟩ : ∃ zs, zs = sw xs a p := ⟨_, rfl⟩
  obtain ⟨i, hi⟩ : ∃ i, i = a + 1 := ⟨_, rfl⟩
  obtain ⟨j, hj⟩ : ∃ j, j = b - 1 := ⟨_, rfl⟩
  have hP : PaI ltC (sw xs a p) a b i j zs := by rw [hi, hj, hzs]; exact hP
  have hzl : zs.length = xs.length := by rw [hzs]; exact hsl
  have hD : DomC zs := by rw [hzs]; exact hDs
  refine TC.drop (L' := chR bd (sw xs a p) :: L) (by repeat (exact List.Sublist.refl _)) ?_
  rw [← hzs, ← hi, ← hj]
  skip
  refine TC.loopK (ι := Nat) [0, 1, 4, 13] rfl (fun i => [(12, .int .i64 (i : Int))]) (fun _ => m) (fun _ => chR bd zs :: L) (fun i => PaI ltC (sw xs a p) a b i j zs) (fun i => b + 1 - i) i (by repeat (first|exact trivial|refine And.intro rfl ?_)) rfl (by repeat (exact List.Sublist.refl _)) hP ?_
  clear hP
  rintro i hP
  have hr := hP.rng
  repeat (refine q1 ?_)
  refine TC.draw [] mixed 16 rfl [chR bd zs] L (by first | exact List.Perm.refl _ | (rw [List.append_nil]; exact List.Perm.refl _)) ?_
  refine DO.pure tab (by repeat (first|exact Calm.ret|refine Calm.then ?_|refine Calm.block ?_)) (by kernel_rfl) [0, 1, 2, 3] (by kernel_rfl) rfl ?_
  (refine DO.splitP (d := 35) rfl (fun hg3 => ?_) (fun hg3 => ?_))
  refine DO.pure tab (by repeat (first|exact Calm.ret|refine Calm.then ?_|refine Calm.block ?_)) (by kernel_rfl) [4, 5, 6] (by kernel_rfl) rfl ?_
  refine DO.indexP (sz := 2) tab 7 i (by repeat (first|exact Calm.ret|refine Calm.then ?_|refine Calm.block ?_)) (by kernel_rfl) (by kernel_rfl) rfl rfl rfl rfl rfl rfl rfl rfl rfl (by omega) ?_
  refine DO.loadE (jj := 0) tab 8 0 rCh (gk_get (xs := zs) (k := i) (by omega)) (by simp only [rCh]; omega) (fun _ => rfl) (by repeat (first|exact Calm.ret|refine Calm.then ?_|refine Calm.block ?_)) (by kernel_rfl) (by kernel_rfl) rfl rfl rfl rfl rfl rfl rfl ?_
  refine DO.pure tab (by repeat (first|exact Calm.ret|refine Calm.then ?_|refine Calm.block ?_)) (by kernel_rfl) [9, 10] (by kernel_rfl) rfl ?_
  refine DO.indexP (sz := 2) tab 11 a (by repeat (first|exact Calm.ret|refine Calm.then ?_|refine Calm.block ?_)) (by kernel_rfl) (by kernel_rfl) rfl rfl rfl rfl rfl rfl rfl rfl rfl (by omega) ?_
  refine DO.loadE (jj := 0) tab 12 0 rCh (gk_get (xs := zs) (k := a) (by omega)) (by simp only [rCh]; omega) (fun _ => rfl) (by repeat (first|exact Calm.ret|refine Calm.then ?_|refine Calm.block ?_)) (by kernel_rfl) (by kernel_rfl) rfl rfl rfl rfl rfl rfl rfl ?_
  refine DO.run 13 rfl rfl (by kernel_rfl) rfl (OT.call rfl rfl rfl rfl rfl rfl goes23 ((chcmp_law m _ (gk zs i) (gk zs a) (hD.gk (by omega)) (hD.gk (by omega))).x ?_))
  rintro _ _ _ ⟨rfl, rfl, rfl⟩; refine ⟨Mem.le_refl _, _, List.Perm.refl _, ?_⟩
  refine DO.pure tab (by repeat (first|exact Calm.ret|refine Calm.then ?_|refine Calm.block ?_)) (by kernel_rfl) [14, 15] (by kernel_rfl) rfl ?_
  (refine DO.nil (by kernel_rfl) ?_)
  rotate_left 1
  refine DO.pure tab (by repeat (first|exact Calm.ret|refine Calm.then ?_|refine Calm.block ?_)) (by kernel_rfl) [4, 5, 6, 7, 8, 9, 10, 11, 12, 13, 14, 15] (by kernel_rfl) rfl ?_
  (refine DO.nil (by kernel_rfl) ?_)
  rotate_left 1
  · repeat (refine q6 ?_)
    simp only [ch_dec]
    cases hc1 : ltC (gk zs i) (gk zs a) with
    | true =>
      repeat (first|refine q2 ?_|refine q3 ?_|refine q4 tab rfl rfl ?_|refine q6 ?_|refine q13 ?_|refine q16 rfl ?_)
      refine TO.step rfl (OT.arith (r' := ((i + 1 : Nat) : Int)) rfl rfl rfl rfl rfl rfl rfl (by omega) ?_)
      repeat (first|refine q4 tab rfl rfl ?_|refine q5 ?_|refine q6 ?_|refine q7 ?_)
      exact ⟨i + 1, (by repeat (first|exact trivial|refine And.intro rfl ?_)), (by repeat (first|exact trivial|refine And.intro rfl ?_)), rfl, rfl, (by repeat (exact List.Sublist.refl _)), hP.left (by omega) hc1, by omega⟩
    | false =>
      repeat (first|refine q1 ?_|refine q2 ?_|refine q6 ?_|refine q10 ?_|refine q11 ?_|refine q14 ?_|refine q17 rfl ?_)
      refine TC.loopK (ι := Nat) [0, 1, 4, 12] rfl (fun j => [(13, .int .i64 (j : Int))]) (fun _ => m) (fun _ => chR bd zs :: L) (fun j2 => j2 ≤ j ∧ PaI ltC (sw xs a p) a b i j2 zs) (fun j => j) j (by repeat (first|exact trivial|refine And.intro rfl ?_)) rfl (by repeat (exact List.Sublist.refl _)) ⟨Nat.le_refl _, hP⟩ ?_
      rintro j2 ⟨hj2, hP2⟩
      have hr2 := hP2.rng
      repeat (refine q1 ?_)
      refine TC.draw [] mixed 17 rfl [chR bd zs] L (by first | exact List.Perm.refl _ | (rw [List.append_nil]; exact List.Perm.refl _)) ?_
      refine DO.pure tab (by repeat (first|exact Calm.ret|refine Calm.then ?_|refine Calm.block ?_)) (by kernel_rfl) [0, 1, 2, 3] (by kernel_rfl) rfl ?_
      (refine DO.splitP (d := 53) rfl (fun hg3 => ?_) (fun hg3 => ?_))
      refine DO.pure tab (by repeat (first|exact Calm.ret|refine Calm.then ?_|refine Calm.block ?_)) (by kernel_rfl) [4, 5, 6] (by kernel_rfl) rfl ?_
      refine DO.indexP (sz := 2) tab 7 j2 (by repeat (first|exact Calm.ret|refine Calm.then ?_|refine Calm.block ?_)) (by kernel_rfl) (by kernel_rfl) rfl rfl rfl rfl rfl rfl rfl rfl rfl (by omega) ?_
      refine DO.loadE (jj := 0) tab 8 0 rCh (gk_get (xs := zs) (k := j2) (by omega)) (by simp only [rCh]; omega) (fun _ => rfl) (by repeat (first|exact Calm.ret|refine Calm.then ?_|refine Calm.block ?_)) (by kernel_rfl) (by kernel_rfl) rfl rfl rfl rfl rfl rfl rfl ?_
      refine DO.pure tab (by repeat (first|exact Calm.ret|refine Calm.then ?_|refine Calm.block ?_)) (by kernel_rfl) [9, 10] (by kernel_rfl) rfl ?_
      refine DO.indexP (sz := 2) tab 11 a (by repeat (first|exact Calm.ret|refine Calm.then ?_|refine Calm.block ?_)) (by kernel_rfl) (by kernel_rfl) rfl rfl rfl rfl rfl rfl rfl rfl rfl (by omega) ?_
      refine DO.loadE (jj := 0) tab 12 0 rCh (gk_get (xs := zs) (k := a) (by omega)) (by simp only [rCh]; omega) (fun _ => rfl) (by repeat (first|exact Calm.ret|refine Calm.then ?_|refine Calm.block ?_)) (by kernel_rfl) (by kernel_rfl) rfl rfl rfl rfl rfl rfl rfl ?_
      refine DO.run 13 rfl rfl (by kernel_rfl) rfl (OT.call rfl rfl rfl rfl rfl rfl goes23 ((chcmp_law m _ (gk zs j2) (gk zs a) (hD.gk (by omega)) (hD.gk (by omega))).x ?_))
      rintro _ _ _ ⟨rfl, rfl, rfl⟩; refine ⟨Mem.le_refl _, _, List.Perm.refl _, ?_⟩
      refine DO.pure tab (by repeat (first|exact Calm.ret|refine Calm.then ?_|refine Calm.block ?_)) (by kernel_rfl) [14, 15, 16] (by kernel_rfl) rfl ?_
      (refine DO.nil (by kernel_rfl) ?_)
      rotate_left 1
      refine DO.pure tab (by repeat (first|exact Calm.ret|refine Calm.then ?_|refine Calm.block ?_)) (by kernel_rfl) [4, 5, 6, 7, 8, 9, 10, 11, 12, 13, 14, 15, 16] (by kernel_rfl) rfl ?_
      (refine DO.nil (by kernel_rfl) ?_)
      rotate_left 1
      · repeat (refine q6 ?_)
        simp only [ch_dec]
        cases hc2 : ltC (gk zs j2) (gk zs a) with
        | false =>
          repeat (first|refine q2 ?_|refine q3 ?_|refine q4 tab rfl rfl ?_|refine q6 ?_|refine q13 ?_|refine q16 rfl ?_)
          refine TO.step rfl (OT.arith (r' := ((j2 - 1 : Nat) : Int)) rfl rfl rfl rfl rfl rfl (by omega) (by omega) ?_)
          repeat (first|refine q4 tab rfl rfl ?_|refine q5 ?_|refine q6 ?_|refine q7 ?_)
          exact ⟨j2 - 1, (by repeat (first|exact trivial|refine And.intro rfl ?_)), (by repeat (first|exact trivial|refine And.intro rfl ?_)), rfl, rfl, (by repeat (exact List.Sublist.refl _)), ⟨by omega, hP2.right (by omega) hc2⟩, by omega⟩
        | true =>
          repeat (first|refine q1 ?_|refine q3 ?_|refine q4 tab rfl rfl ?_|refine q5 ?_|refine q6 ?_|refine q10 ?_|refine q11 ?_|refine q14 ?_|refine q17 rfl ?_)
          refine TC.condP rfl (fun hgt => ?_) (fun hgt => ?_)
          · have hN := hP2.done (by omega) (by omega)
            repeat (refine q1 ?_)
            refine TC.draw [13, 14, 15] mixed 16 rfl [chR bd zs] L (by first | exact List.Perm.refl _ | (rw [List.append_nil]; exact List.Perm.refl _)) ?_
            refine DO.pure tab (by repeat (first|exact Calm.ret|refine Calm.then ?_)) (by kernel_rfl) [0, 1, 2, 3, 4, 5] (by kernel_rfl) rfl ?_
            refine DO.indexP (sz := 2) tab 6 a (by repeat (first|exact Calm.ret|refine Calm.then ?_)) (by kernel_rfl) (by kernel_rfl) rfl rfl rfl rfl rfl rfl rfl rfl rfl (by omega) ?_
            refine DO.loadE (jj := 0) tab 7 0 rCh (gk_get (xs := zs) (k := a) (by omega)) (by simp only [rCh]; omega) (fun _ => rfl) (by repeat (first|exact Calm.ret|refine Calm.then ?_)) (by kernel_rfl) (by kernel_rfl) rfl rfl rfl rfl rfl rfl rfl ?_
            refine DO.pure tab (by repeat (first|exact Calm.ret|refine Calm.then ?_)) (by kernel_rfl) [8, 9] (by kernel_rfl) rfl ?_
            refine DO.indexP (sz := 2) tab 10 j2 (by repeat (first|exact Calm.ret|refine Calm.then ?_)) (by kernel_rfl) (by kernel_rfl) rfl rfl rfl rfl rfl rfl rfl rfl rfl (by omega) ?_
            refine DO.loadE (jj := 0) tab 11 0 rCh (gk_get (xs := zs) (k := j2) (by omega)) (by simp only [rCh]; omega) (fun _ => rfl) (by repeat (first|exact Calm.ret|refine Calm.then ?_)) (by kernel_rfl) (by kernel_rfl) rfl rfl rfl rfl rfl rfl rfl ?_
            refine DO.indexP (sz := 2) tab 12 j2 (by repeat (first|exact Calm.ret|refine Calm.then ?_)) (by kernel_rfl) (by kernel_rfl) rfl rfl rfl rfl rfl rfl rfl rfl rfl (by omega) ?_
            refine DO.tail ?_
            refine DOt.run 13 rfl rfl (by kernel_rfl) rfl ?_
            refine OT.storeE (h2 := gk zs a) tab 0 rCh (gk_get (xs := zs) (k := j2) (by omega)) (j := 0) (by simp only [rCh]; omega) (fun _ => rfl) (Nat.le_refl _) rfl rfl rfl rfl rfl rfl rfl ?_
            refine DOt.run 14 rfl rfl (by kernel_rfl) rfl ?_
            refine OT.indexP (sz := 2) tab a rfl rfl rfl rfl rfl rfl rfl (by omega) ?_
            refine DOt.run 15 rfl rfl (by kernel_rfl) rfl ?_
            refine OT.storeE (h2 := gk zs j2) (h := gk (List.set zs j2 (gk zs a)) a) tab 0 rCh (k := a) (gk_get (by simp; omega)) (j := 0) (by simp only [rCh]; omega) (fun _ => rfl) (Nat.le_refl _) rfl rfl rfl rfl rfl rfl rfl ?_
            refine DOt.nil (by kernel_rfl) ?_
            rotate_left 1
            repeat (first|refine q1 ?_|refine q3 ?_|refine q4 tab rfl rfl ?_|refine q5 ?_|refine q6 ?_|refine q8 ?_|refine q15 ?_)
            refine retQ_ret rfl (L' := chR bd (sw zs j2 a) :: L) (by repeat (exact List.Sublist.refl _)) ⟨rfl, sw zs j2 a, j2, _, rfl, hN.base hS0, rfl⟩
          · have hpair : ltC (gk zs i) (gk zs a) = false ∧ ltC (gk zs j2) (gk zs a) = true := by
              constructor
              · first | exact hc1 | (exfalso; omega)
              · first | exact hc2 | (exfalso; omega)
            obtain ⟨hN, hlt⟩ := hP2.swap (by omega) (by omega) hpair.1 hpair.2
            repeat (first|refine q1 ?_|refine q6 ?_|refine q13 ?_)
            refine TC.draw [13, 14, 15] mixed 16 rfl [chR bd zs] L (by first | exact List.Perm.refl _ | (rw [List.append_nil]; exact List.Perm.refl _)) ?_
            refine DO.pure tab (by repeat (first|exact Calm.ret|refine Calm.then ?_)) (by kernel_rfl) [0, 1, 2, 3, 4, 5] (by kernel_rfl) rfl ?_
            refine DO.indexP (sz := 2) tab 6 j2 (by repeat (first|exact Calm.ret|refine Calm.then ?_)) (by kernel_rfl) (by kernel_rfl) rfl rfl rfl rfl rfl rfl rfl rfl rfl (by omega) ?_
            refine DO.loadE (jj := 0) tab 7 0 rCh (gk_get (xs := zs) (k := j2) (by omega)) (by simp only [rCh]; omega) (fun _ => rfl) (by repeat (first|exact Calm.ret|refine Calm.then ?_)) (by kernel_rfl) (by kernel_rfl) rfl rfl rfl rfl rfl rfl rfl ?_
            refine DO.pure tab (by repeat (first|exact Calm.ret|refine Calm.then ?_)) (by kernel_rfl) [8, 9] (by kernel_rfl) rfl ?_
            refine DO.indexP (sz := 2) tab 10 i (by repeat (first|exact Calm.ret|refine Calm.then ?_)) (by kernel_rfl) (by kernel_rfl) rfl rfl rfl rfl rfl rfl rfl rfl rfl (by omega) ?_
            refine DO.loadE (jj := 0) tab 11 0 rCh (gk_get (xs := zs) (k := i) (by omega)) (by simp only [rCh]; omega) (fun _ => rfl) (by repeat (first|exact Calm.ret|refine Calm.then ?_)) (by kernel_rfl) (by kernel_rfl) rfl rfl rfl rfl rfl rfl rfl ?_
            refine DO.indexP (sz := 2) tab 12 i (by repeat (first|exact Calm.ret|refine Calm.then ?_)) (by kernel_rfl) (by kernel_rfl) rfl rfl rfl rfl rfl rfl rfl rfl rfl (by omega) ?_
            refine DO.tail ?_
            refine DOt.run 13 rfl rfl (by kernel_rfl) rfl ?_
            refine OT.storeE (h2 := gk zs j2) tab 0 rCh (gk_get (xs := zs) (k := i) (by omega)) (j := 0) (by simp only [rCh]; omega) (fun _ => rfl) (Nat.le_refl _) rfl rfl rfl rfl rfl rfl rfl ?_
            refine DOt.run 14 rfl rfl (by kernel_rfl) rfl ?_
            refine OT.indexP (sz := 2) tab j2 rfl rfl rfl rfl rfl rfl rfl (by omega) ?_
            refine DOt.run 15 rfl rfl (by kernel_rfl) rfl ?_
            refine OT.storeE (h2 := gk zs i) (h := gk (List.set zs i (gk zs j2)) j2) tab 0 rCh (k := j2) (gk_get (by simp; omega)) (j := 0) (by simp only [rCh]; omega) (fun _ => rfl) (Nat.le_refl _) rfl rfl rfl rfl rfl rfl rfl ?_
            refine DOt.nil (by kernel_rfl) ?_
            rotate_left 1
            repeat (first|refine q1 ?_|refine q3 ?_|refine q4 tab rfl rfl ?_|refine q6 ?_)
            refine TO.step rfl (OT.arith (r' := ((i + 1 : Nat) : Int)) rfl rfl rfl rfl rfl rfl rfl (by omega) ?_)
            repeat (first|refine q1 ?_|refine q3 ?_|refine q4 tab rfl rfl ?_|refine q5 ?_|refine q6 ?_)
            refine TO.step rfl (OT.arith (r' := ((j2 - 1 : Nat) : Int)) rfl rfl rfl rfl rfl rfl (by omega) (by omega) ?_)
            repeat (first|refine q1 ?_|refine q2 ?_|refine q4 tab rfl rfl ?_|refine q5 ?_|refine q6 ?_)
            refine TC.loopK (ι := Nat × Nat × List Ch) [0, 1, 4] rfl (fun x => [(12, .int .i64 (x.1 : Int)), (13, .int .i64 (x.2.1 : Int))]) (fun _ => m) (fun x => chR bd x.2.2 :: L) (fun x => PaI ltC (sw xs a p) a b x.1 x.2.1 x.2.2) (fun x => b + 1 + x.2.1 - x.1) (i + 1, j2 - 1, sw zs i j2) (by repeat (first|exact trivial|refine And.intro rfl ?_)) rfl (by repeat (exact List.Sublist.refl _)) hN ?_
            clear hN hpair hP hP2 hc1 hc2
            rintro ⟨i, j, ws⟩ hP
            simp only at hP ⊢
            have hwl := hP.seg.len
            have hD : DomC ws := hDs.perm hP.seg.perm
            repeat (first|refine q1 ?_|refine q2 ?_)
            refine TC.loopK (ι := Nat) [0, 1, 4, 13] rfl (fun i => [(12, .int .i64 (i : Int))]) (fun _ => m) (fun _ => chR bd ws :: L) (fun k => i ≤ k ∧ PaI ltC (sw xs a p) a b k j ws) (fun k => b + 1 - k) i (by repeat (first|exact trivial|refine And.intro rfl ?_)) rfl (by repeat (exact List.Sublist.refl _)) ⟨Nat.le_refl _, hP⟩ ?_
            clear hP
            obtain ⟨i0, hi0⟩ : ∃ i0, i0 = i := ⟨_, rfl⟩
            rw [← hi0]
            clear hi0
            rintro i ⟨hi0, hP⟩
            have hr := hP.rng
            repeat (refine q1 ?_)
            refine TC.draw [] mixed 16 rfl [chR bd ws] L (by first | exact List.Perm.refl _ | (rw [List.append_nil]; exact List.Perm.refl _)) ?_
            refine DO.pure tab (by repeat (first|exact Calm.ret|refine Calm.then ?_|refine Calm.block ?_)) (by kernel_rfl) [0, 1, 2, 3] (by kernel_rfl) rfl ?_
            (refine DO.splitP (d := 108) rfl (fun hg3 => ?_) (fun hg3 => ?_))
            refine DO.pure tab (by repeat (first|exact Calm.ret|refine Calm.then ?_|refine Calm.block ?_)) (by kernel_rfl) [4, 5, 6] (by kernel_rfl) rfl ?_
            refine DO.indexP (sz := 2) tab 7 i (by repeat (first|exact Calm.ret|refine Calm.then ?_|refine Calm.block ?_)) (by kernel_rfl) (by kernel_rfl) rfl rfl rfl rfl rfl rfl rfl rfl rfl (by omega) ?_
            refine DO.loadE (jj := 0) tab 8 0 rCh (gk_get (xs := ws) (k := i) (by omega)) (by simp only [rCh]; omega) (fun _ => rfl) (by repeat (first|exact Calm.ret|refine Calm.then ?_|refine Calm.block ?_)) (by kernel_rfl) (by kernel_rfl) rfl rfl rfl rfl rfl rfl rfl ?_
            refine DO.pure tab (by repeat (first|exact Calm.ret|refine Calm.then ?_|refine Calm.block ?_)) (by kernel_rfl) [9, 10] (by kernel_rfl) rfl ?_
            refine DO.indexP (sz := 2) tab 11 a (by repeat (first|exact Calm.ret|refine Calm.then ?_|refine Calm.block ?_)) (by kernel_rfl) (by kernel_rfl) rfl rfl rfl rfl rfl rfl rfl rfl rfl (by omega) ?_
            refine DO.loadE (jj := 0) tab 12 0 rCh (gk_get (xs := ws) (k := a) (by omega)) (by simp only [rCh]; omega) (fun _ => rfl) (by repeat (first|exact Calm.ret|refine Calm.then ?_|refine Calm.block ?_)) (by kernel_rfl) (by kernel_rfl) rfl rfl rfl rfl rfl rfl rfl ?_
            refine DO.run 13 rfl rfl (by kernel_rfl) rfl (OT.call rfl rfl rfl rfl rfl rfl goes23 ((chcmp_law m _ (gk ws i) (gk ws a) (hD.gk (by omega)) (hD.gk (by omega))).x ?_))
            rintro _ _ _ ⟨rfl, rfl, rfl⟩; refine ⟨Mem.le_refl _, _, List.Perm.refl _, ?_⟩
            refine DO.pure tab (by repeat (first|exact Calm.ret|refine Calm.then ?_|refine Calm.block ?_)) (by kernel_rfl) [14, 15] (by kernel_rfl) rfl ?_
            (refine DO.nil (by kernel_rfl) ?_)
            rotate_left 1
            refine DO.pure tab (by repeat (first|exact Calm.ret|refine Calm.then ?_|refine Calm.block ?_)) (by kernel_rfl) [4, 5, 6, 7, 8, 9, 10, 11, 12, 13, 14, 15] (by kernel_rfl) rfl ?_
            (refine DO.nil (by kernel_rfl) ?_)
            rotate_left 1
            · repeat (refine q6 ?_)
              simp only [ch_dec]
              cases hc1 : ltC (gk ws i) (gk ws a) with
              | true =>
                repeat (first|refine q2 ?_|refine q3 ?_|refine q4 tab rfl rfl ?_|refine q6 ?_|refine q13 ?_|refine q16 rfl ?_)
                refine TO.step rfl (OT.arith (r' := ((i + 1 : Nat) : Int)) rfl rfl rfl rfl rfl rfl rfl (by omega) ?_)
                repeat (first|refine q4 tab rfl rfl ?_|refine q5 ?_|refine q6 ?_|refine q7 ?_)
                exact ⟨i + 1, (by repeat (first|exact trivial|refine And.intro rfl ?_)), (by repeat (first|exact trivial|refine And.intro rfl ?_)), rfl, rfl, (by repeat (exact List.Sublist.refl _)), ⟨by omega, hP.left (by omega) hc1⟩, by omega⟩
              | false =>
                repeat (first|refine q1 ?_|refine q2 ?_|refine q6 ?_|refine q10 ?_|refine q11 ?_|refine q14 ?_|refine q17 rfl ?_)
                refine TC.loopK (ι := Nat) [0, 1, 4, 12] rfl (fun j => [(13, .int .i64 (j : Int))]) (fun _ => m) (fun _ => chR bd ws :: L) (fun j2 => j2 ≤ j ∧ PaI ltC (sw xs a p) a b i j2 ws) (fun j => j) j (by repeat (first|exact trivial|refine And.intro rfl ?_)) rfl (by repeat (exact List.Sublist.refl _)) ⟨Nat.le_refl _, hP⟩ ?_
                rintro j2 ⟨hj2, hP2⟩
                have hr2 := hP2.rng
                repeat (refine q1 ?_)
                refine TC.draw [] mixed 17 rfl [chR bd ws] L (by first | exact List.Perm.refl _ | (rw [List.append_nil]; exact List.Perm.refl _)) ?_
                refine DO.pure tab (by repeat (first|exact Calm.ret|refine Calm.then ?_|refine Calm.block ?_)) (by kernel_rfl) [0, 1, 2, 3] (by kernel_rfl) rfl ?_
                (refine DO.splitP (d := 126) rfl (fun hg3 => ?_) (fun hg3 => ?_))
                refine DO.pure tab (by repeat (first|exact Calm.ret|refine Calm.then ?_|refine Calm.block ?_)) (by kernel_rfl) [4, 5, 6] (by kernel_rfl) rfl ?_
                refine DO.indexP (sz := 2) tab 7 j2 (by repeat (first|exact Calm.ret|refine Calm.then ?_|refine Calm.block ?_)) (by kernel_rfl) (by kernel_rfl) rfl rfl rfl rfl rfl rfl rfl rfl rfl (by omega) ?_
                refine DO.loadE (jj := 0) tab 8 0 rCh (gk_get (xs := ws) (k := j2) (by omega)) (by simp only [rCh]; omega) (fun _ => rfl) (by repeat (first|exact Calm.ret|refine Calm.then ?_|refine Calm.block ?_)) (by kernel_rfl) (by kernel_rfl) rfl rfl rfl rfl rfl rfl rfl ?_
                refine DO.pure tab (by repeat (first|exact Calm.ret|refine Calm.then ?_|refine Calm.block ?_)) (by kernel_rfl) [9, 10] (by kernel_rfl) rfl ?_
                refine DO.indexP (sz := 2) tab 11 a (by repeat (first|exact Calm.ret|refine Calm.then ?_|refine Calm.block ?_)) (by kernel_rfl) (by kernel_rfl) rfl rfl rfl rfl rfl rfl rfl rfl rfl (by omega) ?_
                refine DO.loadE (jj := 0) tab 12 0 rCh (gk_get (xs := ws) (k := a) (by omega)) (by simp only [rCh]; omega) (fun _ => rfl) (by repeat (first|exact Calm.ret|refine Calm.then ?_|refine Calm.block ?_)) (by kernel_rfl) (by kernel_rfl) rfl rfl rfl rfl rfl rfl rfl ?_
                refine DO.run 13 rfl rfl (by kernel_rfl) rfl (OT.call rfl rfl rfl rfl rfl rfl goes23 ((chcmp_law m _ (gk ws j2) (gk ws a) (hD.gk (by omega)) (hD.gk (by omega))).x ?_))
                rintro _ _ _ ⟨rfl, rfl, rfl⟩; refine ⟨Mem.le_refl _, _, List.Perm.refl _, ?_⟩
                refine DO.pure tab (by repeat (first|exact Calm.ret|refine Calm.then ?_|refine Calm.block ?_)) (by kernel_rfl) [14, 15, 16] (by kernel_rfl) rfl ?_
                (refine DO.nil (by kernel_rfl) ?_)
                rotate_left 1
                refine DO.pure tab (by repeat (first|exact Calm.ret|refine Calm.then ?_|refine Calm.block ?_)) (by kernel_rfl) [4, 5, 6, 7, 8, 9, 10, 11, 12, 13, 14, 15, 16] (by kernel_rfl) rfl ?_
                (refine DO.nil (by kernel_rfl) ?_)
                rotate_left 1
                · repeat (refine q6 ?_)
                  simp only [ch_dec]
                  cases hc2 : ltC (gk ws j2) (gk ws a) with
                  | false =>
                    repeat (first|refine q2 ?_|refine q3 ?_|refine q4 tab rfl rfl ?_|refine q6 ?_|refine q13 ?_|refine q16 rfl ?_)
                    refine TO.step rfl (OT.arith (r' := ((j2 - 1 : Nat) : Int)) rfl rfl rfl rfl rfl rfl (by omega) (by omega) ?_)
                    repeat (first|refine q4 tab rfl rfl ?_|refine q5 ?_|refine q6 ?_|refine q7 ?_)
                    exact ⟨j2 - 1, (by repeat (first|exact trivial|refine And.intro rfl ?_)), (by repeat (first|exact trivial|refine And.intro rfl ?_)), rfl, rfl, (by repeat (exact List.Sublist.refl _)), ⟨by omega, hP2.right (by omega) hc2⟩, by omega⟩
                  | true =>
                    repeat (first|refine q1 ?_|refine q3 ?_|refine q4 tab rfl rfl ?_|refine q5 ?_|refine q6 ?_|refine q10 ?_|refine q11 ?_|refine q14 ?_|refine q17 rfl ?_)
                    refine TC.condP rfl (fun hgt => ?_) (fun hgt => ?_)
                    · have hN := hP2.done (by omega) (by omega)
                      repeat (first|refine q1 ?_|refine q6 ?_|refine q10 ?_|refine q11 ?_|refine q12 rfl ?_|refine q14 ?_)
                      refine TC.draw [13, 14, 15] mixed 16 rfl [chR bd ws] L (by first | exact List.Perm.refl _ | (rw [List.append_nil]; exact List.Perm.refl _)) ?_
                      refine DO.pure tab (by repeat (first|exact Calm.ret|refine Calm.then ?_)) (by kernel_rfl) [0, 1, 2, 3, 4, 5] (by kernel_rfl) rfl ?_
                      refine DO.indexP (sz := 2) tab 6 a (by repeat (first|exact Calm.ret|refine Calm.then ?_)) (by kernel_rfl) (by kernel_rfl) rfl rfl rfl rfl rfl rfl rfl rfl rfl (by omega) ?_
                      refine DO.loadE (jj := 0) tab 7 0 rCh (gk_get (xs := ws) (k := a) (by omega)) (by simp only [rCh]; omega) (fun _ => rfl) (by repeat (first|exact Calm.ret|refine Calm.then ?_)) (by kernel_rfl) (by kernel_rfl) rfl rfl rfl rfl rfl rfl rfl ?_
                      refine DO.pure tab (by repeat (first|exact Calm.ret|refine Calm.then ?_)) (by kernel_rfl) [8, 9] (by kernel_rfl) rfl ?_
                      refine DO.indexP (sz := 2) tab 10 j2 (by repeat (first|exact Calm.ret|refine Calm.then ?_)) (by kernel_rfl) (by kernel_rfl) rfl rfl rfl rfl rfl rfl rfl rfl rfl (by omega) ?_
                      refine DO.loadE (jj := 0) tab 11 0 rCh (gk_get (xs := ws) (k := j2) (by omega)) (by simp only [rCh]; omega) (fun _ => rfl) (by repeat (first|exact Calm.ret|refine Calm.then ?_)) (by kernel_rfl) (by kernel_rfl) rfl rfl rfl rfl rfl rfl rfl ?_
                      refine DO.indexP (sz := 2) tab 12 j2 (by repeat (first|exact Calm.ret|refine Calm.then ?_)) (by kernel_rfl) (by kernel_rfl) rfl rfl rfl rfl rfl rfl rfl rfl rfl (by omega) ?_
                      refine DO.tail ?_
                      refine DOt.run 13 rfl rfl (by kernel_rfl) rfl ?_
                      refine OT.storeE (h2 := gk ws a) tab 0 rCh (gk_get (xs := ws) (k := j2) (by omega)) (j := 0) (by simp only [rCh]; omega) (fun _ => rfl) (Nat.le_refl _) rfl rfl rfl rfl rfl rfl rfl ?_
                      refine DOt.run 14 rfl rfl (by kernel_rfl) rfl ?_
                      refine OT.indexP (sz := 2) tab a rfl rfl rfl rfl rfl rfl rfl (by omega) ?_
                      refine DOt.run 15 rfl rfl (by kernel_rfl) rfl ?_
                      refine OT.storeE (h2 := gk ws j2) (h := gk (List.set ws j2 (gk ws a)) a) tab 0 rCh (k := a) (gk_get (by simp; omega)) (j := 0) (by simp only [rCh]; omega) (fun _ => rfl) (Nat.le_refl _) rfl rfl rfl rfl rfl rfl rfl ?_
                      refine DOt.nil (by kernel_rfl) ?_
                      rotate_left 1
                      repeat (first|refine q1 ?_|refine q3 ?_|refine q4 tab rfl rfl ?_|refine q5 ?_|refine q6 ?_|refine q15 ?_)
                      refine retQ_ret rfl (L' := chR bd (sw ws j2 a) :: L) (by repeat (exact List.Sublist.refl _)) ⟨rfl, sw ws j2 a, j2, _, rfl, hN.base hS0, rfl⟩
                    · have hpair : ltC (gk ws i) (gk ws a) = false ∧ ltC (gk ws j2) (gk ws a) = true := by
                        constructor
                        · first | exact hc1 | (exfalso; omega)
                        · first | exact hc2 | (exfalso; omega)
                      obtain ⟨hN, hlt⟩ := hP2.swap (by omega) (by omega) hpair.1 hpair.2
                      repeat (first|refine q1 ?_|refine q6 ?_|refine q13 ?_)
                      refine TC.draw [13, 14, 15] mixed 16 rfl [chR bd ws] L (by first | exact List.Perm.refl _ | (rw [List.append_nil]; exact List.Perm.refl _)) ?_
                      refine DO.pure tab (by repeat (first|exact Calm.ret|refine Calm.then ?_|refine Calm.block ?_)) (by kernel_rfl) [0, 1, 2, 3, 4, 5] (by kernel_rfl) rfl ?_
                      refine DO.indexP (sz := 2) tab 6 j2 (by repeat (first|exact Calm.ret|refine Calm.then ?_|refine Calm.block ?_)) (by kernel_rfl) (by kernel_rfl) rfl rfl rfl rfl rfl rfl rfl rfl rfl (by omega) ?_
                      refine DO.loadE (jj := 0) tab 7 0 rCh (gk_get (xs := ws) (k := j2) (by omega)) (by simp only [rCh]; omega) (fun _ => rfl) (by repeat (first|exact Calm.ret|refine Calm.then ?_|refine Calm.block ?_)) (by kernel_rfl) (by kernel_rfl) rfl rfl rfl rfl rfl rfl rfl ?_
                      refine DO.pure tab (by repeat (first|exact Calm.ret|refine Calm.then ?_|refine Calm.block ?_)) (by kernel_rfl) [8, 9] (by kernel_rfl) rfl ?_
                      refine DO.indexP (sz := 2) tab 10 i (by repeat (first|exact Calm.ret|refine Calm.then ?_|refine Calm.block ?_)) (by kernel_rfl) (by kernel_rfl) rfl rfl rfl rfl rfl rfl rfl rfl rfl (by omega) ?_
                      refine DO.loadE (jj := 0) tab 11 0 rCh (gk_get (xs := ws) (k := i) (by omega)) (by simp only [rCh]; omega) (fun _ => rfl) (by repeat (first|exact Calm.ret|refine Calm.then ?_|refine Calm.block ?_)) (by kernel_rfl) (by kernel_rfl) rfl rfl rfl rfl rfl rfl rfl ?_
                      refine DO.indexP (sz := 2) tab 12 i (by repeat (first|exact Calm.ret|refine Calm.then ?_|refine Calm.block ?_)) (by kernel_rfl) (by kernel_rfl) rfl rfl rfl rfl rfl rfl rfl rfl rfl (by omega) ?_
                      refine DO.tail ?_
                      refine DOt.run 13 rfl rfl (by kernel_rfl) rfl ?_
                      refine OT.storeE (h2 := gk ws j2) tab 0 rCh (gk_get (xs := ws) (k := i) (by omega)) (j := 0) (by simp only [rCh]; omega) (fun _ => rfl) (Nat.le_refl _) rfl rfl rfl rfl rfl rfl rfl ?_
                      refine DOt.run 14 rfl rfl (by kernel_rfl) rfl ?_
                      refine OT.indexP (sz := 2) tab j2 rfl rfl rfl rfl rfl rfl rfl (by omega) ?_
                      refine DOt.run 15 rfl rfl (by kernel_rfl) rfl ?_
                      refine OT.storeE (h2 := gk ws i) (h := gk (List.set ws i (gk ws j2)) j2) tab 0 rCh (k := j2) (gk_get (by simp; omega)) (j := 0) (by simp only [rCh]; omega) (fun _ => rfl) (Nat.le_refl _) rfl rfl rfl rfl rfl rfl rfl ?_
                      refine DOt.nil (by kernel_rfl) ?_
                      rotate_left 1
                      repeat (first|refine q1 ?_|refine q3 ?_|refine q4 tab rfl rfl ?_|refine q6 ?_)
                      refine TO.step rfl (OT.arith (r' := ((i + 1 : Nat) : Int)) rfl rfl rfl rfl rfl rfl rfl (by omega) ?_)
                      repeat (first|refine q3 ?_|refine q4 tab rfl rfl ?_|refine q5 ?_|refine q6 ?_)
                      refine TO.step rfl (OT.arith (r' := ((j2 - 1 : Nat) : Int)) rfl rfl rfl rfl rfl rfl (by omega) (by omega) ?_)
                      repeat (first|refine q4 tab rfl rfl ?_|refine q5 ?_|refine q6 ?_|refine q7 ?_)
                      exact ⟨(i + 1, j2 - 1, sw ws i j2), (by repeat (first|exact trivial|refine And.intro rfl ?_)), (by repeat (first|exact trivial|refine And.intro rfl ?_)), rfl, rfl, (by repeat (exact List.Sublist.refl _)), hN, by simp only; omega⟩
                · have hc2 : j2 < i := by omega
                  repeat (first|refine q1 ?_|refine q3 ?_|refine q4 tab rfl rfl ?_|refine q5 ?_|refine q6 ?_|refine q10 ?_|refine q11 ?_|refine q14 ?_|refine q17 rfl ?_)
                  refine TC.condP rfl (fun hgt => ?_) (fun hgt => ?_)
                  · have hN := hP2.done (by omega) (by omega)
                    repeat (first|refine q1 ?_|refine q6 ?_|refine q10 ?_|refine q11 ?_|refine q12 rfl ?_|refine q14 ?_)
                    refine TC.draw [13, 14, 15] mixed 16 rfl [chR bd ws] L (by first | exact List.Perm.refl _ | (rw [List.append_nil]; exact List.Perm.refl _)) ?_
                    refine DO.pure tab (by repeat (first|exact Calm.ret|refine Calm.then ?_)) (by kernel_rfl) [0, 1, 2, 3, 4, 5] (by kernel_rfl) rfl ?_
                    refine DO.indexP (sz := 2) tab 6 a (by repeat (first|exact Calm.ret|refine Calm.then ?_)) (by kernel_rfl) (by kernel_rfl) rfl rfl rfl rfl rfl rfl rfl rfl rfl (by omega) ?_
                    refine DO.loadE (jj := 0) tab 7 0 rCh (gk_get (xs := ws) (k := a) (by omega)) (by simp only [rCh]; omega) (fun _ => rfl) (by repeat (first|exact Calm.ret|refine Calm.then ?_)) (by kernel_rfl) (by kernel_rfl) rfl rfl rfl rfl rfl rfl rfl ?_
                    refine DO.pure tab (by repeat (first|exact Calm.ret|refine Calm.then ?_)) (by kernel_rfl) [8, 9] (by kernel_rfl) rfl ?_
                    refine DO.indexP (sz := 2) tab 10 j2 (by repeat (first|exact Calm.ret|refine Calm.then ?_)) (by kernel_rfl) (by kernel_rfl) rfl rfl rfl rfl rfl rfl rfl rfl rfl (by omega) ?_
                    refine DO.loadE (jj := 0) tab 11 0 rCh (gk_get (xs := ws) (k := j2) (by omega)) (by simp only [rCh]; omega) (fun _ => rfl) (by repeat (first|exact Calm.ret|refine Calm.then ?_)) (by kernel_rfl) (by kernel_rfl) rfl rfl rfl rfl rfl rfl rfl ?_
                    refine DO.indexP (sz := 2) tab 12 j2 (by repeat (first|exact Calm.ret|refine Calm.then ?_)) (by kernel_rfl) (by kernel_rfl) rfl rfl rfl rfl rfl rfl rfl rfl rfl (by omega) ?_
                    refine DO.tail ?_
                    refine DOt.run 13 rfl rfl (by kernel_rfl) rfl ?_
                    refine OT.storeE (h2 := gk ws a) tab 0 rCh (gk_get (xs := ws) (k := j2) (by omega)) (j := 0) (by simp only [rCh]; omega) (fun _ => rfl) (Nat.le_refl _) rfl rfl rfl rfl rfl rfl rfl ?_
                    refine DOt.run 14 rfl rfl (by kernel_rfl) rfl ?_
                    refine OT.indexP (sz := 2) tab a rfl rfl rfl rfl rfl rfl rfl (by omega) ?_
                    refine DOt.run 15 rfl rfl (by kernel_rfl) rfl ?_
                    refine OT.storeE (h2 := gk ws j2) (h := gk (List.set ws j2 (gk ws a)) a) tab 0 rCh (k := a) (gk_get (by simp; omega)) (j := 0) (by simp only [rCh]; omega) (fun _ => rfl) (Nat.le_refl _) rfl rfl rfl rfl rfl rfl rfl ?_
                    refine DOt.nil (by kernel_rfl) ?_
                    rotate_left 1
                    repeat (first|refine q1 ?_|refine q3 ?_|refine q4 tab rfl rfl ?_|refine q5 ?_|refine q6 ?_|refine q15 ?_)
                    refine retQ_ret rfl (L' := chR bd (sw ws j2 a) :: L) (by repeat (exact List.Sublist.refl _)) ⟨rfl, sw ws j2 a, j2, _, rfl, hN.base hS0, rfl⟩
                  · have hpair : ltC (gk ws i) (gk ws a) = false ∧ ltC (gk ws j2) (gk ws a) = true := by
                      constructor
                      · first | exact hc1 | (exfalso; omega)
                      · first | exact hc2 | (exfalso; omega)
                    obtain ⟨hN, hlt⟩ := hP2.swap (by omega) (by omega) hpair.1 hpair.2
                    repeat (first|refine q1 ?_|refine q6 ?_|refine q13 ?_)
                    refine TC.draw [13, 14, 15] mixed 16 rfl [chR bd ws] L (by first | exact List.Perm.refl _ | (rw [List.append_nil]; exact List.Perm.refl _)) ?_
                    refine DO.pure tab (by repeat (first|exact Calm.ret|refine Calm.then ?_|refine Calm.block ?_)) (by kernel_rfl) [0, 1, 2, 3, 4, 5] (by kernel_rfl) rfl ?_
                    refine DO.indexP (sz := 2) tab 6 j2 (by repeat (first|exact Calm.ret|refine Calm.then ?_|refine Calm.block ?_)) (by kernel_rfl) (by kernel_rfl) rfl rfl rfl rfl rfl rfl rfl rfl rfl (by omega) ?_
                    refine DO.loadE (jj := 0) tab 7 0 rCh (gk_get (xs := ws) (k := j2) (by omega)) (by simp only [rCh]; omega) (fun _ => rfl) (by repeat (first|exact Calm.ret|refine Calm.then ?_|refine Calm.block ?_)) (by kernel_rfl) (by kernel_rfl) rfl rfl rfl rfl rfl rfl rfl ?_
                    refine DO.pure tab (by repeat (first|exact Calm.ret|refine Calm.then ?_|refine Calm.block ?_)) (by kernel_rfl) [8, 9] (by kernel_rfl) rfl ?_
                    refine DO.indexP (sz := 2) tab 10 i (by repeat (first|exact Calm.ret|refine Calm.then ?_|refine Calm.block ?_)) (by kernel_rfl) (by kernel_rfl) rfl rfl rfl rfl rfl rfl rfl rfl rfl (by omega) ?_
                    refine DO.loadE (jj := 0) tab 11 0 rCh (gk_get (xs := ws) (k := i) (by omega)) (by simp only [rCh]; omega) (fun _ => rfl) (by repeat (first|exact Calm.ret|refine Calm.then ?_|refine Calm.block ?_)) (by kernel_rfl) (by kernel_rfl) rfl rfl rfl rfl rfl rfl rfl ?_
                    refine DO.indexP (sz := 2) tab 12 i (by repeat (first|exact Calm.ret|refine Calm.then ?_|refine Calm.block ?_)) (by kernel_rfl) (by kernel_rfl) rfl rfl rfl rfl rfl rfl rfl rfl rfl (by omega) ?_
                    refine DO.tail ?_
                    refine DOt.run 13 rfl rfl (by kernel_rfl) rfl ?_
                    refine OT.storeE (h2 := gk ws j2) tab 0 rCh (gk_get (xs := ws) (k := i) (by omega)) (j := 0) (by simp only [rCh]; omega) (fun _ => rfl) (Nat.le_refl _) rfl rfl rfl rfl rfl rfl rfl ?_
                    refine DOt.run 14 rfl rfl (by kernel_rfl) rfl ?_
                    refine OT.indexP (sz := 2) tab j2 rfl rfl rfl rfl rfl rfl rfl (by omega) ?_
                    refine DOt.run 15 rfl rfl (by kernel_rfl) rfl ?_
                    refine OT.storeE (h2 := gk ws i) (h := gk (List.set ws i (gk ws j2)) j2) tab 0 rCh (k := j2) (gk_get (by simp; omega)) (j := 0) (by simp only [rCh]; omega) (fun _ => rfl) (Nat.le_refl _) rfl rfl rfl rfl rfl rfl rfl ?_
                    refine DOt.nil (by kernel_rfl) ?_
                    rotate_left 1
                    repeat (first|refine q1 ?_|refine q3 ?_|refine q4 tab rfl rfl ?_|refine q6 ?_)
                    refine TO.step rfl (OT.arith (r' := ((i + 1 : Nat) : Int)) rfl rfl rfl rfl rfl rfl rfl (by omega) ?_)
                    repeat (first|refine q3 ?_|refine q4 tab rfl rfl ?_|refine q5 ?_|refine q6 ?_)
                    refine TO.step rfl (OT.arith (r' := ((j2 - 1 : Nat) : Int)) rfl rfl rfl rfl rfl rfl (by omega) (by omega) ?_)
                    repeat (first|refine q4 tab rfl rfl ?_|refine q5 ?_|refine q6 ?_|refine q7 ?_)
                    exact ⟨(i + 1, j2 - 1, sw ws i j2), (by repeat (first|exact trivial|refine And.intro rfl ?_)), (by repeat (first|exact trivial|refine And.intro rfl ?_)), rfl, rfl, (by repeat (exact List.Sublist.refl _)), hN, by simp only; omega⟩
            · have hc1 : j < i := by omega
              repeat (first|refine q1 ?_|refine q2 ?_|refine q6 ?_|refine q10 ?_|refine q11 ?_|refine q14 ?_|refine q17 rfl ?_)
              refine TC.loopK (ι := Nat) [0, 1, 4, 12] rfl (fun j => [(13, .int .i64 (j : Int))]) (fun _ => m) (fun _ => chR bd ws :: L) (fun j2 => j2 ≤ j ∧ PaI ltC (sw xs a p) a b i j2 ws) (fun j => j) j (by repeat (first|exact trivial|refine And.intro rfl ?_)) rfl (by repeat (exact List.Sublist.refl _)) ⟨Nat.le_refl _, hP⟩ ?_
              rintro j2 ⟨hj2, hP2⟩
              have hr2 := hP2.rng
              repeat (refine q1 ?_)
              refine TC.draw [] mixed 17 rfl [chR bd ws] L (by first | exact List.Perm.refl _ | (rw [List.append_nil]; exact List.Perm.refl _)) ?_
              refine DO.pure tab (by repeat (first|exact Calm.ret|refine Calm.then ?_|refine Calm.block ?_)) (by kernel_rfl) [0, 1, 2, 3] (by kernel_rfl) rfl ?_
              (refine DO.splitP (d := 126) rfl (fun hg3 => ?_) (fun hg3 => ?_))
              refine DO.pure tab (by repeat (first|exact Calm.ret|refine Calm.then ?_|refine Calm.block ?_)) (by kernel_rfl) [4, 5, 6] (by kernel_rfl) rfl ?_
              refine DO.indexP (sz := 2) tab 7 j2 (by repeat (first|exact Calm.ret|refine Calm.then ?_|refine Calm.block ?_)) (by kernel_rfl) (by kernel_rfl) rfl rfl rfl rfl rfl rfl rfl rfl rfl (by omega) ?_
              refine DO.loadE (jj := 0) tab 8 0 rCh (gk_get (xs := ws) (k := j2) (by omega)) (by simp only [rCh]; omega) (fun _ => rfl) (by repeat (first|exact Calm.ret|refine Calm.then ?_|refine Calm.block ?_)) (by kernel_rfl) (by kernel_rfl) rfl rfl rfl rfl rfl rfl rfl ?_
              refine DO.pure tab (by repeat (first|exact Calm.ret|refine Calm.then ?_|refine Calm.block ?_)) (by kernel_rfl) [9, 10] (by kernel_rfl) rfl ?_
              refine DO.indexP (sz := 2) tab 11 a (by repeat (first|exact Calm.ret|refine Calm.then ?_|refine Calm.block ?_)) (by kernel_rfl) (by kernel_rfl) rfl rfl rfl rfl rfl rfl rfl rfl rfl (by omega) ?_
              refine DO.loadE (jj := 0) tab 12 0 rCh (gk_get (xs := ws) (k := a) (by omega)) (by simp only [rCh]; omega) (fun _ => rfl) (by repeat (first|exact Calm.ret|refine Calm.then ?_|refine Calm.block ?_)) (by kernel_rfl) (by kernel_rfl) rfl rfl rfl rfl rfl rfl rfl ?_
              refine DO.run 13 rfl rfl (by kernel_rfl) rfl (OT.call rfl rfl rfl rfl rfl rfl goes23 ((chcmp_law m _ (gk ws j2) (gk ws a) (hD.gk (by omega)) (hD.gk (by omega))).x ?_))
              rintro _ _ _ ⟨rfl, rfl, rfl⟩; refine ⟨Mem.le_refl _, _, List.Perm.refl _, ?_⟩
              refine DO.pure tab (by repeat (first|exact Calm.ret|refine Calm.then ?_|refine Calm.block ?_)) (by kernel_rfl) [14, 15, 16] (by kernel_rfl) rfl ?_
              (refine DO.nil (by kernel_rfl) ?_)
              rotate_left 1
              refine DO.pure tab (by repeat (first|exact Calm.ret|refine Calm.then ?_|refine Calm.block ?_)) (by kernel_rfl) [4, 5, 6, 7, 8, 9, 10, 11, 12, 13, 14, 15, 16] (by kernel_rfl) rfl ?_
              (refine DO.nil (by kernel_rfl) ?_)
              rotate_left 1
              · repeat (refine q6 ?_)
                simp only [ch_dec]
                cases hc2 : ltC (gk ws j2) (gk ws a) with
                | false =>
                  repeat (first|refine q2 ?_|refine q3 ?_|refine q4 tab rfl rfl ?_|refine q6 ?_|refine q13 ?_|refine q16 rfl ?_)
                  refine TO.step rfl (OT.arith (r' := ((j2 - 1 : Nat) : Int)) rfl rfl rfl rfl rfl rfl (by omega) (by omega) ?_)
                  repeat (first|refine q4 tab rfl rfl ?_|refine q5 ?_|refine q6 ?_|refine q7 ?_)
                  exact ⟨j2 - 1, (by repeat (first|exact trivial|refine And.intro rfl ?_)), (by repeat (first|exact trivial|refine And.intro rfl ?_)), rfl, rfl, (by repeat (exact List.Sublist.refl _)), ⟨by omega, hP2.right (by omega) hc2⟩, by omega⟩
                | true =>
                  repeat (first|refine q1 ?_|refine q3 ?_|refine q4 tab rfl rfl ?_|refine q5 ?_|refine q6 ?_|refine q10 ?_|refine q11 ?_|refine q14 ?_|refine q17 rfl ?_)
                  refine TC.condP rfl (fun hgt => ?_) (fun hgt => ?_)
                  · have hN := hP2.done (by omega) (by omega)
                    repeat (first|refine q1 ?_|refine q6 ?_|refine q10 ?_|refine q11 ?_|refine q12 rfl ?_|refine q14 ?_)
                    refine TC.draw [13, 14, 15] mixed 16 rfl [chR bd ws] L (by first | exact List.Perm.refl _ | (rw [List.append_nil]; exact List.Perm.refl _)) ?_
                    refine DO.pure tab (by repeat (first|exact Calm.ret|refine Calm.then ?_)) (by kernel_rfl) [0, 1, 2, 3, 4, 5] (by kernel_rfl) rfl ?_
                    refine DO.indexP (sz := 2) tab 6 a (by repeat (first|exact Calm.ret|refine Calm.then ?_)) (by kernel_rfl) (by kernel_rfl) rfl rfl rfl rfl rfl rfl rfl rfl rfl (by omega) ?_
                    refine DO.loadE (jj := 0) tab 7 0 rCh (gk_get (xs := ws) (k := a) (by omega)) (by simp only [rCh]; omega) (fun _ => rfl) (by repeat (first|exact Calm.ret|refine Calm.then ?_)) (by kernel_rfl) (by kernel_rfl) rfl rfl rfl rfl rfl rfl rfl ?_
                    refine DO.pure tab (by repeat (first|exact Calm.ret|refine Calm.then ?_)) (by kernel_rfl) [8, 9] (by kernel_rfl) rfl ?_
                    refine DO.indexP (sz := 2) tab 10 j2 (by repeat (first|exact Calm.ret|refine Calm.then ?_)) (by kernel_rfl) (by kernel_rfl) rfl rfl rfl rfl rfl rfl rfl rfl rfl (by omega) ?_
                    refine DO.loadE (jj := 0) tab 11 0 rCh (gk_get (xs := ws) (k := j2) (by omega)) (by simp only [rCh]; omega) (fun _ => rfl) (by repeat (first|exact Calm.ret|refine Calm.then ?_)) (by kernel_rfl) (by kernel_rfl) rfl rfl rfl rfl rfl rfl rfl ?_
                    refine DO.indexP (sz := 2) tab 12 j2 (by repeat (first|exact Calm.ret|refine Calm.then ?_)) (by kernel_rfl) (by kernel_rfl) rfl rfl rfl rfl rfl rfl rfl rfl rfl (by omega) ?_
                    refine DO.tail ?_
                    refine DOt.run 13 rfl rfl (by kernel_rfl) rfl ?_
                    refine OT.storeE (h2 := gk ws a) tab 0 rCh (gk_get (xs := ws) (k := j2) (by omega)) (j := 0) (by simp only [rCh]; omega) (fun _ => rfl) (Nat.le_refl _) rfl rfl rfl rfl rfl rfl rfl ?_
                    refine DOt.run 14 rfl rfl (by kernel_rfl) rfl ?_
                    refine OT.indexP (sz := 2) tab a rfl rfl rfl rfl rfl rfl rfl (by omega) ?_
                    refine DOt.run 15 rfl rfl (by kernel_rfl) rfl ?_
                    refine OT.storeE (h2 := gk ws j2) (h := gk (List.set ws j2 (gk ws a)) a) tab 0 rCh (k := a) (gk_get (by simp; omega)) (j := 0) (by simp only [rCh]; omega) (fun _ => rfl) (Nat.le_refl _) rfl rfl rfl rfl rfl rfl rfl ?_
                    refine DOt.nil (by kernel_rfl) ?_
                    rotate_left 1
                    repeat (first|refine q1 ?_|refine q3 ?_|refine q4 tab rfl rfl ?_|refine q5 ?_|refine q6 ?_|refine q15 ?_)
                    refine retQ_ret rfl (L' := chR bd (sw ws j2 a) :: L) (by repeat (exact List.Sublist.refl _)) ⟨rfl, sw ws j2 a, j2, _, rfl, hN.base hS0, rfl⟩
                  · have hpair : ltC (gk ws i) (gk ws a) = false ∧ ltC (gk ws j2) (gk ws a) = true := by
                      constructor
                      · first | exact hc1 | (exfalso; omega)
                      · first | exact hc2 | (exfalso; omega)
                    obtain ⟨hN, hlt⟩ := hP2.swap (by omega) (by omega) hpair.1 hpair.2
                    repeat (first|refine q1 ?_|refine q6 ?_|refine q13 ?_)
                    refine TC.draw [13, 14, 15] mixed 16 rfl [chR bd ws] L (by first | exact List.Perm.refl _ | (rw [List.append_nil]; exact List.Perm.refl _)) ?_
                    refine DO.pure tab (by repeat (first|exact Calm.ret|refine Calm.then ?_|refine Calm.block ?_)) (by kernel_rfl) [0, 1, 2, 3, 4, 5] (by kernel_rfl) rfl ?_
                    refine DO.indexP (sz := 2) tab 6 j2 (by repeat (first|exact Calm.ret|refine Calm.then ?_|refine Calm.block ?_)) (by kernel_rfl) (by kernel_rfl) rfl rfl rfl rfl rfl rfl rfl rfl rfl (by omega) ?_
                    refine DO.loadE (jj := 0) tab 7 0 rCh (gk_get (xs := ws) (k := j2) (by omega)) (by simp only [rCh]; omega) (fun _ => rfl) (by repeat (first|exact Calm.ret|refine Calm.then ?_|refine Calm.block ?_)) (by kernel_rfl) (by kernel_rfl) rfl rfl rfl rfl rfl rfl rfl ?_
                    refine DO.pure tab (by repeat (first|exact Calm.ret|refine Calm.then ?_|refine Calm.block ?_)) (by kernel_rfl) [8, 9] (by kernel_rfl) rfl ?_
                    refine DO.indexP (sz := 2) tab 10 i (by repeat (first|exact Calm.ret|refine Calm.then ?_|refine Calm.block ?_)) (by kernel_rfl) (by kernel_rfl) rfl rfl rfl rfl rfl rfl rfl rfl rfl (by omega) ?_
                    refine DO.loadE (jj := 0) tab 11 0 rCh (gk_get (xs := ws) (k := i) (by omega)) (by simp only [rCh]; omega) (fun _ => rfl) (by repeat (first|exact Calm.ret|refine Calm.then ?_|refine Calm.block ?_)) (by kernel_rfl) (by kernel_rfl) rfl rfl rfl rfl rfl rfl rfl ?_
                    refine DO.indexP (sz := 2) tab 12 i (by repeat (first|exact Calm.ret|refine Calm.then ?_|refine Calm.block ?_)) (by kernel_rfl) (by kernel_rfl) rfl rfl rfl rfl rfl rfl rfl rfl rfl (by omega) ?_
                    refine DO.tail ?_
                    refine DOt.run 13 rfl rfl (by kernel_rfl) rfl ?_
                    refine OT.storeE (h2 := gk ws j2) tab 0 rCh (gk_get (xs := ws) (k := i) (by omega)) (j := 0) (by simp only [rCh]; omega) (fun _ => rfl) (Nat.le_refl _) rfl rfl rfl rfl rfl rfl rfl ?_
                    refine DOt.run 14 rfl rfl (by kernel_rfl) rfl ?_
                    refine OT.indexP (sz := 2) tab j2 rfl rfl rfl rfl rfl rfl rfl (by omega) ?_
                    refine DOt.run 15 rfl rfl (by kernel_rfl) rfl ?_
                    refine OT.storeE (h2 := gk ws i) (h := gk (List.set ws i (gk ws j2)) j2) tab 0 rCh (k := j2) (gk_get (by simp; omega)) (j := 0) (by simp only [rCh]; omega) (fun _ => rfl) (Nat.le_refl _) rfl rfl rfl rfl rfl rfl rfl ?_
                    refine DOt.nil (by kernel_rfl) ?_
                    rotate_left 1
                    repeat (first|refine q1 ?_|refine q3 ?_|refine q4 tab rfl rfl ?_|refine q6 ?_)
                    refine TO.step rfl (OT.arith (r' := ((i + 1 : Nat) : Int)) rfl rfl rfl rfl rfl rfl rfl (by omega) ?_)
                    repeat (first|refine q3 ?_|refine q4 tab rfl rfl ?_|refine q5 ?_|refine q6 ?_)
                    refine TO.step rfl (OT.arith (r' := ((j2 - 1 : Nat) : Int)) rfl rfl rfl rfl rfl rfl (by omega) (by omega) ?_)
                    repeat (first|refine q4 tab rfl rfl ?_|refine q5 ?_|refine q6 ?_|refine q7 ?_)
                    exact ⟨(i + 1, j2 - 1, sw ws i j2), (by repeat (first|exact trivial|refine And.intro rfl ?_)), (by repeat (first|exact trivial|refine And.intro rfl ?_)), rfl, rfl, (by repeat (exact List.Sublist.refl _)), hN, by simp only; omega⟩
              · have hc2 : j2 < i := by omega
                repeat (first|refine q1 ?_|refine q3 ?_|refine q4 tab rfl rfl ?_|refine q5 ?_|refine q6 ?_|refine q10 ?_|refine q11 ?_|refine q14 ?_|refine q17 rfl ?_)
                refine TC.condP rfl (fun hgt => ?_) (fun hgt => ?_)
                · have hN := hP2.done (by omega) (by omega)
                  repeat (first|refine q1 ?_|refine q6 ?_|refine q10 ?_|refine q11 ?_|refine q12 rfl ?_|refine q14 ?_)
                  refine TC.draw [13, 14, 15] mixed 16 rfl [chR bd ws] L (by first | exact List.Perm.refl _ | (rw [List.append_nil]; exact List.Perm.refl _)) ?_
                  refine DO.pure tab (by repeat (first|exact Calm.ret|refine Calm.then ?_)) (by kernel_rfl) [0, 1, 2, 3, 4, 5] (by kernel_rfl) rfl ?_
                  refine DO.indexP (sz := 2) tab 6 a (by repeat (first|exact Calm.ret|refine Calm.then ?_)) (by kernel_rfl) (by kernel_rfl) rfl rfl rfl rfl rfl rfl rfl rfl rfl (by omega) ?_
                  refine DO.loadE (jj := 0) tab 7 0 rCh (gk_get (xs := ws) (k := a) (by omega)) (by simp only [rCh]; omega) (fun _ => rfl) (by repeat (first|exact Calm.ret|refine Calm.then ?_)) (by kernel_rfl) (by kernel_rfl) rfl rfl rfl rfl rfl rfl rfl ?_
                  refine DO.pure tab (by repeat (first|exact Calm.ret|refine Calm.then ?_)) (by kernel_rfl) [8, 9] (by kernel_rfl) rfl ?_
                  refine DO.indexP (sz := 2) tab 10 j2 (by repeat (first|exact Calm.ret|refine Calm.then ?_)) (by kernel_rfl) (by kernel_rfl) rfl rfl rfl rfl rfl rfl rfl rfl rfl (by omega) ?_
                  refine DO.loadE (jj := 0) tab 11 0 rCh (gk_get (xs := ws) (k := j2) (by omega)) (by simp only [rCh]; omega) (fun _ => rfl) (by repeat (first|exact Calm.ret|refine Calm.then ?_)) (by kernel_rfl) (by kernel_rfl) rfl rfl rfl rfl rfl rfl rfl ?_
                  refine DO.indexP (sz := 2) tab 12 j2 (by repeat (first|exact Calm.ret|refine Calm.then ?_)) (by kernel_rfl) (by kernel_rfl) rfl rfl rfl rfl rfl rfl rfl rfl rfl (by omega) ?_
                  refine DO.tail ?_
                  refine DOt.run 13 rfl rfl (by kernel_rfl) rfl ?_
                  refine OT.storeE (h2 := gk ws a) tab 0 rCh (gk_get (xs := ws) (k := j2) (by omega)) (j := 0) (by simp only [rCh]; omega) (fun _ => rfl) (Nat.le_refl _) rfl rfl rfl rfl rfl rfl rfl ?_
                  refine DOt.run 14 rfl rfl (by kernel_rfl) rfl ?_
                  refine OT.indexP (sz := 2) tab a rfl rfl rfl rfl rfl rfl rfl (by omega) ?_
                  refine DOt.run 15 rfl rfl (by kernel_rfl) rfl ?_
                  refine OT.storeE (h2 := gk ws j2) (h := gk (List.set ws j2 (gk ws a)) a) tab 0 rCh (k := a) (gk_get (by simp; omega)) (j := 0) (by simp only [rCh]; omega) (fun _ => rfl) (Nat.le_refl _) rfl rfl rfl rfl rfl rfl rfl ?_
                  refine DOt.nil (by kernel_rfl) ?_
                  rotate_left 1
                  repeat (first|refine q1 ?_|refine q3 ?_|refine q4 tab rfl rfl ?_|refine q5 ?_|refine q6 ?_|refine q15 ?_)
                  refine retQ_ret rfl (L' := chR bd (sw ws j2 a) :: L) (by repeat (exact List.Sublist.refl _)) ⟨rfl, sw ws j2 a, j2, _, rfl, hN.base hS0, rfl⟩
                · have hpair : ltC (gk ws i) (gk ws a) = false ∧ ltC (gk ws j2) (gk ws a) = true := by
                    constructor
                    · first | exact hc1 | (exfalso; omega)
                    · first | exact hc2 | (exfalso; omega)
                  obtain ⟨hN, hlt⟩ := hP2.swap (by omega) (by omega) hpair.1 hpair.2
                  repeat (first|refine q1 ?_|refine q6 ?_|refine q13 ?_)
                  refine TC.draw [13, 14, 15] mixed 16 rfl [chR bd ws] L (by first | exact List.Perm.refl _ | (rw [List.append_nil]; exact List.Perm.refl _)) ?_
                  refine DO.pure tab (by repeat (first|exact Calm.ret|refine Calm.then ?_|refine Calm.block ?_)) (by kernel_rfl) [0, 1, 2, 3, 4, 5] (by kernel_rfl) rfl ?_
                  refine DO.indexP (sz := 2) tab 6 j2 (by repeat (first|exact Calm.ret|refine Calm.then ?_|refine Calm.block ?_)) (by kernel_rfl) (by kernel_rfl) rfl rfl rfl rfl rfl rfl rfl rfl rfl (by omega) ?_
                  refine DO.loadE (jj := 0) tab 7 0 rCh (gk_get (xs := ws) (k := j2) (by omega)) (by simp only [rCh]; omega) (fun _ => rfl) (by repeat (first|exact Calm.ret|refine Calm.then ?_|refine Calm.block ?_)) (by kernel_rfl) (by kernel_rfl) rfl rfl rfl rfl rfl rfl rfl ?_
                  refine DO.pure tab (by repeat (first|exact Calm.ret|refine Calm.then ?_|refine Calm.block ?_)) (by kernel_rfl) [8, 9] (by kernel_rfl) rfl ?_
                  refine DO.indexP (sz := 2) tab 10 i (by repeat (first|exact Calm.ret|refine Calm.then ?_|refine Calm.block ?_)) (by kernel_rfl) (by kernel_rfl) rfl rfl rfl rfl rfl rfl rfl rfl rfl (by omega) ?_
                  refine DO.loadE (jj := 0) tab 11 0 rCh (gk_get (xs := ws) (k := i) (by omega)) (by simp only [rCh]; omega) (fun _ => rfl) (by repeat (first|exact Calm.ret|refine Calm.then ?_|refine Calm.block ?_)) (by kernel_rfl) (by kernel_rfl) rfl rfl rfl rfl rfl rfl rfl ?_
                  refine DO.indexP (sz := 2) tab 12 i (by repeat (first|exact Calm.ret|refine Calm.then ?_|refine Calm.block ?_)) (by kernel_rfl) (by kernel_rfl) rfl rfl rfl rfl rfl rfl rfl rfl rfl (by omega) ?_
                  refine DO.tail ?_
                  refine DOt.run 13 rfl rfl (by kernel_rfl) rfl ?_
                  refine OT.storeE (h2 := gk ws j2) tab 0 rCh (gk_get (xs := ws) (k := i) (by omega)) (j := 0) (by simp only [rCh]; omega) (fun _ => rfl) (Nat.le_refl _) rfl rfl rfl rfl rfl rfl rfl ?_
                  refine DOt.run 14 rfl rfl (by kernel_rfl) rfl ?_
                  refine OT.indexP (sz := 2) tab j2 rfl rfl rfl rfl rfl rfl rfl (by omega) ?_
                  refine DOt.run 15 rfl rfl (by kernel_rfl) rfl ?_
                  refine OT.storeE (h2 := gk ws i) (h := gk (List.set ws i (gk ws j2)) j2) tab 0 rCh (k := j2) (gk_get (by simp; omega)) (j := 0) (by simp only [rCh]; omega) (fun _ => rfl) (Nat.le_refl _) rfl rfl rfl rfl rfl rfl rfl ?_
                  refine DOt.nil (by kernel_rfl) ?_
                  rotate_left 1
                  repeat (first|refine q1 ?_|refine q3 ?_|refine q4 tab rfl rfl ?_|refine q6 ?_)
                  refine TO.step rfl (OT.arith (r' := ((i + 1 : Nat) : Int)) rfl rfl rfl rfl rfl rfl rfl (by omega) ?_)
                  repeat (first|refine q3 ?_|refine q4 tab rfl rfl ?_|refine q5 ?_|refine q6 ?_)
                  refine TO.step rfl (OT.arith (r' := ((j2 - 1 : Nat) : Int)) rfl rfl rfl rfl rfl rfl (by omega) (by omega) ?_)
                  repeat (first|refine q4 tab rfl rfl ?_|refine q5 ?_|refine q6 ?_|refine q7 ?_)
                  exact ⟨(i + 1, j2 - 1, sw ws i j2), (by repeat (first|exact trivial|refine And.intro rfl ?_)), (by repeat (first|exact trivial|refine And.intro rfl ?_)), rfl, rfl, (by repeat (exact List.Sublist.refl _)), hN, by simp only; omega⟩
      · have hc2 : j2 < i := by omega
        repeat (first|refine q1 ?_|refine q3 ?_|refine q4 tab rfl rfl ?_|refine q5 ?_|refine q6 ?_|refine q10 ?_|refine q11 ?_|refine q14 ?_|refine q17 rfl ?_)
        refine TC.condP rfl (fun hgt => ?_) (fun hgt => ?_)
        · have hN := hP2.done (by omega) (by omega)
          repeat (refine q1 ?_)
          refine TC.draw [13, 14, 15] mixed 16 rfl [chR bd zs] L (by first | exact List.Perm.refl _ | (rw [List.append_nil]; exact List.Perm.refl _)) ?_
          refine DO.pure tab (by repeat (first|exact Calm.ret|refine Calm.then ?_)) (by kernel_rfl) [0, 1, 2, 3, 4, 5] (by kernel_rfl) rfl ?_
          refine DO.indexP (sz := 2) tab 6 a (by repeat (first|exact Calm.ret|refine Calm.then ?_)) (by kernel_rfl) (by kernel_rfl) rfl rfl rfl rfl rfl rfl rfl rfl rfl (by omega) ?_
          refine DO.loadE (jj := 0) tab 7 0 rCh (gk_get (xs := zs) (k := a) (by omega)) (by simp only [rCh]; omega) (fun _ => rfl) (by repeat (first|exact Calm.ret|refine Calm.then ?_)) (by kernel_rfl) (by kernel_rfl) rfl rfl rfl rfl rfl rfl rfl ?_
          refine DO.pure tab (by repeat (first|exact Calm.ret|refine Calm.then ?_)) (by kernel_rfl) [8, 9] (by kernel_rfl) rfl ?_
          refine DO.indexP (sz := 2) tab 10 j2 (by repeat (first|exact Calm.ret|refine Calm.then ?_)) (by kernel_rfl) (by kernel_rfl) rfl rfl rfl rfl rfl rfl rfl rfl rfl (by omega) ?_
          refine DO.loadE (jj := 0) tab 11 0 rCh (gk_get (xs := zs) (k := j2) (by omega)) (by simp only [rCh]; omega) (fun _ => rfl) (by repeat (first|exact Calm.ret|refine Calm.then ?_)) (by kernel_rfl) (by kernel_rfl) rfl rfl rfl rfl rfl rfl rfl ?_
          refine DO.indexP (sz := 2) tab 12 j2 (by repeat (first|exact Calm.ret|refine Calm.then ?_)) (by kernel_rfl) (by kernel_rfl) rfl rfl rfl rfl rfl rfl rfl rfl rfl (by omega) ?_
          refine DO.tail ?_
          refine DOt.run 13 rfl rfl (by kernel_rfl) rfl ?_
          refine OT.storeE (h2 := gk zs a) tab 0 rCh (gk_get (xs := zs) (k := j2) (by omega)) (j := 0) (by simp only [rCh]; omega) (fun _ => rfl) (Nat.le_refl _) rfl rfl rfl rfl rfl rfl rfl ?_
          refine DOt.run 14 rfl rfl (by kernel_rfl) rfl ?_
          refine OT.indexP (sz := 2) tab a rfl rfl rfl rfl rfl rfl rfl (by omega) ?_
          refine DOt.run 15 rfl rfl (by kernel_rfl) rfl ?_
          refine OT.storeE (h2 := gk zs j2) (h := gk (List.set zs j2 (gk zs a)) a) tab 0 rCh (k := a) (gk_get (by simp; omega)) (j := 0) (by simp only [rCh]; omega) (fun _ => rfl) (Nat.le_refl _) rfl rfl rfl rfl rfl rfl rfl ?_
          refine DOt.nil (by kernel_rfl) ?_
          rotate_left 1
          repeat (first|refine q1 ?_|refine q3 ?_|refine q4 tab rfl rfl ?_|refine q5 ?_|refine q6 ?_|refine q8 ?_|refine q15 ?_)
          refine retQ_ret rfl (L' := chR bd (sw zs j2 a) :: L) (by repeat (exact List.Sublist.refl _)) ⟨rfl, sw zs j2 a, j2, _, rfl, hN.base hS0, rfl⟩
        · have hpair : ltC (gk zs i) (gk zs a) = false ∧ ltC (gk zs j2) (gk zs a) = true := by
            constructor
            · first | exact hc1 | (exfalso; omega)
            · first | exact hc2 | (exfalso; omega)
          obtain ⟨hN, hlt⟩ := hP2.swap (by omega) (by omega) hpair.1 hpair.2
          repeat (first|refine q1 ?_|refine q6 ?_|refine q13 ?_)
          refine TC.draw [13, 14, 15] mixed 16 rfl [chR bd zs] L (by first | exact List.Perm.refl _ | (rw [List.append_nil]; exact List.Perm.refl _)) ?_
          refine DO.pure tab (by repeat (first|exact Calm.ret|refine Calm.then ?_)) (by kernel_rfl) [0, 1, 2, 3, 4, 5] (by kernel_rfl) rfl ?_
          refine DO.indexP (sz := 2) tab 6 j2 (by repeat (first|exact Calm.ret|refine Calm.then ?_)) (by kernel_rfl) (by kernel_rfl) rfl rfl rfl rfl rfl rfl rfl rfl rfl (by omega) ?_
          refine DO.loadE (jj := 0) tab 7 0 rCh (gk_get (xs := zs) (k := j2) (by omega)) (by simp only [rCh]; omega) (fun _ => rfl) (by repeat (first|exact Calm.ret|refine Calm.then ?_)) (by kernel_rfl) (by kernel_rfl) rfl rfl rfl rfl rfl rfl rfl ?_
          refine DO.pure tab (by repeat (first|exact Calm.ret|refine Calm.then ?_)) (by kernel_rfl) [8, 9] (by kernel_rfl) rfl ?_
          refine DO.indexP (sz := 2) tab 10 i (by repeat (first|exact Calm.ret|refine Calm.then ?_)) (by kernel_rfl) (by kernel_rfl) rfl rfl rfl rfl rfl rfl rfl rfl rfl (by omega) ?_
          refine DO.loadE (jj := 0) tab 11 0 rCh (gk_get (xs := zs) (k := i) (by omega)) (by simp only [rCh]; omega) (fun _ => rfl) (by repeat (first|exact Calm.ret|refine Calm.then ?_)) (by kernel_rfl) (by kernel_rfl) rfl rfl rfl rfl rfl rfl rfl ?_
          refine DO.indexP (sz := 2) tab 12 i (by repeat (first|exact Calm.ret|refine Calm.then ?_)) (by kernel_rfl) (by kernel_rfl) rfl rfl rfl rfl rfl rfl rfl rfl rfl (by omega) ?_
          refine DO.tail ?_
          refine DOt.run 13 rfl rfl (by kernel_rfl) rfl ?_
          refine OT.storeE (h2 := gk zs j2) tab 0 rCh (gk_get (xs := zs) (k := i) (by omega)) (j := 0) (by simp only [rCh]; omega) (fun _ => rfl) (Nat.le_refl _) rfl rfl rfl rfl rfl rfl rfl ?_
          refine DOt.run 14 rfl rfl (by kernel_rfl) rfl ?_
          refine OT.indexP (sz := 2) tab j2 rfl rfl rfl rfl rfl rfl rfl (by omega) ?_
          refine DOt.run 15 rfl rfl (by kernel_rfl) rfl ?_
          refine OT.storeE (h2 := gk zs i) (h := gk (List.set zs i (gk zs j2)) j2) tab 0 rCh (k := j2) (gk_get (by simp; omega)) (j := 0) (by simp only [rCh]; omega) (fun _ => rfl) (Nat.le_refl _) rfl rfl rfl rfl rfl rfl rfl ?_
          refine DOt.nil (by kernel_rfl) ?_
          rotate_left 1
          repeat (first|refine q1 ?_|refine q3 ?_|refine q4 tab rfl rfl ?_|refine q6 ?_)
          refine TO.step rfl (OT.arith (r' := ((i + 1 : Nat) : Int)) rfl rfl rfl rfl rfl rfl rfl (by omega) ?_)
          repeat (first|refine q1 ?_|refine q3 ?_|refine q4 tab rfl rfl ?_|refine q5 ?_|refine q6 ?_)
          refine TO.step rfl (OT.arith (r' := ((j2 - 1 : Nat) : Int)) rfl rfl rfl rfl rfl rfl (by omega) (by omega) ?_)
          repeat (first|refine q1 ?_|refine q2 ?_|refine q4 tab rfl rfl ?_|refine q5 ?_|refine q6 ?_)
          refine TC.loopK (ι := Nat × Nat × List Ch) [0, 1, 4] rfl (fun x => [(12, .int .i64 (x.1 : Int)), (13, .int .i64 (x.2.1 : Int))]) (fun _ => m) (fun x => chR bd x.2.2 :: L) (fun x => PaI ltC (sw xs a p) a b x.1 x.2.1 x.2.2) (fun x => b + 1 + x.2.1 - x.1) (i + 1, j2 - 1, sw zs i j2) (by repeat (first|exact trivial|refine And.intro rfl ?_)) rfl (by repeat (exact List.Sublist.refl _)) hN ?_
          clear hN hpair hP hP2 hc1 hc2
          rintro ⟨i, j, ws⟩ hP
          simp only at hP ⊢
          have hwl := hP.seg.len
          have hD : DomC ws := hDs.perm hP.seg.perm
          repeat (first|refine q1 ?_|refine q2 ?_)
          refine TC.loopK (ι := Nat) [0, 1, 4, 13] rfl (fun i => [(12, .int .i64 (i : Int))]) (fun _ => m) (fun _ => chR bd ws :: L) (fun k => i ≤ k ∧ PaI ltC (sw xs a p) a b k j ws) (fun k => b + 1 - k) i (by repeat (first|exact trivial|refine And.intro rfl ?_)) rfl (by repeat (exact List.Sublist.refl _)) ⟨Nat.le_refl _, hP⟩ ?_
          clear hP
          obtain ⟨i0, hi0⟩ : ∃ i0, i0 = i := ⟨_, rfl⟩
          rw [← hi0]
          clear hi0
          rintro i ⟨hi0, hP⟩
          have hr := hP.rng
          repeat (refine q1 ?_)
          refine TC.draw [] mixed 16 rfl [chR bd ws] L (by first | exact List.Perm.refl _ | (rw [List.append_nil]; exact List.Perm.refl _)) ?_
          refine DO.pure tab (by repeat (first|exact Calm.ret|refine Calm.then ?_|refine Calm.block ?_)) (by kernel_rfl) [0, 1, 2, 3] (by kernel_rfl) rfl ?_
          (refine DO.splitP (d := 108) rfl (fun hg3 => ?_) (fun hg3 => ?_))
          refine DO.pure tab (by repeat (first|exact Calm.ret|refine Calm.then ?_|refine Calm.block ?_)) (by kernel_rfl) [4, 5, 6] (by kernel_rfl) rfl ?_
          refine DO.indexP (sz := 2) tab 7 i (by repeat (first|exact Calm.ret|refine Calm.then ?_|refine Calm.block ?_)) (by kernel_rfl) (by kernel_rfl) rfl rfl rfl rfl rfl rfl rfl rfl rfl (by omega) ?_
          refine DO.loadE (jj := 0) tab 8 0 rCh (gk_get (xs := ws) (k := i) (by omega)) (by simp only [rCh]; omega) (fun _ => rfl) (by repeat (first|exact Calm.ret|refine Calm.then ?_|refine Calm.block ?_)) (by kernel_rfl) (by kernel_rfl) rfl rfl rfl rfl rfl rfl rfl ?_
          refine DO.pure tab (by repeat (first|exact Calm.ret|refine Calm.then ?_|refine Calm.block ?_)) (by kernel_rfl) [9, 10] (by kernel_rfl) rfl ?_
          refine DO.indexP (sz := 2) tab 11 a (by repeat (first|exact Calm.ret|refine Calm.then ?_|refine Calm.block ?_)) (by kernel_rfl) (by kernel_rfl) rfl rfl rfl rfl rfl rfl rfl rfl rfl (by omega) ?_
          refine DO.loadE (jj := 0) tab 12 0 rCh (gk_get (xs := ws) (k := a) (by omega)) (by simp only [rCh]; omega) (fun _ => rfl) (by repeat (first|exact Calm.ret|refine Calm.then ?_|refine Calm.block ?_)) (by kernel_rfl) (by kernel_rfl) rfl rfl rfl rfl rfl rfl rfl ?_
          refine DO.run 13 rfl rfl (by kernel_rfl) rfl (OT.call rfl rfl rfl rfl rfl rfl goes23 ((chcmp_law m _ (gk ws i) (gk ws a) (hD.gk (by omega)) (hD.gk (by omega))).x ?_))
          rintro _ _ _ ⟨rfl, rfl, rfl⟩; refine ⟨Mem.le_refl _, _, List.Perm.refl _, ?_⟩
          refine DO.pure tab (by repeat (first|exact Calm.ret|refine Calm.then ?_|refine Calm.block ?_)) (by kernel_rfl) [14, 15] (by kernel_rfl) rfl ?_
          (refine DO.nil (by kernel_rfl) ?_)
          rotate_left 1
          refine DO.pure tab (by repeat (first|exact Calm.ret|refine Calm.then ?_|refine Calm.block ?_)) (by kernel_rfl) [4, 5, 6, 7, 8, 9, 10, 11, 12, 13, 14, 15] (by kernel_rfl) rfl ?_
          (refine DO.nil (by kernel_rfl) ?_)
          rotate_left 1
          · repeat (refine q6 ?_)
            simp only [ch_dec]
            cases hc1 : ltC (gk ws i) (gk ws a) with
            | true =>
              repeat (first|refine q2 ?_|refine q3 ?_|refine q4 tab rfl rfl ?_|refine q6 ?_|refine q13 ?_|refine q16 rfl ?_)
              refine TO.step rfl (OT.arith (r' := ((i + 1 : Nat) : Int)) rfl rfl rfl rfl rfl rfl rfl (by omega) ?_)
              repeat (first|refine q4 tab rfl rfl ?_|refine q5 ?_|refine q6 ?_|refine q7 ?_)
              exact ⟨i + 1, (by repeat (first|exact trivial|refine And.intro rfl ?_)), (by repeat (first|exact trivial|refine And.intro rfl ?_)), rfl, rfl, (by repeat (exact List.Sublist.refl _)), ⟨by omega, hP.left (by omega) hc1⟩, by omega⟩
            | false =>
              repeat (first|refine q1 ?_|refine q2 ?_|refine q6 ?_|refine q10 ?_|refine q11 ?_|refine q14 ?_|refine q17 rfl ?_)
              refine TC.loopK (ι := Nat) [0, 1, 4, 12] rfl (fun j => [(13, .int .i64 (j : Int))]) (fun _ => m) (fun _ => chR bd ws :: L) (fun j2 => j2 ≤ j ∧ PaI ltC (sw xs a p) a b i j2 ws) (fun j => j) j (by repeat (first|exact trivial|refine And.intro rfl ?_)) rfl (by repeat (exact List.Sublist.refl _)) ⟨Nat.le_refl _, hP⟩ ?_
              rintro j2 ⟨hj2, hP2⟩
              have hr2 := hP2.rng
              repeat (refine q1 ?_)
              refine TC.draw [] mixed 17 rfl [chR bd ws] L (by first | exact List.Perm.refl _ | (rw [List.append_nil]; exact List.Perm.refl _)) ?_
              refine DO.pure tab (by repeat (first|exact Calm.ret|refine Calm.then ?_|refine Calm.block ?_)) (by kernel_rfl) [0, 1, 2, 3] (by kernel_rfl) rfl ?_
              (refine DO.splitP (d := 126) rfl (fun hg3 => ?_) (fun hg3 => ?_))
              refine DO.pure tab (by repeat (first|exact Calm.ret|refine Calm.then ?_|refine Calm.block ?_)) (by kernel_rfl) [4, 5, 6] (by kernel_rfl) rfl ?_
              refine DO.indexP (sz := 2) tab 7 j2 (by repeat (first|exact Calm.ret|refine Calm.then ?_|refine Calm.block ?_)) (by kernel_rfl) (by kernel_rfl) rfl rfl rfl rfl rfl rfl rfl rfl rfl (by omega) ?_
              refine DO.loadE (jj := 0) tab 8 0 rCh (gk_get (xs := ws) (k := j2) (by omega)) (by simp only [rCh]; omega) (fun _ => rfl) (by repeat (first|exact Calm.ret|refine Calm.then ?_|refine Calm.block ?_)) (by kernel_rfl) (by kernel_rfl) rfl rfl rfl rfl rfl rfl rfl ?_
              refine DO.pure tab (by repeat (first|exact Calm.ret|refine Calm.then ?_|refine Calm.block ?_)) (by kernel_rfl) [9, 10] (by kernel_rfl) rfl ?_
              refine DO.indexP (sz := 2) tab 11 a (by repeat (first|exact Calm.ret|refine Calm.then ?_|refine Calm.block ?_)) (by kernel_rfl) (by kernel_rfl) rfl rfl rfl rfl rfl rfl rfl rfl rfl (by omega) ?_
              refine DO.loadE (jj := 0) tab 12 0 rCh (gk_get (xs := ws) (k := a) (by omega)) (by simp only [rCh]; omega) (fun _ => rfl) (by repeat (first|exact Calm.ret|refine Calm.then ?_|refine Calm.block ?_)) (by kernel_rfl) (by kernel_rfl) rfl rfl rfl rfl rfl rfl rfl ?_
              refine DO.run 13 rfl rfl (by kernel_rfl) rfl (OT.call rfl rfl rfl rfl rfl rfl goes23 ((chcmp_law m _ (gk ws j2) (gk ws a) (hD.gk (by omega)) (hD.gk (by omega))).x ?_))
              rintro _ _ _ ⟨rfl, rfl, rfl⟩; refine ⟨Mem.le_refl _, _, List.Perm.refl _, ?_⟩
              refine DO.pure tab (by repeat (first|exact Calm.ret|refine Calm.then ?_|refine Calm.block ?_)) (by kernel_rfl) [14, 15, 16] (by kernel_rfl) rfl ?_
              (refine DO.nil (by kernel_rfl) ?_)
              rotate_left 1
              refine DO.pure tab (by repeat (first|exact Calm.ret|refine Calm.then ?_|refine Calm.block ?_)) (by kernel_rfl) [4, 5, 6, 7, 8, 9, 10, 11, 12, 13, 14, 15, 16] (by kernel_rfl) rfl ?_
              (refine DO.nil (by kernel_rfl) ?_)
              rotate_left 1
              · repeat (refine q6 ?_)
                simp only [ch_dec]
                cases hc2 : ltC (gk ws j2) (gk ws a) with
                | false =>
                  repeat (first|refine q2 ?_|refine q3 ?_|refine q4 tab rfl rfl ?_|refine q6 ?_|refine q13 ?_|refine q16 rfl ?_)
                  refine TO.step rfl (OT.arith (r' := ((j2 - 1 : Nat) : Int)) rfl rfl rfl rfl rfl rfl (by omega) (by omega) ?_)
                  repeat (first|refine q4 tab rfl rfl ?_|refine q5 ?_|refine q6 ?_|refine q7 ?_)
                  exact ⟨j2 - 1, (by repeat (first|exact trivial|refine And.intro rfl ?_)), (by repeat (first|exact trivial|refine And.intro rfl ?_)), rfl, rfl, (by repeat (exact List.Sublist.refl _)), ⟨by omega, hP2.right (by omega) hc2⟩, by omega⟩
                | true =>
                  repeat (first|refine q1 ?_|refine q3 ?_|refine q4 tab rfl rfl ?_|refine q5 ?_|refine q6 ?_|refine q10 ?_|refine q11 ?_|refine q14 ?_|refine q17 rfl ?_)
                  refine TC.condP rfl (fun hgt => ?_) (fun hgt => ?_)
                  · have hN := hP2.done (by omega) (by omega)
                    repeat (first|refine q1 ?_|refine q6 ?_|refine q10 ?_|refine q11 ?_|refine q12 rfl ?_|refine q14 ?_)
                    refine TC.draw [13, 14, 15] mixed 16 rfl [chR bd ws] L (by first | exact List.Perm.refl _ | (rw [List.append_nil]; exact List.Perm.refl _)) ?_
                    refine DO.pure tab (by repeat (first|exact Calm.ret|refine Calm.then ?_)) (by kernel_rfl) [0, 1, 2, 3, 4, 5] (by kernel_rfl) rfl ?_
                    refine DO.indexP (sz := 2) tab 6 a (by repeat (first|exact Calm.ret|refine Calm.then ?_)) (by kernel_rfl) (by kernel_rfl) rfl rfl rfl rfl rfl rfl rfl rfl rfl (by omega) ?_
                    refine DO.loadE (jj := 0) tab 7 0 rCh (gk_get (xs := ws) (k := a) (by omega)) (by simp only [rCh]; omega) (fun _ => rfl) (by repeat (first|exact Calm.ret|refine Calm.then ?_)) (by kernel_rfl) (by kernel_rfl) rfl rfl rfl rfl rfl rfl rfl ?_
                    refine DO.pure tab (by repeat (first|exact Calm.ret|refine Calm.then ?_)) (by kernel_rfl) [8, 9] (by kernel_rfl) rfl ?_
                    refine DO.indexP (sz := 2) tab 10 j2 (by repeat (first|exact Calm.ret|refine Calm.then ?_)) (by kernel_rfl) (by kernel_rfl) rfl rfl rfl rfl rfl rfl rfl rfl rfl (by omega) ?_
                    refine DO.loadE (jj := 0) tab 11 0 rCh (gk_get (xs := ws) (k := j2) (by omega)) (by simp only [rCh]; omega) (fun _ => rfl) (by repeat (first|exact Calm.ret|refine Calm.then ?_)) (by kernel_rfl) (by kernel_rfl) rfl rfl rfl rfl rfl rfl rfl ?_
                    refine DO.indexP (sz := 2) tab 12 j2 (by repeat (first|exact Calm.ret|refine Calm.then ?_)) (by kernel_rfl) (by kernel_rfl) rfl rfl rfl rfl rfl rfl rfl rfl rfl (by omega) ?_
                    refine DO.tail ?_
                    refine DOt.run 13 rfl rfl (by kernel_rfl) rfl ?_
                    refine OT.storeE (h2 := gk ws a) tab 0 rCh (gk_get (xs := ws) (k := j2) (by omega)) (j := 0) (by simp only [rCh]; omega) (fun _ => rfl) (Nat.le_refl _) rfl rfl rfl rfl rfl rfl rfl ?_
                    refine DOt.run 14 rfl rfl (by kernel_rfl) rfl ?_
                    refine OT.indexP (sz := 2) tab a rfl rfl rfl rfl rfl rfl rfl (by omega) ?_
                    refine DOt.run 15 rfl rfl (by kernel_rfl) rfl ?_
                    refine OT.storeE (h2 := gk ws j2) (h := gk (List.set ws j2 (gk ws a)) a) tab 0 rCh (k := a) (gk_get (by simp; omega)) (j := 0) (by simp only [rCh]; omega) (fun _ => rfl) (Nat.le_refl _) rfl rfl rfl rfl rfl rfl rfl ?_
                    refine DOt.nil (by kernel_rfl) ?_
                    rotate_left 1
                    repeat (first|refine q1 ?_|refine q3 ?_|refine q4 tab rfl rfl ?_|refine q5 ?_|refine q6 ?_|refine q15 ?_)
                    refine retQ_ret rfl (L' := chR bd (sw ws j2 a) :: L) (by repeat (exact List.Sublist.refl _)) ⟨rfl, sw ws j2 a, j2, _, rfl, hN.base hS0, rfl⟩
                  · have hpair : ltC (gk ws i) (gk ws a) = false ∧ ltC (gk ws j2) (gk ws a) = true := by
                      constructor
                      · first | exact hc1 | (exfalso; omega)
                      · first | exact hc2 | (exfalso; omega)
                    obtain ⟨hN, hlt⟩ := hP2.swap (by omega) (by omega) hpair.1 hpair.2
                    repeat (first|refine q1 ?_|refine q6 ?_|refine q13 ?_)
                    refine TC.draw [13, 14, 15] mixed 16 rfl [chR bd ws] L (by first | exact List.Perm.refl _ | (rw [List.append_nil]; exact List.Perm.refl _)) ?_
                    refine DO.pure tab (by repeat (first|exact Calm.ret|refine Calm.then ?_|refine Calm.block ?_)) (by kernel_rfl) [0, 1, 2, 3, 4, 5] (by kernel_rfl) rfl ?_
                    refine DO.indexP (sz := 2) tab 6 j2 (by repeat (first|exact Calm.ret|refine Calm.then ?_|refine Calm.block ?_)) (by kernel_rfl) (by kernel_rfl) rfl rfl rfl rfl rfl rfl rfl rfl rfl (by omega) ?_
                    refine DO.loadE (jj := 0) tab 7 0 rCh (gk_get (xs := ws) (k := j2) (by omega)) (by simp only [rCh]; omega) (fun _ => rfl) (by repeat (first|exact Calm.ret|refine Calm.then ?_|refine Calm.block ?_)) (by kernel_rfl) (by kernel_rfl) rfl rfl rfl rfl rfl rfl rfl ?_
                    refine DO.pure tab (by repeat (first|exact Calm.ret|refine Calm.then ?_|refine Calm.block ?_)) (by kernel_rfl) [8, 9] (by kernel_rfl) rfl ?_
                    refine DO.indexP (sz := 2) tab 10 i (by repeat (first|exact Calm.ret|refine Calm.then ?_|refine Calm.block ?_)) (by kernel_rfl) (by kernel_rfl) rfl rfl rfl rfl rfl rfl rfl rfl rfl (by omega) ?_
                    refine DO.loadE (jj := 0) tab 11 0 rCh (gk_get (xs := ws) (k := i) (by omega)) (by simp only [rCh]; omega) (fun _ => rfl) (by repeat (first|exact Calm.ret|refine Calm.then ?_|refine Calm.block ?_)) (by kernel_rfl) (by kernel_rfl) rfl rfl rfl rfl rfl rfl rfl ?_
                    refine DO.indexP (sz := 2) tab 12 i (by repeat (first|exact Calm.ret|refine Calm.then ?_|refine Calm.block ?_)) (by kernel_rfl) (by kernel_rfl) rfl rfl rfl rfl rfl rfl rfl rfl rfl (by omega) ?_
                    refine DO.tail ?_
                    refine DOt.run 13 rfl rfl (by kernel_rfl) rfl ?_
                    refine OT.storeE (h2 := gk ws j2) tab 0 rCh (gk_get (xs := ws) (k := i) (by omega)) (j := 0) (by simp only [rCh]; omega) (fun _ => rfl) (Nat.le_refl _) rfl rfl rfl rfl rfl rfl rfl ?_
                    refine DOt.run 14 rfl rfl (by kernel_rfl) rfl ?_
                    refine OT.indexP (sz := 2) tab j2 rfl rfl rfl rfl rfl rfl rfl (by omega) ?_
                    refine DOt.run 15 rfl rfl (by kernel_rfl) rfl ?_
                    refine OT.storeE (h2 := gk ws i) (h := gk (List.set ws i (gk ws j2)) j2) tab 0 rCh (k := j2) (gk_get (by simp; omega)) (j := 0) (by simp only [rCh]; omega) (fun _ => rfl) (Nat.le_refl _) rfl rfl rfl rfl rfl rfl rfl ?_
                    refine DOt.nil (by kernel_rfl) ?_
                    rotate_left 1
                    repeat (first|refine q1 ?_|refine q3 ?_|refine q4 tab rfl rfl ?_|refine q6 ?_)
                    refine TO.step rfl (OT.arith (r' := ((i + 1 : Nat) : Int)) rfl rfl rfl rfl rfl rfl rfl (by omega) ?_)
                    repeat (first|refine q3 ?_|refine q4 tab rfl rfl ?_|refine q5 ?_|refine q6 ?_)
                    refine TO.step rfl (OT.arith (r' := ((j2 - 1 : Nat) : Int)) rfl rfl rfl rfl rfl rfl (by omega) (by omega) ?_)
                    repeat (first|refine q4 tab rfl rfl ?_|refine q5 ?_|refine q6 ?_|refine q7 ?_)
                    exact ⟨(i + 1, j2 - 1, sw ws i j2), (by repeat (first|exact trivial|refine And.intro rfl ?_)), (by repeat (first|exact trivial|refine And.intro rfl ?_)), rfl, rfl, (by repeat (exact List.Sublist.refl _)), hN, by simp only; omega⟩
              · have hc2 : j2 < i := by omega
                repeat (first|refine q1 ?_|refine q3 ?_|refine q4 tab rfl rfl ?_|refine q5 ?_|refine q6 ?_|refine q10 ?_|refine q11 ?_|refine q14 ?_|refine q17 rfl ?_)
                refine TC.condP rfl (fun hgt => ?_) (fun hgt => ?_)
                · have hN := hP2.done (by omega) (by omega)
                  repeat (first|refine q1 ?_|refine q6 ?_|refine q10 ?_|refine q11 ?_|refine q12 rfl ?_|refine q14 ?_)
                  refine TC.draw [13, 14, 15] mixed 16 rfl [chR bd ws] L (by first | exact List.Perm.refl _ | (rw [List.append_nil]; exact List.Perm.refl _)) ?_
                  refine DO.pure tab (by repeat (first|exact Calm.ret|refine Calm.then ?_)) (by kernel_rfl) [0, 1, 2, 3, 4, 5] (by kernel_rfl) rfl ?_
                  refine DO.indexP (sz := 2) tab 6 a (by repeat (first|exact Calm.ret|refine Calm.then ?_)) (by kernel_rfl) (by kernel_rfl) rfl rfl rfl rfl rfl rfl rfl rfl rfl (by omega) ?_
                  refine DO.loadE (jj := 0) tab 7 0 rCh (gk_get (xs := ws) (k := a) (by omega)) (by simp only [rCh]; omega) (fun _ => rfl) (by repeat (first|exact Calm.ret|refine Calm.then ?_)) (by kernel_rfl) (by kernel_rfl) rfl rfl rfl rfl rfl rfl rfl ?_
                  refine DO.pure tab (by repeat (first|exact Calm.ret|refine Calm.then ?_)) (by kernel_rfl) [8, 9] (by kernel_rfl) rfl ?_
                  refine DO.indexP (sz := 2) tab 10 j2 (by repeat (first|exact Calm.ret|refine Calm.then ?_)) (by kernel_rfl) (by kernel_rfl) rfl rfl rfl rfl rfl rfl rfl rfl rfl (by omega) ?_
                  refine DO.loadE (jj := 0) tab 11 0 rCh (gk_get (xs := ws) (k := j2) (by omega)) (by simp only [rCh]; omega) (fun _ => rfl) (by repeat (first|exact Calm.ret|refine Calm.then ?_)) (by kernel_rfl) (by kernel_rfl) rfl rfl rfl rfl rfl rfl rfl ?_
                  refine DO.indexP (sz := 2) tab 12 j2 (by repeat (first|exact Calm.ret|refine Calm.then ?_)) (by kernel_rfl) (by kernel_rfl) rfl rfl rfl rfl rfl rfl rfl rfl rfl (by omega) ?_
                  refine DO.tail ?_
                  refine DOt.run 13 rfl rfl (by kernel_rfl) rfl ?_
                  refine OT.storeE (h2 := gk ws a) tab 0 rCh (gk_get (xs := ws) (k := j2) (by omega)) (j := 0) (by simp only [rCh]; omega) (fun _ => rfl) (Nat.le_refl _) rfl rfl rfl rfl rfl rfl rfl ?_
                  refine DOt.run 14 rfl rfl (by kernel_rfl) rfl ?_
                  refine OT.indexP (sz := 2) tab a rfl rfl rfl rfl rfl rfl rfl (by omega) ?_
                  refine DOt.run 15 rfl rfl (by kernel_rfl) rfl ?_
                  refine OT.storeE (h2 := gk ws j2) (h := gk (List.set ws j2 (gk ws a)) a) tab 0 rCh (k := a) (gk_get (by simp; omega)) (j := 0) (by simp only [rCh]; omega) (fun _ => rfl) (Nat.le_refl _) rfl rfl rfl rfl rfl rfl rfl ?_
                  refine DOt.nil (by kernel_rfl) ?_
                  rotate_left 1
                  repeat (first|refine q1 ?_|refine q3 ?_|refine q4 tab rfl rfl ?_|refine q5 ?_|refine q6 ?_|refine q15 ?_)
                  refine retQ_ret rfl (L' := chR bd (sw ws j2 a) :: L) (by repeat (exact List.Sublist.refl _)) ⟨rfl, sw ws j2 a, j2, _, rfl, hN.base hS0, rfl⟩
                · have hpair : ltC (gk ws i) (gk ws a) = false ∧ ltC (gk ws j2) (gk ws a) = true := by
                    constructor
                    · first | exact hc1 | (exfalso; omega)
                    · first | exact hc2 | (exfalso; omega)
                  obtain ⟨hN, hlt⟩ := hP2.swap (by omega) (by omega) hpair.1 hpair.2
                  repeat (first|refine q1 ?_|refine q6 ?_|refine q13 ?_)
                  refine TC.draw [13, 14, 15] mixed 16 rfl [chR bd ws] L (by first | exact List.Perm.refl _ | (rw [List.append_nil]; exact List.Perm.refl _)) ?_
                  refine DO.pure tab (by repeat (first|exact Calm.ret|refine Calm.then ?_|refine Calm.block ?_)) (by kernel_rfl) [0, 1, 2, 3, 4, 5] (by kernel_rfl) rfl ?_
                  refine DO.indexP (sz := 2) tab 6 j2 (by repeat (first|exact Calm.ret|refine Calm.then ?_|refine Calm.block ?_)) (by kernel_rfl) (by kernel_rfl) rfl rfl rfl rfl rfl rfl rfl rfl rfl (by omega) ?_
                  refine DO.loadE (jj := 0) tab 7 0 rCh (gk_get (xs := ws) (k := j2) (by omega)) (by simp only [rCh]; omega) (fun _ => rfl) (by repeat (first|exact Calm.ret|refine Calm.then ?_|refine Calm.block ?_)) (by kernel_rfl) (by kernel_rfl) rfl rfl rfl rfl rfl rfl rfl ?_
                  refine DO.pure tab (by repeat (first|exact Calm.ret|refine Calm.then ?_|refine Calm.block ?_)) (by kernel_rfl) [8, 9] (by kernel_rfl) rfl ?_
                  refine DO.indexP (sz := 2) tab 10 i (by repeat (first|exact Calm.ret|refine Calm.then ?_|refine Calm.block ?_)) (by kernel_rfl) (by kernel_rfl) rfl rfl rfl rfl rfl rfl rfl rfl rfl (by omega) ?_
                  refine DO.loadE (jj := 0) tab 11 0 rCh (gk_get (xs := ws) (k := i) (by omega)) (by simp only [rCh]; omega) (fun _ => rfl) (by repeat (first|exact Calm.ret|refine Calm.then ?_|refine Calm.block ?_)) (by kernel_rfl) (by kernel_rfl) rfl rfl rfl rfl rfl rfl rfl ?_
                  refine DO.indexP (sz := 2) tab 12 i (by repeat (first|exact Calm.ret|refine Calm.then ?_|refine Calm.block ?_)) (by kernel_rfl) (by kernel_rfl) rfl rfl rfl rfl rfl rfl rfl rfl rfl (by omega) ?_
                  refine DO.tail ?_
                  refine DOt.run 13 rfl rfl (by kernel_rfl) rfl ?_
                  refine OT.storeE (h2 := gk ws j2) tab 0 rCh (gk_get (xs := ws) (k := i) (by omega)) (j := 0) (by simp only [rCh]; omega) (fun _ => rfl) (Nat.le_refl _) rfl rfl rfl rfl rfl rfl rfl ?_
                  refine DOt.run 14 rfl rfl (by kernel_rfl) rfl ?_
                  refine OT.indexP (sz := 2) tab j2 rfl rfl rfl rfl rfl rfl rfl (by omega) ?_
                  refine DOt.run 15 rfl rfl (by kernel_rfl) rfl ?_
                  refine OT.storeE (h2 := gk ws i) (h := gk (List.set ws i (gk ws j2)) j2) tab 0 rCh (k := j2) (gk_get (by simp; omega)) (j := 0) (by simp only [rCh]; omega) (fun _ => rfl) (Nat.le_refl _) rfl rfl rfl rfl rfl rfl rfl ?_
                  refine DOt.nil (by kernel_rfl) ?_
                  rotate_left 1
                  repeat (first|refine q1 ?_|refine q3 ?_|refine q4 tab rfl rfl ?_|refine q6 ?_)
                  refine TO.step rfl (OT.arith (r' := ((i + 1 : Nat) : Int)) rfl rfl rfl rfl rfl rfl rfl (by omega) ?_)
                  repeat (first|refine q3 ?_|refine q4 tab rfl rfl ?_|refine q5 ?_|refine q6 ?_)
                  refine TO.step rfl (OT.arith (r' := ((j2 - 1 : Nat) : Int)) rfl rfl rfl rfl rfl rfl (by omega) (by omega) ?_)
                  repeat (first|refine q4 tab rfl rfl ?_|refine q5 ?_|refine q6 ?_|refine q7 ?_)
                  exact ⟨(i + 1, j2 - 1, sw ws i j2), (by repeat (first|exact trivial|refine And.intro rfl ?_)), (by repeat (first|exact trivial|refine And.intro rfl ?_)), rfl, rfl, (by repeat (exact List.Sublist.refl _)), hN, by simp only; omega⟩
          · have hc1 : j < i := by omega
            repeat (first|refine q1 ?_|refine q2 ?_|refine q6 ?_|refine q10 ?_|refine q11 ?_|refine q14 ?_|refine q17 rfl ?_)
            refine TC.loopK (ι := Nat) [0, 1, 4, 12] rfl (fun j => [(13, .int .i64 (j : Int))]) (fun _ => m) (fun _ => chR bd ws :: L) (fun j2 => j2 ≤ j ∧ PaI ltC (sw xs a p) a b i j2 ws) (fun j => j) j (by repeat (first|exact trivial|refine And.intro rfl ?_)) rfl (by repeat (exact List.Sublist.refl _)) ⟨Nat.le_refl _, hP⟩ ?_
            rintro j2 ⟨hj2, hP2⟩
            have hr2 := hP2.rng
            repeat (refine q1 ?_)
            refine TC.draw [] mixed 17 rfl [chR bd ws] L (by first | exact List.Perm.refl _ | (rw [List.append_nil]; exact List.Perm.refl _)) ?_
            refine DO.pure tab (by repeat (first|exact Calm.ret|refine Calm.then ?_|refine Calm.block ?_)) (by kernel_rfl) [0, 1, 2, 3] (by kernel_rfl) rfl ?_
            (refine DO.splitP (d := 126) rfl (fun hg3 => ?_) (fun hg3 => ?_))
            refine DO.pure tab (by repeat (first|exact Calm.ret|refine Calm.then ?_|refine Calm.block ?_)) (by kernel_rfl) [4, 5, 6] (by kernel_rfl) rfl ?_
            refine DO.indexP (sz := 2) tab 7 j2 (by repeat (first|exact Calm.ret|refine Calm.then ?_|refine Calm.block ?_)) (by kernel_rfl) (by kernel_rfl) rfl rfl rfl rfl rfl rfl rfl rfl rfl (by omega) ?_
            refine DO.loadE (jj := 0) tab 8 0 rCh (gk_get (xs := ws) (k := j2) (by omega)) (by simp only [rCh]; omega) (fun _ => rfl) (by repeat (first|exact Calm.ret|refine Calm.then ?_|refine Calm.block ?_)) (by kernel_rfl) (by kernel_rfl) rfl rfl rfl rfl rfl rfl rfl ?_
            refine DO.pure tab (by repeat (first|exact Calm.ret|refine Calm.then ?_|refine Calm.block ?_)) (by kernel_rfl) [9, 10] (by kernel_rfl) rfl ?_
            refine DO.indexP (sz := 2) tab 11 a (by repeat (first|exact Calm.ret|refine Calm.then ?_|refine Calm.block ?_)) (by kernel_rfl) (by kernel_rfl) rfl rfl rfl rfl rfl rfl rfl rfl rfl (by omega) ?_
            refine DO.loadE (jj := 0) tab 12 0 rCh (gk_get (xs := ws) (k := a) (by omega)) (by simp only [rCh]; omega) (fun _ => rfl) (by repeat (first|exact Calm.ret|refine Calm.then ?_|refine Calm.block ?_)) (by kernel_rfl) (by kernel_rfl) rfl rfl rfl rfl rfl rfl rfl ?_
            refine DO.run 13 rfl rfl (by kernel_rfl) rfl (OT.call rfl rfl rfl rfl rfl rfl goes23 ((chcmp_law m _ (gk ws j2) (gk ws a) (hD.gk (by omega)) (hD.gk (by omega))).x ?_))
            rintro _ _ _ ⟨rfl, rfl, rfl⟩; refine ⟨Mem.le_refl _, _, List.Perm.refl _, ?_⟩
            refine DO.pure tab (by repeat (first|exact Calm.ret|refine Calm.then ?_|refine Calm.block ?_)) (by kernel_rfl) [14, 15, 16] (by kernel_rfl) rfl ?_
            (refine DO.nil (by kernel_rfl) ?_)
            rotate_left 1
            refine DO.pure tab (by repeat (first|exact Calm.ret|refine Calm.then ?_|refine Calm.block ?_)) (by kernel_rfl) [4, 5, 6, 7, 8, 9, 10, 11, 12, 13, 14, 15, 16] (by kernel_rfl) rfl ?_
            (refine DO.nil (by kernel_rfl) ?_)
            rotate_left 1
            · repeat (refine q6 ?_)
              simp only [ch_dec]
              cases hc2 : ltC (gk ws j2) (gk ws a) with
              | false =>
                repeat (first|refine q2 ?_|refine q3 ?_|refine q4 tab rfl rfl ?_|refine q6 ?_|refine q13 ?_|refine q16 rfl ?_)
                refine TO.step rfl (OT.arith (r' := ((j2 - 1 : Nat) : Int)) rfl rfl rfl rfl rfl rfl (by omega) (by omega) ?_)
                repeat (first|refine q4 tab rfl rfl ?_|refine q5 ?_|refine q6 ?_|refine q7 ?_)
                exact ⟨j2 - 1, (by repeat (first|exact trivial|refine And.intro rfl ?_)), (by repeat (first|exact trivial|refine And.intro rfl ?_)), rfl, rfl, (by repeat (exact List.Sublist.refl _)), ⟨by omega, hP2.right (by omega) hc2⟩, by omega⟩
              | true =>
                repeat (first|refine q1 ?_|refine q3 ?_|refine q4 tab rfl rfl ?_|refine q5 ?_|refine q6 ?_|refine q10 ?_|refine q11 ?_|refine q14 ?_|refine q17 rfl ?_)
                refine TC.condP rfl (fun hgt => ?_) (fun hgt => ?_)
                · have hN := hP2.done (by omega) (by omega)
                  repeat (first|refine q1 ?_|refine q6 ?_|refine q10 ?_|refine q11 ?_|refine q12 rfl ?_|refine q14 ?_)
                  refine TC.draw [13, 14, 15] mixed 16 rfl [chR bd ws] L (by first | exact List.Perm.refl _ | (rw [List.append_nil]; exact List.Perm.refl _)) ?_
                  refine DO.pure tab (by repeat (first|exact Calm.ret|refine Calm.then ?_)) (by kernel_rfl) [0, 1, 2, 3, 4, 5] (by kernel_rfl) rfl ?_
                  refine DO.indexP (sz := 2) tab 6 a (by repeat (first|exact Calm.ret|refine Calm.then ?_)) (by kernel_rfl) (by kernel_rfl) rfl rfl rfl rfl rfl rfl rfl rfl rfl (by omega) ?_
                  refine DO.loadE (jj := 0) tab 7 0 rCh (gk_get (xs := ws) (k := a) (by omega)) (by simp only [rCh]; omega) (fun _ => rfl) (by repeat (first|exact Calm.ret|refine Calm.then ?_)) (by kernel_rfl) (by kernel_rfl) rfl rfl rfl rfl rfl rfl rfl ?_
                  refine DO.pure tab (by repeat (first|exact Calm.ret|refine Calm.then ?_)) (by kernel_rfl) [8, 9] (by kernel_rfl) rfl ?_
                  refine DO.indexP (sz := 2) tab 10 j2 (by repeat (first|exact Calm.ret|refine Calm.then ?_)) (by kernel_rfl) (by kernel_rfl) rfl rfl rfl rfl rfl rfl rfl rfl rfl (by omega) ?_
                  refine DO.loadE (jj := 0) tab 11 0 rCh (gk_get (xs := ws) (k := j2) (by omega)) (by simp only [rCh]; omega) (fun _ => rfl) (by repeat (first|exact Calm.ret|refine Calm.then ?_)) (by kernel_rfl) (by kernel_rfl) rfl rfl rfl rfl rfl rfl rfl ?_
                  refine DO.indexP (sz := 2) tab 12 j2 (by repeat (first|exact Calm.ret|refine Calm.then ?_)) (by kernel_rfl) (by kernel_rfl) rfl rfl rfl rfl rfl rfl rfl rfl rfl (by omega) ?_
                  refine DO.tail ?_
                  refine DOt.run 13 rfl rfl (by kernel_rfl) rfl ?_
                  refine OT.storeE (h2 := gk ws a) tab 0 rCh (gk_get (xs := ws) (k := j2) (by omega)) (j := 0) (by simp only [rCh]; omega) (fun _ => rfl) (Nat.le_refl _) rfl rfl rfl rfl rfl rfl rfl ?_
                  refine DOt.run 14 rfl rfl (by kernel_rfl) rfl ?_
                  refine OT.indexP (sz := 2) tab a rfl rfl rfl rfl rfl rfl rfl (by omega) ?_
                  refine DOt.run 15 rfl rfl (by kernel_rfl) rfl ?_
                  refine OT.storeE (h2 := gk ws j2) (h := gk (List.set ws j2 (gk ws a)) a) tab 0 rCh (k := a) (gk_get (by simp; omega)) (j := 0) (by simp only [rCh]; omega) (fun _ => rfl) (Nat.le_refl _) rfl rfl rfl rfl rfl rfl rfl ?_
                  refine DOt.nil (by kernel_rfl) ?_
                  rotate_left 1
                  repeat (first|refine q1 ?_|refine q3 ?_|refine q4 tab rfl rfl ?_|refine q5 ?_|refine q6 ?_|refine q15 ?_)
                  refine retQ_ret rfl (L' := chR bd (sw ws j2 a) :: L) (by repeat (exact List.Sublist.refl _)) ⟨rfl, sw ws j2 a, j2, _, rfl, hN.base hS0, rfl⟩
                · have hpair : ltC (gk ws i) (gk ws a) = false ∧ ltC (gk ws j2) (gk ws a) = true := by
                    constructor
                    · first | exact hc1 | (exfalso; omega)
                    · first | exact hc2 | (exfalso; omega)
                  obtain ⟨hN, hlt⟩ := hP2.swap (by omega) (by omega) hpair.1 hpair.2
                  repeat (first|refine q1 ?_|refine q6 ?_|refine q13 ?_)
                  refine TC.draw [13, 14, 15] mixed 16 rfl [chR bd ws] L (by first | exact List.Perm.refl _ | (rw [List.append_nil]; exact List.Perm.refl _)) ?_
                  refine DO.pure tab (by repeat (first|exact Calm.ret|refine Calm.then ?_|refine Calm.block ?_)) (by kernel_rfl) [0, 1, 2, 3, 4, 5] (by kernel_rfl) rfl ?_
                  refine DO.indexP (sz := 2) tab 6 j2 (by repeat (first|exact Calm.ret|refine Calm.then ?_|refine Calm.block ?_)) (by kernel_rfl) (by kernel_rfl) rfl rfl rfl rfl rfl rfl rfl rfl rfl (by omega) ?_
                  refine DO.loadE (jj := 0) tab 7 0 rCh (gk_get (xs := ws) (k := j2) (by omega)) (by simp only [rCh]; omega) (fun _ => rfl) (by repeat (first|exact Calm.ret|refine Calm.then ?_|refine Calm.block ?_)) (by kernel_rfl) (by kernel_rfl) rfl rfl rfl rfl rfl rfl rfl ?_
                  refine DO.pure tab (by repeat (first|exact Calm.ret|refine Calm.then ?_|refine Calm.block ?_)) (by kernel_rfl) [8, 9] (by kernel_rfl) rfl ?_
                  refine DO.indexP (sz := 2) tab 10 i (by repeat (first|exact Calm.ret|refine Calm.then ?_|refine Calm.block ?_)) (by kernel_rfl) (by kernel_rfl) rfl rfl rfl rfl rfl rfl rfl rfl rfl (by omega) ?_
                  refine DO.loadE (jj := 0) tab 11 0 rCh (gk_get (xs := ws) (k := i) (by omega)) (by simp only [rCh]; omega) (fun _ => rfl) (by repeat (first|exact Calm.ret|refine Calm.then ?_|refine Calm.block ?_)) (by kernel_rfl) (by kernel_rfl) rfl rfl rfl rfl rfl rfl rfl ?_
                  refine DO.indexP (sz := 2) tab 12 i (by repeat (first|exact Calm.ret|refine Calm.then ?_|refine Calm.block ?_)) (by kernel_rfl) (by kernel_rfl) rfl rfl rfl rfl rfl rfl rfl rfl rfl (by omega) ?_
                  refine DO.tail ?_
                  refine DOt.run 13 rfl rfl (by kernel_rfl) rfl ?_
                  refine OT.storeE (h2 := gk ws j2) tab 0 rCh (gk_get (xs := ws) (k := i) (by omega)) (j := 0) (by simp only [rCh]; omega) (fun _ => rfl) (Nat.le_refl _) rfl rfl rfl rfl rfl rfl rfl ?_
                  refine DOt.run 14 rfl rfl (by kernel_rfl) rfl ?_
                  refine OT.indexP (sz := 2) tab j2 rfl rfl rfl rfl rfl rfl rfl (by omega) ?_
                  refine DOt.run 15 rfl rfl (by kernel_rfl) rfl ?_
                  refine OT.storeE (h2 := gk ws i) (h := gk (List.set ws i (gk ws j2)) j2) tab 0 rCh (k := j2) (gk_get (by simp; omega)) (j := 0) (by simp only [rCh]; omega) (fun _ => rfl) (Nat.le_refl _) rfl rfl rfl rfl rfl rfl rfl ?_
                  refine DOt.nil (by kernel_rfl) ?_
                  rotate_left 1
                  repeat (first|refine q1 ?_|refine q3 ?_|refine q4 tab rfl rfl ?_|refine q6 ?_)
                  refine TO.step rfl (OT.arith (r' := ((i + 1 : Nat) : Int)) rfl rfl rfl rfl rfl rfl rfl (by omega) ?_)
                  repeat (first|refine q3 ?_|refine q4 tab rfl rfl ?_|refine q5 ?_|refine q6 ?_)
                  refine TO.step rfl (OT.arith (r' := ((j2 - 1 : Nat) : Int)) rfl rfl rfl rfl rfl rfl (by omega) (by omega) ?_)
                  repeat (first|refine q4 tab rfl rfl ?_|refine q5 ?_|refine q6 ?_|refine q7 ?_)
                  exact ⟨(i + 1, j2 - 1, sw ws i j2), (by repeat (first|exact trivial|refine And.intro rfl ?_)), (by repeat (first|exact trivial|refine And.intro rfl ?_)), rfl, rfl, (by repeat (exact List.Sublist.refl _)), hN, by simp only; omega⟩
            · have hc2 : j2 < i := by omega
              repeat (first|refine q1 ?_|refine q3 ?_|refine q4 tab rfl rfl ?_|refine q5 ?_|refine q6 ?_|refine q10 ?_|refine q11 ?_|refine q14 ?_|refine q17 rfl ?_)
              refine TC.condP rfl (fun hgt => ?_) (fun hgt => ?_)
              · have hN := hP2.done (by omega) (by omega)
                repeat (first|refine q1 ?_|refine q6 ?_|refine q10 ?_|refine q11 ?_|refine q12 rfl ?_|refine q14 ?_)
                refine TC.draw [13, 14, 15] mixed 16 rfl [chR bd ws] L (by first | exact List.Perm.refl _ | (rw [List.append_nil]; exact List.Perm.refl _)) ?_
                refine DO.pure tab (by repeat (first|exact Calm.ret|refine Calm.then ?_)) (by kernel_rfl) [0, 1, 2, 3, 4, 5] (by kernel_rfl) rfl ?_
                refine DO.indexP (sz := 2) tab 6 a (by repeat (first|exact Calm.ret|refine Calm.then ?_)) (by kernel_rfl) (by kernel_rfl) rfl rfl rfl rfl rfl rfl rfl rfl rfl (by omega) ?_
                refine DO.loadE (jj := 0) tab 7 0 rCh (gk_get (xs := ws) (k := a) (by omega)) (by simp only [rCh]; omega) (fun _ => rfl) (by repeat (first|exact Calm.ret|refine Calm.then ?_)) (by kernel_rfl) (by kernel_rfl) rfl rfl rfl rfl rfl rfl rfl ?_
                refine DO.pure tab (by repeat (first|exact Calm.ret|refine Calm.then ?_)) (by kernel_rfl) [8, 9] (by kernel_rfl) rfl ?_
                refine DO.indexP (sz := 2) tab 10 j2 (by repeat (first|exact Calm.ret|refine Calm.then ?_)) (by kernel_rfl) (by kernel_rfl) rfl rfl rfl rfl rfl rfl rfl rfl rfl (by omega) ?_
                refine DO.loadE (jj := 0) tab 11 0 rCh (gk_get (xs := ws) (k := j2) (by omega)) (by simp only [rCh]; omega) (fun _ => rfl) (by repeat (first|exact Calm.ret|refine Calm.then ?_)) (by kernel_rfl) (by kernel_rfl) rfl rfl rfl rfl rfl rfl rfl ?_
                refine DO.indexP (sz := 2) tab 12 j2 (by repeat (first|exact Calm.ret|refine Calm.then ?_)) (by kernel_rfl) (by kernel_rfl) rfl rfl rfl rfl rfl rfl rfl rfl rfl (by omega) ?_
                refine DO.tail ?_
                refine DOt.run 13 rfl rfl (by kernel_rfl) rfl ?_
                refine OT.storeE (h2 := gk ws a) tab 0 rCh (gk_get (xs := ws) (k := j2) (by omega)) (j := 0) (by simp only [rCh]; omega) (fun _ => rfl) (Nat.le_refl _) rfl rfl rfl rfl rfl rfl rfl ?_
                refine DOt.run 14 rfl rfl (by kernel_rfl) rfl ?_
                refine OT.indexP (sz := 2) tab a rfl rfl rfl rfl rfl rfl rfl (by omega) ?_
                refine DOt.run 15 rfl rfl (by kernel_rfl) rfl ?_
                refine OT.storeE (h2 := gk ws j2) (h := gk (List.set ws j2 (gk ws a)) a) tab 0 rCh (k := a) (gk_get (by simp; omega)) (j := 0) (by simp only [rCh]; omega) (fun _ => rfl) (Nat.le_refl _) rfl rfl rfl rfl rfl rfl rfl ?_
                refine DOt.nil (by kernel_rfl) ?_
                rotate_left 1
                repeat (first|refine q1 ?_|refine q3 ?_|refine q4 tab rfl rfl ?_|refine q5 ?_|refine q6 ?_|refine q15 ?_)
                refine retQ_ret rfl (L' := chR bd (sw ws j2 a) :: L) (by repeat (exact List.Sublist.refl _)) ⟨rfl, sw ws j2 a, j2, _, rfl, hN.base hS0, rfl⟩
              · have hpair : ltC (gk ws i) (gk ws a) = false ∧ ltC (gk ws j2) (gk ws a) = true := by
                  constructor
                  · first | exact hc1 | (exfalso; omega)
                  · first | exact hc2 | (exfalso; omega)
                obtain ⟨hN, hlt⟩ := hP2.swap (by omega) (by omega) hpair.1 hpair.2
                repeat (first|refine q1 ?_|refine q6 ?_|refine q13 ?_)
                refine TC.draw [13, 14, 15] mixed 16 rfl [chR bd ws] L (by first | exact List.Perm.refl _ | (rw [List.append_nil]; exact List.Perm.refl _)) ?_
                refine DO.pure tab (by repeat (first|exact Calm.ret|refine Calm.then ?_|refine Calm.block ?_)) (by kernel_rfl) [0, 1, 2, 3, 4, 5] (by kernel_rfl) rfl ?_
                refine DO.indexP (sz := 2) tab 6 j2 (by repeat (first|exact Calm.ret|refine Calm.then ?_|refine Calm.block ?_)) (by kernel_rfl) (by kernel_rfl) rfl rfl rfl rfl rfl rfl rfl rfl rfl (by omega) ?_
                refine DO.loadE (jj := 0) tab 7 0 rCh (gk_get (xs := ws) (k := j2) (by omega)) (by simp only [rCh]; omega) (fun _ => rfl) (by repeat (first|exact Calm.ret|refine Calm.then ?_|refine Calm.block ?_)) (by kernel_rfl) (by kernel_rfl) rfl rfl rfl rfl rfl rfl rfl ?_
                refine DO.pure tab (by repeat (first|exact Calm.ret|refine Calm.then ?_|refine Calm.block ?_)) (by kernel_rfl) [8, 9] (by kernel_rfl) rfl ?_
                refine DO.indexP (sz := 2) tab 10 i (by repeat (first|exact Calm.ret|refine Calm.then ?_|refine Calm.block ?_)) (by kernel_rfl) (by kernel_rfl) rfl rfl rfl rfl rfl rfl rfl rfl rfl (by omega) ?_
                refine DO.loadE (jj := 0) tab 11 0 rCh (gk_get (xs := ws) (k := i) (by omega)) (by simp only [rCh]; omega) (fun _ => rfl) (by repeat (first|exact Calm.ret|refine Calm.then ?_|refine Calm.block ?_)) (by kernel_rfl) (by kernel_rfl) rfl rfl rfl rfl rfl rfl rfl ?_
                refine DO.indexP (sz := 2) tab 12 i (by repeat (first|exact Calm.ret|refine Calm.then ?_|refine Calm.block ?_)) (by kernel_rfl) (by kernel_rfl) rfl rfl rfl rfl rfl rfl rfl rfl rfl (by omega) ?_
                refine DO.tail ?_
                refine DOt.run 13 rfl rfl (by kernel_rfl) rfl ?_
                refine OT.storeE (h2 := gk ws j2) tab 0 rCh (gk_get (xs := ws) (k := i) (by omega)) (j := 0) (by simp only [rCh]; omega) (fun _ => rfl) (Nat.le_refl _) rfl rfl rfl rfl rfl rfl rfl ?_
                refine DOt.run 14 rfl rfl (by kernel_rfl) rfl ?_
                refine OT.indexP (sz := 2) tab j2 rfl rfl rfl rfl rfl rfl rfl (by omega) ?_
                refine DOt.run 15 rfl rfl (by kernel_rfl) rfl ?_
                refine OT.storeE (h2 := gk ws i) (h := gk (List.set ws i (gk ws j2)) j2) tab 0 rCh (k := j2) (gk_get (by simp; omega)) (j := 0) (by simp only [rCh]; omega) (fun _ => rfl) (Nat.le_refl _) rfl rfl rfl rfl rfl rfl rfl ?_
                refine DOt.nil (by kernel_rfl) ?_
                rotate_left 1
                repeat (first|refine q1 ?_|refine q3 ?_|refine q4 tab rfl rfl ?_|refine q6 ?_)
                refine TO.step rfl (OT.arith (r' := ((i + 1 : Nat) : Int)) rfl rfl rfl rfl rfl rfl rfl (by omega) ?_)
                repeat (first|refine q3 ?_|refine q4 tab rfl rfl ?_|refine q5 ?_|refine q6 ?_)
                refine TO.step rfl (OT.arith (r' := ((j2 - 1 : Nat) : Int)) rfl rfl rfl rfl rfl rfl (by omega) (by omega) ?_)
                repeat (first|refine q4 tab rfl rfl ?_|refine q5 ?_|refine q6 ?_|refine q7 ?_)
                exact ⟨(i + 1, j2 - 1, sw ws i j2), (by repeat (first|exact trivial|refine And.intro rfl ?_)), (by repeat (first|exact trivial|refine And.intro rfl ?_)), rfl, rfl, (by repeat (exact List.Sublist.refl _)), hN, by simp only; omega⟩
  · have hc1 : j < i := by omega
    repeat (first|refine q1 ?_|refine q2 ?_|refine q6 ?_|refine q10 ?_|refine q11 ?_|refine q14 ?_|refine q17 rfl ?_)
    refine TC.loopK (ι := Nat) [0, 1, 4, 12] rfl (fun j => [(13, .int .i64 (j : Int))]) (fun _ => m) (fun _ => chR bd zs :: L) (fun j2 => j2 ≤ j ∧ PaI ltC (sw xs a p) a b i j2 zs) (fun j => j) j (by repeat (first|exact trivial|refine And.intro rfl ?_)) rfl (by repeat (exact List.Sublist.refl _)) ⟨Nat.le_refl _, hP⟩ ?_
    rintro j2 ⟨hj2, hP2⟩
    have hr2 := hP2.rng
    repeat (refine q1 ?_)
    refine TC.draw [] mixed 17 rfl [chR bd zs] L (by first | exact List.Perm.refl _ | (rw [List.append_nil]; exact List.Perm.refl _)) ?_
    refine DO.pure tab (by repeat (first|exact Calm.ret|refine Calm.then ?_|refine Calm.block ?_)) (by kernel_rfl) [0, 1, 2, 3] (by kernel_rfl) rfl ?_
    (refine DO.splitP (d := 53) rfl (fun hg3 => ?_) (fun hg3 => ?_))
    refine DO.pure tab (by repeat (first|exact Calm.ret|refine Calm.then ?_|refine Calm.block ?_)) (by kernel_rfl) [4, 5, 6] (by kernel_rfl) rfl ?_
    refine DO.indexP (sz := 2) tab 7 j2 (by repeat (first|exact Calm.ret|refine Calm.then ?_|refine Calm.block ?_)) (by kernel_rfl) (by kernel_rfl) rfl rfl rfl rfl rfl rfl rfl rfl rfl (by omega) ?_
    refine DO.loadE (jj := 0) tab 8 0 rCh (gk_get (xs := zs) (k := j2) (by omega)) (by simp only [rCh]; omega) (fun _ => rfl) (by repeat (first|exact Calm.ret|refine Calm.then ?_|refine Calm.block ?_)) (by kernel_rfl) (by kernel_rfl) rfl rfl rfl rfl rfl rfl rfl ?_
    refine DO.pure tab (by repeat (first|exact Calm.ret|refine Calm.then ?_|refine Calm.block ?_)) (by kernel_rfl) [9, 10] (by kernel_rfl) rfl ?_
    refine DO.indexP (sz := 2) tab 11 a (by repeat (first|exact Calm.ret|refine Calm.then ?_|refine Calm.block ?_)) (by kernel_rfl) (by kernel_rfl) rfl rfl rfl rfl rfl rfl rfl rfl rfl (by omega) ?_
    refine DO.loadE (jj := 0) tab 12 0 rCh (gk_get (xs := zs) (k := a) (by omega)) (by simp only [rCh]; omega) (fun _ => rfl) (by repeat (first|exact Calm.ret|refine Calm.then ?_|refine Calm.block ?_)) (by kernel_rfl) (by kernel_rfl) rfl rfl rfl rfl rfl rfl rfl ?_
    refine DO.run 13 rfl rfl (by kernel_rfl) rfl (OT.call rfl rfl rfl rfl rfl rfl goes23 ((chcmp_law m _ (gk zs j2) (gk zs a) (hD.gk (by omega)) (hD.gk (by omega))).x ?_))
    rintro _ _ _ ⟨rfl, rfl, rfl⟩; refine ⟨Mem.le_refl _, _, List.Perm.refl _, ?_⟩
    refine DO.pure tab (by repeat (first|exact Calm.ret|refine Calm.then ?_|refine Calm.block ?_)) (by kernel_rfl) [14, 15, 16] (by kernel_rfl) rfl ?_
    (refine DO.nil (by kernel_rfl) ?_)
    rotate_left 1
    refine DO.pure tab (by repeat (first|exact Calm.ret|refine Calm.then ?_|refine Calm.block ?_)) (by kernel_rfl) [4, 5, 6, 7, 8, 9, 10, 11, 12, 13, 14, 15, 16] (by kernel_rfl) rfl ?_
    (refine DO.nil (by kernel_rfl) ?_)
    rotate_left 1
    · repeat (refine q6 ?_)
      simp only [ch_dec]
      cases hc2 : ltC (gk zs j2) (gk zs a) with
      | false =>
        repeat (first|refine q2 ?_|refine q3 ?_|refine q4 tab rfl rfl ?_|refine q6 ?_|refine q13 ?_|refine q16 rfl ?_)
        refine TO.step rfl (OT.arith (r' := ((j2 - 1 : Nat) : Int)) rfl rfl rfl rfl rfl rfl (by omega) (by omega) ?_)
        repeat (first|refine q4 tab rfl rfl ?_|refine q5 ?_|refine q6 ?_|refine q7 ?_)
        exact ⟨j2 - 1, (by repeat (first|exact trivial|refine And.intro rfl ?_)), (by repeat (first|exact trivial|refine And.intro rfl ?_)), rfl, rfl, (by repeat (exact List.Sublist.refl _)), ⟨by omega, hP2.right (by omega) hc2⟩, by omega⟩
      | true =>
        repeat (first|refine q1 ?_|refine q3 ?_|refine q4 tab rfl rfl ?_|refine q5 ?_|refine q6 ?_|refine q10 ?_|refine q11 ?_|refine q14 ?_|refine q17 rfl ?_)
        refine TC.condP rfl (fun hgt => ?_) (fun hgt => ?_)
        · have hN := hP2.done (by omega) (by omega)
          repeat (refine q1 ?_)
          refine TC.draw [13, 14, 15] mixed 16 rfl [chR bd zs] L (by first | exact List.Perm.refl _ | (rw [List.append_nil]; exact List.Perm.refl _)) ?_
          refine DO.pure tab (by repeat (first|exact Calm.ret|refine Calm.then ?_)) (by kernel_rfl) [0, 1, 2, 3, 4, 5] (by kernel_rfl) rfl ?_
          refine DO.indexP (sz := 2) tab 6 a (by repeat (first|exact Calm.ret|refine Calm.then ?_)) (by kernel_rfl) (by kernel_rfl) rfl rfl rfl rfl rfl rfl rfl rfl rfl (by omega) ?_
          refine DO.loadE (jj := 0) tab 7 0 rCh (gk_get (xs := zs) (k := a) (by omega)) (by simp only [rCh]; omega) (fun _ => rfl) (by repeat (first|exact Calm.ret|refine Calm.then ?_)) (by kernel_rfl) (by kernel_rfl) rfl rfl rfl rfl rfl rfl rfl ?_
          refine DO.pure tab (by repeat (first|exact Calm.ret|refine Calm.then ?_)) (by kernel_rfl) [8, 9] (by kernel_rfl) rfl ?_
          refine DO.indexP (sz := 2) tab 10 j2 (by repeat (first|exact Calm.ret|refine Calm.then ?_)) (by kernel_rfl) (by kernel_rfl) rfl rfl rfl rfl rfl rfl rfl rfl rfl (by omega) ?_
          refine DO.loadE (jj := 0) tab 11 0 rCh (gk_get (xs := zs) (k := j2) (by omega)) (by simp only [rCh]; omega) (fun _ => rfl) (by repeat (first|exact Calm.ret|refine Calm.then ?_)) (by kernel_rfl) (by kernel_rfl) rfl rfl rfl rfl rfl rfl rfl ?_
          refine DO.indexP (sz := 2) tab 12 j2 (by repeat (first|exact Calm.ret|refine Calm.then ?_)) (by kernel_rfl) (by kernel_rfl) rfl rfl rfl rfl rfl rfl rfl rfl rfl (by omega) ?_
          refine DO.tail ?_
          refine DOt.run 13 rfl rfl (by kernel_rfl) rfl ?_
          refine OT.storeE (h2 := gk zs a) tab 0 rCh (gk_get (xs := zs) (k := j2) (by omega)) (j := 0) (by simp only [rCh]; omega) (fun _ => rfl) (Nat.le_refl _) rfl rfl rfl rfl rfl rfl rfl ?_
          refine DOt.run 14 rfl rfl (by kernel_rfl) rfl ?_
          refine OT.indexP (sz := 2) tab a rfl rfl rfl rfl rfl rfl rfl (by omega) ?_
          refine DOt.run 15 rfl rfl (by kernel_rfl) rfl ?_
          refine OT.storeE (h2 := gk zs j2) (h := gk (List.set zs j2 (gk zs a)) a) tab 0 rCh (k := a) (gk_get (by simp; omega)) (j := 0) (by simp only [rCh]; omega) (fun _ => rfl) (Nat.le_refl _) rfl rfl rfl rfl rfl rfl rfl ?_
          refine DOt.nil (by kernel_rfl) ?_
          rotate_left 1
          repeat (first|refine q1 ?_|refine q3 ?_|refine q4 tab rfl rfl ?_|refine q5 ?_|refine q6 ?_|refine q8 ?_|refine q15 ?_)
          refine retQ_ret rfl (L' := chR bd (sw zs j2 a) :: L) (by repeat (exact List.Sublist.refl _)) ⟨rfl, sw zs j2 a, j2, _, rfl, hN.base hS0, rfl⟩
        · have hpair : ltC (gk zs i) (gk zs a) = false ∧ ltC (gk zs j2) (gk zs a) = true := by
            constructor
            · first | exact hc1 | (exfalso; omega)
            · first | exact hc2 | (exfalso; omega)
          obtain ⟨hN, hlt⟩ := hP2.swap (by omega) (by omega) hpair.1 hpair.2
          repeat (first|refine q1 ?_|refine q6 ?_|refine q13 ?_)
          refine TC.draw [13, 14, 15] mixed 16 rfl [chR bd zs] L (by first | exact List.Perm.refl _ | (rw [List.append_nil]; exact List.Perm.refl _)) ?_
          refine DO.pure tab (by repeat (first|exact Calm.ret|refine Calm.then ?_)) (by kernel_rfl) [0, 1, 2, 3, 4, 5] (by kernel_rfl) rfl ?_
          refine DO.indexP (sz := 2) tab 6 j2 (by repeat (first|exact Calm.ret|refine Calm.then ?_)) (by kernel_rfl) (by kernel_rfl) rfl rfl rfl rfl rfl rfl rfl rfl rfl (by omega) ?_
          refine DO.loadE (jj := 0) tab 7 0 rCh (gk_get (xs := zs) (k := j2) (by omega)) (by simp only [rCh]; omega) (fun _ => rfl) (by repeat (first|exact Calm.ret|refine Calm.then ?_)) (by kernel_rfl) (by kernel_rfl) rfl rfl rfl rfl rfl rfl rfl ?_
          refine DO.pure tab (by repeat (first|exact Calm.ret|refine Calm.then ?_)) (by kernel_rfl) [8, 9] (by kernel_rfl) rfl ?_
          refine DO.indexP (sz := 2) tab 10 i (by repeat (first|exact Calm.ret|refine Calm.then ?_)) (by kernel_rfl) (by kernel_rfl) rfl rfl rfl rfl rfl rfl rfl rfl rfl (by omega) ?_
          refine DO.loadE (jj := 0) tab 11 0 rCh (gk_get (xs := zs) (k := i) (by omega)) (by simp only [rCh]; omega) (fun _ => rfl) (by repeat (first|exact Calm.ret|refine Calm.then ?_)) (by kernel_rfl) (by kernel_rfl) rfl rfl rfl rfl rfl rfl rfl ?_
          refine DO.indexP (sz := 2) tab 12 i (by repeat (first|exact Calm.ret|refine Calm.then ?_)) (by kernel_rfl) (by kernel_rfl) rfl rfl rfl rfl rfl rfl rfl rfl rfl (by omega) ?_
          refine DO.tail ?_
          refine DOt.run 13 rfl rfl (by kernel_rfl) rfl ?_
          refine OT.storeE (h2 := gk zs j2) tab 0 rCh (gk_get (xs := zs) (k := i) (by omega)) (j := 0) (by simp only [rCh]; omega) (fun _ => rfl) (Nat.le_refl _) rfl rfl rfl rfl rfl rfl rfl ?_
          refine DOt.run 14 rfl rfl (by kernel_rfl) rfl ?_
          refine OT.indexP (sz := 2) tab j2 rfl rfl rfl rfl rfl rfl rfl (by omega) ?_
          refine DOt.run 15 rfl rfl (by kernel_rfl) rfl ?_
          refine OT.storeE (h2 := gk zs i) (h := gk (List.set zs i (gk zs j2)) j2) tab 0 rCh (k := j2) (gk_get (by simp; omega)) (j := 0) (by simp only [rCh]; omega) (fun _ => rfl) (Nat.le_refl _) rfl rfl rfl rfl rfl rfl rfl ?_
          refine DOt.nil (by kernel_rfl) ?_
          rotate_left 1
          repeat (first|refine q1 ?_|refine q3 ?_|refine q4 tab rfl rfl ?_|refine q6 ?_)
          refine TO.step rfl (OT.arith (r' := ((i + 1 : Nat) : Int)) rfl rfl rfl rfl rfl rfl rfl (by omega) ?_)
          repeat (first|refine q1 ?_|refine q3 ?_|refine q4 tab rfl rfl ?_|refine q5 ?_|refine q6 ?_)
          refine TO.step rfl (OT.arith (r' := ((j2 - 1 : Nat) : Int)) rfl rfl rfl rfl rfl rfl (by omega) (by omega) ?_)
          repeat (first|refine q1 ?_|refine q2 ?_|refine q4 tab rfl rfl ?_|refine q5 ?_|refine q6 ?_)
          refine TC.loopK (ι := Nat × Nat × List Ch) [0, 1, 4] rfl (fun x => [(12, .int .i64 (x.1 : Int)), (13, .int .i64 (x.2.1 : Int))]) (fun _ => m) (fun x => chR bd x.2.2 :: L) (fun x => PaI ltC (sw xs a p) a b x.1 x.2.1 x.2.2) (fun x => b + 1 + x.2.1 - x.1) (i + 1, j2 - 1, sw zs i j2) (by repeat (first|exact trivial|refine And.intro rfl ?_)) rfl (by repeat (exact List.Sublist.refl _)) hN ?_
          clear hN hpair hP hP2 hc1 hc2
          rintro ⟨i, j, ws⟩ hP
          simp only at hP ⊢
          have hwl := hP.seg.len
          have hD : DomC ws := hDs.perm hP.seg.perm
          repeat (first|refine q1 ?_|refine q2 ?_)
          refine TC.loopK (ι := Nat) [0, 1, 4, 13] rfl (fun i => [(12, .int .i64 (i : Int))]) (fun _ => m) (fun _ => chR bd ws :: L) (fun k => i ≤ k ∧ PaI ltC (sw xs a p) a b k j ws) (fun k => b + 1 - k) i (by repeat (first|exact trivial|refine And.intro rfl ?_)) rfl (by repeat (exact List.Sublist.refl _)) ⟨Nat.le_refl _, hP⟩ ?_
          clear hP
          obtain ⟨i0, hi0⟩ : ∃ i0, i0 = i := ⟨_, rfl⟩
          rw [← hi0]
          clear hi0
          rintro i ⟨hi0, hP⟩
          have hr := hP.rng
          repeat (refine q1 ?_)
          refine TC.draw [] mixed 16 rfl [chR bd ws] L (by first | exact List.Perm.refl _ | (rw [List.append_nil]; exact List.Perm.refl _)) ?_
          refine DO.pure tab (by repeat (first|exact Calm.ret|refine Calm.then ?_|refine Calm.block ?_)) (by kernel_rfl) [0, 1, 2, 3] (by kernel_rfl) rfl ?_
          (refine DO.splitP (d := 108) rfl (fun hg3 => ?_) (fun hg3 => ?_))
          refine DO.pure tab (by repeat (first|exact Calm.ret|refine Calm.then ?_|refine Calm.block ?_)) (by kernel_rfl) [4, 5, 6] (by kernel_rfl) rfl ?_
          refine DO.indexP (sz := 2) tab 7 i (by repeat (first|exact Calm.ret|refine Calm.then ?_|refine Calm.block ?_)) (by kernel_rfl) (by kernel_rfl) rfl rfl rfl rfl rfl rfl rfl rfl rfl (by omega) ?_
          refine DO.loadE (jj := 0) tab 8 0 rCh (gk_get (xs := ws) (k := i) (by omega)) (by simp only [rCh]; omega) (fun _ => rfl) (by repeat (first|exact Calm.ret|refine Calm.then ?_|refine Calm.block ?_)) (by kernel_rfl) (by kernel_rfl) rfl rfl rfl rfl rfl rfl rfl ?_
          refine DO.pure tab (by repeat (first|exact Calm.ret|refine Calm.then ?_|refine Calm.block ?_)) (by kernel_rfl) [9, 10] (by kernel_rfl) rfl ?_
          refine DO.indexP (sz := 2) tab 11 a (by repeat (first|exact Calm.ret|refine Calm.then ?_|refine Calm.block ?_)) (by kernel_rfl) (by kernel_rfl) rfl rfl rfl rfl rfl rfl rfl rfl rfl (by omega) ?_
          refine DO.loadE (jj := 0) tab 12 0 rCh (gk_get (xs := ws) (k := a) (by omega)) (by simp only [rCh]; omega) (fun _ => rfl) (by repeat (first|exact Calm.ret|refine Calm.then ?_|refine Calm.block ?_)) (by kernel_rfl) (by kernel_rfl) rfl rfl rfl rfl rfl rfl rfl ?_
          refine DO.run 13 rfl rfl (by kernel_rfl) rfl (OT.call rfl rfl rfl rfl rfl rfl goes23 ((chcmp_law m _ (gk ws i) (gk ws a) (hD.gk (by omega)) (hD.gk (by omega))).x ?_))
          rintro _ _ _ ⟨rfl, rfl, rfl⟩; refine ⟨Mem.le_refl _, _, List.Perm.refl _, ?_⟩
          refine DO.pure tab (by repeat (first|exact Calm.ret|refine Calm.then ?_|refine Calm.block ?_)) (by kernel_rfl) [14, 15] (by kernel_rfl) rfl ?_
          (refine DO.nil (by kernel_rfl) ?_)
          rotate_left 1
          refine DO.pure tab (by repeat (first|exact Calm.ret|refine Calm.then ?_|refine Calm.block ?_)) (by kernel_rfl) [4, 5, 6, 7, 8, 9, 10, 11, 12, 13, 14, 15] (by kernel_rfl) rfl ?_
          (refine DO.nil (by kernel_rfl) ?_)
          rotate_left 1
          · repeat (refine q6 ?_)
            simp only [ch_dec]
            cases hc1 : ltC (gk ws i) (gk ws a) with
            | true =>
              repeat (first|refine q2 ?_|refine q3 ?_|refine q4 tab rfl rfl ?_|refine q6 ?_|refine q13 ?_|refine q16 rfl ?_)
              refine TO.step rfl (OT.arith (r' := ((i + 1 : Nat) : Int)) rfl rfl rfl rfl rfl rfl rfl (by omega) ?_)
              repeat (first|refine q4 tab rfl rfl ?_|refine q5 ?_|refine q6 ?_|refine q7 ?_)
              exact ⟨i + 1, (by repeat (first|exact trivial|refine And.intro rfl ?_)), (by repeat (first|exact trivial|refine And.intro rfl ?_)), rfl, rfl, (by repeat (exact List.Sublist.refl _)), ⟨by omega, hP.left (by omega) hc1⟩, by omega⟩
            | false =>
              repeat (first|refine q1 ?_|refine q2 ?_|refine q6 ?_|refine q10 ?_|refine q11 ?_|refine q14 ?_|refine q17 rfl ?_)
              refine TC.loopK (ι := Nat) [0, 1, 4, 12] rfl (fun j => [(13, .int .i64 (j : Int))]) (fun _ => m) (fun _ => chR bd ws :: L) (fun j2 => j2 ≤ j ∧ PaI ltC (sw xs a p) a b i j2 ws) (fun j => j) j (by repeat (first|exact trivial|refine And.intro rfl ?_)) rfl (by repeat (exact List.Sublist.refl _)) ⟨Nat.le_refl _, hP⟩ ?_
              rintro j2 ⟨hj2, hP2⟩
              have hr2 := hP2.rng
              repeat (refine q1 ?_)
              refine TC.draw [] mixed 17 rfl [chR bd ws] L (by first | exact List.Perm.refl _ | (rw [List.append_nil]; exact List.Perm.refl _)) ?_
              refine DO.pure tab (by repeat (first|exact Calm.ret|refine Calm.then ?_|refine Calm.block ?_)) (by kernel_rfl) [0, 1, 2, 3] (by kernel_rfl) rfl ?_
              (refine DO.splitP (d := 126) rfl (fun hg3 => ?_) (fun hg3 => ?_))
              refine DO.pure tab (by repeat (first|exact Calm.ret|refine Calm.then ?_|refine Calm.block ?_)) (by kernel_rfl) [4, 5, 6] (by kernel_rfl) rfl ?_
              refine DO.indexP (sz := 2) tab 7 j2 (by repeat (first|exact Calm.ret|refine Calm.then ?_|refine Calm.block ?_)) (by kernel_rfl) (by kernel_rfl) rfl rfl rfl rfl rfl rfl rfl rfl rfl (by omega) ?_
              refine DO.loadE (jj := 0) tab 8 0 rCh (gk_get (xs := ws) (k := j2) (by omega)) (by simp only [rCh]; omega) (fun _ => rfl) (by repeat (first|exact Calm.ret|refine Calm.then ?_|refine Calm.block ?_)) (by kernel_rfl) (by kernel_rfl) rfl rfl rfl rfl rfl rfl rfl ?_
              refine DO.pure tab (by repeat (first|exact Calm.ret|refine Calm.then ?_|refine Calm.block ?_)) (by kernel_rfl) [9, 10] (by kernel_rfl) rfl ?_
              refine DO.indexP (sz := 2) tab 11 a (by repeat (first|exact Calm.ret|refine Calm.then ?_|refine Calm.block ?_)) (by kernel_rfl) (by kernel_rfl) rfl rfl rfl rfl rfl rfl rfl rfl rfl (by omega) ?_
              refine DO.loadE (jj := 0) tab 12 0 rCh (gk_get (xs := ws) (k := a) (by omega)) (by simp only [rCh]; omega) (fun _ => rfl) (by repeat (first|exact Calm.ret|refine Calm.then ?_|refine Calm.block ?_)) (by kernel_rfl) (by kernel_rfl) rfl rfl rfl rfl rfl rfl rfl ?_
              refine DO.run 13 rfl rfl (by kernel_rfl) rfl (OT.call rfl rfl rfl rfl rfl rfl goes23 ((chcmp_law m _ (gk ws j2) (gk ws a) (hD.gk (by omega)) (hD.gk (by omega))).x ?_))
              rintro _ _ _ ⟨rfl, rfl, rfl⟩; refine ⟨Mem.le_refl _, _, List.Perm.refl _, ?_⟩
              refine DO.pure tab (by repeat (first|exact Calm.ret|refine Calm.then ?_|refine Calm.block ?_)) (by kernel_rfl) [14, 15, 16] (by kernel_rfl) rfl ?_
              (refine DO.nil (by kernel_rfl) ?_)
              rotate_left 1
              refine DO.pure tab (by repeat (first|exact Calm.ret|refine Calm.then ?_|refine Calm.block ?_)) (by kernel_rfl) [4, 5, 6, 7, 8, 9, 10, 11, 12, 13, 14, 15, 16] (by kernel_rfl) rfl ?_
              (refine DO.nil (by kernel_rfl) ?_)
              rotate_left 1
              · repeat (refine q6 ?_)
                simp only [ch_dec]
                cases hc2 : ltC (gk ws j2) (gk ws a) with
                | false =>
                  repeat (first|refine q2 ?_|refine q3 ?_|refine q4 tab rfl rfl ?_|refine q6 ?_|refine q13 ?_|refine q16 rfl ?_)
                  refine TO.step rfl (OT.arith (r' := ((j2 - 1 : Nat) : Int)) rfl rfl rfl rfl rfl rfl (by omega) (by omega) ?_)
                  repeat (first|refine q4 tab rfl rfl ?_|refine q5 ?_|refine q6 ?_|refine q7 ?_)
                  exact ⟨j2 - 1, (by repeat (first|exact trivial|refine And.intro rfl ?_)), (by repeat (first|exact trivial|refine And.intro rfl ?_)), rfl, rfl, (by repeat (exact List.Sublist.refl _)), ⟨by omega, hP2.right (by omega) hc2⟩, by omega⟩
                | true =>
                  repeat (first|refine q1 ?_|refine q3 ?_|refine q4 tab rfl rfl ?_|refine q5 ?_|refine q6 ?_|refine q10 ?_|refine q11 ?_|refine q14 ?_|refine q17 rfl ?_)
                  refine TC.condP rfl (fun hgt => ?_) (fun hgt => ?_)
                  · have hN := hP2.done (by omega) (by omega)
                    repeat (first|refine q1 ?_|refine q6 ?_|refine q10 ?_|refine q11 ?_|refine q12 rfl ?_|refine q14 ?_)
                    refine TC.draw [13, 14, 15] mixed 16 rfl [chR bd ws] L (by first | exact List.Perm.refl _ | (rw [List.append_nil]; exact List.Perm.refl _)) ?_
                    refine DO.pure tab (by repeat (first|exact Calm.ret|refine Calm.then ?_)) (by kernel_rfl) [0, 1, 2, 3, 4, 5] (by kernel_rfl) rfl ?_
                    refine DO.indexP (sz := 2) tab 6 a (by repeat (first|exact Calm.ret|refine Calm.then ?_)) (by kernel_rfl) (by kernel_rfl) rfl rfl rfl rfl rfl rfl rfl rfl rfl (by omega) ?_
                    refine DO.loadE (jj := 0) tab 7 0 rCh (gk_get (xs := ws) (k := a) (by omega)) (by simp only [rCh]; omega) (fun _ => rfl) (by repeat (first|exact Calm.ret|refine Calm.then ?_)) (by kernel_rfl) (by kernel_rfl) rfl rfl rfl rfl rfl rfl rfl ?_
                    refine DO.pure tab (by repeat (first|exact Calm.ret|refine Calm.then ?_)) (by kernel_rfl) [8, 9] (by kernel_rfl) rfl ?_
                    refine DO.indexP (sz := 2) tab 10 j2 (by repeat (first|exact Calm.ret|refine Calm.then ?_)) (by kernel_rfl) (by kernel_rfl) rfl rfl rfl rfl rfl rfl rfl rfl rfl (by omega) ?_
                    refine DO.loadE (jj := 0) tab 11 0 rCh (gk_get (xs := ws) (k := j2) (by omega)) (by simp only [rCh]; omega) (fun _ => rfl) (by repeat (first|exact Calm.ret|refine Calm.then ?_)) (by kernel_rfl) (by kernel_rfl) rfl rfl rfl rfl rfl rfl rfl ?_
                    refine DO.indexP (sz := 2) tab 12 j2 (by repeat (first|exact Calm.ret|refine Calm.then ?_)) (by kernel_rfl) (by kernel_rfl) rfl rfl rfl rfl rfl rfl rfl rfl rfl (by omega) ?_
                    refine DO.tail ?_
                    refine DOt.run 13 rfl rfl (by kernel_rfl) rfl ?_
                    refine OT.storeE (h2 := gk ws a) tab 0 rCh (gk_get (xs := ws) (k := j2) (by omega)) (j := 0) (by simp only [rCh]; omega) (fun _ => rfl) (Nat.le_refl _) rfl rfl rfl rfl rfl rfl rfl ?_
                    refine DOt.run 14 rfl rfl (by kernel_rfl) rfl ?_
                    refine OT.indexP (sz := 2) tab a rfl rfl rfl rfl rfl rfl rfl (by omega) ?_
                    refine DOt.run 15 rfl rfl (by kernel_rfl) rfl ?_
                    refine OT.storeE (h2 := gk ws j2) (h := gk (List.set ws j2 (gk ws a)) a) tab 0 rCh (k := a) (gk_get (by simp; omega)) (j := 0) (by simp only [rCh]; omega) (fun _ => rfl) (Nat.le_refl _) rfl rfl rfl rfl rfl rfl rfl ?_
                    refine DOt.nil (by kernel_rfl) ?_
                    rotate_left 1
                    repeat (first|refine q1 ?_|refine q3 ?_|refine q4 tab rfl rfl ?_|refine q5 ?_|refine q6 ?_|refine q15 ?_)
                    refine retQ_ret rfl (L' := chR bd (sw ws j2 a) :: L) (by repeat (exact List.Sublist.refl _)) ⟨rfl, sw ws j2 a, j2, _, rfl, hN.base hS0, rfl⟩
                  · have hpair : ltC (gk ws i) (gk ws a) = false ∧ ltC (gk ws j2) (gk ws a) = true := by
                      constructor
                      · first | exact hc1 | (exfalso; omega)
                      · first | exact hc2 | (exfalso; omega)
                    obtain ⟨hN, hlt⟩ := hP2.swap (by omega) (by omega) hpair.1 hpair.2
                    repeat (first|refine q1 ?_|refine q6 ?_|refine q13 ?_)
                    refine TC.draw [13, 14, 15] mixed 16 rfl [chR bd ws] L (by first | exact List.Perm.refl _ | (rw [List.append_nil]; exact List.Perm.refl _)) ?_
                    refine DO.pure tab (by repeat (first|exact Calm.ret|refine Calm.then ?_|refine Calm.block ?_)) (by kernel_rfl) [0, 1, 2, 3, 4, 5] (by kernel_rfl) rfl ?_
                    refine DO.indexP (sz := 2) tab 6 j2 (by repeat (first|exact Calm.ret|refine Calm.then ?_|refine Calm.block ?_)) (by kernel_rfl) (by kernel_rfl) rfl rfl rfl rfl rfl rfl rfl rfl rfl (by omega) ?_
                    refine DO.loadE (jj := 0) tab 7 0 rCh (gk_get (xs := ws) (k := j2) (by omega)) (by simp only [rCh]; omega) (fun _ => rfl) (by repeat (first|exact Calm.ret|refine Calm.then ?_|refine Calm.block ?_)) (by kernel_rfl) (by kernel_rfl) rfl rfl rfl rfl rfl rfl rfl ?_
                    refine DO.pure tab (by repeat (first|exact Calm.ret|refine Calm.then ?_|refine Calm.block ?_)) (by kernel_rfl) [8, 9] (by kernel_rfl) rfl ?_
                    refine DO.indexP (sz := 2) tab 10 i (by repeat (first|exact Calm.ret|refine Calm.then ?_|refine Calm.block ?_)) (by kernel_rfl) (by kernel_rfl) rfl rfl rfl rfl rfl rfl rfl rfl rfl (by omega) ?_
                    refine DO.loadE (jj := 0) tab 11 0 rCh (gk_get (xs := ws) (k := i) (by omega)) (by simp only [rCh]; omega) (fun _ => rfl) (by repeat (first|exact Calm.ret|refine Calm.then ?_|refine Calm.block ?_)) (by kernel_rfl) (by kernel_rfl) rfl rfl rfl rfl rfl rfl rfl ?_
                    refine DO.indexP (sz := 2) tab 12 i (by repeat (first|exact Calm.ret|refine Calm.then ?_|refine Calm.block ?_)) (by kernel_rfl) (by kernel_rfl) rfl rfl rfl rfl rfl rfl rfl rfl rfl (by omega) ?_
                    refine DO.tail ?_
                    refine DOt.run 13 rfl rfl (by kernel_rfl) rfl ?_
                    refine OT.storeE (h2 := gk ws j2) tab 0 rCh (gk_get (xs := ws) (k := i) (by omega)) (j := 0) (by simp only [rCh]; omega) (fun _ => rfl) (Nat.le_refl _) rfl rfl rfl rfl rfl rfl rfl ?_
                    refine DOt.run 14 rfl rfl (by kernel_rfl) rfl ?_
                    refine OT.indexP (sz := 2) tab j2 rfl rfl rfl rfl rfl rfl rfl (by omega) ?_
                    refine DOt.run 15 rfl rfl (by kernel_rfl) rfl ?_
                    refine OT.storeE (h2 := gk ws i) (h := gk (List.set ws i (gk ws j2)) j2) tab 0 rCh (k := j2) (gk_get (by simp; omega)) (j := 0) (by simp only [rCh]; omega) (fun _ => rfl) (Nat.le_refl _) rfl rfl rfl rfl rfl rfl rfl ?_
                    refine DOt.nil (by kernel_rfl) ?_
                    rotate_left 1
                    repeat (first|refine q1 ?_|refine q3 ?_|refine q4 tab rfl rfl ?_|refine q6 ?_)
                    refine TO.step rfl (OT.arith (r' := ((i + 1 : Nat) : Int)) rfl rfl rfl rfl rfl rfl rfl (by omega) ?_)
                    repeat (first|refine q3 ?_|refine q4 tab rfl rfl ?_|refine q5 ?_|refine q6 ?_)
                    refine TO.step rfl (OT.arith (r' := ((j2 - 1 : Nat) : Int)) rfl rfl rfl rfl rfl rfl (by omega) (by omega) ?_)
                    repeat (first|refine q4 tab rfl rfl ?_|refine q5 ?_|refine q6 ?_|refine q7 ?_)
                    exact ⟨(i + 1, j2 - 1, sw ws i j2), (by repeat (first|exact trivial|refine And.intro rfl ?_)), (by repeat (first|exact trivial|refine And.intro rfl ?_)), rfl, rfl, (by repeat (exact List.Sublist.refl _)), hN, by simp only; omega⟩
              · have hc2 : j2 < i := by omega
                repeat (first|refine q1 ?_|refine q3 ?_|refine q4 tab rfl rfl ?_|refine q5 ?_|refine q6 ?_|refine q10 ?_|refine q11 ?_|refine q14 ?_|refine q17 rfl ?_)
                refine TC.condP rfl (fun hgt => ?_) (fun hgt => ?_)
                · have hN := hP2.done (by omega) (by omega)
                  repeat (first|refine q1 ?_|refine q6 ?_|refine q10 ?_|refine q11 ?_|refine q12 rfl ?_|refine q14 ?_)
                  refine TC.draw [13, 14, 15] mixed 16 rfl [chR bd ws] L (by first | exact List.Perm.refl _ | (rw [List.append_nil]; exact List.Perm.refl _)) ?_
                  refine DO.pure tab (by repeat (first|exact Calm.ret|refine Calm.then ?_)) (by kernel_rfl) [0, 1, 2, 3, 4, 5] (by kernel_rfl) rfl ?_
                  refine DO.indexP (sz := 2) tab 6 a (by repeat (first|exact Calm.ret|refine Calm.then ?_)) (by kernel_rfl) (by kernel_rfl) rfl rfl rfl rfl rfl rfl rfl rfl rfl (by omega) ?_
                  refine DO.loadE (jj := 0) tab 7 0 rCh (gk_get (xs := ws) (k := a) (by omega)) (by simp only [rCh]; omega) (fun _ => rfl) (by repeat (first|exact Calm.ret|refine Calm.then ?_)) (by kernel_rfl) (by kernel_rfl) rfl rfl rfl rfl rfl rfl rfl ?_
                  refine DO.pure tab (by repeat (first|exact Calm.ret|refine Calm.then ?_)) (by kernel_rfl) [8, 9] (by kernel_rfl) rfl ?_
                  refine DO.indexP (sz := 2) tab 10 j2 (by repeat (first|exact Calm.ret|refine Calm.then ?_)) (by kernel_rfl) (by kernel_rfl) rfl rfl rfl rfl rfl rfl rfl rfl rfl (by omega) ?_
                  refine DO.loadE (jj := 0) tab 11 0 rCh (gk_get (xs := ws) (k := j2) (by omega)) (by simp only [rCh]; omega) (fun _ => rfl) (by repeat (first|exact Calm.ret|refine Calm.then ?_)) (by kernel_rfl) (by kernel_rfl) rfl rfl rfl rfl rfl rfl rfl ?_
                  refine DO.indexP (sz := 2) tab 12 j2 (by repeat (first|exact Calm.ret|refine Calm.then ?_)) (by kernel_rfl) (by kernel_rfl) rfl rfl rfl rfl rfl rfl rfl rfl rfl (by omega) ?_
                  refine DO.tail ?_
                  refine DOt.run 13 rfl rfl (by kernel_rfl) rfl ?_
                  refine OT.storeE (h2 := gk ws a) tab 0 rCh (gk_get (xs := ws) (k := j2) (by omega)) (j := 0) (by simp only [rCh]; omega) (fun _ => rfl) (Nat.le_refl _) rfl rfl rfl rfl rfl rfl rfl ?_
                  refine DOt.run 14 rfl rfl (by kernel_rfl) rfl ?_
                  refine OT.indexP (sz := 2) tab a rfl rfl rfl rfl rfl rfl rfl (by omega) ?_
                  refine DOt.run 15 rfl rfl (by kernel_rfl) rfl ?_
                  refine OT.storeE (h2 := gk ws j2) (h := gk (List.set ws j2 (gk ws a)) a) tab 0 rCh (k := a) (gk_get (by simp; omega)) (j := 0) (by simp only [rCh]; omega) (fun _ => rfl) (Nat.le_refl _) rfl rfl rfl rfl rfl rfl rfl ?_
                  refine DOt.nil (by kernel_rfl) ?_
                  rotate_left 1
                  repeat (first|refine q1 ?_|refine q3 ?_|refine q4 tab rfl rfl ?_|refine q5 ?_|refine q6 ?_|refine q15 ?_)
                  refine retQ_ret rfl (L' := chR bd (sw ws j2 a) :: L) (by repeat (exact List.Sublist.refl _)) ⟨rfl, sw ws j2 a, j2, _, rfl, hN.base hS0, rfl⟩
                · have hpair : ltC (gk ws i) (gk ws a) = false ∧ ltC (gk ws j2) (gk ws a) = true := by
                    constructor
                    · first | exact hc1 | (exfalso; omega)
                    · first | exact hc2 | (exfalso; omega)
                  obtain ⟨hN, hlt⟩ := hP2.swap (by omega) (by omega) hpair.1 hpair.2
                  repeat (first|refine q1 ?_|refine q6 ?_|refine q13 ?_)
                  refine TC.draw [13, 14, 15] mixed 16 rfl [chR bd ws] L (by first | exact List.Perm.refl _ | (rw [List.append_nil]; exact List.Perm.refl _)) ?_
                  refine DO.pure tab (by repeat (first|exact Calm.ret|refine Calm.then ?_|refine Calm.block ?_)) (by kernel_rfl) [0, 1, 2, 3, 4, 5] (by kernel_rfl) rfl ?_
                  refine DO.indexP (sz := 2) tab 6 j2 (by repeat (first|exact Calm.ret|refine Calm.then ?_|refine Calm.block ?_)) (by kernel_rfl) (by kernel_rfl) rfl rfl rfl rfl rfl rfl rfl rfl rfl (by omega) ?_
                  refine DO.loadE (jj := 0) tab 7 0 rCh (gk_get (xs := ws) (k := j2) (by omega)) (by simp only [rCh]; omega) (fun _ => rfl) (by repeat (first|exact Calm.ret|refine Calm.then ?_|refine Calm.block ?_)) (by kernel_rfl) (by kernel_rfl) rfl rfl rfl rfl rfl rfl rfl ?_
                  refine DO.pure tab (by repeat (first|exact Calm.ret|refine Calm.then ?_|refine Calm.block ?_)) (by kernel_rfl) [8, 9] (by kernel_rfl) rfl ?_
                  refine DO.indexP (sz := 2) tab 10 i (by repeat (first|exact Calm.ret|refine Calm.then ?_|refine Calm.block ?_)) (by kernel_rfl) (by kernel_rfl) rfl rfl rfl rfl rfl rfl rfl rfl rfl (by omega) ?_
                  refine DO.loadE (jj := 0) tab 11 0 rCh (gk_get (xs := ws) (k := i) (by omega)) (by simp only [rCh]; omega) (fun _ => rfl) (by repeat (first|exact Calm.ret|refine Calm.then ?_|refine Calm.block ?_)) (by kernel_rfl) (by kernel_rfl) rfl rfl rfl rfl rfl rfl rfl ?_
                  refine DO.indexP (sz := 2) tab 12 i (by repeat (first|exact Calm.ret|refine Calm.then ?_|refine Calm.block ?_)) (by kernel_rfl) (by kernel_rfl) rfl rfl rfl rfl rfl rfl rfl rfl rfl (by omega) ?_
                  refine DO.tail ?_
                  refine DOt.run 13 rfl rfl (by kernel_rfl) rfl ?_
                  refine OT.storeE (h2 := gk ws j2) tab 0 rCh (gk_get (xs := ws) (k := i) (by omega)) (j := 0) (by simp only [rCh]; omega) (fun _ => rfl) (Nat.le_refl _) rfl rfl rfl rfl rfl rfl rfl ?_
                  refine DOt.run 14 rfl rfl (by kernel_rfl) rfl ?_
                  refine OT.indexP (sz := 2) tab j2 rfl rfl rfl rfl rfl rfl rfl (by omega) ?_
                  refine DOt.run 15 rfl rfl (by kernel_rfl) rfl ?_
                  refine OT.storeE (h2 := gk ws i) (h := gk (List.set ws i (gk ws j2)) j2) tab 0 rCh (k := j2) (gk_get (by simp; omega)) (j := 0) (by simp only [rCh]; omega) (fun _ => rfl) (Nat.le_refl _) rfl rfl rfl rfl rfl rfl rfl ?_
                  refine DOt.nil (by kernel_rfl) ?_
                  rotate_left 1
                  repeat (first|refine q1 ?_|refine q3 ?_|refine q4 tab rfl rfl ?_|refine q6 ?_)
                  refine TO.step rfl (OT.arith (r' := ((i + 1 : Nat) : Int)) rfl rfl rfl rfl rfl rfl rfl (by omega) ?_)
                  repeat (first|refine q3 ?_|refine q4 tab rfl rfl ?_|refine q5 ?_|refine q6 ?_)
                  refine TO.step rfl (OT.arith (r' := ((j2 - 1 : Nat) : Int)) rfl rfl rfl rfl rfl rfl (by omega) (by omega) ?_)
                  repeat (first|refine q4 tab rfl rfl ?_|refine q5 ?_|refine q6 ?_|refine q7 ?_)
                  exact ⟨(i + 1, j2 - 1, sw ws i j2), (by repeat (first|exact trivial|refine And.intro rfl ?_)), (by repeat (first|exact trivial|refine And.intro rfl ?_)), rfl, rfl, (by repeat (exact List.Sublist.refl _)), hN, by simp only; omega⟩
          · have hc1 : j < i := by omega
            repeat (first|refine q1 ?_|refine q2 ?_|refine q6 ?_|refine q10 ?_|refine q11 ?_|refine q14 ?_|refine q17 rfl ?_)
            refine TC.loopK (ι := Nat) [0, 1, 4, 12] rfl (fun j => [(13, .int .i64 (j : Int))]) (fun _ => m) (fun _ => chR bd ws :: L) (fun j2 => j2 ≤ j ∧ PaI ltC (sw xs a p) a b i j2 ws) (fun j => j) j (by repeat (first|exact trivial|refine And.intro rfl ?_)) rfl (by repeat (exact List.Sublist.refl _)) ⟨Nat.le_refl _, hP⟩ ?_
            rintro j2 ⟨hj2, hP2⟩
            have hr2 := hP2.rng
            repeat (refine q1 ?_)
            refine TC.draw [] mixed 17 rfl [chR bd ws] L (by first | exact List.Perm.refl _ | (rw [List.append_nil]; exact List.Perm.refl _)) ?_
            refine DO.pure tab (by repeat (first|exact Calm.ret|refine Calm.then ?_|refine Calm.block ?_)) (by kernel_rfl) [0, 1, 2, 3] (by kernel_rfl) rfl ?_
            (refine DO.splitP (d := 126) rfl (fun hg3 => ?_) (fun hg3 => ?_))
            refine DO.pure tab (by repeat (first|exact Calm.ret|refine Calm.then ?_|refine Calm.block ?_)) (by kernel_rfl) [4, 5, 6] (by kernel_rfl) rfl ?_
            refine DO.indexP (sz := 2) tab 7 j2 (by repeat (first|exact Calm.ret|refine Calm.then ?_|refine Calm.block ?_)) (by kernel_rfl) (by kernel_rfl) rfl rfl rfl rfl rfl rfl rfl rfl rfl (by omega) ?_
            refine DO.loadE (jj := 0) tab 8 0 rCh (gk_get (xs := ws) (k := j2) (by omega)) (by simp only [rCh]; omega) (fun _ => rfl) (by repeat (first|exact Calm.ret|refine Calm.then ?_|refine Calm.block ?_)) (by kernel_rfl) (by kernel_rfl) rfl rfl rfl rfl rfl rfl rfl ?_
            refine DO.pure tab (by repeat (first|exact Calm.ret|refine Calm.then ?_|refine Calm.block ?_)) (by kernel_rfl) [9, 10] (by kernel_rfl) rfl ?_
            refine DO.indexP (sz := 2) tab 11 a (by repeat (first|exact Calm.ret|refine Calm.then ?_|refine Calm.block ?_)) (by kernel_rfl) (by kernel_rfl) rfl rfl rfl rfl rfl rfl rfl rfl rfl (by omega) ?_
            refine DO.loadE (jj := 0) tab 12 0 rCh (gk_get (xs := ws) (k := a) (by omega)) (by simp only [rCh]; omega) (fun _ => rfl) (by repeat (first|exact Calm.ret|refine Calm.then ?_|refine Calm.block ?_)) (by kernel_rfl) (by kernel_rfl) rfl rfl rfl rfl rfl rfl rfl ?_
            refine DO.run 13 rfl rfl (by kernel_rfl) rfl (OT.call rfl rfl rfl rfl rfl rfl goes23 ((chcmp_law m _ (gk ws j2) (gk ws a) (hD.gk (by omega)) (hD.gk (by omega))).x ?_))
            rintro _ _ _ ⟨rfl, rfl, rfl⟩; refine ⟨Mem.le_refl _, _, List.Perm.refl _, ?_⟩
            refine DO.pure tab (by repeat (first|exact Calm.ret|refine Calm.then ?_|refine Calm.block ?_)) (by kernel_rfl) [14, 15, 16] (by kernel_rfl) rfl ?_
            (refine DO.nil (by kernel_rfl) ?_)
            rotate_left 1
            refine DO.pure tab (by repeat (first|exact Calm.ret|refine Calm.then ?_|refine Calm.block ?_)) (by kernel_rfl) [4, 5, 6, 7, 8, 9, 10, 11, 12, 13, 14, 15, 16] (by kernel_rfl) rfl ?_
            (refine DO.nil (by kernel_rfl) ?_)
            rotate_left 1
            · repeat (refine q6 ?_)
              simp only [ch_dec]
              cases hc2 : ltC (gk ws j2) (gk ws a) with
              | false =>
                repeat (first|refine q2 ?_|refine q3 ?_|refine q4 tab rfl rfl ?_|refine q6 ?_|refine q13 ?_|refine q16 rfl ?_)
                refine TO.step rfl (OT.arith (r' := ((j2 - 1 : Nat) : Int)) rfl rfl rfl rfl rfl rfl (by omega) (by omega) ?_)
                repeat (first|refine q4 tab rfl rfl ?_|refine q5 ?_|refine q6 ?_|refine q7 ?_)
                exact ⟨j2 - 1, (by repeat (first|exact trivial|refine And.intro rfl ?_)), (by repeat (first|exact trivial|refine And.intro rfl ?_)), rfl, rfl, (by repeat (exact List.Sublist.refl _)), ⟨by omega, hP2.right (by omega) hc2⟩, by omega⟩
              | true =>
                repeat (first|refine q1 ?_|refine q3 ?_|refine q4 tab rfl rfl ?_|refine q5 ?_|refine q6 ?_|refine q10 ?_|refine q11 ?_|refine q14 ?_|refine q17 rfl ?_)
                refine TC.condP rfl (fun hgt => ?_) (fun hgt => ?_)
                · have hN := hP2.done (by omega) (by omega)
                  repeat (first|refine q1 ?_|refine q6 ?_|refine q10 ?_|refine q11 ?_|refine q12 rfl ?_|refine q14 ?_)
                  refine TC.draw [13, 14, 15] mixed 16 rfl [chR bd ws] L (by first | exact List.Perm.refl _ | (rw [List.append_nil]; exact List.Perm.refl _)) ?_
                  refine DO.pure tab (by repeat (first|exact Calm.ret|refine Calm.then ?_)) (by kernel_rfl) [0, 1, 2, 3, 4, 5] (by kernel_rfl) rfl ?_
                  refine DO.indexP (sz := 2) tab 6 a (by repeat (first|exact Calm.ret|refine Calm.then ?_)) (by kernel_rfl) (by kernel_rfl) rfl rfl rfl rfl rfl rfl rfl rfl rfl (by omega) ?_
                  refine DO.loadE (jj := 0) tab 7 0 rCh (gk_get (xs := ws) (k := a) (by omega)) (by simp only [rCh]; omega) (fun _ => rfl) (by repeat (first|exact Calm.ret|refine Calm.then ?_)) (by kernel_rfl) (by kernel_rfl) rfl rfl rfl rfl rfl rfl rfl ?_
                  refine DO.pure tab (by repeat (first|exact Calm.ret|refine Calm.then ?_)) (by kernel_rfl) [8, 9] (by kernel_rfl) rfl ?_
                  refine DO.indexP (sz := 2) tab 10 j2 (by repeat (first|exact Calm.ret|refine Calm.then ?_)) (by kernel_rfl) (by kernel_rfl) rfl rfl rfl rfl rfl rfl rfl rfl rfl (by omega) ?_
                  refine DO.loadE (jj := 0) tab 11 0 rCh (gk_get (xs := ws) (k := j2) (by omega)) (by simp only [rCh]; omega) (fun _ => rfl) (by repeat (first|exact Calm.ret|refine Calm.then ?_)) (by kernel_rfl) (by kernel_rfl) rfl rfl rfl rfl rfl rfl rfl ?_
                  refine DO.indexP (sz := 2) tab 12 j2 (by repeat (first|exact Calm.ret|refine Calm.then ?_)) (by kernel_rfl) (by kernel_rfl) rfl rfl rfl rfl rfl rfl rfl rfl rfl (by omega) ?_
                  refine DO.tail ?_
                  refine DOt.run 13 rfl rfl (by kernel_rfl) rfl ?_
                  refine OT.storeE (h2 := gk ws a) tab 0 rCh (gk_get (xs := ws) (k := j2) (by omega)) (j := 0) (by simp only [rCh]; omega) (fun _ => rfl) (Nat.le_refl _) rfl rfl rfl rfl rfl rfl rfl ?_
                  refine DOt.run 14 rfl rfl (by kernel_rfl) rfl ?_
                  refine OT.indexP (sz := 2) tab a rfl rfl rfl rfl rfl rfl rfl (by omega) ?_
                  refine DOt.run 15 rfl rfl (by kernel_rfl) rfl ?_
                  refine OT.storeE (h2 := gk ws j2) (h := gk (List.set ws j2 (gk ws a)) a) tab 0 rCh (k := a) (gk_get (by simp; omega)) (j := 0) (by simp only [rCh]; omega) (fun _ => rfl) (Nat.le_refl _) rfl rfl rfl rfl rfl rfl rfl ?_
                  refine DOt.nil (by kernel_rfl) ?_
                  rotate_left 1
                  repeat (first|refine q1 ?_|refine q3 ?_|refine q4 tab rfl rfl ?_|refine q5 ?_|refine q6 ?_|refine q15 ?_)
                  refine retQ_ret rfl (L' := chR bd (sw ws j2 a) :: L) (by repeat (exact List.Sublist.refl _)) ⟨rfl, sw ws j2 a, j2, _, rfl, hN.base hS0, rfl⟩
                · have hpair : ltC (gk ws i) (gk ws a) = false ∧ ltC (gk ws j2) (gk ws a) = true := by
                    constructor
                    · first | exact hc1 | (exfalso; omega)
                    · first | exact hc2 | (exfalso; omega)
                  obtain ⟨hN, hlt⟩ := hP2.swap (by omega) (by omega) hpair.1 hpair.2
                  repeat (first|refine q1 ?_|refine q6 ?_|refine q13 ?_)
                  refine TC.draw [13, 14, 15] mixed 16 rfl [chR bd ws] L (by first | exact List.Perm.refl _ | (rw [List.append_nil]; exact List.Perm.refl _)) ?_
                  refine DO.pure tab (by repeat (first|exact Calm.ret|refine Calm.then ?_|refine Calm.block ?_)) (by kernel_rfl) [0, 1, 2, 3, 4, 5] (by kernel_rfl) rfl ?_
                  refine DO.indexP (sz := 2) tab 6 j2 (by repeat (first|exact Calm.ret|refine Calm.then ?_|refine Calm.block ?_)) (by kernel_rfl) (by kernel_rfl) rfl rfl rfl rfl rfl rfl rfl rfl rfl (by omega) ?_
                  refine DO.loadE (jj := 0) tab 7 0 rCh (gk_get (xs := ws) (k := j2) (by omega)) (by simp only [rCh]; omega) (fun _ => rfl) (by repeat (first|exact Calm.ret|refine Calm.then ?_|refine Calm.block ?_)) (by kernel_rfl) (by kernel_rfl) rfl rfl rfl rfl rfl rfl rfl ?_
                  refine DO.pure tab (by repeat (first|exact Calm.ret|refine Calm.then ?_|refine Calm.block ?_)) (by kernel_rfl) [8, 9] (by kernel_rfl) rfl ?_
                  refine DO.indexP (sz := 2) tab 10 i (by repeat (first|exact Calm.ret|refine Calm.then ?_|refine Calm.block ?_)) (by kernel_rfl) (by kernel_rfl) rfl rfl rfl rfl rfl rfl rfl rfl rfl (by omega) ?_
                  refine DO.loadE (jj := 0) tab 11 0 rCh (gk_get (xs := ws) (k := i) (by omega)) (by simp only [rCh]; omega) (fun _ => rfl) (by repeat (first|exact Calm.ret|refine Calm.then ?_|refine Calm.block ?_)) (by kernel_rfl) (by kernel_rfl) rfl rfl rfl rfl rfl rfl rfl ?_
                  refine DO.indexP (sz := 2) tab 12 i (by repeat (first|exact Calm.ret|refine Calm.then ?_|refine Calm.block ?_)) (by kernel_rfl) (by kernel_rfl) rfl rfl rfl rfl rfl rfl rfl rfl rfl (by omega) ?_
                  refine DO.tail ?_
                  refine DOt.run 13 rfl rfl (by kernel_rfl) rfl ?_
                  refine OT.storeE (h2 := gk ws j2) tab 0 rCh (gk_get (xs := ws) (k := i) (by omega)) (j := 0) (by simp only [rCh]; omega) (fun _ => rfl) (Nat.le_refl _) rfl rfl rfl rfl rfl rfl rfl ?_
                  refine DOt.run 14 rfl rfl (by kernel_rfl) rfl ?_
                  refine OT.indexP (sz := 2) tab j2 rfl rfl rfl rfl rfl rfl rfl (by omega) ?_
                  refine DOt.run 15 rfl rfl (by kernel_rfl) rfl ?_
                  refine OT.storeE (h2 := gk ws i) (h := gk (List.set ws i (gk ws j2)) j2) tab 0 rCh (k := j2) (gk_get (by simp; omega)) (j := 0) (by simp only [rCh]; omega) (fun _ => rfl) (Nat.le_refl _) rfl rfl rfl rfl rfl rfl rfl ?_
                  refine DOt.nil (by kernel_rfl) ?_
                  rotate_left 1
                  repeat (first|refine q1 ?_|refine q3 ?_|refine q4 tab rfl rfl ?_|refine q6 ?_)
                  refine TO.step rfl (OT.arith (r' := ((i + 1 : Nat) : Int)) rfl rfl rfl rfl rfl rfl rfl (by omega) ?_)
                  repeat (first|refine q3 ?_|refine q4 tab rfl rfl ?_|refine q5 ?_|refine q6 ?_)
                  refine TO.step rfl (OT.arith (r' := ((j2 - 1 : Nat) : Int)) rfl rfl rfl rfl rfl rfl (by omega) (by omega) ?_)
                  repeat (first|refine q4 tab rfl rfl ?_|refine q5 ?_|refine q6 ?_|refine q7 ?_)
                  exact ⟨(i + 1, j2 - 1, sw ws i j2), (by repeat (first|exact trivial|refine And.intro rfl ?_)), (by repeat (first|exact trivial|refine And.intro rfl ?_)), rfl, rfl, (by repeat (exact List.Sublist.refl _)), hN, by simp only; omega⟩
            · have hc2 : j2 < i := by omega
              repeat (first|refine q1 ?_|refine q3 ?_|refine q4 tab rfl rfl ?_|refine q5 ?_|refine q6 ?_|refine q10 ?_|refine q11 ?_|refine q14 ?_|refine q17 rfl ?_)
              refine TC.condP rfl (fun hgt => ?_) (fun hgt => ?_)
              · have hN := hP2.done (by omega) (by omega)
                repeat (first|refine q1 ?_|refine q6 ?_|refine q10 ?_|refine q11 ?_|refine q12 rfl ?_|refine q14 ?_)
                refine TC.draw [13, 14, 15] mixed 16 rfl [chR bd ws] L (by first | exact List.Perm.refl _ | (rw [List.append_nil]; exact List.Perm.refl _)) ?_
                refine DO.pure tab (by repeat (first|exact Calm.ret|refine Calm.then ?_)) (by kernel_rfl) [0, 1, 2, 3, 4, 5] (by kernel_rfl) rfl ?_
                refine DO.indexP (sz := 2) tab 6 a (by repeat (first|exact Calm.ret|refine Calm.then ?_)) (by kernel_rfl) (by kernel_rfl) rfl rfl rfl rfl rfl rfl rfl rfl rfl (by omega) ?_
                refine DO.loadE (jj := 0) tab 7 0 rCh (gk_get (xs := ws) (k := a) (by omega)) (by simp only [rCh]; omega) (fun _ => rfl) (by repeat (first|exact Calm.ret|refine Calm.then ?_)) (by kernel_rfl) (by kernel_rfl) rfl rfl rfl rfl rfl rfl rfl ?_
                refine DO.pure tab (by repeat (first|exact Calm.ret|refine Calm.then ?_)) (by kernel_rfl) [8, 9] (by kernel_rfl) rfl ?_
                refine DO.indexP (sz := 2) tab 10 j2 (by repeat (first|exact Calm.ret|refine Calm.then ?_)) (by kernel_rfl) (by kernel_rfl) rfl rfl rfl rfl rfl rfl rfl rfl rfl (by omega) ?_
                refine DO.loadE (jj := 0) tab 11 0 rCh (gk_get (xs := ws) (k := j2) (by omega)) (by simp only [rCh]; omega) (fun _ => rfl) (by repeat (first|exact Calm.ret|refine Calm.then ?_)) (by kernel_rfl) (by kernel_rfl) rfl rfl rfl rfl rfl rfl rfl ?_
                refine DO.indexP (sz := 2) tab 12 j2 (by repeat (first|exact Calm.ret|refine Calm.then ?_)) (by kernel_rfl) (by kernel_rfl) rfl rfl rfl rfl rfl rfl rfl rfl rfl (by omega) ?_
                refine DO.tail ?_
                refine DOt.run 13 rfl rfl (by kernel_rfl) rfl ?_
                refine OT.storeE (h2 := gk ws a) tab 0 rCh (gk_get (xs := ws) (k := j2) (by omega)) (j := 0) (by simp only [rCh]; omega) (fun _ => rfl) (Nat.le_refl _) rfl rfl rfl rfl rfl rfl rfl ?_
                refine DOt.run 14 rfl rfl (by kernel_rfl) rfl ?_
                refine OT.indexP (sz := 2) tab a rfl rfl rfl rfl rfl rfl rfl (by omega) ?_
                refine DOt.run 15 rfl rfl (by kernel_rfl) rfl ?_
                refine OT.storeE (h2 := gk ws j2) (h := gk (List.set ws j2 (gk ws a)) a) tab 0 rCh (k := a) (gk_get (by simp; omega)) (j := 0) (by simp only [rCh]; omega) (fun _ => rfl) (Nat.le_refl _) rfl rfl rfl rfl rfl rfl rfl ?_
                refine DOt.nil (by kernel_rfl) ?_
                rotate_left 1
                repeat (first|refine q1 ?_|refine q3 ?_|refine q4 tab rfl rfl ?_|refine q5 ?_|refine q6 ?_|refine q15 ?_)
                refine retQ_ret rfl (L' := chR bd (sw ws j2 a) :: L) (by repeat (exact List.Sublist.refl _)) ⟨rfl, sw ws j2 a, j2, _, rfl, hN.base hS0, rfl⟩
              · have hpair : ltC (gk ws i) (gk ws a) = false ∧ ltC (gk ws j2) (gk ws a) = true := by
                  constructor
                  · first | exact hc1 | (exfalso; omega)
                  · first | exact hc2 | (exfalso; omega)
                obtain ⟨hN, hlt⟩ := hP2.swap (by omega) (by omega) hpair.1 hpair.2
                repeat (first|refine q1 ?_|refine q6 ?_|refine q13 ?_)
                refine TC.draw [13, 14, 15] mixed 16 rfl [chR bd ws] L (by first | exact List.Perm.refl _ | (rw [List.append_nil]; exact List.Perm.refl _)) ?_
                refine DO.pure tab (by repeat (first|exact Calm.ret|refine Calm.then ?_|refine Calm.block ?_)) (by kernel_rfl) [0, 1, 2, 3, 4, 5] (by kernel_rfl) rfl ?_
                refine DO.indexP (sz := 2) tab 6 j2 (by repeat (first|exact Calm.ret|refine Calm.then ?_|refine Calm.block ?_)) (by kernel_rfl) (by kernel_rfl) rfl rfl rfl rfl rfl rfl rfl rfl rfl (by omega) ?_
                refine DO.loadE (jj := 0) tab 7 0 rCh (gk_get (xs := ws) (k := j2) (by omega)) (by simp only [rCh]; omega) (fun _ => rfl) (by repeat (first|exact Calm.ret|refine Calm.then ?_|refine Calm.block ?_)) (by kernel_rfl) (by kernel_rfl) rfl rfl rfl rfl rfl rfl rfl ?_
                refine DO.pure tab (by repeat (first|exact Calm.ret|refine Calm.then ?_|refine Calm.block ?_)) (by kernel_rfl) [8, 9] (by kernel_rfl) rfl ?_
                refine DO.indexP (sz := 2) tab 10 i (by repeat (first|exact Calm.ret|refine Calm.then ?_|refine Calm.block ?_)) (by kernel_rfl) (by kernel_rfl) rfl rfl rfl rfl rfl rfl rfl rfl rfl (by omega) ?_
                refine DO.loadE (jj := 0) tab 11 0 rCh (gk_get (xs := ws) (k := i) (by omega)) (by simp only [rCh]; omega) (fun _ => rfl) (by repeat (first|exact Calm.ret|refine Calm.then ?_|refine Calm.block ?_)) (by kernel_rfl) (by kernel_rfl) rfl rfl rfl rfl rfl rfl rfl ?_
                refine DO.indexP (sz := 2) tab 12 i (by repeat (first|exact Calm.ret|refine Calm.then ?_|refine Calm.block ?_)) (by kernel_rfl) (by kernel_rfl) rfl rfl rfl rfl rfl rfl rfl rfl rfl (by omega) ?_
                refine DO.tail ?_
                refine DOt.run 13 rfl rfl (by kernel_rfl) rfl ?_
                refine OT.storeE (h2 := gk ws j2) tab 0 rCh (gk_get (xs := ws) (k := i) (by omega)) (j := 0) (by simp only [rCh]; omega) (fun _ => rfl) (Nat.le_refl _) rfl rfl rfl rfl rfl rfl rfl ?_
                refine DOt.run 14 rfl rfl (by kernel_rfl) rfl ?_
                refine OT.indexP (sz := 2) tab j2 rfl rfl rfl rfl rfl rfl rfl (by omega) ?_
                refine DOt.run 15 rfl rfl (by kernel_rfl) rfl ?_
                refine OT.storeE (h2 := gk ws i) (h := gk (List.set ws i (gk ws j2)) j2) tab 0 rCh (k := j2) (gk_get (by simp; omega)) (j := 0) (by simp only [rCh]; omega) (fun _ => rfl) (Nat.le_refl _) rfl rfl rfl rfl rfl rfl rfl ?_
                refine DOt.nil (by kernel_rfl) ?_
                rotate_left 1
                repeat (first|refine q1 ?_|refine q3 ?_|refine q4 tab rfl rfl ?_|refine q6 ?_)
                refine TO.step rfl (OT.arith (r' := ((i + 1 : Nat) : Int)) rfl rfl rfl rfl rfl rfl rfl (by omega) ?_)
                repeat (first|refine q3 ?_|refine q4 tab rfl rfl ?_|refine q5 ?_|refine q6 ?_)
                refine TO.step rfl (OT.arith (r' := ((j2 - 1 : Nat) : Int)) rfl rfl rfl rfl rfl rfl (by omega) (by omega) ?_)
                repeat (first|refine q4 tab rfl rfl ?_|refine q5 ?_|refine q6 ?_|refine q7 ?_)
                exact ⟨(i + 1, j2 - 1, sw ws i j2), (by repeat (first|exact trivial|refine And.intro rfl ?_)), (by repeat (first|exact trivial|refine And.intro rfl ?_)), rfl, rfl, (by repeat (exact List.Sublist.refl _)), hN, by simp only; omega⟩
    · have hc2 : j2 < i := by omega
      repeat (first|refine q1 ?_|refine q3 ?_|refine q4 tab rfl rfl ?_|refine q5 ?_|refine q6 ?_|refine q10 ?_|refine q11 ?_|refine q14 ?_|refine q17 rfl ?_)
      refine TC.condP rfl (fun hgt => ?_) (fun hgt => ?_)
      · have hN := hP2.done (by omega) (by omega)
        repeat (refine q1 ?_)
        refine TC.draw [13, 14, 15] mixed 16 rfl [chR bd zs] L (by first | exact List.Perm.refl _ | (rw [List.append_nil]; exact List.Perm.refl _)) ?_
        refine DO.pure tab (by repeat (first|exact Calm.ret|refine Calm.then ?_)) (by kernel_rfl) [0, 1, 2, 3, 4, 5] (by kernel_rfl) rfl ?_
        refine DO.indexP (sz := 2) tab 6 a (by repeat (first|exact Calm.ret|refine Calm.then ?_)) (by kernel_rfl) (by kernel_rfl) rfl rfl rfl rfl rfl rfl rfl rfl rfl (by omega) ?_
        refine DO.loadE (jj := 0) tab 7 0 rCh (gk_get (xs := zs) (k := a) (by omega)) (by simp only [rCh]; omega) (fun _ => rfl) (by repeat (first|exact Calm.ret|refine Calm.then ?_)) (by kernel_rfl) (by kernel_rfl) rfl rfl rfl rfl rfl rfl rfl ?_
        refine DO.pure tab (by repeat (first|exact Calm.ret|refine Calm.then ?_)) (by kernel_rfl) [8, 9] (by kernel_rfl) rfl ?_
        refine DO.indexP (sz := 2) tab 10 j2 (by repeat (first|exact Calm.ret|refine Calm.then ?_)) (by kernel_rfl) (by kernel_rfl) rfl rfl rfl rfl rfl rfl rfl rfl rfl (by omega) ?_
        refine DO.loadE (jj := 0) tab 11 0 rCh (gk_get (xs := zs) (k := j2) (by omega)) (by simp only [rCh]; omega) (fun _ => rfl) (by repeat (first|exact Calm.ret|refine Calm.then ?_)) (by kernel_rfl) (by kernel_rfl) rfl rfl rfl rfl rfl rfl rfl ?_
        refine DO.indexP (sz := 2) tab 12 j2 (by repeat (first|exact Calm.ret|refine Calm.then ?_)) (by kernel_rfl) (by kernel_rfl) rfl rfl rfl rfl rfl rfl rfl rfl rfl (by omega) ?_
        refine DO.tail ?_
        refine DOt.run 13 rfl rfl (by kernel_rfl) rfl ?_
        refine OT.storeE (h2 := gk zs a) tab 0 rCh (gk_get (xs := zs) (k := j2) (by omega)) (j := 0) (by simp only [rCh]; omega) (fun _ => rfl) (Nat.le_refl _) rfl rfl rfl rfl rfl rfl rfl ?_
        refine DOt.run 14 rfl rfl (by kernel_rfl) rfl ?_
        refine OT.indexP (sz := 2) tab a rfl rfl rfl rfl rfl rfl rfl (by omega) ?_
        refine DOt.run 15 rfl rfl (by kernel_rfl) rfl ?_
        refine OT.storeE (h2 := gk zs j2) (h := gk (List.set zs j2 (gk zs a)) a) tab 0 rCh (k := a) (gk_get (by simp; omega)) (j := 0) (by simp only [rCh]; omega) (fun _ => rfl) (Nat.le_refl _) rfl rfl rfl rfl rfl rfl rfl ?_
        refine DOt.nil (by kernel_rfl) ?_
        rotate_left 1
        repeat (first|refine q1 ?_|refine q3 ?_|refine q4 tab rfl rfl ?_|refine q5 ?_|refine q6 ?_|refine q8 ?_|refine q15 ?_)
        refine retQ_ret rfl (L' := chR bd (sw zs j2 a) :: L) (by repeat (exact List.Sublist.refl _)) ⟨rfl, sw zs j2 a, j2, _, rfl, hN.base hS0, rfl⟩
      · have hpair : ltC (gk zs i) (gk zs a) = false ∧ ltC (gk zs j2) (gk zs a) = true := by
          constructor
          · first | exact hc1 | (exfalso; omega)
          · first | exact hc2 | (exfalso; omega)
        obtain ⟨hN, hlt⟩ := hP2.swap (by omega) (by omega) hpair.1 hpair.2
        repeat (first|refine q1 ?_|refine q6 ?_|refine q13 ?_)
        refine TC.draw [13, 14, 15] mixed 16 rfl [chR bd zs] L (by first | exact List.Perm.refl _ | (rw [List.append_nil]; exact List.Perm.refl _)) ?_
        refine DO.pure tab (by repeat (first|exact Calm.ret|refine Calm.then ?_)) (by kernel_rfl) [0, 1, 2, 3, 4, 5] (by kernel_rfl) rfl ?_
        refine DO.indexP (sz := 2) tab 6 j2 (by repeat (first|exact Calm.ret|refine Calm.then ?_)) (by kernel_rfl) (by kernel_rfl) rfl rfl rfl rfl rfl rfl rfl rfl rfl (by omega) ?_
        refine DO.loadE (jj := 0) tab 7 0 rCh (gk_get (xs := zs) (k := j2) (by omega)) (by simp only [rCh]; omega) (fun _ => rfl) (by repeat (first|exact Calm.ret|refine Calm.then ?_)) (by kernel_rfl) (by kernel_rfl) rfl rfl rfl rfl rfl rfl rfl ?_
        refine DO.pure tab (by repeat (first|exact Calm.ret|refine Calm.then ?_)) (by kernel_rfl) [8, 9] (by kernel_rfl) rfl ?_
        refine DO.indexP (sz := 2) tab 10 i (by repeat (first|exact Calm.ret|refine Calm.then ?_)) (by kernel_rfl) (by kernel_rfl) rfl rfl rfl rfl rfl rfl rfl rfl rfl (by omega) ?_
        refine DO.loadE (jj := 0) tab 11 0 rCh (gk_get (xs := zs) (k := i) (by omega)) (by simp only [rCh]; omega) (fun _ => rfl) (by repeat (first|exact Calm.ret|refine Calm.then ?_)) (by kernel_rfl) (by kernel_rfl) rfl rfl rfl rfl rfl rfl rfl ?_
        refine DO.indexP (sz := 2) tab 12 i (by repeat (first|exact Calm.ret|refine Calm.then ?_)) (by kernel_rfl) (by kernel_rfl) rfl rfl rfl rfl rfl rfl rfl rfl rfl (by omega) ?_
        refine DO.tail ?_
        refine DOt.run 13 rfl rfl (by kernel_rfl) rfl ?_
        refine OT.storeE (h2 := gk zs j2) tab 0 rCh (gk_get (xs := zs) (k := i) (by omega)) (j := 0) (by simp only [rCh]; omega) (fun _ => rfl) (Nat.le_refl _) rfl rfl rfl rfl rfl rfl rfl ?_
        refine DOt.run 14 rfl rfl (by kernel_rfl) rfl ?_
        refine OT.indexP (sz := 2) tab j2 rfl rfl rfl rfl rfl rfl rfl (by omega) ?_
        refine DOt.run 15 rfl rfl (by kernel_rfl) rfl ?_
        refine OT.storeE (h2 := gk zs i) (h := gk (List.set zs i (gk zs j2)) j2) tab 0 rCh (k := j2) (gk_get (by simp; omega)) (j := 0) (by simp only [rCh]; omega) (fun _ => rfl) (Nat.le_refl _) rfl rfl rfl rfl rfl rfl rfl ?_
        refine DOt.nil (by kernel_rfl) ?_
        rotate_left 1
        repeat (first|refine q1 ?_|refine q3 ?_|refine q4 tab rfl rfl ?_|refine q6 ?_)
        refine TO.step rfl (OT.arith (r' := ((i + 1 : Nat) : Int)) rfl rfl rfl rfl rfl rfl rfl (by omega) ?_)
        repeat (first|refine q1 ?_|refine q3 ?_|refine q4 tab rfl rfl ?_|refine q5 ?_|refine q6 ?_)
        refine TO.step rfl (OT.arith (r' := ((j2 - 1 : Nat) : Int)) rfl rfl rfl rfl rfl rfl (by omega) (by omega) ?_)
        repeat (first|refine q1 ?_|refine q2 ?_|refine q4 tab rfl rfl ?_|refine q5 ?_|refine q6 ?_)
        refine TC.loopK (ι := Nat × Nat × List Ch) [0, 1, 4] rfl (fun x => [(12, .int .i64 (x.1 : Int)), (13, .int .i64 (x.2.1 : Int))]) (fun _ => m) (fun x => chR bd x.2.2 :: L) (fun x => PaI ltC (sw xs a p) a b x.1 x.2.1 x.2.2) (fun x => b + 1 + x.2.1 - x.1) (i + 1, j2 - 1, sw zs i j2) (by repeat (first|exact trivial|refine And.intro rfl ?_)) rfl (by repeat (exact List.Sublist.refl _)) hN ?_
        clear hN hpair hP hP2 hc1 hc2
        rintro ⟨i, j, ws⟩ hP
        simp only at hP ⊢
        have hwl := hP.seg.len
        have hD : DomC ws := hDs.perm hP.seg.perm
        repeat (first|refine q1 ?_|refine q2 ?_)
        refine TC.loopK (ι := Nat) [0, 1, 4, 13] rfl (fun i => [(12, .int .i64 (i : Int))]) (fun _ => m) (fun _ => chR bd ws :: L) (fun k => i ≤ k ∧ PaI ltC (sw xs a p) a b k j ws) (fun k => b + 1 - k) i (by repeat (first|exact trivial|refine And.intro rfl ?_)) rfl (by repeat (exact List.Sublist.refl _)) ⟨Nat.le_refl _, hP⟩ ?_
        clear hP
        obtain ⟨i0, hi0⟩ : ∃ i0, i0 = i := ⟨_, rfl⟩
        rw [← hi0]
        clear hi0
        rintro i ⟨hi0, hP⟩
        have hr := hP.rng
        repeat (refine q1 ?_)
        refine TC.draw [] mixed 16 rfl [chR bd ws] L (by first | exact List.Perm.refl _ | (rw [List.append_nil]; exact List.Perm.refl _)) ?_
        refine DO.pure tab (by repeat (first|exact Calm.ret|refine Calm.then ?_|refine Calm.block ?_)) (by kernel_rfl) [0, 1, 2, 3] (by kernel_rfl) rfl ?_
        (refine DO.splitP (d := 108) rfl (fun hg3 => ?_) (fun hg3 => ?_))
        refine DO.pure tab (by repeat (first|exact Calm.ret|refine Calm.then ?_|refine Calm.block ?_)) (by kernel_rfl) [4, 5, 6] (by kernel_rfl) rfl ?_
        refine DO.indexP (sz := 2) tab 7 i (by repeat (first|exact Calm.ret|refine Calm.then ?_|refine Calm.block ?_)) (by kernel_rfl) (by kernel_rfl) rfl rfl rfl rfl rfl rfl rfl rfl rfl (by omega) ?_
        refine DO.loadE (jj := 0) tab 8 0 rCh (gk_get (xs := ws) (k := i) (by omega)) (by simp only [rCh]; omega) (fun _ => rfl) (by repeat (first|exact Calm.ret|refine Calm.then ?_|refine Calm.block ?_)) (by kernel_rfl) (by kernel_rfl) rfl rfl rfl rfl rfl rfl rfl ?_
        refine DO.pure tab (by repeat (first|exact Calm.ret|refine Calm.then ?_|refine Calm.block ?_)) (by kernel_rfl) [9, 10] (by kernel_rfl) rfl ?_
        refine DO.indexP (sz := 2) tab 11 a (by repeat (first|exact Calm.ret|refine Calm.then ?_|refine Calm.block ?_)) (by kernel_rfl) (by kernel_rfl) rfl rfl rfl rfl rfl rfl rfl rfl rfl (by omega) ?_
        refine DO.loadE (jj := 0) tab 12 0 rCh (gk_get (xs := ws) (k := a) (by omega)) (by simp only [rCh]; omega) (fun _ => rfl) (by repeat (first|exact Calm.ret|refine Calm.then ?_|refine Calm.block ?_)) (by kernel_rfl) (by kernel_rfl) rfl rfl rfl rfl rfl rfl rfl ?_
        refine DO.run 13 rfl rfl (by kernel_rfl) rfl (OT.call rfl rfl rfl rfl rfl rfl goes23 ((chcmp_law m _ (gk ws i) (gk ws a) (hD.gk (by omega)) (hD.gk (by omega))).x ?_))
        rintro _ _ _ ⟨rfl, rfl, rfl⟩; refine ⟨Mem.le_refl _, _, List.Perm.refl _, ?_⟩
        refine DO.pure tab (by repeat (first|exact Calm.ret|refine Calm.then ?_|refine Calm.block ?_)) (by kernel_rfl) [14, 15] (by kernel_rfl) rfl ?_
        (refine DO.nil (by kernel_rfl) ?_)
        rotate_left 1
        refine DO.pure tab (by repeat (first|exact Calm.ret|refine Calm.then ?_|refine Calm.block ?_)) (by kernel_rfl) [4, 5, 6, 7, 8, 9, 10, 11, 12, 13, 14, 15] (by kernel_rfl) rfl ?_
        (refine DO.nil (by kernel_rfl) ?_)
        rotate_left 1
        · repeat (refine q6 ?_)
          simp only [ch_dec]
          cases hc1 : ltC (gk ws i) (gk ws a) with
          | true =>
            repeat (first|refine q2 ?_|refine q3 ?_|refine q4 tab rfl rfl ?_|refine q6 ?_|refine q13 ?_|refine q16 rfl ?_)
            refine TO.step rfl (OT.arith (r' := ((i + 1 : Nat) : Int)) rfl rfl rfl rfl rfl rfl rfl (by omega) ?_)
            repeat (first|refine q4 tab rfl rfl ?_|refine q5 ?_|refine q6 ?_|refine q7 ?_)
            exact ⟨i + 1, (by repeat (first|exact trivial|refine And.intro rfl ?_)), (by repeat (first|exact trivial|refine And.intro rfl ?_)), rfl, rfl, (by repeat (exact List.Sublist.refl _)), ⟨by omega, hP.left (by omega) hc1⟩, by omega⟩
          | false =>
            repeat (first|refine q1 ?_|refine q2 ?_|refine q6 ?_|refine q10 ?_|refine q11 ?_|refine q14 ?_|refine q17 rfl ?_)
            refine TC.loopK (ι := Nat) [0, 1, 4, 12] rfl (fun j => [(13, .int .i64 (j : Int))]) (fun _ => m) (fun _ => chR bd ws :: L) (fun j2 => j2 ≤ j ∧ PaI ltC (sw xs a p) a b i j2 ws) (fun j => j) j (by repeat (first|exact trivial|refine And.intro rfl ?_)) rfl (by repeat (exact List.Sublist.refl _)) ⟨Nat.le_refl _, hP⟩ ?_
            rintro j2 ⟨hj2, hP2⟩
            have hr2 := hP2.rng
            repeat (refine q1 ?_)
            refine TC.draw [] mixed 17 rfl [chR bd ws] L (by first | exact List.Perm.refl _ | (rw [List.append_nil]; exact List.Perm.refl _)) ?_
            refine DO.pure tab (by repeat (first|exact Calm.ret|refine Calm.then ?_|refine Calm.block ?_)) (by kernel_rfl) [0, 1, 2, 3] (by kernel_rfl) rfl ?_
            (refine DO.splitP (d := 126) rfl (fun hg3 => ?_) (fun hg3 => ?_))
            refine DO.pure tab (by repeat (first|exact Calm.ret|refine Calm.then ?_|refine Calm.block ?_)) (by kernel_rfl) [4, 5, 6] (by kernel_rfl) rfl ?_
            refine DO.indexP (sz := 2) tab 7 j2 (by repeat (first|exact Calm.ret|refine Calm.then ?_|refine Calm.block ?_)) (by kernel_rfl) (by kernel_rfl) rfl rfl rfl rfl rfl rfl rfl rfl rfl (by omega) ?_
            refine DO.loadE (jj := 0) tab 8 0 rCh (gk_get (xs := ws) (k := j2) (by omega)) (by simp only [rCh]; omega) (fun _ => rfl) (by repeat (first|exact Calm.ret|refine Calm.then ?_|refine Calm.block ?_)) (by kernel_rfl) (by kernel_rfl) rfl rfl rfl rfl rfl rfl rfl ?_
            refine DO.pure tab (by repeat (first|exact Calm.ret|refine Calm.then ?_|refine Calm.block ?_)) (by kernel_rfl) [9, 10] (by kernel_rfl) rfl ?_
            refine DO.indexP (sz := 2) tab 11 a (by repeat (first|exact Calm.ret|refine Calm.then ?_|refine Calm.block ?_)) (by kernel_rfl) (by kernel_rfl) rfl rfl rfl rfl rfl rfl rfl rfl rfl (by omega) ?_
            refine DO.loadE (jj := 0) tab 12 0 rCh (gk_get (xs := ws) (k := a) (by omega)) (by simp only [rCh]; omega) (fun _ => rfl) (by repeat (first|exact Calm.ret|refine Calm.then ?_|refine Calm.block ?_)) (by kernel_rfl) (by kernel_rfl) rfl rfl rfl rfl rfl rfl rfl ?_
            refine DO.run 13 rfl rfl (by kernel_rfl) rfl (OT.call rfl rfl rfl rfl rfl rfl goes23 ((chcmp_law m _ (gk ws j2) (gk ws a) (hD.gk (by omega)) (hD.gk (by omega))).x ?_))
            rintro _ _ _ ⟨rfl, rfl, rfl⟩; refine ⟨Mem.le_refl _, _, List.Perm.refl _, ?_⟩
            refine DO.pure tab (by repeat (first|exact Calm.ret|refine Calm.then ?_|refine Calm.block ?_)) (by kernel_rfl) [14, 15, 16] (by kernel_rfl) rfl ?_
            (refine DO.nil (by kernel_rfl) ?_)
            rotate_left 1
            refine DO.pure tab (by repeat (first|exact Calm.ret|refine Calm.then ?_|refine Calm.block ?_)) (by kernel_rfl) [4, 5, 6, 7, 8, 9, 10, 11, 12, 13, 14, 15, 16] (by kernel_rfl) rfl ?_
            (refine DO.nil (by kernel_rfl) ?_)
            rotate_left 1
            · repeat (refine q6 ?_)
              simp only [ch_dec]
              cases hc2 : ltC (gk ws j2) (gk ws a) with
              | false =>
                repeat (first|refine q2 ?_|refine q3 ?_|refine q4 tab rfl rfl ?_|refine q6 ?_|refine q13 ?_|refine q16 rfl ?_)
                refine TO.step rfl (OT.arith (r' := ((j2 - 1 : Nat) : Int)) rfl rfl rfl rfl rfl rfl (by omega) (by omega) ?_)
                repeat (first|refine q4 tab rfl rfl ?_|refine q5 ?_|refine q6 ?_|refine q7 ?_)
                exact ⟨j2 - 1, (by repeat (first|exact trivial|refine And.intro rfl ?_)), (by repeat (first|exact trivial|refine And.intro rfl ?_)), rfl, rfl, (by repeat (exact List.Sublist.refl _)), ⟨by omega, hP2.right (by omega) hc2⟩, by omega⟩
              | true =>
                repeat (first|refine q1 ?_|refine q3 ?_|refine q4 tab rfl rfl ?_|refine q5 ?_|refine q6 ?_|refine q10 ?_|refine q11 ?_|refine q14 ?_|refine q17 rfl ?_)
                refine TC.condP rfl (fun hgt => ?_) (fun hgt => ?_)
                · have hN := hP2.done (by omega) (by omega)
                  repeat (first|refine q1 ?_|refine q6 ?_|refine q10 ?_|refine q11 ?_|refine q12 rfl ?_|refine q14 ?_)
                  refine TC.draw [13, 14, 15] mixed 16 rfl [chR bd ws] L (by first | exact List.Perm.refl _ | (rw [List.append_nil]; exact List.Perm.refl _)) ?_
                  refine DO.pure tab (by repeat (first|exact Calm.ret|refine Calm.then ?_)) (by kernel_rfl) [0, 1, 2, 3, 4, 5] (by kernel_rfl) rfl ?_
                  refine DO.indexP (sz := 2) tab 6 a (by repeat (first|exact Calm.ret|refine Calm.then ?_)) (by kernel_rfl) (by kernel_rfl) rfl rfl rfl rfl rfl rfl rfl rfl rfl (by omega) ?_
                  refine DO.loadE (jj := 0) tab 7 0 rCh (gk_get (xs := ws) (k := a) (by omega)) (by simp only [rCh]; omega) (fun _ => rfl) (by repeat (first|exact Calm.ret|refine Calm.then ?_)) (by kernel_rfl) (by kernel_rfl) rfl rfl rfl rfl rfl rfl rfl ?_
                  refine DO.pure tab (by repeat (first|exact Calm.ret|refine Calm.then ?_)) (by kernel_rfl) [8, 9] (by kernel_rfl) rfl ?_
                  refine DO.indexP (sz := 2) tab 10 j2 (by repeat (first|exact Calm.ret|refine Calm.then ?_)) (by kernel_rfl) (by kernel_rfl) rfl rfl rfl rfl rfl rfl rfl rfl rfl (by omega) ?_
                  refine DO.loadE (jj := 0) tab 11 0 rCh (gk_get (xs := ws) (k := j2) (by omega)) (by simp only [rCh]; omega) (fun _ => rfl) (by repeat (first|exact Calm.ret|refine Calm.then ?_)) (by kernel_rfl) (by kernel_rfl) rfl rfl rfl rfl rfl rfl rfl ?_
                  refine DO.indexP (sz := 2) tab 12 j2 (by repeat (first|exact Calm.ret|refine Calm.then ?_)) (by kernel_rfl) (by kernel_rfl) rfl rfl rfl rfl rfl rfl rfl rfl rfl (by omega) ?_
                  refine DO.tail ?_
                  refine DOt.run 13 rfl rfl (by kernel_rfl) rfl ?_
                  refine OT.storeE (h2 := gk ws a) tab 0 rCh (gk_get (xs := ws) (k := j2) (by omega)) (j := 0) (by simp only [rCh]; omega) (fun _ => rfl) (Nat.le_refl _) rfl rfl rfl rfl rfl rfl rfl ?_
                  refine DOt.run 14 rfl rfl (by kernel_rfl) rfl ?_
                  refine OT.indexP (sz := 2) tab a rfl rfl rfl rfl rfl rfl rfl (by omega) ?_
                  refine DOt.run 15 rfl rfl (by kernel_rfl) rfl ?_
                  refine OT.storeE (h2 := gk ws j2) (h := gk (List.set ws j2 (gk ws a)) a) tab 0 rCh (k := a) (gk_get (by simp; omega)) (j := 0) (by simp only [rCh]; omega) (fun _ => rfl) (Nat.le_refl _) rfl rfl rfl rfl rfl rfl rfl ?_
                  refine DOt.nil (by kernel_rfl) ?_
                  rotate_left 1
                  repeat (first|refine q1 ?_|refine q3 ?_|refine q4 tab rfl rfl ?_|refine q5 ?_|refine q6 ?_|refine q15 ?_)
                  refine retQ_ret rfl (L' := chR bd (sw ws j2 a) :: L) (by repeat (exact List.Sublist.refl _)) ⟨rfl, sw ws j2 a, j2, _, rfl, hN.base hS0, rfl⟩
                · have hpair : ltC (gk ws i) (gk ws a) = false ∧ ltC (gk ws j2) (gk ws a) = true := by
                    constructor
                    · first | exact hc1 | (exfalso; omega)
                    · first | exact hc2 | (exfalso; omega)
                  obtain ⟨hN, hlt⟩ := hP2.swap (by omega) (by omega) hpair.1 hpair.2
                  repeat (first|refine q1 ?_|refine q6 ?_|refine q13 ?_)
                  refine TC.draw [13, 14, 15] mixed 16 rfl [chR bd ws] L (by first | exact List.Perm.refl _ | (rw [List.append_nil]; exact List.Perm.refl _)) ?_
                  refine DO.pure tab (by repeat (first|exact Calm.ret|refine Calm.then ?_|refine Calm.block ?_)) (by kernel_rfl) [0, 1, 2, 3, 4, 5] (by kernel_rfl) rfl ?_
                  refine DO.indexP (sz := 2) tab 6 j2 (by repeat (first|exact Calm.ret|refine Calm.then ?_|refine Calm.block ?_)) (by kernel_rfl) (by kernel_rfl) rfl rfl rfl rfl rfl rfl rfl rfl rfl (by omega) ?_
                  refine DO.loadE (jj := 0) tab 7 0 rCh (gk_get (xs := ws) (k := j2) (by omega)) (by simp only [rCh]; omega) (fun _ => rfl) (by repeat (first|exact Calm.ret|refine Calm.then ?_|refine Calm.block ?_)) (by kernel_rfl) (by kernel_rfl) rfl rfl rfl rfl rfl rfl rfl ?_
                  refine DO.pure tab (by repeat (first|exact Calm.ret|refine Calm.then ?_|refine Calm.block ?_)) (by kernel_rfl) [8, 9] (by kernel_rfl) rfl ?_
                  refine DO.indexP (sz := 2) tab 10 i (by repeat (first|exact Calm.ret|refine Calm.then ?_|refine Calm.block ?_)) (by kernel_rfl) (by kernel_rfl) rfl rfl rfl rfl rfl rfl rfl rfl rfl (by omega) ?_
                  refine DO.loadE (jj := 0) tab 11 0 rCh (gk_get (xs := ws) (k := i) (by omega)) (by simp only [rCh]; omega) (fun _ => rfl) (by repeat (first|exact Calm.ret|refine Calm.then ?_|refine Calm.block ?_)) (by kernel_rfl) (by kernel_rfl) rfl rfl rfl rfl rfl rfl rfl ?_
                  refine DO.indexP (sz := 2) tab 12 i (by repeat (first|exact Calm.ret|refine Calm.then ?_|refine Calm.block ?_)) (by kernel_rfl) (by kernel_rfl) rfl rfl rfl rfl rfl rfl rfl rfl rfl (by omega) ?_
                  refine DO.tail ?_
                  refine DOt.run 13 rfl rfl (by kernel_rfl) rfl ?_
                  refine OT.storeE (h2 := gk ws j2) tab 0 rCh (gk_get (xs := ws) (k := i) (by omega)) (j := 0) (by simp only [rCh]; omega) (fun _ => rfl) (Nat.le_refl _) rfl rfl rfl rfl rfl rfl rfl ?_
                  refine DOt.run 14 rfl rfl (by kernel_rfl) rfl ?_
                  refine OT.indexP (sz := 2) tab j2 rfl rfl rfl rfl rfl rfl rfl (by omega) ?_
                  refine DOt.run 15 rfl rfl (by kernel_rfl) rfl ?_
                  refine OT.storeE (h2 := gk ws i) (h := gk (List.set ws i (gk ws j2)) j2) tab 0 rCh (k := j2) (gk_get (by simp; omega)) (j := 0) (by simp only [rCh]; omega) (fun _ => rfl) (Nat.le_refl _) rfl rfl rfl rfl rfl rfl rfl ?_
                  refine DOt.nil (by kernel_rfl) ?_
                  rotate_left 1
                  repeat (first|refine q1 ?_|refine q3 ?_|refine q4 tab rfl rfl ?_|refine q6 ?_)
                  refine TO.step rfl (OT.arith (r' := ((i + 1 : Nat) : Int)) rfl rfl rfl rfl rfl rfl rfl (by omega) ?_)
                  repeat (first|refine q3 ?_|refine q4 tab rfl rfl ?_|refine q5 ?_|refine q6 ?_)
                  refine TO.step rfl (OT.arith (r' := ((j2 - 1 : Nat) : Int)) rfl rfl rfl rfl rfl rfl (by omega) (by omega) ?_)
                  repeat (first|refine q4 tab rfl rfl ?_|refine q5 ?_|refine q6 ?_|refine q7 ?_)
                  exact ⟨(i + 1, j2 - 1, sw ws i j2), (by repeat (first|exact trivial|refine And.intro rfl ?_)), (by repeat (first|exact trivial|refine And.intro rfl ?_)), rfl, rfl, (by repeat (exact List.Sublist.refl _)), hN, by simp only; omega⟩
            · have hc2 : j2 < i := by omega
              repeat (first|refine q1 ?_|refine q3 ?_|refine q4 tab rfl rfl ?_|refine q5 ?_|refine q6 ?_|refine q10 ?_|refine q11 ?_|refine q14 ?_|refine q17 rfl ?_)
              refine TC.condP rfl (fun hgt => ?_) (fun hgt => ?_)
              · have hN := hP2.done (by omega) (by omega)
                repeat (first|refine q1 ?_|refine q6 ?_|refine q10 ?_|refine q11 ?_|refine q12 rfl ?_|refine q14 ?_)
                refine TC.draw [13, 14, 15] mixed 16 rfl [chR bd ws] L (by first | exact List.Perm.refl _ | (rw [List.append_nil]; exact List.Perm.refl _)) ?_
                refine DO.pure tab (by repeat (first|exact Calm.ret|refine Calm.then ?_)) (by kernel_rfl) [0, 1, 2, 3, 4, 5] (by kernel_rfl) rfl ?_
                refine DO.indexP (sz := 2) tab 6 a (by repeat (first|exact Calm.ret|refine Calm.then ?_)) (by kernel_rfl) (by kernel_rfl) rfl rfl rfl rfl rfl rfl rfl rfl rfl (by omega) ?_
                refine DO.loadE (jj := 0) tab 7 0 rCh (gk_get (xs := ws) (k := a) (by omega)) (by simp only [rCh]; omega) (fun _ => rfl) (by repeat (first|exact Calm.ret|refine Calm.then ?_)) (by kernel_rfl) (by kernel_rfl) rfl rfl rfl rfl rfl rfl rfl ?_
                refine DO.pure tab (by repeat (first|exact Calm.ret|refine Calm.then ?_)) (by kernel_rfl) [8, 9] (by kernel_rfl) rfl ?_
                refine DO.indexP (sz := 2) tab 10 j2 (by repeat (first|exact Calm.ret|refine Calm.then ?_)) (by kernel_rfl) (by kernel_rfl) rfl rfl rfl rfl rfl rfl rfl rfl rfl (by omega) ?_
                refine DO.loadE (jj := 0) tab 11 0 rCh (gk_get (xs := ws) (k := j2) (by omega)) (by simp only [rCh]; omega) (fun _ => rfl) (by repeat (first|exact Calm.ret|refine Calm.then ?_)) (by kernel_rfl) (by kernel_rfl) rfl rfl rfl rfl rfl rfl rfl ?_
                refine DO.indexP (sz := 2) tab 12 j2 (by repeat (first|exact Calm.ret|refine Calm.then ?_)) (by kernel_rfl) (by kernel_rfl) rfl rfl rfl rfl rfl rfl rfl rfl rfl (by omega) ?_
                refine DO.tail ?_
                refine DOt.run 13 rfl rfl (by kernel_rfl) rfl ?_
                refine OT.storeE (h2 := gk ws a) tab 0 rCh (gk_get (xs := ws) (k := j2) (by omega)) (j := 0) (by simp only [rCh]; omega) (fun _ => rfl) (Nat.le_refl _) rfl rfl rfl rfl rfl rfl rfl ?_
                refine DOt.run 14 rfl rfl (by kernel_rfl) rfl ?_
                refine OT.indexP (sz := 2) tab a rfl rfl rfl rfl rfl rfl rfl (by omega) ?_
                refine DOt.run 15 rfl rfl (by kernel_rfl) rfl ?_
                refine OT.storeE (h2 := gk ws j2) (h := gk (List.set ws j2 (gk ws a)) a) tab 0 rCh (k := a) (gk_get (by simp; omega)) (j := 0) (by simp only [rCh]; omega) (fun _ => rfl) (Nat.le_refl _) rfl rfl rfl rfl rfl rfl rfl ?_
                refine DOt.nil (by kernel_rfl) ?_
                rotate_left 1
                repeat (first|refine q1 ?_|refine q3 ?_|refine q4 tab rfl rfl ?_|refine q5 ?_|refine q6 ?_|refine q15 ?_)
                refine retQ_ret rfl (L' := chR bd (sw ws j2 a) :: L) (by repeat (exact List.Sublist.refl _)) ⟨rfl, sw ws j2 a, j2, _, rfl, hN.base hS0, rfl⟩
              · have hpair : ltC (gk ws i) (gk ws a) = false ∧ ltC (gk ws j2) (gk ws a) = true := by
                  constructor
                  · first | exact hc1 | (exfalso; omega)
                  · first | exact hc2 | (exfalso; omega)
                obtain ⟨hN, hlt⟩ := hP2.swap (by omega) (by omega) hpair.1 hpair.2
                repeat (first|refine q1 ?_|refine q6 ?_|refine q13 ?_)
                refine TC.draw [13, 14, 15] mixed 16 rfl [chR bd ws] L (by first | exact List.Perm.refl _ | (rw [List.append_nil]; exact List.Perm.refl _)) ?_
                refine DO.pure tab (by repeat (first|exact Calm.ret|refine Calm.then ?_|refine Calm.block ?_)) (by kernel_rfl) [0, 1, 2, 3, 4, 5] (by kernel_rfl) rfl ?_
                refine DO.indexP (sz := 2) tab 6 j2 (by repeat (first|exact Calm.ret|refine Calm.then ?_|refine Calm.block ?_)) (by kernel_rfl) (by kernel_rfl) rfl rfl rfl rfl rfl rfl rfl rfl rfl (by omega) ?_
                refine DO.loadE (jj := 0) tab 7 0 rCh (gk_get (xs := ws) (k := j2) (by omega)) (by simp only [rCh]; omega) (fun _ => rfl) (by repeat (first|exact Calm.ret|refine Calm.then ?_|refine Calm.block ?_)) (by kernel_rfl) (by kernel_rfl) rfl rfl rfl rfl rfl rfl rfl ?_
                refine DO.pure tab (by repeat (first|exact Calm.ret|refine Calm.then ?_|refine Calm.block ?_)) (by kernel_rfl) [8, 9] (by kernel_rfl) rfl ?_
                refine DO.indexP (sz := 2) tab 10 i (by repeat (first|exact Calm.ret|refine Calm.then ?_|refine Calm.block ?_)) (by kernel_rfl) (by kernel_rfl) rfl rfl rfl rfl rfl rfl rfl rfl rfl (by omega) ?_
                refine DO.loadE (jj := 0) tab 11 0 rCh (gk_get (xs := ws) (k := i) (by omega)) (by simp only [rCh]; omega) (fun _ => rfl) (by repeat (first|exact Calm.ret|refine Calm.then ?_|refine Calm.block ?_)) (by kernel_rfl) (by kernel_rfl) rfl rfl rfl rfl rfl rfl rfl ?_
                refine DO.indexP (sz := 2) tab 12 i (by repeat (first|exact Calm.ret|refine Calm.then ?_|refine Calm.block ?_)) (by kernel_rfl) (by kernel_rfl) rfl rfl rfl rfl rfl rfl rfl rfl rfl (by omega) ?_
                refine DO.tail ?_
                refine DOt.run 13 rfl rfl (by kernel_rfl) rfl ?_
                refine OT.storeE (h2 := gk ws j2) tab 0 rCh (gk_get (xs := ws) (k := i) (by omega)) (j := 0) (by simp only [rCh]; omega) (fun _ => rfl) (Nat.le_refl _) rfl rfl rfl rfl rfl rfl rfl ?_
                refine DOt.run 14 rfl rfl (by kernel_rfl) rfl ?_
                refine OT.indexP (sz := 2) tab j2 rfl rfl rfl rfl rfl rfl rfl (by omega) ?_
                refine DOt.run 15 rfl rfl (by kernel_rfl) rfl ?_
                refine OT.storeE (h2 := gk ws i) (h := gk (List.set ws i (gk ws j2)) j2) tab 0 rCh (k := j2) (gk_get (by simp; omega)) (j := 0) (by simp only [rCh]; omega) (fun _ => rfl) (Nat.le_refl _) rfl rfl rfl rfl rfl rfl rfl ?_
                refine DOt.nil (by kernel_rfl) ?_
                rotate_left 1
                repeat (first|refine q1 ?_|refine q3 ?_|refine q4 tab rfl rfl ?_|refine q6 ?_)
                refine TO.step rfl (OT.arith (r' := ((i + 1 : Nat) : Int)) rfl rfl rfl rfl rfl rfl rfl (by omega) ?_)
                repeat (first|refine q3 ?_|refine q4 tab rfl rfl ?_|refine q5 ?_|refine q6 ?_)
                refine TO.step rfl (OT.arith (r' := ((j2 - 1 : Nat) : Int)) rfl rfl rfl rfl rfl rfl (by omega) (by omega) ?_)
                repeat (first|refine q4 tab rfl rfl ?_|refine q5 ?_|refine q6 ?_|refine q7 ?_)
                exact ⟨(i + 1, j2 - 1, sw ws i j2), (by repeat (first|exact trivial|refine And.intro rfl ?_)), (by repeat (first|exact trivial|refine And.intro rfl ?_)), rfl, rfl, (by repeat (exact List.Sublist.refl _)), hN, by simp only; omega⟩
        · have hc1 : j < i := by omega
          repeat (first|refine q1 ?_|refine q2 ?_|refine q6 ?_|refine q10 ?_|refine q11 ?_|refine q14 ?_|refine q17 rfl ?_)
          refine TC.loopK (ι := Nat) [0, 1, 4, 12] rfl (fun j => [(13, .int .i64 (j : Int))]) (fun _ => m) (fun _ => chR bd ws :: L) (fun j2 => j2 ≤ j ∧ PaI ltC (sw xs a p) a b i j2 ws) (fun j => j) j (by repeat (first|exact trivial|refine And.intro rfl ?_)) rfl (by repeat (exact List.Sublist.refl _)) ⟨Nat.le_refl _, hP⟩ ?_
          rintro j2 ⟨hj2, hP2⟩
          have hr2 := hP2.rng
          repeat (refine q1 ?_)
          refine TC.draw [] mixed 17 rfl [chR bd ws] L (by first | exact List.Perm.refl _ | (rw [List.append_nil]; exact List.Perm.refl _)) ?_
          refine DO.pure tab (by repeat (first|exact Calm.ret|refine Calm.then ?_|refine Calm.block ?_)) (by kernel_rfl) [0, 1, 2, 3] (by kernel_rfl) rfl ?_
          (refine DO.splitP (d := 126) rfl (fun hg3 => ?_) (fun hg3 => ?_))
          refine DO.pure tab (by repeat (first|exact Calm.ret|refine Calm.then ?_|refine Calm.block ?_)) (by kernel_rfl) [4, 5, 6] (by kernel_rfl) rfl ?_
          refine DO.indexP (sz := 2) tab 7 j2 (by repeat (first|exact Calm.ret|refine Calm.then ?_|refine Calm.block ?_)) (by kernel_rfl) (by kernel_rfl) rfl rfl rfl rfl rfl rfl rfl rfl rfl (by omega) ?_
          refine DO.loadE (jj := 0) tab 8 0 rCh (gk_get (xs := ws) (k := j2) (by omega)) (by simp only [rCh]; omega) (fun _ => rfl) (by repeat (first|exact Calm.ret|refine Calm.then ?_|refine Calm.block ?_)) (by kernel_rfl) (by kernel_rfl) rfl rfl rfl rfl rfl rfl rfl ?_
          refine DO.pure tab (by repeat (first|exact Calm.ret|refine Calm.then ?_|refine Calm.block ?_)) (by kernel_rfl) [9, 10] (by kernel_rfl) rfl ?_
          refine DO.indexP (sz := 2) tab 11 a (by repeat (first|exact Calm.ret|refine Calm.then ?_|refine Calm.block ?_)) (by kernel_rfl) (by kernel_rfl) rfl rfl rfl rfl rfl rfl rfl rfl rfl (by omega) ?_
          refine DO.loadE (jj := 0) tab 12 0 rCh (gk_get (xs := ws) (k := a) (by omega)) (by simp only [rCh]; omega) (fun _ => rfl) (by repeat (first|exact Calm.ret|refine Calm.then ?_|refine Calm.block ?_)) (by kernel_rfl) (by kernel_rfl) rfl rfl rfl rfl rfl rfl rfl ?_
          refine DO.run 13 rfl rfl (by kernel_rfl) rfl (OT.call rfl rfl rfl rfl rfl rfl goes23 ((chcmp_law m _ (gk ws j2) (gk ws a) (hD.gk (by omega)) (hD.gk (by omega))).x ?_))
          rintro _ _ _ ⟨rfl, rfl, rfl⟩; refine ⟨Mem.le_refl _, _, List.Perm.refl _, ?_⟩
          refine DO.pure tab (by repeat (first|exact Calm.ret|refine Calm.then ?_|refine Calm.block ?_)) (by kernel_rfl) [14, 15, 16] (by kernel_rfl) rfl ?_
          (refine DO.nil (by kernel_rfl) ?_)
          rotate_left 1
          refine DO.pure tab (by repeat (first|exact Calm.ret|refine Calm.then ?_|refine Calm.block ?_)) (by kernel_rfl) [4, 5, 6, 7, 8, 9, 10, 11, 12, 13, 14, 15, 16] (by kernel_rfl) rfl ?_
          (refine DO.nil (by kernel_rfl) ?_)
          rotate_left 1
          · repeat (refine q6 ?_)
            simp only [ch_dec]
            cases hc2 : ltC (gk ws j2) (gk ws a) with
            | false =>
              repeat (first|refine q2 ?_|refine q3 ?_|refine q4 tab rfl rfl ?_|refine q6 ?_|refine q13 ?_|refine q16 rfl ?_)
              refine TO.step rfl (OT.arith (r' := ((j2 - 1 : Nat) : Int)) rfl rfl rfl rfl rfl rfl (by omega) (by omega) ?_)
              repeat (first|refine q4 tab rfl rfl ?_|refine q5 ?_|refine q6 ?_|refine q7 ?_)
              exact ⟨j2 - 1, (by repeat (first|exact trivial|refine And.intro rfl ?_)), (by repeat (first|exact trivial|refine And.intro rfl ?_)), rfl, rfl, (by repeat (exact List.Sublist.refl _)), ⟨by omega, hP2.right (by omega) hc2⟩, by omega⟩
            | true =>
              repeat (first|refine q1 ?_|refine q3 ?_|refine q4 tab rfl rfl ?_|refine q5 ?_|refine q6 ?_|refine q10 ?_|refine q11 ?_|refine q14 ?_|refine q17 rfl ?_)
              refine TC.condP rfl (fun hgt => ?_) (fun hgt => ?_)
              · have hN := hP2.done (by omega) (by omega)
                repeat (first|refine q1 ?_|refine q6 ?_|refine q10 ?_|refine q11 ?_|refine q12 rfl ?_|refine q14 ?_)
                refine TC.draw [13, 14, 15] mixed 16 rfl [chR bd ws] L (by first | exact List.Perm.refl _ | (rw [List.append_nil]; exact List.Perm.refl _)) ?_
                refine DO.pure tab (by repeat (first|exact Calm.ret|refine Calm.then ?_)) (by kernel_rfl) [0, 1, 2, 3, 4, 5] (by kernel_rfl) rfl ?_
                refine DO.indexP (sz := 2) tab 6 a (by repeat (first|exact Calm.ret|refine Calm.then ?_)) (by kernel_rfl) (by kernel_rfl) rfl rfl rfl rfl rfl rfl rfl rfl rfl (by omega) ?_
                refine DO.loadE (jj := 0) tab 7 0 rCh (gk_get (xs := ws) (k := a) (by omega)) (by simp only [rCh]; omega) (fun _ => rfl) (by repeat (first|exact Calm.ret|refine Calm.then ?_)) (by kernel_rfl) (by kernel_rfl) rfl rfl rfl rfl rfl rfl rfl ?_
                refine DO.pure tab (by repeat (first|exact Calm.ret|refine Calm.then ?_)) (by kernel_rfl) [8, 9] (by kernel_rfl) rfl ?_
                refine DO.indexP (sz := 2) tab 10 j2 (by repeat (first|exact Calm.ret|refine Calm.then ?_)) (by kernel_rfl) (by kernel_rfl) rfl rfl rfl rfl rfl rfl rfl rfl rfl (by omega) ?_
                refine DO.loadE (jj := 0) tab 11 0 rCh (gk_get (xs := ws) (k := j2) (by omega)) (by simp only [rCh]; omega) (fun _ => rfl) (by repeat (first|exact Calm.ret|refine Calm.then ?_)) (by kernel_rfl) (by kernel_rfl) rfl rfl rfl rfl rfl rfl rfl ?_
                refine DO.indexP (sz := 2) tab 12 j2 (by repeat (first|exact Calm.ret|refine Calm.then ?_)) (by kernel_rfl) (by kernel_rfl) rfl rfl rfl rfl rfl rfl rfl rfl rfl (by omega) ?_
                refine DO.tail ?_
                refine DOt.run 13 rfl rfl (by kernel_rfl) rfl ?_
                refine OT.storeE (h2 := gk ws a) tab 0 rCh (gk_get (xs := ws) (k := j2) (by omega)) (j := 0) (by simp only [rCh]; omega) (fun _ => rfl) (Nat.le_refl _) rfl rfl rfl rfl rfl rfl rfl ?_
                refine DOt.run 14 rfl rfl (by kernel_rfl) rfl ?_
                refine OT.indexP (sz := 2) tab a rfl rfl rfl rfl rfl rfl rfl (by omega) ?_
                refine DOt.run 15 rfl rfl (by kernel_rfl) rfl ?_
                refine OT.storeE (h2 := gk ws j2) (h := gk (List.set ws j2 (gk ws a)) a) tab 0 rCh (k := a) (gk_get (by simp; omega)) (j := 0) (by simp only [rCh]; omega) (fun _ => rfl) (Nat.le_refl _) rfl rfl rfl rfl rfl rfl rfl ?_
                refine DOt.nil (by kernel_rfl) ?_
                rotate_left 1
                repeat (first|refine q1 ?_|refine q3 ?_|refine q4 tab rfl rfl ?_|refine q5 ?_|refine q6 ?_|refine q15 ?_)
                refine retQ_ret rfl (L' := chR bd (sw ws j2 a) :: L) (by repeat (exact List.Sublist.refl _)) ⟨rfl, sw ws j2 a, j2, _, rfl, hN.base hS0, rfl⟩
              · have hpair : ltC (gk ws i) (gk ws a) = false ∧ ltC (gk ws j2) (gk ws a) = true := by
                  constructor
                  · first | exact hc1 | (exfalso; omega)
                  · first | exact hc2 | (exfalso; omega)
                obtain ⟨hN, hlt⟩ := hP2.swap (by omega) (by omega) hpair.1 hpair.2
                repeat (first|refine q1 ?_|refine q6 ?_|refine q13 ?_)
                refine TC.draw [13, 14, 15] mixed 16 rfl [chR bd ws] L (by first | exact List.Perm.refl _ | (rw [List.append_nil]; exact List.Perm.refl _)) ?_
                refine DO.pure tab (by repeat (first|exact Calm.ret|refine Calm.then ?_|refine Calm.block ?_)) (by kernel_rfl) [0, 1, 2, 3, 4, 5] (by kernel_rfl) rfl ?_
                refine DO.indexP (sz := 2) tab 6 j2 (by repeat (first|exact Calm.ret|refine Calm.then ?_|refine Calm.block ?_)) (by kernel_rfl) (by kernel_rfl) rfl rfl rfl rfl rfl rfl rfl rfl rfl (by omega) ?_
                refine DO.loadE (jj := 0) tab 7 0 rCh (gk_get (xs := ws) (k := j2) (by omega)) (by simp only [rCh]; omega) (fun _ => rfl) (by repeat (first|exact Calm.ret|refine Calm.then ?_|refine Calm.block ?_)) (by kernel_rfl) (by kernel_rfl) rfl rfl rfl rfl rfl rfl rfl ?_
                refine DO.pure tab (by repeat (first|exact Calm.ret|refine Calm.then ?_|refine Calm.block ?_)) (by kernel_rfl) [8, 9] (by kernel_rfl) rfl ?_
                refine DO.indexP (sz := 2) tab 10 i (by repeat (first|exact Calm.ret|refine Calm.then ?_|refine Calm.block ?_)) (by kernel_rfl) (by kernel_rfl) rfl rfl rfl rfl rfl rfl rfl rfl rfl (by omega) ?_
                refine DO.loadE (jj := 0) tab 11 0 rCh (gk_get (xs := ws) (k := i) (by omega)) (by simp only [rCh]; omega) (fun _ => rfl) (by repeat (first|exact Calm.ret|refine Calm.then ?_|refine Calm.block ?_)) (by kernel_rfl) (by kernel_rfl) rfl rfl rfl rfl rfl rfl rfl ?_
                refine DO.indexP (sz := 2) tab 12 i (by repeat (first|exact Calm.ret|refine Calm.then ?_|refine Calm.block ?_)) (by kernel_rfl) (by kernel_rfl) rfl rfl rfl rfl rfl rfl rfl rfl rfl (by omega) ?_
                refine DO.tail ?_
                refine DOt.run 13 rfl rfl (by kernel_rfl) rfl ?_
                refine OT.storeE (h2 := gk ws j2) tab 0 rCh (gk_get (xs := ws) (k := i) (by omega)) (j := 0) (by simp only [rCh]; omega) (fun _ => rfl) (Nat.le_refl _) rfl rfl rfl rfl rfl rfl rfl ?_
                refine DOt.run 14 rfl rfl (by kernel_rfl) rfl ?_
                refine OT.indexP (sz := 2) tab j2 rfl rfl rfl rfl rfl rfl rfl (by omega) ?_
                refine DOt.run 15 rfl rfl (by kernel_rfl) rfl ?_
                refine OT.storeE (h2 := gk ws i) (h := gk (List.set ws i (gk ws j2)) j2) tab 0 rCh (k := j2) (gk_get (by simp; omega)) (j := 0) (by simp only [rCh]; omega) (fun _ => rfl) (Nat.le_refl _) rfl rfl rfl rfl rfl rfl rfl ?_
                refine DOt.nil (by kernel_rfl) ?_
                rotate_left 1
                repeat (first|refine q1 ?_|refine q3 ?_|refine q4 tab rfl rfl ?_|refine q6 ?_)
                refine TO.step rfl (OT.arith (r' := ((i + 1 : Nat) : Int)) rfl rfl rfl rfl rfl rfl rfl (by omega) ?_)
                repeat (first|refine q3 ?_|refine q4 tab rfl rfl ?_|refine q5 ?_|refine q6 ?_)
                refine TO.step rfl (OT.arith (r' := ((j2 - 1 : Nat) : Int)) rfl rfl rfl rfl rfl rfl (by omega) (by omega) ?_)
                repeat (first|refine q4 tab rfl rfl ?_|refine q5 ?_|refine q6 ?_|refine q7 ?_)
                exact ⟨(i + 1, j2 - 1, sw ws i j2), (by repeat (first|exact trivial|refine And.intro rfl ?_)), (by repeat (first|exact trivial|refine And.intro rfl ?_)), rfl, rfl, (by repeat (exact List.Sublist.refl _)), hN, by simp only; omega⟩
          · have hc2 : j2 < i := by omega
            repeat (first|refine q1 ?_|refine q3 ?_|refine q4 tab rfl rfl ?_|refine q5 ?_|refine q6 ?_|refine q10 ?_|refine q11 ?_|refine q14 ?_|refine q17 rfl ?_)
            refine TC.condP rfl (fun hgt => ?_) (fun hgt => ?_)
            · have hN := hP2.done (by omega) (by omega)
              repeat (first|refine q1 ?_|refine q6 ?_|refine q10 ?_|refine q11 ?_|refine q12 rfl ?_|refine q14 ?_)
              refine TC.draw [13, 14, 15] mixed 16 rfl [chR bd ws] L (by first | exact List.Perm.refl _ | (rw [List.append_nil]; exact List.Perm.refl _)) ?_
              refine DO.pure tab (by repeat (first|exact Calm.ret|refine Calm.then ?_)) (by kernel_rfl) [0, 1, 2, 3, 4, 5] (by kernel_rfl) rfl ?_
              refine DO.indexP (sz := 2) tab 6 a (by repeat (first|exact Calm.ret|refine Calm.then ?_)) (by kernel_rfl) (by kernel_rfl) rfl rfl rfl rfl rfl rfl rfl rfl rfl (by omega) ?_
              refine DO.loadE (jj := 0) tab 7 0 rCh (gk_get (xs := ws) (k := a) (by omega)) (by simp only [rCh]; omega) (fun _ => rfl) (by repeat (first|exact Calm.ret|refine Calm.then ?_)) (by kernel_rfl) (by kernel_rfl) rfl rfl rfl rfl rfl rfl rfl ?_
              refine DO.pure tab (by repeat (first|exact Calm.ret|refine Calm.then ?_)) (by kernel_rfl) [8, 9] (by kernel_rfl) rfl ?_
              refine DO.indexP (sz := 2) tab 10 j2 (by repeat (first|exact Calm.ret|refine Calm.then ?_)) (by kernel_rfl) (by kernel_rfl) rfl rfl rfl rfl rfl rfl rfl rfl rfl (by omega) ?_
              refine DO.loadE (jj := 0) tab 11 0 rCh (gk_get (xs := ws) (k := j2) (by omega)) (by simp only [rCh]; omega) (fun _ => rfl) (by repeat (first|exact Calm.ret|refine Calm.then ?_)) (by kernel_rfl) (by kernel_rfl) rfl rfl rfl rfl rfl rfl rfl ?_
              refine DO.indexP (sz := 2) tab 12 j2 (by repeat (first|exact Calm.ret|refine Calm.then ?_)) (by kernel_rfl) (by kernel_rfl) rfl rfl rfl rfl rfl rfl rfl rfl rfl (by omega) ?_
              refine DO.tail ?_
              refine DOt.run 13 rfl rfl (by kernel_rfl) rfl ?_
              refine OT.storeE (h2 := gk ws a) tab 0 rCh (gk_get (xs := ws) (k := j2) (by omega)) (j := 0) (by simp only [rCh]; omega) (fun _ => rfl) (Nat.le_refl _) rfl rfl rfl rfl rfl rfl rfl ?_
              refine DOt.run 14 rfl rfl (by kernel_rfl) rfl ?_
              refine OT.indexP (sz := 2) tab a rfl rfl rfl rfl rfl rfl rfl (by omega) ?_
              refine DOt.run 15 rfl rfl (by kernel_rfl) rfl ?_
              refine OT.storeE (h2 := gk ws j2) (h := gk (List.set ws j2 (gk ws a)) a) tab 0 rCh (k := a) (gk_get (by simp; omega)) (j := 0) (by simp only [rCh]; omega) (fun _ => rfl) (Nat.le_refl _) rfl rfl rfl rfl rfl rfl rfl ?_
              refine DOt.nil (by kernel_rfl) ?_
              rotate_left 1
              repeat (first|refine q1 ?_|refine q3 ?_|refine q4 tab rfl rfl ?_|refine q5 ?_|refine q6 ?_|refine q15 ?_)
              refine retQ_ret rfl (L' := chR bd (sw ws j2 a) :: L) (by repeat (exact List.Sublist.refl _)) ⟨rfl, sw ws j2 a, j2, _, rfl, hN.base hS0, rfl⟩
            · have hpair : ltC (gk ws i) (gk ws a) = false ∧ ltC (gk ws j2) (gk ws a) = true := by
                constructor
                · first | exact hc1 | (exfalso; omega)
                · first | exact hc2 | (exfalso; omega)
              obtain ⟨hN, hlt⟩ := hP2.swap (by omega) (by omega) hpair.1 hpair.2
              repeat (first|refine q1 ?_|refine q6 ?_|refine q13 ?_)
              refine TC.draw [13, 14, 15] mixed 16 rfl [chR bd ws] L (by first | exact List.Perm.refl _ | (rw [List.append_nil]; exact List.Perm.refl _)) ?_
              refine DO.pure tab (by repeat (first|exact Calm.ret|refine Calm.then ?_|refine Calm.block ?_)) (by kernel_rfl) [0, 1, 2, 3, 4, 5] (by kernel_rfl) rfl ?_
              refine DO.indexP (sz := 2) tab 6 j2 (by repeat (first|exact Calm.ret|refine Calm.then ?_|refine Calm.block ?_)) (by kernel_rfl) (by kernel_rfl) rfl rfl rfl rfl rfl rfl rfl rfl rfl (by omega) ?_
              refine DO.loadE (jj := 0) tab 7 0 rCh (gk_get (xs := ws) (k := j2) (by omega)) (by simp only [rCh]; omega) (fun _ => rfl) (by repeat (first|exact Calm.ret|refine Calm.then ?_|refine Calm.block ?_)) (by kernel_rfl) (by kernel_rfl) rfl rfl rfl rfl rfl rfl rfl ?_
              refine DO.pure tab (by repeat (first|exact Calm.ret|refine Calm.then ?_|refine Calm.block ?_)) (by kernel_rfl) [8, 9] (by kernel_rfl) rfl ?_
              refine DO.indexP (sz := 2) tab 10 i (by repeat (first|exact Calm.ret|refine Calm.then ?_|refine Calm.block ?_)) (by kernel_rfl) (by kernel_rfl) rfl rfl rfl rfl rfl rfl rfl rfl rfl (by omega) ?_
              refine DO.loadE (jj := 0) tab 11 0 rCh (gk_get (xs := ws) (k := i) (by omega)) (by simp only [rCh]; omega) (fun _ => rfl) (by repeat (first|exact Calm.ret|refine Calm.then ?_|refine Calm.block ?_)) (by kernel_rfl) (by kernel_rfl) rfl rfl rfl rfl rfl rfl rfl ?_
              refine DO.indexP (sz := 2) tab 12 i (by repeat (first|exact Calm.ret|refine Calm.then ?_|refine Calm.block ?_)) (by kernel_rfl) (by kernel_rfl) rfl rfl rfl rfl rfl rfl rfl rfl rfl (by omega) ?_
              refine DO.tail ?_
              refine DOt.run 13 rfl rfl (by kernel_rfl) rfl ?_
              refine OT.storeE (h2 := gk ws j2) tab 0 rCh (gk_get (xs := ws) (k := i) (by omega)) (j := 0) (by simp only [rCh]; omega) (fun _ => rfl) (Nat.le_refl _) rfl rfl rfl rfl rfl rfl rfl ?_
              refine DOt.run 14 rfl rfl (by kernel_rfl) rfl ?_
              refine OT.indexP (sz := 2) tab j2 rfl rfl rfl rfl rfl rfl rfl (by omega) ?_
              refine DOt.run 15 rfl rfl (by kernel_rfl) rfl ?_
              refine OT.storeE (h2 := gk ws i) (h := gk (List.set ws i (gk ws j2)) j2) tab 0 rCh (k := j2) (gk_get (by simp; omega)) (j := 0) (by simp only [rCh]; omega) (fun _ => rfl) (Nat.le_refl _) rfl rfl rfl rfl rfl rfl rfl ?_
              refine DOt.nil (by kernel_rfl) ?_
              rotate_left 1
              repeat (first|refine q1 ?_|refine q3 ?_|refine q4 tab rfl rfl ?_|refine q6 ?_)
              refine TO.step rfl (OT.arith (r' := ((i + 1 : Nat) : Int)) rfl rfl rfl rfl rfl rfl rfl (by omega) ?_)
              repeat (first|refine q3 ?_|refine q4 tab rfl rfl ?_|refine q5 ?_|refine q6 ?_)
              refine TO.step rfl (OT.arith (r' := ((j2 - 1 : Nat) : Int)) rfl rfl rfl rfl rfl rfl (by omega) (by omega) ?_)
              repeat (first|refine q4 tab rfl rfl ?_|refine q5 ?_|refine q6 ?_|refine q7 ?_)
              exact ⟨(i + 1, j2 - 1, sw ws i j2), (by repeat (first|exact trivial|refine And.intro rfl ?_)), (by repeat (first|exact trivial|refine And.intro rfl ?_)), rfl, rfl, (by repeat (exact List.Sublist.refl _)), hN, by simp only; omega⟩
end Go.Sep
