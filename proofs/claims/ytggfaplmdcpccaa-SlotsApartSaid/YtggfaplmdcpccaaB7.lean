/-
  The law SlotsOne.
-/
import Derived.Test.YtggfaplmdcpccaaB6
set_option linter.unusedVariables false
set_option linter.unusedSimpArgs false
namespace Go.Sep
open Go.Proofs
attribute [local irreducible] TC TO OT TCallX TCall DO DOt thenQ blockQ retQ At
def rU16 : R Int Int := ⟨1, 2, fun x => [.int .u16 x], fun _ h a => h = a ∧ 0 ≤ a ∧ a < 65536, fun _ => rfl, fun _ => rfl, fun _ h => h⟩
theorem u16_all {m : Mem} : ∀ {hs : List Int} {l : List Int}, All2 (rU16.rep m) hs l → ∀ x ∈ l, 0 ≤ x ∧ x < 65536
  | [], [], _, x, hx => by cases hx
  | h :: hs, a :: l, hh, x, hx => by
    rcases List.mem_cons.1 hx with rfl | hx
    · exact hh.1.2
    · exact u16_all hh.2 x hx
  | [], _ :: _, h, _, _ => h.elim
  | _ :: _, [], h, _, _ => h.elim
theorem u16_rng {m : Mem} {s : Sl} {l : List Int} (h : SlRep rU16 m s l) : ∀ x ∈ l, 0 ≤ x ∧ x < 65536 := by
  obtain ⟨hs, h1, _⟩ := h.cells
  exact u16_all h1
theorem endA_le : ∀ (xs : List Int) (a : Int), (∀ x ∈ xs, 0 ≤ x ∧ x < 65536) → a ≤ endA xs a ∧ endA xs a ≤ a + (xs.length : Int) * 65536
  | [], a, _ => by simp [endA]
  | x :: xs, a, h => by
    have h1 := h x (List.mem_cons_self ..)
    have h2 := endA_le xs (a + (x + 1)) fun y hy => h y (List.mem_cons_of_mem _ hy)
    simp only [endA, List.length_cons]
    omega
set_option maxHeartbeats 4000000 in
theorem one_law (m : Mem) (L : List Item) (ss0 : Sl) (ls0 : List Int) (hss0 : SlRep rU16 m ss0 ls0) :
    TCall Try.prog 4 ⟨[ss0.v]⟩ m L (Made m L fun r m' => r = .bool true) := by
  have hl0 := hss0.len
  unfold TCall
  refine TCallX.enter Try.func4 rfl 124 rfl ?_
  refine TC.seq ?_
  refine TC.region ?_
  refine TO.pureP tab rfl rfl ?_
  refine TO.nil ?_
  refine thenQ_n ?_
  refine TC.cut (ι := Sl × List Int) [2] rfl (fun x => [(0, x.1.v)]) (fun _ => m) (fun _ => L) (fun x => SlRep rU16 m x.1 x.2 ∧ x.2.length ≤ 200) ?_ ?_
  · repeat (first|refine q1 ?_|refine q3 ?_|refine q4 tab rfl rfl ?_|refine q5 ?_|refine q6 ?_)
    refine TC.condP rfl (fun hbig => ?_) (fun hbig => ?_)
    · repeat (first|refine q3 ?_|refine q4 tab rfl rfl ?_)
      refine TO.step rfl (OT.cut (lov := none) (hiv := some (.int .i64 200)) tab rU16 0 200 hss0 rfl rfl rfl rfl rfl rfl rfl (.inl ⟨rfl, rfl⟩) (.inr rfl) (by omega) (by omega) (fun s' hs' => ?_))
      repeat (first|refine q4 tab rfl rfl ?_|refine q5 ?_|refine q6 ?_)
      exact ⟨(s', (ls0.take 200).drop 0), (by repeat (first|exact trivial|refine And.intro rfl ?_)), (by repeat (first|exact trivial|refine And.intro rfl ?_)), rfl, rfl, (by repeat (exact List.Sublist.refl _)), hs', by simp; omega⟩
    · repeat (first|refine q6 ?_|refine q13 ?_)
      exact ⟨(ss0, ls0), (by repeat (first|exact trivial|refine And.intro rfl ?_)), (by repeat (first|exact trivial|refine And.intro rfl ?_)), rfl, rfl, (by repeat (exact List.Sublist.refl _)), hss0, by simp only; omega⟩
  rintro ⟨ss, ls⟩ ⟨hss, hlim⟩
  simp only at hss hlim ⊢
  have hl := hss.len
  have hrng := u16_rng hss
  have hx0 : ∀ x ∈ ls, 0 ≤ x := fun x hx => (hrng x hx).1
  repeat (first|refine q1 ?_|refine q3 ?_)
  refine TO.step rfl (OT.lit tab rfl rfl rfl rfl (fun bz => ?_))
  repeat (first|refine q1 ?_|refine q2 ?_|refine q3 ?_|refine q4 tab rfl rfl ?_|refine q5 ?_|refine q6 ?_)
  refine TC.growL (size := 2) bz ?_
  refine TC.loopK (ι := Grow) [0] rfl (fun x => [(5, .int .i64 (x.k : Int)), (3, x.s.v), (4, .int .i64 (bgn ls x.k))]) (fun x => x.m) (fun x => tok x.s 2 :: L) (fun x => x.k ≤ ls.length ∧ m ≤ x.m ∧ Own x.s ∧ SlRep rRg x.m x.s (rgs (ls.take x.k) 0)) (fun x => ls.length - x.k) ⟨0, ⟨some ⟨bz, 0, none⟩, 0, 0⟩, m⟩ ?_ rfl (by repeat (first|exact List.Sublist.refl _|refine List.Sublist.cons_cons _ ?_|refine List.Sublist.cons _ ?_)) ⟨Nat.zero_le _, Mem.le_refl _, Own.lit _ _ _, SlRep.lit0 _ _ _⟩ ?_
  · have e : bgn ls 0 = 0 := by simp [bgn, endA]
    simp only [e]
    exact (by repeat (first|exact trivial|refine And.intro rfl ?_))
  rintro ⟨k, sg, m2⟩ ⟨hk, hm2, hog, hsg⟩
  simp only at hk hm2 hog hsg ⊢
  have hss2 := hss.mono hm2
  repeat (first|refine q1 ?_|refine q3 ?_|refine q4 tab rfl rfl ?_|refine q5 ?_|refine q6 ?_)
  refine TC.condP rfl (fun hlt' => ?_) (fun hlt' => ?_)
  · have hlt : k < ls.length := by omega
    have hx : ls[k]? = some ls[k] := by simp [hlt]
    have hxr := hrng _ (List.getElem_mem hlt)
    have hxt : ls.take (k + 1) = ls.take k ++ [ls[k]] := List.take_succ_eq_append_getElem hlt
    generalize ls[k] = x at hx hxr hxt
    have hb := bgn_succ hx
    have hb1 : 0 ≤ bgn ls k ∧ bgn ls k ≤ 200 * 65536 := by
      have := endA_le (ls.take k) 0 fun y hy => hrng y (List.mem_of_mem_take hy)
      have h2 : (ls.take k).length ≤ 200 := by rw [List.length_take]; omega
      unfold bgn
      omega
    repeat (first|refine q1 ?_|refine q2 ?_|refine q3 ?_|refine q4 tab rfl rfl ?_|refine q6 ?_|refine q13 ?_)
    refine TO.step rfl (OT.index tab rU16 k hss2 rfl rfl rfl rfl rfl (by first | rfl | omega | (simp only; omega)) rfl hx ?_)
    rintro b2 i2 x2 hf2 hA2
    obtain rfl := (show x2 = x from hf2.1)
    (refine TO.step rfl (OT.loadA0 tab hA2 rfl rfl rfl rfl rfl ?_))
    refine TO.step rfl (OT.conv (r := x2) tab rfl rfl rfl rfl rfl rfl (wrap64_in (by omega) (by omega)) ?_)
    refine TO.step rfl (OT.arith (r' := x2 + 1) rfl rfl rfl rfl rfl rfl rfl (by omega) ?_)
    repeat (first|refine q1 ?_|refine q3 ?_|refine q4 tab rfl rfl ?_|refine q5 ?_|refine q6 ?_)
    refine TO.step rfl (OT.arith (r' := bgn ls (k + 1)) rfl rfl rfl rfl rfl rfl (by rw [hb]) (by omega) ?_)
    repeat (refine q4 tab rfl rfl ?_)
    refine TO.step rfl (OT.lit tab rfl rfl rfl rfl (fun bl => ?_))
    refine TO.step rfl (OT.append1 tab rRg 0 (hd' := ⟨bgn ls k, bgn ls (k + 1)⟩) (a := ⟨bgn ls k, bgn ls (k + 1)⟩) hsg hog rfl rfl rfl rfl rfl rfl rfl rfl (by simp only [rRg, rgs_len, List.length_take]; omega) (fun s' m3 hm3 hs' ho' => ?_))
    repeat (first|refine q3 ?_|refine q4 tab rfl rfl ?_|refine q5 ?_|refine q6 ?_)
    refine TO.step rfl (OT.arith (r' := bgn ls (k + 1)) rfl rfl rfl rfl rfl rfl (by rw [hb]) (by omega) ?_)
    repeat (first|refine q3 ?_|refine q4 tab rfl rfl ?_|refine q5 ?_|refine q6 ?_|refine q7 ?_)
    refine TO.step rfl (OT.arith (r' := ((k + 1 : Nat) : Int)) rfl rfl rfl rfl rfl rfl rfl (by omega) ?_)
    repeat (first|refine q4 tab rfl rfl ?_|refine q5 ?_|refine q6 ?_)
    refine ⟨⟨k + 1, s', m3⟩, (by repeat (first|exact trivial|refine And.intro rfl ?_)), (by repeat (first|exact trivial|refine And.intro rfl ?_)), rfl, rfl, (by repeat (exact List.Sublist.refl _)), ⟨by simp only; omega, Mem.le_trans hm2 hm3, ho', ?_⟩, by simp only; omega⟩
    simp only
    rw [hxt, rgs_snoc]
    rw [hb] at hs'
    exact hs'
  · have hkl : k = ls.length := by omega
    subst hkl
    rw [List.take_length] at hsg
    have hgl := hsg.len
    rw [rgs_len] at hgl
    repeat (first|refine q1 ?_|refine q3 ?_|refine q4 tab rfl rfl ?_|refine q6 ?_|refine q10 ?_|refine q11 ?_|refine q14 ?_)
    refine TO.step rfl (OT.call rfl rfl rfl rfl rfl rfl goes7 ((assign_law m2 _ sg _ hsg).x ?_));
    rintro _ m3 _ ⟨hm3, rfl, t1, s1, n1, rfl, ht1, hR1⟩
    obtain ⟨rfl, rfl⟩ := hR1.det (slots_one hx0 hlim)
    rw [check_one hx0 hlim]
    have hsg3 := hsg.mono hm3
    repeat (first|refine q1 ?_|refine q3 ?_|refine q4 tab rfl rfl ?_|refine q5 ?_|refine q6 ?_)
    refine TO.step rfl (OT.lit tab rfl rfl rfl rfl (fun bz2 => ?_))
    repeat (refine q4 tab rfl rfl ?_)
    refine TO.growL (size := 2) bz2 ?_
    refine TO.step rfl (OT.append tab rRg 0 (SlRep.lit0 rRg m3 bz2) (Own.lit bz2 0 0) hsg3 rfl rfl rfl rfl rfl rfl rfl (by simp only [List.length_nil, rgs_len, rRg]; omega) (fun sa m4 hm4 hsa hoa => ?_))
    rw [List.nil_append] at hsa
    repeat (refine q4 tab rfl rfl ?_)
    refine TO.step rfl (OT.append tab rRg 0 hsa hoa (hsg3.mono hm4) rfl rfl rfl rfl rfl rfl rfl (by simp only [rgs_len, rRg]; omega) (fun sb m5 hm5 hsb hob => ?_))
    refine TO.step rfl (OT.call rfl rfl rfl rfl rfl rfl goes7 ((assign_law m5 _ sb _ hsb).x ?_));
    rintro _ m6 _ ⟨hm6, rfl, t2, s2, n2, rfl, ht2, hR2⟩
    obtain ⟨rfl, rfl⟩ := hR2.det (slots_two hx0 hlim)
    rw [check_two hx0 hlim]
    have ht1' := ((ht1.mono hm4).mono hm5).mono hm6
    have hl1 := ht1.len
    have hl2 := ht2.len
    rw [List.length_replicate] at hl1
    rw [List.length_append, List.length_replicate] at hl2
    obtain ⟨ga, gl, gc⟩ := sg
    obtain ⟨t1a, t1l, t1c⟩ := t1
    obtain ⟨t2a, t2l, t2c⟩ := t2
    simp only at hgl hl1 hl2
    subst hgl hl1 hl2
    repeat (first|refine q1 ?_|refine q3 ?_|refine q4 tab rfl rfl ?_|refine q5 ?_|refine q6 ?_)
    refine TC.condP rfl (fun he => ?_) (fun he => ?_)
    · have he2 : ls.length = 0 := by simp only at he; omega
      have hA : (if ls.length = 0 then (0 : Int) else 1) = 0 := if_pos he2
      have hB : (if ls.length = 0 then (0 : Int) else 2) = 0 := if_pos he2
      rw [hA, hB]
      repeat (first|refine q1 ?_|refine q2 ?_|refine q3 ?_|refine q4 tab rfl rfl ?_|refine q5 ?_|refine q6 ?_)
      refine TC.loopK (ι := Nat) [3, 7, 8, 9, 10, 11, 12, 13, 14] rfl (fun k => [(15, .int .i64 (k : Int))]) (fun _ => m6) (fun _ => L) (fun k => k ≤ ls.length) (fun k => ls.length - k) 0 (by repeat (first|exact trivial|refine And.intro rfl ?_)) rfl (by repeat (first|exact List.Sublist.refl _|refine List.Sublist.cons _ ?_)) (Nat.zero_le _) ?_
      rintro k hk
      repeat (first|refine q1 ?_|refine q3 ?_|refine q4 tab rfl rfl ?_|refine q5 ?_|refine q6 ?_)
      refine TC.condP rfl (fun hlk => ?_) (fun hlk => ?_)
      · have hkl : k < ls.length := by simp only at hlk; omega
        have e1 : (List.replicate ls.length (0 : Int))[k]? = some 0 := by simp [hkl]
        have e2 : (List.replicate ls.length (0 : Int) ++ List.replicate ls.length 1)[k]? = some 0 := by rw [List.getElem?_append_left (by simpa using hkl)]; exact e1
        have e3 : (List.replicate ls.length (0 : Int) ++ List.replicate ls.length 1)[ls.length + k]? = some 1 := by rw [List.getElem?_append_right (by simp), List.length_replicate, Nat.add_sub_cancel_left]; simp [hkl]
        repeat (first|refine q1 ?_|refine q2 ?_|refine q6 ?_|refine q13 ?_)
        refine TC.draw0 [] mixed 20 rfl ?_
        refine DO.pure tab (by repeat (first|exact Calm.ret|refine Calm.then ?_|refine Calm.block ?_)) (by kernel_rfl) [0, 1] (by kernel_rfl) rfl ?_
        refine DO.index tab rInt 2 k ht1' (by repeat (first|exact Calm.ret|refine Calm.then ?_|refine Calm.block ?_)) (by kernel_rfl) (by kernel_rfl) rfl rfl rfl rfl rfl rfl rfl (by first | rfl | omega) rfl e1 ?_
        rintro b1 i1 v1 hv1 hA1; obtain rfl := (show v1 = 0 from hv1)
        (refine DO.loadA (k := 0) tab 3 hA1 (by repeat (first|exact Calm.ret|refine Calm.then ?_|refine Calm.block ?_)) (by kernel_rfl) (by kernel_rfl) rfl rfl rfl rfl rfl rfl rfl ?_)
        refine DO.pure tab (by repeat (first|exact Calm.ret|refine Calm.then ?_|refine Calm.block ?_)) (by kernel_rfl) [4, 5] (by kernel_rfl) rfl ?_
        (refine DO.splitN (d := 75) rfl (fun hg5 => ?_) (fun hg5 => ?_))
        · first | (exfalso; omega) | exact absurd rfl hg5 | exact absurd (by assumption) hg5 | contradiction
        refine DO.pure tab (by repeat (first|exact Calm.ret|refine Calm.then ?_|refine Calm.block ?_)) (by kernel_rfl) [6, 7] (by kernel_rfl) rfl ?_
        refine DO.index tab rInt 8 k ht2 (by repeat (first|exact Calm.ret|refine Calm.then ?_|refine Calm.block ?_)) (by kernel_rfl) (by kernel_rfl) rfl rfl rfl rfl rfl rfl rfl (by first | rfl | omega) rfl e2 ?_
        rintro b2 i2 v2 hv2 hA2; obtain rfl := (show v2 = 0 from hv2)
        (refine DO.loadA (k := 0) tab 9 hA2 (by repeat (first|exact Calm.ret|refine Calm.then ?_|refine Calm.block ?_)) (by kernel_rfl) (by kernel_rfl) rfl rfl rfl rfl rfl rfl rfl ?_)
        refine DO.pure tab (by repeat (first|exact Calm.ret|refine Calm.then ?_|refine Calm.block ?_)) (by kernel_rfl) [10, 11, 12, 13] (by kernel_rfl) rfl ?_
        refine DO.arith 14 (r' := ((ls.length + k : Nat) : Int)) (by repeat (first|exact Calm.ret|refine Calm.then ?_|refine Calm.block ?_)) (by kernel_rfl) (by kernel_rfl) rfl rfl rfl rfl rfl rfl rfl rfl (by first | rfl | omega | (simp only; omega)) (by omega) ?_
        refine DO.index tab rInt 15 (ls.length+k) ht2 (by repeat (first|exact Calm.ret|refine Calm.then ?_|refine Calm.block ?_)) (by kernel_rfl) (by kernel_rfl) rfl rfl rfl rfl rfl rfl rfl (by first | rfl | omega) rfl e3 ?_
        rintro b3 i3 v3 hv3 hA3; obtain rfl := (show v3 = 1 from hv3)
        (refine DO.loadA (k := 0) tab 16 hA3 (by repeat (first|exact Calm.ret|refine Calm.then ?_|refine Calm.block ?_)) (by kernel_rfl) (by kernel_rfl) rfl rfl rfl rfl rfl rfl rfl ?_)
        refine DO.arith 17 (r' := 1) (by repeat (first|exact Calm.ret|refine Calm.then ?_|refine Calm.block ?_)) (by kernel_rfl) (by kernel_rfl) rfl rfl rfl rfl rfl rfl rfl rfl (by first | rfl | omega | (simp only; omega)) (by omega) ?_
        refine DO.pure tab (by repeat (first|exact Calm.ret|refine Calm.then ?_|refine Calm.block ?_)) (by kernel_rfl) [18, 19] (by kernel_rfl) rfl ?_
        (refine DO.nil0 (by kernel_rfl) ?_)
        rotate_left 1
        repeat (first|refine q3 ?_|refine q4 tab rfl rfl ?_|refine q6 ?_|refine q7 ?_|refine q13 ?_|refine q17 rfl ?_)
        refine TO.step rfl (OT.arith (r' := ((k + 1 : Nat) : Int)) rfl rfl rfl rfl rfl rfl rfl (by omega) ?_)
        repeat (first|refine q4 tab rfl rfl ?_|refine q5 ?_|refine q6 ?_)
        exact ⟨k + 1, (by repeat (first|exact trivial|refine And.intro rfl ?_)), (by repeat (first|exact trivial|refine And.intro rfl ?_)), rfl, rfl, (by repeat (exact List.Sublist.refl _)), by omega, by omega⟩
      · repeat (first|refine q1 ?_|refine q3 ?_|refine q6 ?_|refine q10 ?_|refine q11 ?_|refine q14 ?_)
        refine TO.step rfl (OT.call rfl rfl rfl rfl rfl rfl goes8 ((awake_law m6 _).x ?_));
        rintro _ m7 _ ⟨hm7, rfl, rfl⟩
        repeat (refine q4 tab rfl rfl ?_)
        (refine TO.splitP rfl rfl (fun g1 => ?_) (fun g1 => ?_))
        · repeat (refine q4 tab rfl rfl ?_)
          refine TO.step rfl (OT.arith (r' := ((ls.length + ls.length : Nat) : Int)) rfl rfl rfl rfl rfl rfl (by (try simp only); omega) (by omega) ?_)
          have g2 : decide (((ls.length + ls.length : Nat) : Int) = ((ls.length + ls.length : Nat) : Int)) = true := decide_eq_true rfl
          repeat (first|refine q4 tab rfl rfl ?_|refine q5 ?_|refine q6 ?_|refine q15 ?_)
          refine retQ_ret rfl (by repeat (exact List.Sublist.refl _)) ⟨Mem.le_trans hm2 (Mem.le_trans hm3 (Mem.le_trans hm4 (Mem.le_trans hm5 (Mem.le_trans hm6 hm7)))), rfl, ?_⟩
          first | rfl | rw [g2] | simp
        · exact absurd rfl g1
    · have he2 : ¬ ls.length = 0 := by simp only at he; omega
      have hA : (if ls.length = 0 then (0 : Int) else 1) = 1 := if_neg he2
      have hB : (if ls.length = 0 then (0 : Int) else 2) = 2 := if_neg he2
      rw [hA, hB]
      repeat (first|refine q1 ?_|refine q2 ?_|refine q3 ?_|refine q4 tab rfl rfl ?_|refine q5 ?_|refine q6 ?_|refine q13 ?_)
      refine TC.loopK (ι := Nat) [3, 7, 8, 9, 10, 11, 12, 13, 14] rfl (fun k => [(15, .int .i64 (k : Int))]) (fun _ => m6) (fun _ => L) (fun k => k ≤ ls.length) (fun k => ls.length - k) 0 (by repeat (first|exact trivial|refine And.intro rfl ?_)) rfl (by repeat (first|exact List.Sublist.refl _|refine List.Sublist.cons _ ?_)) (Nat.zero_le _) ?_
      rintro k hk
      repeat (first|refine q1 ?_|refine q3 ?_|refine q4 tab rfl rfl ?_|refine q5 ?_|refine q6 ?_)
      refine TC.condP rfl (fun hlk => ?_) (fun hlk => ?_)
      · have hkl : k < ls.length := by simp only at hlk; omega
        have e1 : (List.replicate ls.length (0 : Int))[k]? = some 0 := by simp [hkl]
        have e2 : (List.replicate ls.length (0 : Int) ++ List.replicate ls.length 1)[k]? = some 0 := by rw [List.getElem?_append_left (by simpa using hkl)]; exact e1
        have e3 : (List.replicate ls.length (0 : Int) ++ List.replicate ls.length 1)[ls.length + k]? = some 1 := by rw [List.getElem?_append_right (by simp), List.length_replicate, Nat.add_sub_cancel_left]; simp [hkl]
        repeat (first|refine q1 ?_|refine q2 ?_|refine q6 ?_|refine q13 ?_)
        refine TC.draw0 [] mixed 20 rfl ?_
        refine DO.pure tab (by repeat (first|exact Calm.ret|refine Calm.then ?_|refine Calm.block ?_)) (by kernel_rfl) [0, 1] (by kernel_rfl) rfl ?_
        refine DO.index tab rInt 2 k ht1' (by repeat (first|exact Calm.ret|refine Calm.then ?_|refine Calm.block ?_)) (by kernel_rfl) (by kernel_rfl) rfl rfl rfl rfl rfl rfl rfl (by first | rfl | omega) rfl e1 ?_
        rintro b1 i1 v1 hv1 hA1; obtain rfl := (show v1 = 0 from hv1)
        (refine DO.loadA (k := 0) tab 3 hA1 (by repeat (first|exact Calm.ret|refine Calm.then ?_|refine Calm.block ?_)) (by kernel_rfl) (by kernel_rfl) rfl rfl rfl rfl rfl rfl rfl ?_)
        refine DO.pure tab (by repeat (first|exact Calm.ret|refine Calm.then ?_|refine Calm.block ?_)) (by kernel_rfl) [4, 5] (by kernel_rfl) rfl ?_
        (refine DO.splitN (d := 75) rfl (fun hg5 => ?_) (fun hg5 => ?_))
        · first | (exfalso; omega) | exact absurd rfl hg5 | exact absurd (by assumption) hg5 | contradiction
        refine DO.pure tab (by repeat (first|exact Calm.ret|refine Calm.then ?_|refine Calm.block ?_)) (by kernel_rfl) [6, 7] (by kernel_rfl) rfl ?_
        refine DO.index tab rInt 8 k ht2 (by repeat (first|exact Calm.ret|refine Calm.then ?_|refine Calm.block ?_)) (by kernel_rfl) (by kernel_rfl) rfl rfl rfl rfl rfl rfl rfl (by first | rfl | omega) rfl e2 ?_
        rintro b2 i2 v2 hv2 hA2; obtain rfl := (show v2 = 0 from hv2)
        (refine DO.loadA (k := 0) tab 9 hA2 (by repeat (first|exact Calm.ret|refine Calm.then ?_|refine Calm.block ?_)) (by kernel_rfl) (by kernel_rfl) rfl rfl rfl rfl rfl rfl rfl ?_)
        refine DO.pure tab (by repeat (first|exact Calm.ret|refine Calm.then ?_|refine Calm.block ?_)) (by kernel_rfl) [10, 11, 12, 13] (by kernel_rfl) rfl ?_
        refine DO.arith 14 (r' := ((ls.length + k : Nat) : Int)) (by repeat (first|exact Calm.ret|refine Calm.then ?_|refine Calm.block ?_)) (by kernel_rfl) (by kernel_rfl) rfl rfl rfl rfl rfl rfl rfl rfl (by first | rfl | omega | (simp only; omega)) (by omega) ?_
        refine DO.index tab rInt 15 (ls.length+k) ht2 (by repeat (first|exact Calm.ret|refine Calm.then ?_|refine Calm.block ?_)) (by kernel_rfl) (by kernel_rfl) rfl rfl rfl rfl rfl rfl rfl (by first | rfl | omega) rfl e3 ?_
        rintro b3 i3 v3 hv3 hA3; obtain rfl := (show v3 = 1 from hv3)
        (refine DO.loadA (k := 0) tab 16 hA3 (by repeat (first|exact Calm.ret|refine Calm.then ?_|refine Calm.block ?_)) (by kernel_rfl) (by kernel_rfl) rfl rfl rfl rfl rfl rfl rfl ?_)
        refine DO.arith 17 (r' := 1) (by repeat (first|exact Calm.ret|refine Calm.then ?_|refine Calm.block ?_)) (by kernel_rfl) (by kernel_rfl) rfl rfl rfl rfl rfl rfl rfl rfl (by first | rfl | omega | (simp only; omega)) (by omega) ?_
        refine DO.pure tab (by repeat (first|exact Calm.ret|refine Calm.then ?_|refine Calm.block ?_)) (by kernel_rfl) [18, 19] (by kernel_rfl) rfl ?_
        (refine DO.nil0 (by kernel_rfl) ?_)
        rotate_left 1
        repeat (first|refine q3 ?_|refine q4 tab rfl rfl ?_|refine q6 ?_|refine q7 ?_|refine q13 ?_|refine q17 rfl ?_)
        refine TO.step rfl (OT.arith (r' := ((k + 1 : Nat) : Int)) rfl rfl rfl rfl rfl rfl rfl (by omega) ?_)
        repeat (first|refine q4 tab rfl rfl ?_|refine q5 ?_|refine q6 ?_)
        exact ⟨k + 1, (by repeat (first|exact trivial|refine And.intro rfl ?_)), (by repeat (first|exact trivial|refine And.intro rfl ?_)), rfl, rfl, (by repeat (exact List.Sublist.refl _)), by omega, by omega⟩
      · repeat (first|refine q1 ?_|refine q3 ?_|refine q6 ?_|refine q10 ?_|refine q11 ?_|refine q14 ?_)
        refine TO.step rfl (OT.call rfl rfl rfl rfl rfl rfl goes8 ((awake_law m6 _).x ?_));
        rintro _ m7 _ ⟨hm7, rfl, rfl⟩
        repeat (refine q4 tab rfl rfl ?_)
        (refine TO.splitP rfl rfl (fun g1 => ?_) (fun g1 => ?_))
        · repeat (refine q4 tab rfl rfl ?_)
          refine TO.step rfl (OT.arith (r' := ((ls.length + ls.length : Nat) : Int)) rfl rfl rfl rfl rfl rfl (by (try simp only); omega) (by omega) ?_)
          have g2 : decide (((ls.length + ls.length : Nat) : Int) = ((ls.length + ls.length : Nat) : Int)) = true := decide_eq_true rfl
          repeat (first|refine q4 tab rfl rfl ?_|refine q5 ?_|refine q6 ?_|refine q15 ?_)
          refine retQ_ret rfl (by repeat (exact List.Sublist.refl _)) ⟨Mem.le_trans hm2 (Mem.le_trans hm3 (Mem.le_trans hm4 (Mem.le_trans hm5 (Mem.le_trans hm6 hm7)))), rfl, ?_⟩
          first | rfl | rw [g2] | simp
        · exact absurd rfl g1
end Go.Sep
