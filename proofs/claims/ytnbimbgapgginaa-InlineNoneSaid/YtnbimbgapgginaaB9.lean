/-
  What a plan keeps, plainly.
-/
import Derived.Test.YtnbimbgapgginaaB8
set_option linter.unusedVariables false
set_option linter.unusedSimpArgs false
namespace Go.Sep
theorem planE_inv {h : Hier} {sizes : List Int} {budget most : Int} (hE : planE h sizes budget most = 0) : soundM h = 0 ∧ (sizes.length : Int) = h.funcs ∧ (∀ n ∈ sizes, 1 ≤ n ∧ n ≤ 65536) ∧ 0 ≤ budget ∧ budget ≤ 1073741824 ∧ 0 ≤ most ∧ most ≤ 1073741824 := by
  unfold planE at hE
  split at hE
  · rename_i h1; exact absurd hE h1
  · rename_i h1
    split at hE
    · cases hE
    · rename_i h2
      split at hE
      · cases hE
      · rename_i h3
        refine ⟨by simpa using h1, ?_, fun n hn => ?_, by omega, by omega, by omega, by omega⟩
        · apply Classical.byContradiction
          intro e; exact h2 (.inl e)
        · apply Classical.byContradiction
          intro e; exact h2 (.inr ⟨n, hn, by omega⟩)
theorem planOut_inv {h : Hier} {sizes : List Int} {budget most : Int} {o a : List Int} (hE : planE h sizes budget most = 0) (hp : PlanOut h sizes budget most o a) : ∃ st, PlanR h.sites (againP h) budget most (directL h.sites) ⟨sizes, 0, []⟩ st ∧ o = st.out ∧ a = st.after := by
  unfold PlanOut at hp
  rw [if_neg (by simpa using hE)] at hp
  exact hp
theorem sum_set : ∀ (l : List Int) (i : Nat) (v : Int), i < l.length → (l.set i v).sum = l.sum - at0 l i + v
  | [], i, v, h => by simp at h
  | x :: xs, 0, v, h => by simp [at0]; omega
  | x :: xs, i + 1, v, h => by
    have := sum_set xs i v (by simpa using h)
    simp only [List.set_cons_succ, List.sum_cons, this]
    have e : at0 (x :: xs) (i + 1) = at0 xs i := by simp [at0]
    rw [e]; omega
section
variable {sites : List Site} {again : Int → Bool} {budget most : Int}
structure KI (sites : List Site) (again : Int → Bool) (budget most : Int) (sizes : List Int) (W : List Nat) (st : PSt) : Prop where
  ok : StOk sizes.length st
  lo : ∀ i, at0 sizes i ≤ at0 st.after i
  hi : ∀ i, at0 sizes i < at0 st.after i → at0 st.after i ≤ most
  sum : st.after.sum = sizes.sum + st.growth
  gr : st.growth ≤ budget
  outm : ∀ x ∈ st.out, ∃ w : Nat, x = (w : Int) ∧ w < sites.length ∧ isDir sites w = true ∧ again (siteD sites w).to = false
  nd : st.out.Nodup
  dis : ∀ w ∈ W, ((w : Nat) : Int) ∉ st.out
  wnd : W.Nodup
  wm : ∀ w ∈ W, w < sites.length ∧ isDir sites w = true
theorem KI.start {sizes : List Int} (h : StOk sizes.length ⟨sizes, 0, []⟩) (hb : 0 ≤ budget) : KI sites again budget most sizes (directL sites) ⟨sizes, 0, []⟩ := by
  refine ⟨h, fun _ => Int.le_refl _, fun i hi => by simp at hi, by simp, hb, fun x hx => by simp at hx, List.nodup_nil, fun w _ hx => by simp at hx, List.Pairwise.filter _ List.nodup_range, fun w hw => ?_⟩
  obtain ⟨h1, h2⟩ := List.mem_filter.1 hw
  exact ⟨List.mem_range.1 h1, h2⟩
theorem KI.step {sizes : List Int} {W : List Nat} {st : PSt} (h : KI sites again budget most sizes W st) {b : Nat} (hb : b ∈ W) (hf : frN sites b < sizes.length) (ht : toN sites b < sizes.length) (hb2 : budget ≤ 1073741824) (hm2 : most ≤ 1073741824) :
    KI sites again budget most sizes (W.erase b) (actP sites again budget most st b) := by
  obtain ⟨hA1, hA2⟩ := h.ok.act (again := again) hf ht hb2 hm2
  have hnd : (W.erase b).Nodup := h.wnd.erase b
  have hsub : ∀ w ∈ W.erase b, w ∈ W ∧ w ≠ b := fun w hw => by
    rw [h.wnd.mem_erase_iff] at hw
    exact ⟨hw.2, hw.1⟩
  cases ho : okP sites again budget most st b with
  | false =>
    rw [act_out _ _ ho] at hA1 ⊢
    exact ⟨hA1, h.lo, h.hi, h.sum, h.gr, h.outm, h.nd, fun w hw => h.dis w (hsub w hw).1, hnd, fun w hw => h.wm w (hsub w hw).1⟩
  | true =>
    rw [act_in _ _ ho] at hA1 hA2 ⊢
    unfold okP at ho
    simp only [Bool.not_eq_true', Bool.or_eq_false_iff, decide_eq_false_iff_not] at ho
    obtain ⟨o1, o2, o3, o4⟩ := ho
    have hl := h.ok.len
    refine ⟨hA1, fun i => Int.le_trans (h.lo i) (hA2 i), fun i hi => ?_, ?_, by simp only; omega, fun x hx => ?_, ?_, fun w hw hx => ?_, hnd, fun w hw => h.wm w (hsub w hw).1⟩
    · simp only at hi ⊢
      rw [at0_set] at hi ⊢
      split
      · omega
      · rename_i e
        rw [if_neg e] at hi
        exact h.hi i hi
    · simp only
      rw [sum_set _ _ _ (by omega), h.sum]
      omega
    · rcases List.mem_append.1 hx with hx | hx
      · exact h.outm x hx
      · simp only [List.mem_singleton] at hx
        exact ⟨b, hx, (h.wm b hb).1, (h.wm b hb).2, o1⟩
    · simp only
      rw [List.nodup_append]
      refine ⟨h.nd, by simp, fun a ha c hc => ?_⟩
      simp only [List.mem_singleton] at hc
      subst hc
      intro e
      subst e
      exact h.dis b hb ha
    · simp only at hx
      rcases List.mem_append.1 hx with hx | hx
      · exact h.dis w (hsub w hw).1 hx
      · simp only [List.mem_singleton] at hx
        exact (hsub w hw).2 (by omega)
theorem KI.all {sizes : List Int} {W : List Nat} {st f : PSt} (p : PlanR sites again budget most W st f) (hr : ∀ w, w < sites.length → isDir sites w = true → frN sites w < sizes.length ∧ toN sites w < sizes.length) (hb2 : budget ≤ 1073741824) (hm2 : most ≤ 1073741824) (h : KI sites again budget most sizes W st) : KI sites again budget most sizes [] f := by
  induction p with
  | done => exact h
  | step hb k ih =>
    have h1 := h.wm _ hb.1
    have h2 := hr _ h1.1 h1.2
    exact ih (h.step hb.1 h2.1 h2.2 hb2 hm2)
/-- without a budget -/
structure NI (sites : List Site) (sizes : List Int) (W : List Nat) (st : PSt) : Prop where
  eq : st.after = sizes
  gr : st.growth = 0
  outm : ∀ x ∈ st.out, ∃ w : Nat, x = (w : Int) ∧ w < sites.length ∧ at0 sizes (toN sites w) = 1
  wm : ∀ w ∈ W, w < sites.length ∧ isDir sites w = true
theorem set_add0 {l : List Int} {i : Nat} (h : i < l.length) : l.set i (at0 l i + 0) = l := by
  apply List.ext_getElem?
  intro k
  rw [List.getElem?_set]
  split
  · rename_i e; subst e
    rw [at0_get h, Int.add_zero]
  · rfl
theorem NI.all {sizes : List Int} {W : List Nat} {st f : PSt} (p : PlanR sites again 0 most W st f) (hr : ∀ w, w < sites.length → isDir sites w = true → frN sites w < sizes.length ∧ toN sites w < sizes.length) (h1 : ∀ i, i < sizes.length → 1 ≤ at0 sizes i) (h : NI sites sizes W st) : NI sites sizes [] f := by
  induction p with
  | done => exact ⟨h.eq, h.gr, h.outm, fun w hw => by cases hw⟩
  | step hb k ih =>
    rename_i W' st0 st1 b
    apply ih
    have hw := h.wm _ hb.1
    obtain ⟨r1, r2⟩ := hr _ hw.1 hw.2
    have hwm : ∀ w ∈ W'.erase b, w < sites.length ∧ isDir sites w = true := fun w hw => h.wm w (List.mem_of_mem_erase hw)
    cases ho : okP sites again 0 most st0 b with
    | false => rw [act_out _ _ ho]; exact ⟨h.eq, h.gr, h.outm, hwm⟩
    | true =>
      rw [act_in _ _ ho]
      unfold okP at ho
      simp only [Bool.not_eq_true', Bool.or_eq_false_iff, decide_eq_false_iff_not] at ho
      obtain ⟨o1, o2, o3, o4⟩ := ho
      have hg := h.gr
      have he := h.eq
      rw [he] at o3 o4 ⊢
      have h3 := h1 _ r2
      have hz : at0 sizes (toN sites b) = 1 := by omega
      refine ⟨?_, by simp only; omega, fun x hx => ?_, hwm⟩
      · simp only
        rw [hz, show (1 : Int) - 1 = 0 by decide]
        exact set_add0 r1
      · rcases List.mem_append.1 hx with hx | hx
        · exact h.outm x hx
        · simp only [List.mem_singleton] at hx
          exact ⟨b, hx, hw.1, hz⟩
theorem NI.start {sizes : List Int} : NI sites sizes (directL sites) ⟨sizes, 0, []⟩ := by
  refine ⟨rfl, rfl, fun x hx => by simp at hx, fun w hw => ?_⟩
  obtain ⟨h1, h2⟩ := List.mem_filter.1 hw
  exact ⟨List.mem_range.1 h1, h2⟩
end
end Go.Sep

/-
  The law InlineNone.
-/
set_option linter.unusedVariables false
set_option linter.unusedSimpArgs false
namespace Go.Sep
open Go.Proofs
attribute [local irreducible] TC TO OT TCallX TCall DO DOt thenQ blockQ retQ At
theorem site_rng {h : Hier} (hg : Good h) {n : Nat} (hn : (n : Int) = h.funcs) : ∀ w, w < h.sites.length → isDir h.sites w = true → frN h.sites w < n ∧ toN h.sites w < n := fun w hw _ => by
  have hx : h.sites[w]? = some h.sites[w] := by simp [hw]
  have h1 := hg.sites _ (List.getElem_mem hw)
  have h2 := site_to h1
  have h3 := h1.frm
  unfold frN toN
  rw [siteD_eq hx]
  omega
set_option maxHeartbeats 1000000 in
theorem none_law (m : Mem) (L : List Item) (hh : HHier) (h : Hier) (hr : HierRep m hh h) (ss : Sl) (sizes : List Int) (hss : SlRep rInt m ss sizes) :
    TCall Try.prog 5 ⟨[hierV hh, ss.v]⟩ m L (Made m L fun r m' => r = .bool true) := by
  unfold TCall
  refine TCallX.enter Try.func5 rfl 45 rfl ?_
  repeat (first|refine q1 ?_|refine q3 ?_)
  refine TO.step rfl (OT.box rfl rfl rfl rfl rfl (fun b => ?_))
  repeat (first|(first|refine q1 ?_|refine q3 ?_|refine q4 tab rfl rfl ?_|refine q5 ?_|refine q6 ?_)|(refine qs rfl (qz tab 0 rfl rfl rfl rfl rfl rfl ?_)))
  refine TO.step rfl (OT.call rfl rfl rfl rfl rfl rfl goes9 ((plan_own m _ hh h hr ss sizes hss 0 65536).x ?_));
  rintro _ m1 _ ⟨hm1, rfl, tn, ta, o, a, rfl, hto, hta, hpo⟩
  repeat (first|refine q1 ?_|refine q3 ?_|refine q4 tab rfl rfl ?_|refine q5 ?_|refine q6 ?_)
  refine TO.step rfl (OT.call rfl rfl rfl rfl rfl rfl goes8 ((awake_law m1 _).x ?_));
  rintro _ m2 _ ⟨hm2, rfl, rfl⟩
  have hr2 := (hr.mono hm1).mono hm2
  have hss2 := (hss.mono hm1).mono hm2
  have hto2 := hto.mono hm2
  have hta2 := hta.mono hm2
  have h3 := hr.sites.len
  repeat (first|refine q4 tab rfl rfl ?_|refine q5 ?_|refine q6 ?_)
  refine TC.condN rfl (fun hb => ?_) (fun hb => ?_)
  · repeat (first|refine q1 ?_|refine q3 ?_)
    refine TO.step rfl (OT.call rfl rfl rfl rfl rfl rfl goes8 ((awake_law m2 _).x ?_));
    rintro _ m3 _ ⟨hm3, rfl, rfl⟩
    repeat (first|refine q4 tab rfl rfl ?_|refine q5 ?_|refine q6 ?_|refine q8 ?_|refine q15 ?_)
    refine retQ_ret rfl (by repeat (first|exact List.Sublist.refl _|refine List.Sublist.cons _ ?_)) ⟨Mem.le_trans hm1 (Mem.le_trans hm2 hm3), rfl, rfl⟩
  · have hE : planE h sizes 0 65536 = 0 := by simpa using hb
    obtain ⟨h0, hlen, hall, _⟩ := planE_inv hE
    obtain ⟨hsm, hg⟩ := soundM_ok.1 h0
    obtain ⟨st, hp, rfl, rfl⟩ := planOut_inv hE hpo
    have hN := NI.all hp (site_rng hg hlen) (fun i hi => by
      have hm : at0 sizes i ∈ sizes := by unfold at0; rw [List.getElem?_eq_getElem hi]; exact List.getElem_mem hi
      exact (hall _ hm).1) NI.start
    have hol := hto.len
    have hos := hto.small rfl
    repeat (first|refine q1 ?_|refine q2 ?_|refine q3 ?_|refine q4 tab rfl rfl ?_|refine q5 ?_|refine q6 ?_|refine q13 ?_)
    refine TC.loopK (ι := Nat) [1, 2, 5, 6] rfl (fun k => [(8, .int .i64 (k : Int))]) (fun _ => m2) (fun _ => .cells b 0 (hierC hh) :: L) (fun k => k ≤ st.out.length) (fun k => st.out.length - k) 0 (by repeat (first|exact trivial|refine And.intro rfl ?_)) rfl (by repeat (exact List.Sublist.refl _)) (Nat.zero_le _) ?_
    rintro k hk
    repeat (first|refine q1 ?_|refine q3 ?_|refine q4 tab rfl rfl ?_|refine q5 ?_|refine q6 ?_)
    refine TC.condP rfl (fun hlt' => ?_) (fun hlt' => ?_)
    · have hlt : k < st.out.length := by omega
      have hx : st.out[k]? = some st.out[k] := by simp [hlt]
      obtain ⟨w, hw1, hw2, hw3⟩ := hN.outm _ (List.getElem_mem hlt)
      rw [hw1] at hx
      have hxs : h.sites[w]? = some h.sites[w] := by simp [hw2]
      have hsk := hg.sites _ (List.getElem_mem hw2)
      have hsd := siteD_eq hxs
      generalize h.sites[w] = s0 at hxs hsk hsd
      have hto := site_to hsk
      have hz : sizes[s0.to.toNat]? = some 1 := by
        unfold toN at hw3
        rw [hsd] at hw3
        rw [at0_get (by omega), hw3]
      repeat (first|refine q1 ?_|refine q2 ?_|refine q6 ?_|refine q13 ?_)
      refine TC.draw0 [] mixed 13 rfl ?_
      refine DO.pure tab (by repeat (first|exact Calm.ret|refine Calm.then ?_|refine Calm.block ?_)) (by kernel_rfl) [0, 1] (by kernel_rfl) rfl ?_
      (refine DO.loadL tab 2 0 (by repeat (first|exact Calm.ret|refine Calm.then ?_|refine Calm.block ?_)) (by kernel_rfl) (by kernel_rfl) rfl rfl rfl rfl rfl rfl rfl rfl ?_)
      refine DO.pure tab (by repeat (first|exact Calm.ret|refine Calm.then ?_|refine Calm.block ?_)) (by kernel_rfl) [3, 4] (by kernel_rfl) rfl ?_
      refine DO.index tab rInt 5 k hto2 (by repeat (first|exact Calm.ret|refine Calm.then ?_|refine Calm.block ?_)) (by kernel_rfl) (by kernel_rfl) rfl rfl rfl rfl rfl rfl rfl (by first | rfl | omega) rfl hx ?_
      rintro b1 i1 v1 hv1 hA1; obtain rfl := (show v1 = (w : Int) from hv1)
      (refine DO.loadA (k := 0) tab 6 hA1 (by repeat (first|exact Calm.ret|refine Calm.then ?_|refine Calm.block ?_)) (by kernel_rfl) (by kernel_rfl) rfl rfl rfl rfl rfl rfl rfl ?_)
      refine DO.index tab rSite 7 w hr2.sites (by repeat (first|exact Calm.ret|refine Calm.then ?_|refine Calm.block ?_)) (by kernel_rfl) (by kernel_rfl) rfl rfl rfl rfl rfl rfl rfl (by first | rfl | omega) rfl hxs ?_
      rintro b2 i2 s2 hs2 hA2; obtain rfl := (show s2 = s0 from hs2)
      refine DO.pure tab (by repeat (first|exact Calm.ret|refine Calm.then ?_|refine Calm.block ?_)) (by kernel_rfl) [8] (by kernel_rfl) rfl ?_
      (refine DO.loadA tab 9 hA2 (by repeat (first|exact Calm.ret|refine Calm.then ?_|refine Calm.block ?_)) (by kernel_rfl) (by kernel_rfl) rfl rfl rfl rfl rfl rfl rfl ?_)
      refine DO.index tab rInt 10 s2.to.toNat hss2 (by repeat (first|exact Calm.ret|refine Calm.then ?_|refine Calm.block ?_)) (by kernel_rfl) (by kernel_rfl) rfl rfl rfl rfl rfl rfl rfl (by first | rfl | omega) rfl hz ?_
      rintro b3 i3 v3 hv3 hA3; obtain rfl := (show v3 = 1 from hv3)
      (refine DO.loadA (k := 0) tab 11 hA3 (by repeat (first|exact Calm.ret|refine Calm.then ?_|refine Calm.block ?_)) (by kernel_rfl) (by kernel_rfl) rfl rfl rfl rfl rfl rfl rfl ?_)
      refine DO.pure tab (by repeat (first|exact Calm.ret|refine Calm.then ?_|refine Calm.block ?_)) (by kernel_rfl) [12] (by kernel_rfl) rfl ?_
      (refine DO.nil0 (by kernel_rfl) ?_)
      rotate_left 1
      repeat (first|refine q3 ?_|refine q4 tab rfl rfl ?_|refine q6 ?_|refine q7 ?_|refine q13 ?_|refine q17 rfl ?_)
      refine TO.step rfl (OT.arith (r' := ((k + 1 : Nat) : Int)) rfl rfl rfl rfl rfl rfl rfl (by omega) ?_)
      repeat (first|refine q4 tab rfl rfl ?_|refine q5 ?_|refine q6 ?_)
      exact ⟨k + 1, (by repeat (first|exact trivial|refine And.intro rfl ?_)), (by repeat (first|exact trivial|refine And.intro rfl ?_)), rfl, rfl, (by repeat (exact List.Sublist.refl _)), by omega, by omega⟩
    · repeat (first|refine q1 ?_|refine q3 ?_|refine q4 tab rfl rfl ?_|refine q6 ?_|refine q10 ?_|refine q11 ?_|refine q14 ?_)
      rw [hN.eq] at hta2
      refine TO.step rfl (OT.call rfl rfl rfl rfl rfl rfl goes11 ((same_law m2 _ ta ss sizes sizes hta2 hss2).x ?_));
      rintro _ _ _ ⟨rfl, rfl, rfl⟩
      have hea : decide (sizes = sizes) = true := decide_eq_true rfl
      simp only [hea]
      repeat (first|refine q4 tab rfl rfl ?_|refine q5 ?_|refine q6 ?_|refine q15 ?_)
      refine retQ_ret rfl (by repeat (first|exact List.Sublist.refl _|refine List.Sublist.cons _ ?_)) ⟨Mem.le_trans hm1 hm2, rfl, rfl⟩
end Go.Sep

/-
  The law InlineKeeps.
-/
set_option linter.unusedVariables false
set_option linter.unusedSimpArgs false
namespace Go.Sep
open Go.Proofs
attribute [local irreducible] TC TO OT TCallX TCall DO DOt thenQ blockQ retQ At
theorem sum_take {l : List Int} {k : Nat} (h : k < l.length) : (l.take (k + 1)).sum = (l.take k).sum + at0 l k := by
  rw [List.take_add_one, at0_get h]
  simp
theorem sum_rng {l : List Int} (h : ∀ i, i < l.length → 1 ≤ at0 l i ∧ at0 l i ≤ 1073741824) : ∀ k, k ≤ l.length → 0 ≤ (l.take k).sum ∧ (l.take k).sum ≤ (k : Int) * 1073741824
  | 0, _ => by simp
  | k + 1, hk => by
    have h1 := sum_rng h k (by omega)
    have h2 := h k (by omega)
    rw [sum_take (by omega)]
    omega
set_option maxHeartbeats 4000000 in
theorem keeps_law (m : Mem) (L : List Item) (hh : HHier) (h : Hier) (hr : HierRep m hh h) (ss : Sl) (sizes : List Int) (hss : SlRep rInt m ss sizes) (budget most : Int) :
    TCall Try.prog 4 ⟨[hierV hh, ss.v, .int .i64 budget, .int .i64 most]⟩ m L (Made m L fun r m' => r = .bool true) := by
  have hq1 := hr.sites.len
  unfold TCall
  refine TCallX.enter Try.func4 rfl 163 rfl ?_
  repeat (first|refine q1 ?_|refine q3 ?_)
  refine TO.step rfl (OT.box rfl rfl rfl rfl rfl (fun b => ?_))
  repeat (first|(first|refine q1 ?_|refine q3 ?_|refine q4 tab rfl rfl ?_|refine q5 ?_|refine q6 ?_)|(refine qs rfl (qz tab 0 rfl rfl rfl rfl rfl rfl ?_)))
  refine TO.step rfl (OT.call rfl rfl rfl rfl rfl rfl goes9 ((plan_own m _ hh h hr ss sizes hss budget most).x ?_));
  rintro _ m1 _ ⟨hm1, rfl, tn, ta, o, a, rfl, hto, hta, hpo⟩
  repeat (first|refine q1 ?_|refine q3 ?_|refine q4 tab rfl rfl ?_|refine q5 ?_|refine q6 ?_)
  refine TO.step rfl (OT.call rfl rfl rfl rfl rfl rfl goes8 ((awake_law m1 _).x ?_));
  rintro _ m2 _ ⟨hm2, rfl, rfl⟩
  have hr2 := (hr.mono hm1).mono hm2
  have hss2 := (hss.mono hm1).mono hm2
  have hto2 := hto.mono hm2
  have hta2 := hta.mono hm2
  repeat (refine q4 tab rfl rfl ?_)
  (refine TO.splitN rfl rfl (fun hb => ?_) (fun hb => ?_))
  · repeat (first|refine q1 ?_|refine q3 ?_|refine q4 tab rfl rfl ?_|refine q5 ?_|refine q6 ?_|refine q16 rfl ?_)
    refine TO.step rfl (OT.call rfl rfl rfl rfl rfl rfl goes8 ((awake_law m2 _).x ?_));
    rintro _ m3 _ ⟨hm3, rfl, rfl⟩
    repeat (first|refine q4 tab rfl rfl ?_|refine q5 ?_|refine q6 ?_|refine q8 ?_|refine q15 ?_)
    refine retQ_ret rfl (by repeat (first|exact List.Sublist.refl _|refine List.Sublist.cons _ ?_)) ⟨Mem.le_trans hm1 (Mem.le_trans hm2 hm3), rfl, rfl⟩
  · have hE : planE h sizes budget most = 0 := by simpa using hb
    repeat ((refine qs rfl (qz tab 0 rfl rfl rfl rfl rfl rfl ?_)))
    refine TO.step rfl (OT.call rfl rfl rfl rfl rfl rfl goes7 ((small_law m2 _ hh h hr2).x ?_));
    rintro _ _ _ ⟨rfl, rfl, rfl⟩
    cases hsb : smallB h with
    | false =>
      repeat (first|refine q1 ?_|refine q3 ?_|refine q4 tab rfl rfl ?_|refine q5 ?_|refine q6 ?_|refine q16 rfl ?_)
      refine TO.step rfl (OT.call rfl rfl rfl rfl rfl rfl goes8 ((awake_law m2 _).x ?_));
      rintro _ m3 _ ⟨hm3, rfl, rfl⟩
      repeat (first|refine q4 tab rfl rfl ?_|refine q5 ?_|refine q6 ?_|refine q8 ?_|refine q15 ?_)
      refine retQ_ret rfl (by repeat (first|exact List.Sublist.refl _|refine List.Sublist.cons _ ?_)) ⟨Mem.le_trans hm1 (Mem.le_trans hm2 hm3), rfl, rfl⟩
    | true =>
      obtain ⟨h0, hlen, hall, hb1, hb2, hm1', hm2'⟩ := planE_inv hE
      obtain ⟨hsm, hg⟩ := soundM_ok.1 h0
      have hn := hg.funcs
      have hn2 := hsm.1
      have hst0 : StOk sizes.length ⟨sizes, 0, []⟩ := ⟨rfl, fun i hi => by
        have hm : at0 sizes i ∈ sizes := by unfold at0; rw [List.getElem?_eq_getElem hi]; exact List.getElem_mem hi
        have := hall _ hm
        simp only; omega, by simp only; omega⟩
      obtain ⟨st, hp, rfl, rfl⟩ := planOut_inv hE hpo
      have hK := KI.all hp (site_rng hg hlen) hb2 hm2' (KI.start hst0 hb1)
      have hal := hK.ok.len
      have hrng := hK.ok.rng
      have hol := hto.len
      have hos := hto.small rfl
      have hsl := hss.len
      have htl := hta.len
      repeat (first|refine q1 ?_|refine q2 ?_|refine q3 ?_|refine q4 tab rfl rfl ?_|refine q5 ?_|refine q6 ?_|refine q13 ?_|refine q17 rfl ?_)
      refine TC.loopK (ι := Nat) [1, 2, 3, 4, 9, 10] rfl (fun k => [(14, .int .i64 (k : Int)), (12, .int .i64 ((st.after.take k).sum)), (13, .int .i64 ((sizes.take k).sum))]) (fun _ => m2) (fun _ => .cells b 0 (hierC hh) :: L) (fun k => k ≤ sizes.length) (fun k => sizes.length - k) 0 (by repeat (first|exact trivial|refine And.intro rfl ?_)) rfl (by repeat (exact List.Sublist.refl _)) (Nat.zero_le _) ?_
      rintro k hk
      have hsr := sum_rng (l := st.after) (fun i hi => hrng i (by omega)) k (by omega)
      have hsr2 := sum_rng (l := sizes) (fun i hi => hst0.rng i hi) k hk
      repeat (first|refine q1 ?_|refine q3 ?_|refine q4 tab rfl rfl ?_|refine q5 ?_|refine q6 ?_)
      refine TC.condP rfl (fun hlt' => ?_) (fun hlt' => ?_)
      · have hlt : k < sizes.length := by omega
        have hx1 : st.after[k]? = some (at0 st.after k) := at0_get (by omega)
        have hx2 : sizes[k]? = some (at0 sizes k) := at0_get hlt
        have h1 := hK.lo k
        have h2 := hK.hi k
        have h3 := hrng k hlt
        have h4 := hst0.rng k hlt
        simp only at h4
        have hs1 := sum_take (l := st.after) (k := k) (by omega)
        have hs2 := sum_take (l := sizes) (k := k) hlt
        repeat (first|refine q1 ?_|refine q2 ?_|refine q6 ?_|refine q13 ?_)
        refine TC.draw0 [] mixed 28 rfl ?_
        refine DO.pure tab (by repeat (first|exact Calm.ret|refine Calm.then ?_|refine Calm.block ?_)) (by kernel_rfl) [0, 1] (by kernel_rfl) rfl ?_
        refine DO.index tab rInt 2 k hta2 (by repeat (first|exact Calm.ret|refine Calm.then ?_|refine Calm.block ?_)) (by kernel_rfl) (by kernel_rfl) rfl rfl rfl rfl rfl rfl rfl (by first | rfl | omega) rfl hx1 ?_
        rintro b1 i1 v1 hv1 hA1; obtain rfl := (show v1 = at0 st.after k from hv1)
        (refine DO.loadA (k := 0) tab 3 hA1 (by repeat (first|exact Calm.ret|refine Calm.then ?_|refine Calm.block ?_)) (by kernel_rfl) (by kernel_rfl) rfl rfl rfl rfl rfl rfl rfl ?_)
        refine DO.pure tab (by repeat (first|exact Calm.ret|refine Calm.then ?_|refine Calm.block ?_)) (by kernel_rfl) [4, 5] (by kernel_rfl) rfl ?_
        refine DO.index tab rInt 6 k hss2 (by repeat (first|exact Calm.ret|refine Calm.then ?_|refine Calm.block ?_)) (by kernel_rfl) (by kernel_rfl) rfl rfl rfl rfl rfl rfl rfl (by first | rfl | omega) rfl hx2 ?_
        rintro b2 i2 v2 hv2 hA2; obtain rfl := (show v2 = at0 sizes k from hv2)
        (refine DO.loadA (k := 0) tab 7 hA2 (by repeat (first|exact Calm.ret|refine Calm.then ?_|refine Calm.block ?_)) (by kernel_rfl) (by kernel_rfl) rfl rfl rfl rfl rfl rfl rfl ?_)
        refine DO.pure tab (by repeat (first|exact Calm.ret|refine Calm.then ?_|refine Calm.block ?_)) (by kernel_rfl) [8, 9] (by kernel_rfl) rfl ?_
        (refine DO.splitP (d := 55) rfl (fun hg9 => ?_) (fun hg9 => ?_))
        · first | (exfalso; omega) | exact absurd rfl hg9 | exact absurd (by assumption) hg9 | contradiction
        refine DO.pure tab (by repeat (first|exact Calm.ret|refine Calm.then ?_|refine Calm.block ?_)) (by kernel_rfl) [10, 11] (by kernel_rfl) rfl ?_
        refine DO.index tab rInt 12 k hta2 (by repeat (first|exact Calm.ret|refine Calm.then ?_|refine Calm.block ?_)) (by kernel_rfl) (by kernel_rfl) rfl rfl rfl rfl rfl rfl rfl (by first | rfl | omega) rfl hx1 ?_
        rintro b3 i3 v3 hv3 hA3; obtain rfl := (show v3 = at0 st.after k from hv3)
        (refine DO.loadA (k := 0) tab 13 hA3 (by repeat (first|exact Calm.ret|refine Calm.then ?_|refine Calm.block ?_)) (by kernel_rfl) (by kernel_rfl) rfl rfl rfl rfl rfl rfl rfl ?_)
        refine DO.pure tab (by repeat (first|exact Calm.ret|refine Calm.then ?_|refine Calm.block ?_)) (by kernel_rfl) [14, 15] (by kernel_rfl) rfl ?_
        refine DO.index tab rInt 16 k hss2 (by repeat (first|exact Calm.ret|refine Calm.then ?_|refine Calm.block ?_)) (by kernel_rfl) (by kernel_rfl) rfl rfl rfl rfl rfl rfl rfl (by first | rfl | omega) rfl hx2 ?_
        rintro b4 i4 v4 hv4 hA4; obtain rfl := (show v4 = at0 sizes k from hv4)
        (refine DO.loadA (k := 0) tab 17 hA4 (by repeat (first|exact Calm.ret|refine Calm.then ?_|refine Calm.block ?_)) (by kernel_rfl) (by kernel_rfl) rfl rfl rfl rfl rfl rfl rfl ?_)
        refine DO.pure tab (by repeat (first|exact Calm.ret|refine Calm.then ?_|refine Calm.block ?_)) (by kernel_rfl) [18, 19] (by kernel_rfl) rfl ?_
        (refine DO.splitP (d := 65) rfl (fun hg19 => ?_) (fun hg19 => ?_))
        refine DO.pure tab (by repeat (first|exact Calm.ret|refine Calm.then ?_|refine Calm.block ?_)) (by kernel_rfl) [20, 21] (by kernel_rfl) rfl ?_
        refine DO.index tab rInt 22 k hta2 (by repeat (first|exact Calm.ret|refine Calm.then ?_|refine Calm.block ?_)) (by kernel_rfl) (by kernel_rfl) rfl rfl rfl rfl rfl rfl rfl (by first | rfl | omega) rfl hx1 ?_
        rintro b5 i5 v5 hv5 hA5; obtain rfl := (show v5 = at0 st.after k from hv5)
        (refine DO.loadA (k := 0) tab 23 hA5 (by repeat (first|exact Calm.ret|refine Calm.then ?_|refine Calm.block ?_)) (by kernel_rfl) (by kernel_rfl) rfl rfl rfl rfl rfl rfl rfl ?_)
        refine DO.pure tab (by repeat (first|exact Calm.ret|refine Calm.then ?_|refine Calm.block ?_)) (by kernel_rfl) [24, 25, 26, 27] (by kernel_rfl) rfl ?_
        (refine DO.nil0 (by kernel_rfl) ?_)
        rotate_left 1
        refine DO.pure tab (by repeat (first|exact Calm.ret|refine Calm.then ?_|refine Calm.block ?_)) (by kernel_rfl) [20, 21, 22, 23, 24, 25, 26, 27] (by kernel_rfl) rfl ?_
        (refine DO.nil0 (by kernel_rfl) ?_)
        rotate_left 1
        · repeat (refine q6 ?_)
          refine TC.condP rfl (fun hmo => ?_) (fun hmo => ?_)
          · exfalso
            have := h2 hg19
            omega
          · skip
            repeat (first|refine q1 ?_|refine q3 ?_|refine q4 tab rfl rfl ?_|refine q6 ?_|refine q13 ?_)
            refine TO.step rfl (OT.index tab rInt k hta2 rfl rfl rfl rfl rfl (by first | rfl | omega | (simp only; omega)) rfl hx1 ?_)
            rintro b6 i6 v6 hv6 hA6
            obtain rfl := (show v6 = at0 st.after k from hv6)
            (refine TO.step rfl (OT.loadA0 tab hA6 rfl rfl rfl rfl rfl ?_))
            refine TO.step rfl (OT.arith (r' := (st.after.take (k + 1)).sum) rfl rfl rfl rfl rfl rfl (by rw [hs1]) (by omega) ?_)
            repeat (first|refine q3 ?_|refine q4 tab rfl rfl ?_|refine q5 ?_|refine q6 ?_)
            refine TO.step rfl (OT.index tab rInt k hss2 rfl rfl rfl rfl rfl (by first | rfl | omega | (simp only; omega)) rfl hx2 ?_)
            rintro b7 i7 v7 hv7 hA7
            obtain rfl := (show v7 = at0 sizes k from hv7)
            (refine TO.step rfl (OT.loadA0 tab hA7 rfl rfl rfl rfl rfl ?_))
            refine TO.step rfl (OT.arith (r' := (sizes.take (k + 1)).sum) rfl rfl rfl rfl rfl rfl (by rw [hs2]) (by omega) ?_)
            repeat (first|refine q3 ?_|refine q4 tab rfl rfl ?_|refine q5 ?_|refine q6 ?_|refine q7 ?_)
            refine TO.step rfl (OT.arith (r' := ((k + 1 : Nat) : Int)) rfl rfl rfl rfl rfl rfl rfl (by omega) ?_)
            repeat (first|refine q4 tab rfl rfl ?_|refine q5 ?_|refine q6 ?_)
            exact ⟨k + 1, (by repeat (first|exact trivial|refine And.intro rfl ?_)), (by repeat (first|exact trivial|refine And.intro rfl ?_)), rfl, rfl, (by repeat (exact List.Sublist.refl _)), by omega, by omega⟩
        · skip
          repeat (first|refine q1 ?_|refine q3 ?_|refine q4 tab rfl rfl ?_|refine q6 ?_|refine q13 ?_|refine q17 rfl ?_)
          refine TO.step rfl (OT.index tab rInt k hta2 rfl rfl rfl rfl rfl (by first | rfl | omega | (simp only; omega)) rfl hx1 ?_)
          rintro b6 i6 v6 hv6 hA6
          obtain rfl := (show v6 = at0 st.after k from hv6)
          (refine TO.step rfl (OT.loadA0 tab hA6 rfl rfl rfl rfl rfl ?_))
          refine TO.step rfl (OT.arith (r' := (st.after.take (k + 1)).sum) rfl rfl rfl rfl rfl rfl (by rw [hs1]) (by omega) ?_)
          repeat (first|refine q3 ?_|refine q4 tab rfl rfl ?_|refine q5 ?_|refine q6 ?_)
          refine TO.step rfl (OT.index tab rInt k hss2 rfl rfl rfl rfl rfl (by first | rfl | omega | (simp only; omega)) rfl hx2 ?_)
          rintro b7 i7 v7 hv7 hA7
          obtain rfl := (show v7 = at0 sizes k from hv7)
          (refine TO.step rfl (OT.loadA0 tab hA7 rfl rfl rfl rfl rfl ?_))
          refine TO.step rfl (OT.arith (r' := (sizes.take (k + 1)).sum) rfl rfl rfl rfl rfl rfl (by rw [hs2]) (by omega) ?_)
          repeat (first|refine q3 ?_|refine q4 tab rfl rfl ?_|refine q5 ?_|refine q6 ?_|refine q7 ?_)
          refine TO.step rfl (OT.arith (r' := ((k + 1 : Nat) : Int)) rfl rfl rfl rfl rfl rfl rfl (by omega) ?_)
          repeat (first|refine q4 tab rfl rfl ?_|refine q5 ?_|refine q6 ?_)
          exact ⟨k + 1, (by repeat (first|exact trivial|refine And.intro rfl ?_)), (by repeat (first|exact trivial|refine And.intro rfl ?_)), rfl, rfl, (by repeat (exact List.Sublist.refl _)), by omega, by omega⟩
      · have hkl : k = sizes.length := by omega
        subst hkl
        rw [List.take_of_length_le (show st.after.length ≤ sizes.length by omega)] at hsr ⊢
        rw [List.take_length] at hsr2 ⊢
        have hsum := hK.sum
        have hgr := hK.gr
        repeat (first|(first|refine q1 ?_|refine q3 ?_|refine q6 ?_|refine q10 ?_|refine q11 ?_|refine q14 ?_)|(refine qs rfl (qz tab 0 rfl rfl rfl rfl rfl rfl ?_)))
        refine TO.step rfl (OT.call rfl rfl rfl rfl rfl rfl goes12 ((closure_ref m2 _ hh h hr2 hsm hg).x ?_));
        rintro _ m3 _ ⟨hm3, rfl, tc, C, rfl, hC, hsq2, hCP⟩
        have hr3 := hr2.mono hm3
        have hss3 := hss2.mono hm3
        have hto3 := hto2.mono hm3
        have hta3 := hta2.mono hm3
        repeat (first|refine q1 ?_|refine q2 ?_|refine q3 ?_|refine q4 tab rfl rfl ?_|refine q5 ?_|refine q6 ?_)
        refine TC.loopK (ι := Nat) [1, 2, 4, 9, 10, 12, 13, 15] rfl (fun k => [(16, .int .i64 (k : Int))]) (fun _ => m3) (fun _ => .cells b 0 (hierC hh) :: L) (fun k => k ≤ st.out.length) (fun k => st.out.length - k) 0 (by repeat (first|exact trivial|refine And.intro rfl ?_)) rfl (by repeat (exact List.Sublist.refl _)) (Nat.zero_le _) ?_
        rintro k hk
        repeat (first|refine q1 ?_|refine q3 ?_|refine q4 tab rfl rfl ?_|refine q5 ?_|refine q6 ?_)
        refine TC.condP rfl (fun hlt2' => ?_) (fun hlt2' => ?_)
        · have hlt : k < st.out.length := by omega
          have hx : st.out[k]? = some st.out[k] := by simp [hlt]
          obtain ⟨w, hw1, hw2, hw3, hw4⟩ := hK.outm _ (List.getElem_mem hlt)
          rw [hw1] at hx
          have hxs : h.sites[w]? = some h.sites[w] := by simp [hw2]
          have hsk := hg.sites _ (List.getElem_mem hw2)
          have hsd := siteD_eq hxs
          unfold isDir at hw3
          rw [hsd] at hw3 hw4
          generalize h.sites[w] = s0 at hxs hsk hsd hw3 hw4
          have hw3 : s0.iface < 0 := by simpa using hw3
          have hif : s0.iface = -1 := by rcases hsk.how with e | e <;> omega
          have hto := site_to hsk
          have hfr := hsk.frm
          repeat (first|refine q1 ?_|refine q2 ?_|refine q6 ?_|refine q13 ?_)
          refine TC.draw0 [] mixed 15 rfl ?_
          refine DO.pure tab (by repeat (first|exact Calm.ret|refine Calm.then ?_|refine Calm.block ?_)) (by kernel_rfl) [0, 1] (by kernel_rfl) rfl ?_
          refine DO.index tab rInt 2 k hto3 (by repeat (first|exact Calm.ret|refine Calm.then ?_|refine Calm.block ?_)) (by kernel_rfl) (by kernel_rfl) rfl rfl rfl rfl rfl rfl rfl (by first | rfl | omega) rfl hx ?_
          rintro b1 i1 v1 hv1 hA1; obtain rfl := (show v1 = (w : Int) from hv1)
          (refine DO.loadA (k := 0) tab 3 hA1 (by repeat (first|exact Calm.ret|refine Calm.then ?_|refine Calm.block ?_)) (by kernel_rfl) (by kernel_rfl) rfl rfl rfl rfl rfl rfl rfl ?_)
          refine DO.pure tab (by repeat (first|exact Calm.ret|refine Calm.then ?_|refine Calm.block ?_)) (by kernel_rfl) [4, 5] (by kernel_rfl) rfl ?_
          (refine DO.splitP (d := 99) rfl (fun hg5 => ?_) (fun hg5 => ?_))
          · first | (exfalso; omega) | exact absurd rfl hg5 | exact absurd (by assumption) hg5 | contradiction
          refine DO.pure tab (by repeat (first|exact Calm.ret|refine Calm.then ?_|refine Calm.block ?_)) (by kernel_rfl) [6, 7] (by kernel_rfl) rfl ?_
          refine DO.index tab rInt 8 k hto3 (by repeat (first|exact Calm.ret|refine Calm.then ?_|refine Calm.block ?_)) (by kernel_rfl) (by kernel_rfl) rfl rfl rfl rfl rfl rfl rfl (by first | rfl | omega) rfl hx ?_
          rintro b2 i2 v2 hv2 hA2; obtain rfl := (show v2 = (w : Int) from hv2)
          (refine DO.loadA (k := 0) tab 9 hA2 (by repeat (first|exact Calm.ret|refine Calm.then ?_|refine Calm.block ?_)) (by kernel_rfl) (by kernel_rfl) rfl rfl rfl rfl rfl rfl rfl ?_)
          refine DO.pure tab (by repeat (first|exact Calm.ret|refine Calm.then ?_|refine Calm.block ?_)) (by kernel_rfl) [10] (by kernel_rfl) rfl ?_
          (refine DO.loadL tab 11 0 (by repeat (first|exact Calm.ret|refine Calm.then ?_|refine Calm.block ?_)) (by kernel_rfl) (by kernel_rfl) rfl rfl rfl rfl rfl rfl rfl rfl ?_)
          refine DO.pure tab (by repeat (first|exact Calm.ret|refine Calm.then ?_|refine Calm.block ?_)) (by kernel_rfl) [12, 13, 14] (by kernel_rfl) rfl ?_
          (refine DO.nil0 (by kernel_rfl) ?_)
          rotate_left 1
          repeat (refine q6 ?_)
          refine TC.condP rfl (fun hbig => ?_) (fun hbig => ?_)
          · exfalso; omega
          · repeat (first|refine q1 ?_|refine q6 ?_|refine q13 ?_)
            refine TC.draw [9] mixed 10 rfl [.cells b 0 (hierC hh)] L (by first | exact List.Perm.refl _ | (rw [List.append_nil]; exact List.Perm.refl _)) ?_
            refine DO.pure tab (by repeat (first|exact Calm.ret|refine Calm.then ?_|refine Calm.block ?_)) (by kernel_rfl) [0] (by kernel_rfl) rfl ?_
            (refine DO.loadL tab 1 0 (by repeat (first|exact Calm.ret|refine Calm.then ?_|refine Calm.block ?_)) (by kernel_rfl) (by kernel_rfl) rfl rfl rfl rfl rfl rfl rfl rfl ?_)
            refine DO.pure tab (by repeat (first|exact Calm.ret|refine Calm.then ?_|refine Calm.block ?_)) (by kernel_rfl) [2, 3] (by kernel_rfl) rfl ?_
            refine DO.index tab rInt 4 k hto3 (by repeat (first|exact Calm.ret|refine Calm.then ?_|refine Calm.block ?_)) (by kernel_rfl) (by kernel_rfl) rfl rfl rfl rfl rfl rfl rfl (by first | rfl | omega) rfl hx ?_
            rintro b3 i3 v3 hv3 hA3; obtain rfl := (show v3 = (w : Int) from hv3)
            (refine DO.loadA (k := 0) tab 5 hA3 (by repeat (first|exact Calm.ret|refine Calm.then ?_|refine Calm.block ?_)) (by kernel_rfl) (by kernel_rfl) rfl rfl rfl rfl rfl rfl rfl ?_)
            refine DO.index tab rSite 6 w hr3.sites (by repeat (first|exact Calm.ret|refine Calm.then ?_|refine Calm.block ?_)) (by kernel_rfl) (by kernel_rfl) rfl rfl rfl rfl rfl rfl rfl (by first | rfl | omega) rfl hxs ?_
            rintro b4 i4 s4 hs4 hA4; obtain rfl := (show s4 = s0 from hs4)
            (refine DO.loadA (k := 0) tab 7 hA4 (by repeat (first|exact Calm.ret|refine Calm.then ?_|refine Calm.block ?_)) (by kernel_rfl) (by kernel_rfl) rfl rfl rfl rfl rfl rfl rfl ?_)
            refine DO.run 8 rfl rfl (by kernel_rfl) rfl ?_
            refine OT.alloc tab rfl rfl rfl rfl (fun bx => ?_); refine ⟨Mem.le_refl _, .cells bx 0 [.int .i64 0, .int .i64 0, .int .i64 0, .string ⟨#[]⟩] :: L, List.Perm.swap _ _ _, ?_⟩
            refine DO.tail ?_
            refine DOt.run 9 rfl rfl (by kernel_rfl) rfl ?_
            refine OT.storeL0 tab 1 rfl rfl rfl rfl rfl rfl rfl rfl ?_
            refine DOt.nil (by kernel_rfl) ?_
            rotate_left 1
            repeat (first|refine q1 ?_|refine q6 ?_)
            refine TC.perm (L' := .cells bx 0 (siteC s4) :: .cells b 0 (hierC hh) :: L) (List.Perm.swap _ _ _) ?_
            obtain ⟨row, hxr, hrl, hxb⟩ := hsq2.get (i := s4.to.toNat) (j := s4.to.toNat) (by omega) (by omega)
            have hag : cat C s4.to.toNat s4.to.toNat = false := by
              rw [← hw4, Bool.eq_iff_iff, againP_iff, hCP _ _ (by omega) (by omega)]
            rw [hag] at hxb
            have hf1 : st.after[s4.frm.toNat]? = some (at0 st.after s4.frm.toNat) := at0_get (by omega)
            have hf2 : sizes[s4.frm.toNat]? = some (at0 sizes s4.frm.toNat) := at0_get (by omega)
            have hf3 := hK.lo s4.frm.toNat
            refine TC.draw [] mixed 27 rfl (.cells bx 0 (siteC s4) :: .cells b 0 (hierC hh) :: L) [] (by rw [List.append_nil]) ?_
            refine DO.pure tab (by repeat (first|exact Calm.ret|refine Calm.then ?_|refine Calm.block ?_)) (by kernel_rfl) [0] (by kernel_rfl) rfl ?_
            (refine DO.loadL tab 1 0 (by repeat (first|exact Calm.ret|refine Calm.then ?_|refine Calm.block ?_)) (by kernel_rfl) (by kernel_rfl) rfl rfl rfl rfl rfl rfl rfl rfl ?_)
            refine DO.pure tab (by repeat (first|exact Calm.ret|refine Calm.then ?_|refine Calm.block ?_)) (by kernel_rfl) [2, 3] (by kernel_rfl) rfl ?_
            (refine DO.splitN (d := 120) rfl (fun hg3 => ?_) (fun hg3 => ?_))
            · first | (exfalso; omega) | exact absurd rfl hg3 | exact absurd (by assumption) hg3 | contradiction
            refine DO.pure tab (by repeat (first|exact Calm.ret|refine Calm.then ?_|refine Calm.block ?_)) (by kernel_rfl) [4, 5] (by kernel_rfl) rfl ?_
            (refine DO.loadL tab 6 0 (by repeat (first|exact Calm.ret|refine Calm.then ?_|refine Calm.block ?_)) (by kernel_rfl) (by kernel_rfl) rfl rfl rfl rfl rfl rfl rfl rfl ?_)
            refine DO.index tab rBls 7 s4.to.toNat (hC) (by repeat (first|exact Calm.ret|refine Calm.then ?_|refine Calm.block ?_)) (by kernel_rfl) (by kernel_rfl) rfl rfl rfl rfl rfl rfl rfl (by first | rfl | omega) rfl hxr ?_
            rintro b5 i5 hd5 hrd5 hA5; have hrow : SlRep rBool m3 hd5 row := hrd5
            (refine DO.loadA (k := 0) tab 8 hA5 (by repeat (first|exact Calm.ret|refine Calm.then ?_|refine Calm.block ?_)) (by kernel_rfl) (by kernel_rfl) rfl rfl rfl rfl rfl rfl rfl ?_)
            refine DO.pure tab (by repeat (first|exact Calm.ret|refine Calm.then ?_|refine Calm.block ?_)) (by kernel_rfl) [9] (by kernel_rfl) rfl ?_
            (refine DO.loadL tab 10 0 (by repeat (first|exact Calm.ret|refine Calm.then ?_|refine Calm.block ?_)) (by kernel_rfl) (by kernel_rfl) rfl rfl rfl rfl rfl rfl rfl rfl ?_)
            refine DO.index tab rBool 11 s4.to.toNat hrow (by repeat (first|exact Calm.ret|refine Calm.then ?_|refine Calm.block ?_)) (by kernel_rfl) (by kernel_rfl) rfl rfl rfl rfl rfl rfl rfl (by first | rfl | omega) rfl hxb ?_
            rintro b6 i6 v6 hv6 hA6; obtain rfl := (show v6 = false from hv6)
            (refine DO.loadA (k := 0) tab 12 hA6 (by repeat (first|exact Calm.ret|refine Calm.then ?_|refine Calm.block ?_)) (by kernel_rfl) (by kernel_rfl) rfl rfl rfl rfl rfl rfl rfl ?_)
            refine DO.pure tab (by repeat (first|exact Calm.ret|refine Calm.then ?_|refine Calm.block ?_)) (by kernel_rfl) [13, 14] (by kernel_rfl) rfl ?_
            (refine DO.split (d := 131) rfl (fun hg14 => ?_) (fun hg14 => ?_))
            · first | (exfalso; omega) | exact absurd rfl hg14 | exact absurd (by assumption) hg14 | contradiction
            refine DO.pure tab (by repeat (first|exact Calm.ret|refine Calm.then ?_|refine Calm.block ?_)) (by kernel_rfl) [15, 16] (by kernel_rfl) rfl ?_
            (refine DO.loadL tab 17 0 (by repeat (first|exact Calm.ret|refine Calm.then ?_|refine Calm.block ?_)) (by kernel_rfl) (by kernel_rfl) rfl rfl rfl rfl rfl rfl rfl rfl ?_)
            refine DO.index tab rInt 18 s4.frm.toNat hta3 (by repeat (first|exact Calm.ret|refine Calm.then ?_|refine Calm.block ?_)) (by kernel_rfl) (by kernel_rfl) rfl rfl rfl rfl rfl rfl rfl (by first | rfl | omega) rfl hf1 ?_
            rintro b7 i7 v7 hv7 hA7; obtain rfl := (show v7 = at0 st.after s4.frm.toNat from hv7)
            (refine DO.loadA (k := 0) tab 19 hA7 (by repeat (first|exact Calm.ret|refine Calm.then ?_|refine Calm.block ?_)) (by kernel_rfl) (by kernel_rfl) rfl rfl rfl rfl rfl rfl rfl ?_)
            refine DO.pure tab (by repeat (first|exact Calm.ret|refine Calm.then ?_|refine Calm.block ?_)) (by kernel_rfl) [20, 21] (by kernel_rfl) rfl ?_
            (refine DO.loadL tab 22 0 (by repeat (first|exact Calm.ret|refine Calm.then ?_|refine Calm.block ?_)) (by kernel_rfl) (by kernel_rfl) rfl rfl rfl rfl rfl rfl rfl rfl ?_)
            refine DO.index tab rInt 23 s4.frm.toNat hss3 (by repeat (first|exact Calm.ret|refine Calm.then ?_|refine Calm.block ?_)) (by kernel_rfl) (by kernel_rfl) rfl rfl rfl rfl rfl rfl rfl (by first | rfl | omega) rfl hf2 ?_
            rintro b8 i8 v8 hv8 hA8; obtain rfl := (show v8 = at0 sizes s4.frm.toNat from hv8)
            (refine DO.loadA (k := 0) tab 24 hA8 (by repeat (first|exact Calm.ret|refine Calm.then ?_|refine Calm.block ?_)) (by kernel_rfl) (by kernel_rfl) rfl rfl rfl rfl rfl rfl rfl ?_)
            refine DO.pure tab (by repeat (first|exact Calm.ret|refine Calm.then ?_|refine Calm.block ?_)) (by kernel_rfl) [25, 26] (by kernel_rfl) rfl ?_
            (refine DO.nil0 (by kernel_rfl) ?_)
            rotate_left 1
            repeat (refine q6 ?_)
            refine TC.condP rfl (fun hbad => ?_) (fun hbad => ?_)
            · exfalso; omega
            · repeat (first|refine q1 ?_|refine q2 ?_|refine q3 ?_|refine q4 tab rfl rfl ?_|refine q5 ?_|refine q6 ?_|refine q13 ?_)
              refine TC.loopK (ι := Nat) [1, 2, 4, 9, 10, 12, 13, 15, 16] rfl (fun j => [(18, .int .i64 (j : Int))]) (fun _ => m3) (fun _ => .cells b 0 (hierC hh) :: L) (fun j => j ≤ k) (fun j => k - j) 0 (by repeat (first|exact trivial|refine And.intro rfl ?_)) rfl (by repeat (first|exact List.Sublist.refl _|refine List.Sublist.cons _ ?_)) (Nat.zero_le _) ?_
              rintro j hj
              repeat (first|refine q1 ?_|refine q3 ?_|refine q4 tab rfl rfl ?_|refine q5 ?_|refine q6 ?_)
              refine TC.condP rfl (fun hlj' => ?_) (fun hlj' => ?_)
              · have hlj : j < k := by omega
                have hxj : st.out[j]? = some (st.out[j]'(by omega)) := by simp [show j < st.out.length by omega]
                have hne : st.out[j]'(by omega) ≠ (w : Int) := by
                  intro e
                  have hnd := List.pairwise_iff_getElem.1 hK.nd j k (by omega) hlt hlj
                  exact hnd (e.trans hw1.symm)
                generalize (st.out[j]'(by omega)) = y at hxj hne
                repeat (first|refine q1 ?_|refine q2 ?_|refine q6 ?_|refine q13 ?_)
                refine TC.draw0 [] mixed 9 rfl ?_
                refine DO.pure tab (by repeat (first|exact Calm.ret|refine Calm.then ?_|refine Calm.block ?_)) (by kernel_rfl) [0, 1] (by kernel_rfl) rfl ?_
                refine DO.index tab rInt 2 j hto3 (by repeat (first|exact Calm.ret|refine Calm.then ?_|refine Calm.block ?_)) (by kernel_rfl) (by kernel_rfl) rfl rfl rfl rfl rfl rfl rfl (by first | rfl | omega) rfl hxj ?_
                rintro b1 i1 v1 hv1 hA1; obtain rfl := (show v1 = y from hv1)
                (refine DO.loadA (k := 0) tab 3 hA1 (by repeat (first|exact Calm.ret|refine Calm.then ?_|refine Calm.block ?_)) (by kernel_rfl) (by kernel_rfl) rfl rfl rfl rfl rfl rfl rfl ?_)
                refine DO.pure tab (by repeat (first|exact Calm.ret|refine Calm.then ?_|refine Calm.block ?_)) (by kernel_rfl) [4, 5] (by kernel_rfl) rfl ?_
                refine DO.index tab rInt 6 k hto3 (by repeat (first|exact Calm.ret|refine Calm.then ?_|refine Calm.block ?_)) (by kernel_rfl) (by kernel_rfl) rfl rfl rfl rfl rfl rfl rfl (by first | rfl | omega) rfl hx ?_
                rintro b2 i2 v2 hv2 hA2; obtain rfl := (show v2 = (w : Int) from hv2)
                (refine DO.loadA (k := 0) tab 7 hA2 (by repeat (first|exact Calm.ret|refine Calm.then ?_|refine Calm.block ?_)) (by kernel_rfl) (by kernel_rfl) rfl rfl rfl rfl rfl rfl rfl ?_)
                refine DO.pure tab (by repeat (first|exact Calm.ret|refine Calm.then ?_|refine Calm.block ?_)) (by kernel_rfl) [8] (by kernel_rfl) rfl ?_
                (refine DO.nil0 (by kernel_rfl) ?_)
                rotate_left 1
                repeat (refine q6 ?_)
                refine TC.condP rfl (fun heq => ?_) (fun heq => ?_)
                · exact absurd heq hne
                · repeat (first|refine q3 ?_|refine q4 tab rfl rfl ?_|refine q6 ?_|refine q7 ?_|refine q13 ?_)
                  refine TO.step rfl (OT.arith (r' := ((j + 1 : Nat) : Int)) rfl rfl rfl rfl rfl rfl rfl (by omega) ?_)
                  repeat (first|refine q4 tab rfl rfl ?_|refine q5 ?_|refine q6 ?_)
                  exact ⟨j + 1, (by repeat (first|exact trivial|refine And.intro rfl ?_)), (by repeat (first|exact trivial|refine And.intro rfl ?_)), rfl, rfl, (by repeat (exact List.Sublist.refl _)), by omega, by omega⟩
              · repeat (first|refine q3 ?_|refine q4 tab rfl rfl ?_|refine q6 ?_|refine q7 ?_|refine q10 ?_|refine q11 ?_|refine q14 ?_)
                refine TO.step rfl (OT.arith (r' := ((k + 1 : Nat) : Int)) rfl rfl rfl rfl rfl rfl rfl (by omega) ?_)
                repeat (first|refine q4 tab rfl rfl ?_|refine q5 ?_|refine q6 ?_)
                exact ⟨k + 1, (by repeat (first|exact trivial|refine And.intro rfl ?_)), (by repeat (first|exact trivial|refine And.intro rfl ?_)), rfl, rfl, (by repeat (exact List.Sublist.refl _)), by omega, by omega⟩
        · have hfin : decide (st.after.sum - sizes.sum ≤ budget) = true := decide_eq_true (by omega)
          repeat (first|refine q1 ?_|refine q3 ?_|refine q4 tab rfl rfl ?_|refine q6 ?_|refine q10 ?_|refine q11 ?_|refine q14 ?_)
          refine TO.step rfl (OT.arith (r' := st.after.sum - sizes.sum) rfl rfl rfl rfl rfl rfl rfl (by omega) ?_)
          repeat (first|refine q4 tab rfl rfl ?_|refine q5 ?_|refine q6 ?_|refine q15 ?_)
          refine retQ_ret rfl (by repeat (first|exact List.Sublist.refl _|refine List.Sublist.cons _ ?_)) ⟨Mem.le_trans hm1 (Mem.le_trans hm2 hm3), rfl, by rw [hfin]⟩
end Go.Sep
