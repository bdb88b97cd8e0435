/-
  The document's Order.
-/
import Derived.Test.YtggfaplmdcpccaaB11
set_option linter.unusedVariables false
set_option linter.unusedSimpArgs false
namespace Go.Sep
open Go.Proofs
section
variable {P : Program} {N : Nat} {ρ : Env} {D : List Deferred} {m : Mem} {L : List Item} {Q : EPost}
theorem TC.takeE {H α : Type} (r : R H α) {hs : List H} (n : Nat) {b : Nat} {c : Code} (h : TC P N c ρ D m (.cells b 0 (encs r (hs.take n)) :: L) Q) : TC P N c ρ D m (.cells b 0 (encs r hs) :: L) Q := fun a w ha => by
  refine h a w ⟨ha.size, ha.env, ha.defers, ?_⟩
  have e : encs r hs = encs r (hs.take n) ++ encs r (hs.drop n) := by rw [← encs_append, List.take_append_drop]
  have := ha.st
  rw [e] at this
  exact this.split.sub (List.Sublist.cons_cons _ (List.sublist_cons_self _ _))
end
attribute [local irreducible] TC TO OT TCallX TCall DO DOt thenQ blockQ retQ At
theorem ltR_k (l : List Rg) : OrdK (ltR l) := by
  constructor
  · intro a b h
    simp only [ltR, Bool.or_eq_true, Bool.and_eq_true, decide_eq_true_eq, Bool.or_eq_false_iff, Bool.and_eq_false_iff, decide_eq_false_iff_not] at h ⊢
    omega
  · intro a b c h1 h2
    simp only [ltR, Bool.or_eq_false_iff, Bool.and_eq_false_iff, decide_eq_false_iff_not] at h1 h2 ⊢
    omega
theorem Sg.takeP {α : Type} [Inhabited α] {b : Nat} {xs ys : List α} (h : Sg 0 b xs ys) : (ys.take b).Perm (xs.take b) := by
  have e : ys.drop b = xs.drop b := by
    refine List.ext_getElem (by rw [List.length_drop, List.length_drop, h.len]) fun k h1 h2 => ?_
    rw [List.getElem_drop, List.getElem_drop]
    rw [List.length_drop] at h1 h2
    have := h.out (b + k) (.inr (by omega))
    rw [gk_lt (by omega), gk_lt (by omega)] at this
    exact this
  have p := h.perm
  rw [← List.take_append_drop b ys, ← List.take_append_drop b xs, e] at p
  exact (List.perm_append_right_iff _).1 p
theorem ints_rep {m : Mem} {b n c : Nat} {xs : List Int} (hA : At m b 0 (encs rInt xs)) (hn : xs.length = n) (hc : n ≤ c) (hl : n ≤ 1000000) : SlRep rInt m ⟨some ⟨b, 0, none⟩, n, c⟩ xs := by
  subst hn
  refine ⟨rfl, hc, by show xs.length * 8 ≤ _; omega, xs, ?_, .inr ⟨b, 0, rfl, hA⟩⟩
  have : ∀ ys : List Int, All2 (rInt.rep m) ys ys := fun ys => by
    induction ys with
    | nil => trivial
    | cons y ys ih => exact ⟨rfl, ih⟩
  exact this xs
def nums (n : Nat) : List Int := (List.range n).map fun i : Nat => (i : Int)
theorem nums_succ (n : Nat) : nums (n + 1) = nums n ++ [(n : Int)] := by simp [nums, List.range_succ]
theorem nums_mem {n : Nat} {x : Int} : x ∈ nums n ↔ 0 ≤ x ∧ x < (n : Int) := by
  unfold nums
  simp only [List.mem_map, List.mem_range]
  constructor
  · rintro ⟨i, h, rfl⟩; omega
  · rintro ⟨h1, h2⟩; exact ⟨x.toNat, by omega, by omega⟩
set_option maxHeartbeats 4000000 in
theorem order_law (m : Mem) (L : List Item) (ss : Sl) (l : List Rg) (hss : SlRep rRg m ss l) (hlim : l.length ≤ 1000000) :
    TCall Try.prog 25 ⟨[ss.v]⟩ m L (Made m L fun r m' => ∃ (t : Sl) (os : List Int), r = t.v ∧ SlRep rInt m' t os ∧ OrdR l os) := by
  have hl := hss.len
  unfold TCall
  refine TCallX.enter Try.func25 rfl 59 rfl ?_
  repeat (first|refine q1 ?_|refine q3 ?_|refine q4 tab rfl rfl ?_|refine q5 ?_|refine q6 ?_)
  refine TO.step rfl (OT.lit tab rfl rfl rfl rfl (fun b0 => ?_))
  repeat (first|refine q1 ?_|refine q2 ?_|refine q3 ?_|refine q4 tab rfl rfl ?_|refine q5 ?_|refine q6 ?_)
  refine TC.loopK (ι := Nat × Sl × List Int) [0] rfl (fun x => [(4, .int .i64 (x.1 : Int)), (3, x.2.1.v)]) (fun _ => m) (fun x => mcell x.2.1 (encs rInt x.2.2) :: L) (fun x => x.1 ≤ l.length ∧ ORow x.2.1 x.2.2 ∧ (∃ b, x.2.1.a = some ⟨b, 0, none⟩) ∧ x.2.1.len = x.1 ∧ (x.2.2.take x.1).Perm (nums x.1) ∧ Sn (ltR l) x.2.2 0 x.1) (fun x => l.length - x.1) (0, ⟨some ⟨b0, 0, none⟩, 0, 0⟩, []) (by repeat (first|exact trivial|refine And.intro rfl ?_)) rfl (by repeat (exact List.Sublist.refl _)) ⟨Nat.zero_le _, ⟨Nat.le_refl _, rfl, .inr ⟨b0, rfl⟩⟩, ⟨b0, rfl⟩, rfl, .refl _, fun s t h1 h2 h3 => by simp only at h3; omega⟩ ?_
  rintro ⟨i, s, hs⟩ ⟨hi, hM, hA, hsl, hP, hO⟩
  simp only at hi hM hA hsl hP hO ⊢
  repeat (first|refine q1 ?_|refine q3 ?_|refine q4 tab rfl rfl ?_|refine q5 ?_|refine q6 ?_)
  refine TC.condP rfl (fun hlt' => ?_) (fun hlt' => ?_)
  · have hlt : i < l.length := by omega
    repeat (first|refine q1 ?_|refine q2 ?_|refine q3 ?_|refine q4 tab rfl rfl ?_|refine q6 ?_|refine q13 ?_)
    refine TO.step rfl (OT.lit tab rfl rfl rfl rfl (fun bl => ?_))
    refine TO.perm (L' := .cells bl 0 (rInt.enc (i : Int)) :: mcell s (encs rInt hs) :: L) (List.Perm.refl _) ?_
    refine TO.step rfl (OT.pushR tab rInt (z := 0) hM rfl rfl rfl rfl rfl rfl rfl rfl rfl rfl rfl (by show (s.len + 1) * 8 ≤ _; omega) (fun s2 hs2 h1 h2 h3 => ?_))
    obtain ⟨bd, hsb⟩ := h1.pos (by omega)
    obtain ⟨sa, sn, c⟩ := s2
    simp only at h2 h3 hsb
    have hall := h1.all
    have hcp := h1.len
    simp only at hall hcp
    rw [hsl] at h2 h3
    subst h2
    cases hsb
    clear h1
    have hge : gk hs2 i = (i : Int) := by
      have : gk (hs2.take (i + 1)) i = (i : Int) := by
        rw [h3]
        have : (hs.take i).length = i := by rw [List.length_take]; have := hM.all; have := hM.len; omega
        unfold gk
        rw [List.getElem?_append_right (by omega), this, Nat.sub_self]
        rfl
      rw [gk_take (by omega)] at this
      exact this
    have hold : ∀ t, t < i → gk hs2 t = gk hs t := fun t ht => by
      have : gk (hs2.take (i + 1)) t = gk hs t := by
        rw [h3]
        have hl2 : (hs.take i).length = i := by rw [List.length_take]; have := hM.all; have := hM.len; omega
        unfold gk
        rw [List.getElem?_append_left (by omega), List.getElem?_take_of_lt ht]
      rw [gk_take (by omega)] at this
      exact this
    have hO2 : Sn (ltR l) hs2 0 i := hO.of fun t _ h => hold t h
    have hP1 : (hs2.take (i + 1)).Perm (nums i ++ [(i : Int)]) := by rw [h3]; exact hP.append_right _
    have hdom : ∀ t, t < i → 0 ≤ gk hs2 t ∧ gk hs2 t < (i : Int) := fun t ht => by
      rw [hold t ht]
      refine nums_mem.1 (hP.mem_iff.1 ?_)
      have hl2 : t < (hs.take i).length := by rw [List.length_take]; have := hM.all; have := hM.len; omega
      rw [← gk_take ht, gk_lt hl2]
      exact List.getElem_mem hl2
    repeat (first|refine q1 ?_|refine q2 ?_|refine q3 ?_|refine q4 tab rfl rfl ?_|refine q5 ?_|refine q6 ?_)
    refine TC.loopK (ι := Nat × List Int) [0, 3, 4] rfl (fun x => [(5, .int .i64 (x.1 : Int))]) (fun _ => m) (fun x => .cells bd 0 (encs rInt x.2) :: L) (fun x => CaI (ltR l) hs2 0 i x.1 x.2) (fun x => x.1) (i, hs2) (by repeat (first|exact trivial|refine And.intro rfl ?_)) rfl (by repeat (exact List.Sublist.refl _)) (CaI.start (by omega)) ?_
    rintro ⟨k, zs⟩ hJ
    simp only at hJ ⊢
    have hzl := hJ.seg.len
    have hkl := hJ.le
    have hki : gk zs k = (i : Int) := by rw [hJ.sh.at_, hge]
    have hxk : l[(gk zs k).toNat]? = some (rgD l (gk zs k).toNat) := rgD_get (by rw [hki]; omega)
    have hk1 : 0 < k → 0 ≤ gk zs (k - 1) ∧ gk zs (k - 1) < (i : Int) := fun h => by rw [hJ.sh.out (k - 1) (by omega)]; exact hdom _ (by omega)
    have hcmp : 0 < k → (decide ((rgD l (gk zs k).toNat).frm < (rgD l (gk zs (k - 1)).toNat).frm) = ltR l (gk zs k) (gk zs (k - 1))) := fun h => by
      have := hk1 h
      rw [Bool.eq_iff_iff]
      simp only [ltR, Bool.or_eq_true, Bool.and_eq_true, decide_eq_true_eq]
      unfold fromOf
      constructor
      · intro q; exact .inl q
      · rintro (q | ⟨q1, q2⟩)
        · exact q
        · exfalso; omega
    obtain ⟨u, hu⟩ : ∃ u, u = (gk zs k).toNat := ⟨_, rfl⟩
    obtain ⟨v, hv⟩ : ∃ v, v = (gk zs (k - 1)).toNat := ⟨_, rfl⟩
    rw [← hu] at hxk
    have hx1 : 0 < k → l[v]? = some (rgD l v) := fun h => rgD_get (by have := hk1 h; omega)
    rw [← hu, ← hv] at hcmp
    repeat (refine q1 ?_)
    refine TC.draw [] mixed 22 rfl [.cells bd 0 (encs rInt zs)] L (by first | exact List.Perm.refl _ | (rw [List.append_nil]; exact List.Perm.refl _)) ?_
    refine DO.pure tab (by repeat (first|exact Calm.ret|refine Calm.then ?_|refine Calm.block ?_)) (by kernel_rfl) [0, 1, 2] (by kernel_rfl) rfl ?_
    (refine DO.splitP (d := 20) rfl (fun hg2 => ?_) (fun hg2 => ?_))
    refine DO.pure tab (by repeat (first|exact Calm.ret|refine Calm.then ?_|refine Calm.block ?_)) (by kernel_rfl) [3, 4, 5] (by kernel_rfl) rfl ?_
    refine DO.indexP (sz := 1) tab 6 k (by repeat (first|exact Calm.ret|refine Calm.then ?_|refine Calm.block ?_)) (by kernel_rfl) (by kernel_rfl) rfl rfl rfl rfl rfl rfl rfl rfl rfl (by omega) ?_
    refine DO.loadE (jj := 0) tab 7 0 rInt (gk_get (xs := zs) (k := k) (by omega)) (by simp only [rInt]; omega) (fun _ => rfl) (by repeat (first|exact Calm.ret|refine Calm.then ?_|refine Calm.block ?_)) (by kernel_rfl) (by kernel_rfl) rfl rfl rfl rfl rfl rfl rfl ?_
    refine DO.index tab rRg 8 u hss (by repeat (first|exact Calm.ret|refine Calm.then ?_|refine Calm.block ?_)) (by kernel_rfl) (by kernel_rfl) rfl rfl rfl rfl rfl rfl rfl (by first | rfl | omega) rfl hxk ?_
    rintro b1 i1 h1 e1 hA1; obtain rfl := (show h1 = rgD l u from e1)
    refine DO.pure tab (by repeat (first|exact Calm.ret|refine Calm.then ?_|refine Calm.block ?_)) (by kernel_rfl) [9] (by kernel_rfl) rfl ?_
    (refine DO.loadA tab 10 hA1 (by repeat (first|exact Calm.ret|refine Calm.then ?_|refine Calm.block ?_)) (by kernel_rfl) (by kernel_rfl) rfl rfl rfl rfl rfl rfl rfl ?_)
    refine DO.pure tab (by repeat (first|exact Calm.ret|refine Calm.then ?_|refine Calm.block ?_)) (by kernel_rfl) [11, 12, 13] (by kernel_rfl) rfl ?_
    refine DO.arith 14 (r' := ((k - 1 : Nat) : Int)) (by repeat (first|exact Calm.ret|refine Calm.then ?_|refine Calm.block ?_)) (by kernel_rfl) (by kernel_rfl) rfl rfl rfl rfl rfl rfl rfl rfl (by first | rfl | omega | (simp only; omega)) (by omega) ?_
    refine DO.indexP (sz := 1) tab 15 (k - 1) (by repeat (first|exact Calm.ret|refine Calm.then ?_|refine Calm.block ?_)) (by kernel_rfl) (by kernel_rfl) rfl rfl rfl rfl rfl rfl rfl rfl rfl (by omega) ?_
    refine DO.loadE (jj := 0) tab 16 0 rInt (gk_get (xs := zs) (k := k - 1) (by omega)) (by simp only [rInt]; omega) (fun _ => rfl) (by repeat (first|exact Calm.ret|refine Calm.then ?_|refine Calm.block ?_)) (by kernel_rfl) (by kernel_rfl) rfl rfl rfl rfl rfl rfl rfl ?_
    refine DO.index tab rRg 17 v hss (by repeat (first|exact Calm.ret|refine Calm.then ?_|refine Calm.block ?_)) (by kernel_rfl) (by kernel_rfl) rfl rfl rfl rfl rfl rfl rfl (by first | rfl | omega) rfl (hx1 (by omega)) ?_
    rintro b2 i2 h2 e2 hA2; obtain rfl := (show h2 = rgD l v from e2)
    refine DO.pure tab (by repeat (first|exact Calm.ret|refine Calm.then ?_|refine Calm.block ?_)) (by kernel_rfl) [18] (by kernel_rfl) rfl ?_
    (refine DO.loadA tab 19 hA2 (by repeat (first|exact Calm.ret|refine Calm.then ?_|refine Calm.block ?_)) (by kernel_rfl) (by kernel_rfl) rfl rfl rfl rfl rfl rfl rfl ?_)
    refine DO.pure tab (by repeat (first|exact Calm.ret|refine Calm.then ?_|refine Calm.block ?_)) (by kernel_rfl) [20, 21] (by kernel_rfl) rfl ?_
    (refine DO.nil (by kernel_rfl) ?_)
    rotate_left 1
    refine DO.pure tab (by repeat (first|exact Calm.ret|refine Calm.then ?_|refine Calm.block ?_)) (by kernel_rfl) [3, 4, 5, 6, 7, 8, 9, 10, 11, 12, 13, 14, 15, 16, 17, 18, 19, 20, 21] (by kernel_rfl) rfl ?_
    (refine DO.nil (by kernel_rfl) ?_)
    rotate_left 1
    · have hk0 : 0 < k := by omega
      have hcmp := hcmp hk0
      repeat (refine q6 ?_)
      rw [hcmp]
      cases hc : ltR l (gk zs k) (gk zs (k - 1)) with
      | true =>
        repeat (first|refine q1 ?_|refine q2 ?_|refine q6 ?_|refine q13 ?_|refine q16 rfl ?_)
        refine TC.draw [15, 16, 17] mixed 18 rfl [.cells bd 0 (encs rInt (zs))] L (by first | exact List.Perm.refl _ | (rw [List.append_nil]; exact List.Perm.refl _)) ?_
        refine DO.pure tab (by repeat (first|exact Calm.ret|refine Calm.then ?_|refine Calm.block ?_)) (by kernel_rfl) [0, 1, 2, 3] (by kernel_rfl) rfl ?_
        refine DO.arith 4 (r' := (((k - 1) : Nat) : Int)) (by repeat (first|exact Calm.ret|refine Calm.then ?_|refine Calm.block ?_)) (by kernel_rfl) (by kernel_rfl) rfl rfl rfl rfl rfl rfl rfl rfl (by first | rfl | omega | (simp only; omega)) (by omega) ?_
        refine DO.pure tab (by repeat (first|exact Calm.ret|refine Calm.then ?_|refine Calm.block ?_)) (by kernel_rfl) [5, 6] (by kernel_rfl) rfl ?_
        refine DO.arith 7 (r' := (((k - 1) : Nat) : Int)) (by repeat (first|exact Calm.ret|refine Calm.then ?_|refine Calm.block ?_)) (by kernel_rfl) (by kernel_rfl) rfl rfl rfl rfl rfl rfl rfl rfl (by first | rfl | omega | (simp only; omega)) (by omega) ?_
        refine DO.indexP (sz := 1) tab 8 (k - 1) (by repeat (first|exact Calm.ret|refine Calm.then ?_|refine Calm.block ?_)) (by kernel_rfl) (by kernel_rfl) rfl rfl rfl rfl rfl rfl rfl rfl rfl (by omega) ?_
        refine DO.loadE (jj := 0) tab 9 0 rInt (gk_get (xs := zs) (k := (k - 1)) (by omega)) (by simp only [rInt]; omega) (fun _ => rfl) (by repeat (first|exact Calm.ret|refine Calm.then ?_|refine Calm.block ?_)) (by kernel_rfl) (by kernel_rfl) rfl rfl rfl rfl rfl rfl rfl ?_
        refine DO.pure tab (by repeat (first|exact Calm.ret|refine Calm.then ?_|refine Calm.block ?_)) (by kernel_rfl) [10, 11] (by kernel_rfl) rfl ?_
        refine DO.indexP (sz := 1) tab 12 k (by repeat (first|exact Calm.ret|refine Calm.then ?_|refine Calm.block ?_)) (by kernel_rfl) (by kernel_rfl) rfl rfl rfl rfl rfl rfl rfl rfl rfl (by omega) ?_
        refine DO.loadE (jj := 0) tab 13 0 rInt (gk_get (xs := zs) (k := k) (by omega)) (by simp only [rInt]; omega) (fun _ => rfl) (by repeat (first|exact Calm.ret|refine Calm.then ?_|refine Calm.block ?_)) (by kernel_rfl) (by kernel_rfl) rfl rfl rfl rfl rfl rfl rfl ?_
        refine DO.indexP (sz := 1) tab 14 k (by repeat (first|exact Calm.ret|refine Calm.then ?_|refine Calm.block ?_)) (by kernel_rfl) (by kernel_rfl) rfl rfl rfl rfl rfl rfl rfl rfl rfl (by omega) ?_
        refine DO.tail ?_
        refine DOt.run 15 rfl rfl (by kernel_rfl) rfl ?_
        refine OT.storeE (h2 := gk zs (k - 1)) tab 0 rInt (gk_get (xs := zs) (k := k) (by omega)) (j := 0) (by simp only [rInt]; omega) (fun _ => rfl) (Nat.le_refl _) rfl rfl rfl rfl rfl rfl rfl ?_
        refine DOt.run 16 rfl rfl (by kernel_rfl) rfl ?_
        refine OT.indexP (sz := 1) tab (k - 1) rfl rfl rfl rfl rfl rfl rfl (by omega) ?_
        refine DOt.run 17 rfl rfl (by kernel_rfl) rfl ?_
        refine OT.storeE (h2 := gk zs k) (h := gk (List.set zs k (gk zs (k - 1))) (k - 1)) tab 0 rInt (k := (k - 1)) (gk_get (by simp; omega)) (j := 0) (by simp only [rInt]; omega) (fun _ => rfl) (Nat.le_refl _) rfl rfl rfl rfl rfl rfl rfl ?_
        refine DOt.nil (by kernel_rfl) ?_
        rotate_left 1
        repeat (first|refine q3 ?_|refine q4 tab rfl rfl ?_|refine q6 ?_|refine q7 ?_)
        refine TO.step rfl (OT.arith (r' := ((k - 1 : Nat) : Int)) rfl rfl rfl rfl rfl rfl (by omega) (by omega) ?_)
        repeat (first|refine q4 tab rfl rfl ?_|refine q5 ?_|refine q6 ?_)
        exact ⟨(k - 1, sw zs k (k - 1)), (by repeat (first|exact trivial|refine And.intro rfl ?_)), (by repeat (first|exact trivial|refine And.intro rfl ?_)), rfl, rfl, (by repeat (exact List.Sublist.refl _)), hJ.step hk0 (by omega) hc, by simp only; omega⟩
      | false =>
        have hN := hJ.done (ltR_k l) hO2 (.inr hc)
        have hPz : (zs.take (i + 1)).Perm (nums (i + 1)) := by rw [nums_succ]; exact hJ.seg.takeP.trans hP1
        repeat (first|refine q3 ?_|refine q4 tab rfl rfl ?_|refine q6 ?_|refine q7 ?_|refine q10 ?_|refine q11 ?_|refine q14 ?_|refine q17 rfl ?_)
        refine TO.step rfl (OT.arith (r' := ((i + 1 : Nat) : Int)) rfl rfl rfl rfl rfl rfl rfl (by omega) ?_)
        repeat (first|refine q4 tab rfl rfl ?_|refine q5 ?_|refine q6 ?_)
        exact ⟨(i + 1, ⟨some ⟨bd, 0, none⟩, i + 1, c⟩, zs), (by repeat (first|exact trivial|refine And.intro rfl ?_)), (by repeat (first|exact trivial|refine And.intro rfl ?_)), rfl, rfl, (by repeat (exact List.Sublist.refl _)), ⟨by simp only; omega, ⟨by simp only; omega, by simp only; omega, .inr ⟨bd, rfl⟩⟩, ⟨bd, rfl⟩, rfl, hPz, hN⟩, by simp only; omega⟩
    · have hN := hJ.done (ltR_k l) hO2 (.inl (by omega))
      have hPz : (zs.take (i + 1)).Perm (nums (i + 1)) := by rw [nums_succ]; exact hJ.seg.takeP.trans hP1
      repeat (first|refine q3 ?_|refine q4 tab rfl rfl ?_|refine q6 ?_|refine q7 ?_|refine q10 ?_|refine q11 ?_|refine q14 ?_|refine q17 rfl ?_)
      refine TO.step rfl (OT.arith (r' := ((i + 1 : Nat) : Int)) rfl rfl rfl rfl rfl rfl rfl (by omega) ?_)
      repeat (first|refine q4 tab rfl rfl ?_|refine q5 ?_|refine q6 ?_)
      exact ⟨(i + 1, ⟨some ⟨bd, 0, none⟩, i + 1, c⟩, zs), (by repeat (first|exact trivial|refine And.intro rfl ?_)), (by repeat (first|exact trivial|refine And.intro rfl ?_)), rfl, rfl, (by repeat (exact List.Sublist.refl _)), ⟨by simp only; omega, ⟨by simp only; omega, by simp only; omega, .inr ⟨bd, rfl⟩⟩, ⟨bd, rfl⟩, rfl, hPz, hN⟩, by simp only; omega⟩
  · obtain ⟨bd, hsb⟩ := hA
    obtain rfl : i = l.length := by omega
    obtain ⟨sa, sn, c⟩ := s
    simp only at hsl hsb
    have hall := hM.all
    have hcp := hM.len
    simp only at hall hcp
    subst hsl
    subst hsb
    repeat (first|refine q1 ?_|refine q6 ?_|refine q10 ?_|refine q11 ?_|refine q14 ?_)
    refine TC.takeE rInt l.length ?_
    refine TC.freeze fun m1 hm1 hA => ?_
    have hrep : SlRep rInt m1 ⟨some ⟨bd, 0, none⟩, l.length, c⟩ (hs.take l.length) := ints_rep hA (by rw [List.length_take]; omega) hcp hlim
    repeat (first|refine q3 ?_|refine q4 tab rfl rfl ?_|refine q5 ?_|refine q6 ?_|refine q15 ?_)
    refine retQ_ret rfl (by repeat (exact List.Sublist.refl _)) ⟨hm1, rfl, _, _, rfl, hrep, ⟨hP, ?_⟩⟩
    refine List.pairwise_iff_getElem.2 fun s t hs1 ht1 hst => ?_
    have hlt : (hs.take l.length).length = l.length := by rw [List.length_take]; omega
    have h1 := hO s t (Nat.zero_le _) hst (by omega)
    have e1 : gk hs s = (hs.take l.length)[s] := by rw [← gk_lt, gk_take (by omega)]
    have e2 : gk hs t = (hs.take l.length)[t] := by rw [← gk_lt, gk_take (by omega)]
    rw [e1, e2] at h1
    have hnd : (hs.take l.length).Nodup := hP.nodup_iff.2 (List.pairwise_map.2 (List.nodup_range.imp fun {a b} h e => h (by omega)))
    have hne := (List.pairwise_iff_getElem.1 hnd) s t hs1 ht1 hst
    rcases (ltR_ord l).tot ((hs.take l.length)[s]) ((hs.take l.length)[t]) with h | h | h
    · exact h
    · exact absurd h hne
    · rw [h] at h1; cases h1
end Go.Sep

/-
  The document's Assign.
-/
set_option linter.unusedVariables false
set_option linter.unusedSimpArgs false
namespace Go.Sep
open Go.Proofs
attribute [local irreducible] TC TO OT TCallX TCall DO DOt thenQ blockQ retQ At
theorem enc_int (v : Int) : rInt.enc v = [Value.int .i64 v] := rfl
theorem take_set_lt {α : Type} {hs : List α} {n s : Nat} {x : α} : (hs.set s x).take n = (hs.take n).set s x := List.take_set
theorem runT_len1 (l : List Rg) : ∀ (os : List Int), (runT l os).1.length ≤ os.length := by
  have : ∀ (os : List Int) (a : TO2), (os.foldl (stepT l) a).1.length ≤ a.1.length + os.length := by
    intro os
    induction os with
    | nil => intro a; exact Nat.le_refl _
    | cons x xs ih =>
      intro a
      rw [List.foldl_cons]
      have h1 := ih (stepT l a x)
      have h2 : (stepT l a x).1.length ≤ a.1.length + 1 := by
        unfold stepT
        simp only
        rw [putT_len (pick_le _ _)]
        split <;> omega
      rw [List.length_cons]
      omega
  intro os
  have := this os ([], List.replicate l.length 0)
  unfold runT
  simpa using this
theorem perm3a {α : Type} {a b c : α} {L : List α} : (c :: a :: b :: L).Perm (a :: b :: c :: L) := (List.Perm.swap a c _).trans (List.Perm.cons _ (List.Perm.swap b c _))
theorem runT_len (l : List Rg) : ∀ (os : List Int), (runT l os).2.length = l.length := by
  have : ∀ (os : List Int) (a : TO2), (os.foldl (stepT l) a).2.length = a.2.length := by
    intro os
    induction os with
    | nil => intro a; rfl
    | cons x xs ih => intro a; rw [List.foldl_cons, ih]; simp [stepT]
  intro os
  unfold runT
  rw [this]; simp
set_option maxHeartbeats 4000000 in
theorem refassign_law (m : Mem) (L : List Item) (ss : Sl) (l : List Rg) (hss : SlRep rRg m ss l) (hlim : l.length ≤ 20000) :
    TCall Try.prog 12 ⟨[ss.v]⟩ m L (Made m L fun r m' => ∃ (t : Sl) (os : List Int), OrdR l os ∧ r = .tuple ⟨[t.v, .int .i64 ((runT l os).1.length : Int)]⟩ ∧ SlRep rInt m' t (runT l os).2) := by
  have hl := hss.len
  unfold TCall
  refine TCallX.enter Try.func12 rfl 66 rfl ?_
  repeat (first|refine q1 ?_|refine q3 ?_|refine q4 tab rfl rfl ?_|refine q5 ?_|refine q6 ?_)
  refine TO.step rfl (OT.makeM tab (Value.int .i64) 0 l.length (by omega) rfl rfl rfl rfl rfl rfl rfl rfl (show l.length * 8 ≤ 281474976710656 by omega) rfl (fun bd => ?_))
  repeat (first|refine q1 ?_|refine q3 ?_|refine q4 tab rfl rfl ?_|refine q5 ?_|refine q6 ?_)
  refine TO.step rfl (OT.lit tab rfl rfl rfl rfl (fun b0 => ?_))
  repeat (first|refine q1 ?_|refine q3 ?_|refine q4 tab rfl rfl ?_|refine q5 ?_|refine q6 ?_)
  refine TO.step rfl (OT.call rfl rfl rfl rfl rfl rfl goes25 ((order_law m _ ss l hss (by omega)).x ?_));
  rintro _ m1 _ ⟨hm1, rfl, t, os, rfl, hos, hO⟩
  have hss := hss.mono hm1
  have hol := hos.len
  have hosl := hO.len
  repeat (first|refine q1 ?_|refine q2 ?_|refine q3 ?_|refine q4 tab rfl rfl ?_|refine q5 ?_|refine q6 ?_)
  refine TC.loopK (ι := Nat × Sl × List Int × List Int) [0, 4, 6] rfl (fun x => [(7, .int .i64 (x.1 : Int)), (5, x.2.1.v)]) (fun _ => m1) (fun x => mcell x.2.1 (encs rInt x.2.2.1) :: .cells bd 0 (encs rInt x.2.2.2) :: L) (fun x => x.1 ≤ l.length ∧ ORow x.2.1 x.2.2.1 ∧ (∃ b, x.2.1.a = some ⟨b, 0, none⟩) ∧ (x.2.2.1.take x.2.1.len, x.2.2.2) = runT l (os.take x.1)) (fun x => l.length - x.1) (0, ⟨some ⟨b0, 0, none⟩, 0, 0⟩, [], List.replicate l.length 0) (by repeat (first|exact trivial|refine And.intro rfl ?_)) rfl (by simp only [encs_int]; exact (by repeat (exact List.Sublist.refl _))) ⟨Nat.zero_le _, ⟨Nat.le_refl _, rfl, .inr ⟨b0, rfl⟩⟩, ⟨b0, rfl⟩, rfl⟩ ?_
  rintro ⟨p, sT, hs, out⟩ ⟨hp, hM, hA, hrun⟩
  simp only at hp hM hA hrun ⊢
  have houtl : out.length = l.length := by
    have := congrArg (fun z : TO2 => z.2.length) hrun
    simp only [runT_len] at this
    exact this
  repeat (first|refine q1 ?_|refine q3 ?_|refine q4 tab rfl rfl ?_|refine q5 ?_|refine q6 ?_)
  refine TC.condP rfl (fun hlt' => ?_) (fun hlt' => ?_)
  · have hlt : p < os.length := by omega
    have hx : os[p]? = some os[p] := by simp [hlt]
    have hxt : os.take (p + 1) = os.take p ++ [os[p]] := List.take_succ_eq_append_getElem hlt
    have hxd := hO.dom _ (List.getElem_mem hlt)
    generalize os[p] = x at hx hxt hxd
    have hx0 := hxd.1
    have hx1 := hxd.2
    have hxe := rgD_get (l := l) (k := x.toNat) (by omega)
    repeat (first|refine q1 ?_|refine q2 ?_|refine q3 ?_|refine q4 tab rfl rfl ?_|refine q6 ?_|refine q13 ?_)
    refine TO.step rfl (OT.index tab rInt p hos rfl rfl rfl rfl rfl (by first | rfl | omega | (simp only; omega)) rfl hx ?_)
    rintro b1 i1 f1 hf1 hA1
    obtain rfl := (show f1 = x from hf1)
    (refine TO.step rfl (OT.loadA0 tab hA1 rfl rfl rfl rfl rfl ?_))
    refine TO.step rfl (OT.index tab rRg f1.toNat hss rfl rfl rfl rfl rfl (by first | rfl | omega | (simp only; omega)) rfl hxe ?_)
    rintro b2 i2 f2 hf2 hA2
    obtain rfl := (show f2 = rgD l f1.toNat from hf2)
    (refine TO.step rfl (OT.loadA0 tab hA2 rfl rfl rfl rfl rfl ?_))
    refine TO.step rfl (OT.alloc tab rfl rfl rfl rfl (fun bx => ?_))
    (refine TO.step rfl (OT.storeL0 tab 0 rfl rfl rfl rfl rfl rfl rfl rfl ?_))
    refine TO.perm (L' := mcell sT (encs rInt hs) :: .cells bd 0 (encs rInt out) :: .cells bx 0 [.int .i64 (rgD l f1.toNat).frm, .int .i64 (rgD l f1.toNat).to] :: L) perm3a ?_
    obtain ⟨bt, hbt⟩ := hA
    obtain ⟨sa, sn, sc⟩ := sT
    simp only at hbt hrun
    subst hbt
    have hall := hM.all
    have hcp := hM.len
    simp only at hall hcp
    obtain ⟨till, htill⟩ : ∃ till, till = hs.take sn := ⟨_, rfl⟩
    have htl : till.length = sn := by rw [htill, List.length_take]; omega
    have hsl : sn ≤ p := by
      have := congrArg (fun z : TO2 => z.1.length) hrun
      simp only [← htill, htl] at this
      rw [this]
      exact Nat.le_trans (runT_len1 l (os.take p)) (by rw [List.length_take]; omega)
    have hgt : ∀ k, k < sn → gk till k = gk hs k := fun k hk => by rw [htill]; exact gk_take hk
    obtain ⟨fr, hfr⟩ : ∃ fr, fr = (rgD l f1.toNat).frm := ⟨_, rfl⟩
    obtain ⟨to, hto⟩ : ∃ to, to = (rgD l f1.toNat).to := ⟨_, rfl⟩
    rw [← hfr, ← hto]
    have hpl := pick_le till fr
    repeat (first|refine q1 ?_|refine q3 ?_|refine q4 tab rfl rfl ?_|refine q5 ?_|refine q6 ?_)
    refine TC.cutT (ι := Nat) [0, 4, 6, 7, 8] rfl (fun s => [(9, .int .i64 (s : Int)), (5, .slice (some ⟨bt, 0, none⟩) sn sc)]) (fun _ => m1) (fun _ => .cells bt 0 (encs rInt hs) :: .cells bd 0 (encs rInt out) :: .cells bx 0 [.int .i64 fr, .int .i64 to] :: L) (fun s => pick till fr = s) ?_ (fun s hps => ?_)
    · repeat (refine q2 ?_)
      refine TC.loopK (ι := Nat) [0, 4, 6, 7, 8] rfl (fun s => [(9, .int .i64 (s : Int)), (5, .slice (some ⟨bt, 0, none⟩) sn sc)]) (fun _ => m1) (fun _ => .cells bt 0 (encs rInt hs) :: .cells bd 0 (encs rInt out) :: .cells bx 0 [.int .i64 fr, .int .i64 to] :: L) (fun s => s ≤ sn ∧ ∀ k, k < s → fr < gk till k) (fun s => sn - s) 0 (by repeat (first|exact trivial|refine And.intro rfl ?_)) rfl (by repeat (exact List.Sublist.refl _)) ⟨Nat.zero_le _, fun k hk => by omega⟩ ?_
      rintro s ⟨hs1, hs2⟩
      repeat (refine q1 ?_)
      refine TC.draw [] mixed 13 rfl [.cells bt 0 (encs rInt hs), .cells bd 0 (encs rInt out), .cells bx 0 [.int .i64 fr, .int .i64 to]] L (by first | exact List.Perm.refl _ | (rw [List.append_nil]; exact List.Perm.refl _)) ?_
      refine DO.pure tab (by repeat (first|exact Calm.ret|refine Calm.then ?_|refine Calm.block ?_)) (by kernel_rfl) [0, 1, 2, 3, 4] (by kernel_rfl) rfl ?_
      (refine DO.splitP (d := 33) rfl (fun hg4 => ?_) (fun hg4 => ?_))
      refine DO.pure tab (by repeat (first|exact Calm.ret|refine Calm.then ?_|refine Calm.block ?_)) (by kernel_rfl) [5, 6] (by kernel_rfl) rfl ?_
      refine DO.indexP (sz := 1) tab 7 s (by repeat (first|exact Calm.ret|refine Calm.then ?_|refine Calm.block ?_)) (by kernel_rfl) (by kernel_rfl) rfl rfl rfl rfl rfl rfl rfl rfl rfl (by omega) ?_
      refine DO.loadE (jj := 0) tab 8 0 rInt (gk_get (xs := hs) (k := s) (by omega)) (by simp only [rInt]; omega) (fun _ => rfl) (by repeat (first|exact Calm.ret|refine Calm.then ?_|refine Calm.block ?_)) (by kernel_rfl) (by kernel_rfl) rfl rfl rfl rfl rfl rfl rfl ?_
      refine DO.pure tab (by repeat (first|exact Calm.ret|refine Calm.then ?_|refine Calm.block ?_)) (by kernel_rfl) [9] (by kernel_rfl) rfl ?_
      (refine DO.loadL tab 10 2 (by repeat (first|exact Calm.ret|refine Calm.then ?_|refine Calm.block ?_)) (by kernel_rfl) (by kernel_rfl) rfl rfl rfl rfl rfl rfl rfl rfl ?_)
      refine DO.pure tab (by repeat (first|exact Calm.ret|refine Calm.then ?_|refine Calm.block ?_)) (by kernel_rfl) [11, 12] (by kernel_rfl) rfl ?_
      (refine DO.nil (by kernel_rfl) ?_)
      rotate_left 1
      refine DO.pure tab (by repeat (first|exact Calm.ret|refine Calm.then ?_|refine Calm.block ?_)) (by kernel_rfl) [5, 6, 7, 8, 9, 10, 11, 12] (by kernel_rfl) rfl ?_
      (refine DO.nil (by kernel_rfl) ?_)
      rotate_left 1
      · have hlts : s < sn := by omega
        repeat (refine q6 ?_)
        refine TC.condP rfl (fun hg => ?_) (fun hg => ?_)
        · repeat (first|refine q2 ?_|refine q3 ?_|refine q4 tab rfl rfl ?_|refine q6 ?_|refine q13 ?_)
          refine TO.step rfl (OT.arith (r' := ((s + 1 : Nat) : Int)) rfl rfl rfl rfl rfl rfl rfl (by omega) ?_)
          repeat (first|refine q4 tab rfl rfl ?_|refine q5 ?_|refine q6 ?_|refine q7 ?_)
          refine ⟨s + 1, (by repeat (first|exact trivial|refine And.intro rfl ?_)), (by repeat (first|exact trivial|refine And.intro rfl ?_)), rfl, rfl, (by repeat (exact List.Sublist.refl _)), ⟨by omega, fun k hk => ?_⟩, by omega⟩
          by_cases e : k = s
          · rw [e, hgt s hlts]; exact hg
          · exact hs2 k (by omega)
        · repeat (first|refine q6 ?_|refine q10 ?_|refine q11 ?_|refine q14 ?_)
          exact ⟨s, (by repeat (first|exact trivial|refine And.intro rfl ?_)), (by repeat (first|exact trivial|refine And.intro rfl ?_)), rfl, rfl, (by repeat (exact List.Sublist.refl _)), pick_is (by omega) hs2 fun _ => by rw [hgt s hlts]; omega⟩
      · repeat (first|refine q6 ?_|refine q10 ?_|refine q11 ?_|refine q14 ?_|refine q17 rfl ?_)
        exact ⟨s, (by repeat (first|exact trivial|refine And.intro rfl ?_)), (by repeat (first|exact trivial|refine And.intro rfl ?_)), rfl, rfl, (by repeat (exact List.Sublist.refl _)), pick_is (by omega) hs2 fun h => by omega⟩
    · repeat (first|refine q1 ?_|refine q3 ?_|refine q4 tab rfl rfl ?_|refine q5 ?_|refine q6 ?_)
      refine TC.cutT (ι := Nat × Nat × Nat × List Int) [0, 4, 6, 7, 8, 9] rfl (fun y => [(5, .slice (some ⟨y.1, 0, none⟩) y.2.1 y.2.2.1)]) (fun _ => m1) (fun y => .cells y.1 0 (encs rInt y.2.2.2) :: .cells bd 0 (encs rInt out) :: .cells bx 0 [.int .i64 fr, .int .i64 to] :: L) (fun y => (y.2.1 ≤ y.2.2.1 ∧ y.2.2.2.length = y.2.2.1) ∧ s < y.2.1 ∧ (y.2.2.2.take y.2.1).set s to = putT till s to) ?_ (fun y hy => ?_)
      · refine TC.condP rfl (fun heq => ?_) (fun heq => ?_)
        · repeat (first|refine q3 ?_|refine q4 tab rfl rfl ?_)
          refine TO.step rfl (OT.lit tab rfl rfl rfl rfl (fun bl => ?_))
          refine TO.perm (L' := .cells bl 0 (rInt.enc (0 : Int)) :: mcell ⟨some ⟨bt, 0, none⟩, sn, sc⟩ (encs rInt hs) :: .cells bd 0 (encs rInt out) :: .cells bx 0 [.int .i64 fr, .int .i64 to] :: L) (List.Perm.refl _) ?_
          refine TO.step rfl (OT.pushR tab rInt (z := 0) hM rfl rfl rfl rfl rfl rfl rfl rfl rfl rfl rfl (by show (sn + 1) * 8 ≤ _; omega) (fun s2 hs2 h1 h2 h3 => ?_))
          obtain ⟨b9, hb9⟩ := h1.pos (by rw [h2]; exact Nat.succ_pos _)
          repeat (first|refine q4 tab rfl rfl ?_|refine q5 ?_|refine q6 ?_)
          obtain ⟨sa2, sn2, c2⟩ := s2
          simp only at h2 h3 hb9
          cases hb9
          have hall9 := h1.all
          have hcp9 := h1.len
          simp only at hall9 hcp9
          refine ⟨(b9, sn2, c2, hs2), (by repeat (first|exact trivial|refine And.intro rfl ?_)), (by repeat (first|exact trivial|refine And.intro rfl ?_)), rfl, rfl, (by repeat (exact List.Sublist.refl _)), ⟨hcp9, hall9⟩, by simp only; omega, ?_⟩
          simp only
          rw [h2, h3]
          show ((hs.take sn ++ [0]).set s to) = _
          rw [← htill]
          unfold putT
          rw [if_pos (by omega), show s = till.length by omega, List.set_append_right _ _ (Nat.le_refl _), Nat.sub_self]
          rfl
        · repeat (first|refine q6 ?_|refine q13 ?_)
          refine ⟨(bt, sn, sc, hs), (by repeat (first|exact trivial|refine And.intro rfl ?_)), (by repeat (first|exact trivial|refine And.intro rfl ?_)), rfl, rfl, (by repeat (exact List.Sublist.refl _)), ⟨hcp, hall⟩, by show s < sn; omega, ?_⟩
          simp only
          rw [← htill]
          unfold putT
          rw [if_neg (by omega)]
      · have hx := hx
        obtain ⟨b9, sn2, c2, hs2⟩ := y
        obtain ⟨⟨hcp2, hall2⟩, hl2, ht2⟩ := hy
        simp only at hcp2 hall2 hl2 ht2 ⊢
        repeat (first|refine q1 ?_|refine q3 ?_|refine q4 tab rfl rfl ?_)
        (refine qs rfl (ql tab 2 rfl rfl rfl rfl rfl rfl ?_))
        skip
        refine TO.step rfl (OT.indexP (sz := 1) tab s rfl rfl rfl rfl rfl rfl rfl (by omega) ?_)
        refine TO.step rfl (OT.storeE (h2 := to) tab 0 rInt (gk_get (xs := hs2) (k := s) (by omega)) (j := 0) (by simp only [rInt]; omega) (fun _ => rfl) (Nat.le_refl _) rfl rfl rfl rfl rfl rfl rfl ?_)
        repeat (first|refine q3 ?_|refine q4 tab rfl rfl ?_|refine q5 ?_|refine q6 ?_)
        refine TO.step rfl (OT.index tab rInt p hos rfl rfl rfl rfl rfl (by first | rfl | omega | (simp only; omega)) rfl hx ?_)
        rintro b5 i5 f5 hf5 hA5
        obtain rfl := (show f5 = f1 from hf5)
        (refine TO.step rfl (OT.loadA0 tab hA5 rfl rfl rfl rfl rfl ?_))
        repeat (refine q4 tab rfl rfl ?_)
        refine TO.step rfl (OT.indexP (sz := 1) tab f5.toNat rfl rfl rfl rfl rfl (Int.toNat_of_nonneg hx0).symm rfl (by omega) ?_)
        refine TO.step rfl (OT.storeE (h2 := (s : Int)) tab 1 rInt (gk_get (xs := out) (k := f5.toNat) (by omega)) (j := 0) (by simp only [rInt]; omega) (fun _ => rfl) (Nat.le_refl _) rfl rfl rfl rfl rfl rfl rfl ?_)
        repeat (first|refine q3 ?_|refine q4 tab rfl rfl ?_|refine q5 ?_|refine q6 ?_|refine q7 ?_)
        refine TO.step rfl (OT.arith (r' := ((p + 1 : Nat) : Int)) rfl rfl rfl rfl rfl rfl rfl (by omega) ?_)
        repeat (first|refine q4 tab rfl rfl ?_|refine q5 ?_|refine q6 ?_)
        refine ⟨(p + 1, ⟨some ⟨b9, 0, none⟩, sn2, c2⟩, hs2.set s to, out.set f5.toNat (s : Int)), (by repeat (first|exact trivial|refine And.intro rfl ?_)), (by repeat (first|exact trivial|refine And.intro rfl ?_)), rfl, rfl, (by repeat (first|exact List.Sublist.refl _|refine List.Sublist.cons_cons _ ?_|refine List.Sublist.cons _ ?_)), ⟨by simp only; omega, ⟨by simp only; omega, by simp only [List.length_set]; omega, .inr ⟨b9, rfl⟩⟩, ⟨b9, rfl⟩, ?_⟩, by simp only; omega⟩
        simp only
        rw [take_set_lt, ht2, hxt, runT_snoc, ← hrun, ← htill]
        unfold stepT
        simp only
        rw [show fromOf l f5 = fr from hfr.symm, hps, ← hto]
  · obtain rfl : p = os.length := by omega
    rw [List.take_length] at hrun
    have hn : sT.len = (runT l os).1.length := by
      have h1 := hM.all
      have h2 := hM.len
      rw [← hrun]
      simp only [List.length_take]
      omega
    repeat (first|refine q1 ?_|refine q6 ?_|refine q10 ?_|refine q11 ?_|refine q14 ?_)
    refine TC.drop (L' := .cells bd 0 (encs rInt out) :: L) (by repeat (first|exact List.Sublist.refl _|refine List.Sublist.cons _ ?_)) ?_
    refine TC.freeze fun m2 hm2 hA2 => ?_
    have hrep : SlRep rInt m2 ⟨some ⟨bd, 0, none⟩, l.length, l.length⟩ out := ints_rep hA2 houtl (Nat.le_refl _) (by omega)
    have hout : out = (runT l os).2 := by rw [← hrun]
    rw [hout] at hrep
    repeat (first|refine q3 ?_|refine q4 tab rfl rfl ?_|refine q5 ?_|refine q6 ?_|refine q15 ?_)
    refine retQ_ret rfl (by repeat (exact List.Sublist.refl _)) ⟨Mem.le_trans hm1 hm2, rfl, _, os, hO, ?_, hrep⟩
    rw [← hn, ← hl]
end Go.Sep

/-
  The law of the slots of any ranges.
-/
set_option linter.unusedVariables false
set_option linter.unusedSimpArgs false
namespace Go.Sep
open Go.Proofs
attribute [local irreducible] TC TO OT TCallX TCall DO DOt thenQ blockQ retQ At
theorem checkM_or (l : List Rg) : checkM l = 0 ∨ checkM l = 2 ∨ checkM l = 4 := by
  unfold checkM
  split
  · exact .inr (.inr rfl)
  · split
    · exact .inr (.inl rfl)
    · exact .inl rfl
theorem slots_bad {l : List Rg} {s : List Int} {n : Int} (h : SlotsR l s n) (h0 : checkM l ≠ 0) : s = [] ∧ n = 0 := by
  unfold SlotsR at h
  rw [if_pos h0] at h
  exact h
set_option maxHeartbeats 2000000 in
theorem assigned_law (m : Mem) (L : List Item) (ss : Sl) (l : List Rg) (hss : SlRep rRg m ss l) :
    TCall Try.prog 5 ⟨[ss.v]⟩ m L (Made m L fun r m' => r = .bool true) := by
  have hl := hss.len
  unfold TCall
  refine TCallX.enter Try.func5 rfl 77 rfl ?_
  repeat (first|refine q1 ?_|refine q3 ?_|refine q4 tab rfl rfl ?_|refine q5 ?_|refine q6 ?_)
  refine TO.step rfl (OT.call rfl rfl rfl rfl rfl rfl goes7 ((assign_law m _ ss l hss).x ?_));
  rintro _ m1 _ ⟨hm1, rfl, t, s, n, rfl, ht, hS⟩
  repeat (first|refine q1 ?_|refine q3 ?_|refine q4 tab rfl rfl ?_|refine q5 ?_|refine q6 ?_)
  refine TO.step rfl (OT.call rfl rfl rfl rfl rfl rfl goes10 ((most_law m1 _ ss l (hss.mono hm1)).x ?_));
  rintro _ m2 _ ⟨hm2, rfl, nm, rfl, hM1, hM2⟩
  rcases checkM_or l with hc | hc | hc
  · rw [hc]
    have hM := hM1 hc
    obtain ⟨hsd, hlen⟩ := sound_of hc
    have hss2 := hss.mono (Mem.le_trans hm1 hm2)
    repeat (first|refine q1 ?_|refine q3 ?_|refine q4 tab rfl rfl ?_|refine q5 ?_|refine q6 ?_)
    refine TO.step rfl (OT.call rfl rfl rfl rfl rfl rfl goes11 ((refcheck_law m2 _ ss l hss2).x ?_));
    rintro _ _ _ ⟨rfl, rfl, rfl⟩
    rw [hc]
    repeat (first|refine q1 ?_|refine q3 ?_|refine q4 tab rfl rfl ?_|refine q5 ?_|refine q6 ?_)
    refine TO.step rfl (OT.call rfl rfl rfl rfl rfl rfl goes8 ((awake_law m2 _).x ?_));
    rintro _ m3 _ ⟨hm3, rfl, rfl⟩
    repeat (first|refine q4 tab rfl rfl ?_|refine q5 ?_|refine q6 ?_)
    refine TC.cond_f rfl ?_
    repeat (first|refine q1 ?_|refine q3 ?_|refine q4 tab rfl rfl ?_|refine q5 ?_|refine q6 ?_|refine q13 ?_)
    refine TC.condP rfl (fun hbig => ?_) (fun hbig => ?_)
    · repeat (first|refine q1 ?_|refine q3 ?_|refine q4 tab rfl rfl ?_|refine q5 ?_|refine q6 ?_|refine q8 ?_|refine q15 ?_)
      refine retQ_ret rfl (by repeat (exact List.Sublist.refl _)) ⟨Mem.le_trans hm1 (Mem.le_trans hm2 hm3), rfl, rfl⟩
    · repeat (first|refine q1 ?_|refine q3 ?_|refine q4 tab rfl rfl ?_|refine q6 ?_|refine q13 ?_)
      have hss3 := hss2.mono hm3
      refine TO.step rfl (OT.call rfl rfl rfl rfl rfl rfl goes12 ((refassign_law m3 _ ss l hss3 hlen).x ?_));
      rintro _ m4 _ ⟨hm4, rfl, t2, os, hO, rfl, ht2⟩
      obtain ⟨os', hO', hs', hn'⟩ := slots_run hS hc (fun r hr => (hsd r hr).1)
      obtain rfl := hO.one hO'
      repeat (first|refine q1 ?_|refine q3 ?_|refine q4 tab rfl rfl ?_|refine q5 ?_|refine q6 ?_)
      refine TO.step rfl (OT.call rfl rfl rfl rfl rfl rfl goes9 ((same_law m4 _ t t2 s (runT l os).2 (ht.mono (Mem.le_trans hm2 (Mem.le_trans hm3 hm4))) ht2).x ?_));
      rintro _ _ _ ⟨rfl, rfl, rfl⟩
      rw [decide_eq_true hs', ← hn']
      repeat (refine q4 tab rfl rfl ?_)
      rw [decide_eq_true (rfl : n = n)]
      repeat (refine q4 tab rfl rfl ?_)
      refine TO.step rfl (OT.call rfl rfl rfl rfl rfl rfl goes13 ((refmost_law m4 _ ss l (hss3.mono hm4) (by omega)).x ?_));
      rintro _ _ _ ⟨rfl, rfl, nm2, rfl, hMr⟩
      obtain rfl := hM.det hMr
      repeat (first|refine q4 tab rfl rfl ?_|refine q5 ?_|refine q6 ?_|refine q15 ?_)
      refine retQ_ret rfl (by repeat (exact List.Sublist.refl _)) ⟨Mem.le_trans hm1 (Mem.le_trans hm2 (Mem.le_trans hm3 hm4)), rfl, ?_⟩
      rw [decide_eq_true (rfl : nm = nm)]
  · rw [hc]
    obtain ⟨rfl, rfl⟩ := slots_bad hS (by rw [hc]; decide)
    obtain rfl := hM2 (by rw [hc]; decide)
    obtain ⟨ta, tl, tc⟩ := t
    have htl := ht.len
    simp only [List.length_nil] at htl
    subst htl
    repeat (first|refine q1 ?_|refine q3 ?_|refine q4 tab rfl rfl ?_|refine q5 ?_|refine q6 ?_)
    refine TO.step rfl (OT.call rfl rfl rfl rfl rfl rfl goes11 ((refcheck_law m2 _ ss l (hss.mono (Mem.le_trans hm1 hm2))).x ?_));
    rintro _ _ _ ⟨rfl, rfl, rfl⟩
    rw [hc]
    repeat (first|refine q1 ?_|refine q3 ?_|refine q4 tab rfl rfl ?_|refine q5 ?_|refine q6 ?_)
    refine TO.step rfl (OT.call rfl rfl rfl rfl rfl rfl goes8 ((awake_law m2 _).x ?_));
    rintro _ m3 _ ⟨hm3, rfl, rfl⟩
    repeat (first|refine q1 ?_|refine q3 ?_|refine q4 tab rfl rfl ?_|refine q5 ?_|refine q6 ?_|refine q8 ?_|refine q13 ?_|refine q15 ?_|refine q16 rfl ?_|refine q17 rfl ?_)
    refine retQ_ret rfl (by repeat (exact List.Sublist.refl _)) ⟨Mem.le_trans hm1 (Mem.le_trans hm2 hm3), rfl, rfl⟩
  · rw [hc]
    obtain ⟨rfl, rfl⟩ := slots_bad hS (by rw [hc]; decide)
    obtain rfl := hM2 (by rw [hc]; decide)
    obtain ⟨ta, tl, tc⟩ := t
    have htl := ht.len
    simp only [List.length_nil] at htl
    subst htl
    repeat (first|refine q1 ?_|refine q3 ?_|refine q4 tab rfl rfl ?_|refine q5 ?_|refine q6 ?_)
    refine TO.step rfl (OT.call rfl rfl rfl rfl rfl rfl goes11 ((refcheck_law m2 _ ss l (hss.mono (Mem.le_trans hm1 hm2))).x ?_));
    rintro _ _ _ ⟨rfl, rfl, rfl⟩
    rw [hc]
    repeat (first|refine q1 ?_|refine q3 ?_|refine q4 tab rfl rfl ?_|refine q5 ?_|refine q6 ?_)
    refine TO.step rfl (OT.call rfl rfl rfl rfl rfl rfl goes8 ((awake_law m2 _).x ?_));
    rintro _ m3 _ ⟨hm3, rfl, rfl⟩
    repeat (first|refine q1 ?_|refine q3 ?_|refine q4 tab rfl rfl ?_|refine q5 ?_|refine q6 ?_|refine q8 ?_|refine q13 ?_|refine q15 ?_|refine q16 rfl ?_|refine q17 rfl ?_)
    refine retQ_ret rfl (by repeat (exact List.Sublist.refl _)) ⟨Mem.le_trans hm1 (Mem.le_trans hm2 hm3), rfl, rfl⟩
end Go.Sep

/-
  The law: ranges of one slot lie apart, and there are as1 many slots as1 overlap at most.
-/
set_option linter.unusedVariables false
set_option linter.unusedSimpArgs false
namespace Go.Sep
open Go.Proofs
attribute [local irreducible] TC TO OT TCallX TCall DO DOt thenQ blockQ retQ At
theorem tl_gk {s : List Int} {i : Nat} (h : i < s.length) : s[i]? = some (gk s i) := gk_get h
set_option maxHeartbeats 4000000 in
theorem apartW_law (m : Mem) (L : List Item) (ss : Sl) (l : List Rg) (hss : SlRep rRg m ss l) :
    TCall Try.prog 6 ⟨[ss.v]⟩ m L (Made m L fun r m' => r = .bool true) := by
  have hl := hss.len
  unfold TCall
  refine TCallX.enter Try.func6 rfl 111 rfl ?_
  repeat (first|refine q1 ?_|refine q3 ?_|refine q4 tab rfl rfl ?_|refine q5 ?_|refine q6 ?_)
  refine TO.step rfl (OT.call rfl rfl rfl rfl rfl rfl goes7 ((assign_law m _ ss l hss).x ?_));
  rintro _ m1 _ ⟨hm1, rfl, t, s, n, rfl, ht, hS⟩
  repeat (first|refine q1 ?_|refine q3 ?_|refine q4 tab rfl rfl ?_|refine q5 ?_|refine q6 ?_)
  refine TO.step rfl (OT.call rfl rfl rfl rfl rfl rfl goes10 ((most_law m1 _ ss l (hss.mono hm1)).x ?_));
  rintro _ m2 _ ⟨hm2, rfl, nm, rfl, hM1, hM2⟩
  rcases checkM_or l with hc | hc | hc
  · rw [hc]
    have hM := hM1 hc
    obtain ⟨hsd, hlen⟩ := sound_of hc
    obtain ⟨hsl, hnm, hrg, hap⟩ := apart_law hS hc hsd hM
    subst hnm
    repeat (first|refine q1 ?_|refine q3 ?_|refine q4 tab rfl rfl ?_|refine q5 ?_|refine q6 ?_)
    refine TO.step rfl (OT.call rfl rfl rfl rfl rfl rfl goes8 ((awake_law m2 _).x ?_));
    rintro _ m3 _ ⟨hm3, rfl, rfl⟩
    repeat (first|refine q4 tab rfl rfl ?_|refine q5 ?_|refine q6 ?_)
    refine TC.condP rfl (fun hbig => ?_) (fun hbig => ?_)
    · skip
      repeat (first|refine q1 ?_|refine q3 ?_)
      refine TO.step rfl (OT.call rfl rfl rfl rfl rfl rfl goes8 ((awake_law m3 _).x ?_));
      rintro _ m4 _ ⟨hm4, rfl, rfl⟩
      repeat (first|refine q4 tab rfl rfl ?_|refine q5 ?_|refine q6 ?_|refine q8 ?_|refine q15 ?_)
      refine retQ_ret rfl (by repeat (exact List.Sublist.refl _)) ⟨Mem.le_trans hm1 (Mem.le_trans hm2 (Mem.le_trans hm3 hm4)), rfl, rfl⟩
    · have htl := ht.len
      have hss3 := hss.mono (Mem.le_trans hm1 (Mem.le_trans hm2 hm3))
      have ht3 := ht.mono (Mem.le_trans hm2 hm3)
      obtain ⟨ta, tn, tc⟩ := t
      simp only at htl
      rw [hsl, ← hl] at htl
      subst htl
      repeat (first|refine q1 ?_|refine q3 ?_|refine q4 tab rfl rfl ?_|refine q6 ?_|refine q13 ?_)
      rw [decide_eq_true (rfl : ((ss.len : Nat) : Int) = (ss.len : Int))]
      repeat (first|refine q4 tab rfl rfl ?_|refine q5 ?_|refine q6 ?_)
      rw [decide_eq_true (rfl : n = n)]
      repeat (first|refine q1 ?_|refine q2 ?_|refine q3 ?_|refine q4 tab rfl rfl ?_|refine q5 ?_|refine q6 ?_|refine q13 ?_|refine q17 rfl ?_)
      refine TC.loopK (ι := Nat) [0, 3, 4] rfl (fun i => [(8, .int .i64 (i : Int))]) (fun _ => m3) (fun _ => L) (fun i => i ≤ l.length) (fun i => l.length - i) 0 (by repeat (first|exact trivial|refine And.intro rfl ?_)) rfl (by repeat (exact List.Sublist.refl _)) (Nat.zero_le _) ?_
      rintro i hi
      repeat (first|refine q1 ?_|refine q3 ?_|refine q4 tab rfl rfl ?_|refine q5 ?_|refine q6 ?_)
      refine TC.condP rfl (fun hlt' => ?_) (fun hlt' => ?_)
      · have hlt : i < l.length := by omega
        have hsi := tl_gk (s := s) (i := i) (by omega)
        have hxi := rgD_get hlt
        have hri := hrg i hlt
        repeat (first|refine q1 ?_|refine q2 ?_|refine q3 ?_|refine q4 tab rfl rfl ?_|refine q6 ?_|refine q13 ?_)
        refine TO.step rfl (OT.index tab rInt i ht3 rfl rfl rfl rfl rfl (by first | rfl | omega | (simp only; omega)) rfl hsi ?_)
        rintro b1 i1 f1 hf1 hA1
        obtain rfl := (show f1 = gk s i from hf1)
        (refine TO.step rfl (OT.loadA0 tab hA1 rfl rfl rfl rfl rfl ?_))
        repeat (refine q4 tab rfl rfl ?_)
        rw [decide_eq_false (by omega : ¬ gk s i < 0)]
        repeat (refine q4 tab rfl rfl ?_)
        refine TO.step rfl (OT.index tab rInt i ht3 rfl rfl rfl rfl rfl (by first | rfl | omega | (simp only; omega)) rfl hsi ?_)
        rintro b2 i2 f2 hf2 hA2
        obtain rfl := (show f2 = gk s i from hf2)
        (refine TO.step rfl (OT.loadA0 tab hA2 rfl rfl rfl rfl rfl ?_))
        repeat (first|refine q4 tab rfl rfl ?_|refine q5 ?_|refine q6 ?_)
        refine TC.condP rfl (fun hge => ?_) (fun hge => ?_)
        · exfalso; omega
        · repeat (first|refine q1 ?_|refine q2 ?_|refine q3 ?_|refine q4 tab rfl rfl ?_|refine q5 ?_|refine q6 ?_|refine q13 ?_)
          refine TC.loopK (ι := Nat) [0, 3, 4, 8] rfl (fun k => [(9, .int .i64 (k : Int))]) (fun _ => m3) (fun _ => L) (fun k => k ≤ i) (fun k => i - k) 0 (by repeat (first|exact trivial|refine And.intro rfl ?_)) rfl (by repeat (exact List.Sublist.refl _)) (Nat.zero_le _) ?_
          rintro k hk
          repeat (first|refine q1 ?_|refine q3 ?_|refine q4 tab rfl rfl ?_|refine q5 ?_|refine q6 ?_)
          refine TC.condP rfl (fun hlt2' => ?_) (fun hlt2' => ?_)
          · have hlt2 : k < i := by omega
            have hsk := tl_gk (s := s) (i := k) (by omega)
            have hxk := rgD_get (l := l) (k := k) (by omega)
            have hik := hap i k hlt (by omega) (by omega)
            repeat (first|refine q1 ?_|refine q2 ?_|refine q6 ?_|refine q13 ?_)
            refine TC.draw [] mixed 35 rfl L [] (by rw [List.append_nil]) ?_
            refine DO.pure tab (by repeat (first|exact Calm.ret|refine Calm.then ?_|refine Calm.block ?_)) (by kernel_rfl) [0, 1] (by kernel_rfl) rfl ?_
            refine DO.index tab rInt 2 i ht3 (by repeat (first|exact Calm.ret|refine Calm.then ?_|refine Calm.block ?_)) (by kernel_rfl) (by kernel_rfl) rfl rfl rfl rfl rfl rfl rfl (by first | rfl | omega) rfl hsi ?_
            rintro b3 i3 f3 hf3 hA3; obtain rfl := (show f3 = gk s i from hf3)
            (refine DO.loadA (k := 0) tab 3 hA3 (by repeat (first|exact Calm.ret|refine Calm.then ?_|refine Calm.block ?_)) (by kernel_rfl) (by kernel_rfl) rfl rfl rfl rfl rfl rfl rfl ?_)
            refine DO.pure tab (by repeat (first|exact Calm.ret|refine Calm.then ?_|refine Calm.block ?_)) (by kernel_rfl) [4, 5] (by kernel_rfl) rfl ?_
            refine DO.index tab rInt 6 k ht3 (by repeat (first|exact Calm.ret|refine Calm.then ?_|refine Calm.block ?_)) (by kernel_rfl) (by kernel_rfl) rfl rfl rfl rfl rfl rfl rfl (by first | rfl | omega) rfl hsk ?_
            rintro b4 i4 f4 hf4 hA4; obtain rfl := (show f4 = gk s k from hf4)
            (refine DO.loadA (k := 0) tab 7 hA4 (by repeat (first|exact Calm.ret|refine Calm.then ?_|refine Calm.block ?_)) (by kernel_rfl) (by kernel_rfl) rfl rfl rfl rfl rfl rfl rfl ?_)
            refine DO.pure tab (by repeat (first|exact Calm.ret|refine Calm.then ?_|refine Calm.block ?_)) (by kernel_rfl) [8, 9] (by kernel_rfl) rfl ?_
            (refine DO.splitP (d := 85) rfl (fun hg9 => ?_) (fun hg9 => ?_))
            refine DO.pure tab (by repeat (first|exact Calm.ret|refine Calm.then ?_|refine Calm.block ?_)) (by kernel_rfl) [10, 11] (by kernel_rfl) rfl ?_
            refine DO.index tab rRg 12 i hss3 (by repeat (first|exact Calm.ret|refine Calm.then ?_|refine Calm.block ?_)) (by kernel_rfl) (by kernel_rfl) rfl rfl rfl rfl rfl rfl rfl (by first | rfl | omega) rfl hxi ?_
            rintro b5 i5 f5 hf5 hA5; obtain rfl := (show f5 = rgD l i from hf5)
            refine DO.pure tab (by repeat (first|exact Calm.ret|refine Calm.then ?_|refine Calm.block ?_)) (by kernel_rfl) [13] (by kernel_rfl) rfl ?_
            (refine DO.loadA tab 14 hA5 (by repeat (first|exact Calm.ret|refine Calm.then ?_|refine Calm.block ?_)) (by kernel_rfl) (by kernel_rfl) rfl rfl rfl rfl rfl rfl rfl ?_)
            refine DO.pure tab (by repeat (first|exact Calm.ret|refine Calm.then ?_|refine Calm.block ?_)) (by kernel_rfl) [15, 16] (by kernel_rfl) rfl ?_
            refine DO.index tab rRg 17 k hss3 (by repeat (first|exact Calm.ret|refine Calm.then ?_|refine Calm.block ?_)) (by kernel_rfl) (by kernel_rfl) rfl rfl rfl rfl rfl rfl rfl (by first | rfl | omega) rfl hxk ?_
            rintro b6 i6 f6 hf6 hA6; obtain rfl := (show f6 = rgD l k from hf6)
            refine DO.pure tab (by repeat (first|exact Calm.ret|refine Calm.then ?_|refine Calm.block ?_)) (by kernel_rfl) [18] (by kernel_rfl) rfl ?_
            (refine DO.loadA tab 19 hA6 (by repeat (first|exact Calm.ret|refine Calm.then ?_|refine Calm.block ?_)) (by kernel_rfl) (by kernel_rfl) rfl rfl rfl rfl rfl rfl rfl ?_)
            refine DO.pure tab (by repeat (first|exact Calm.ret|refine Calm.then ?_|refine Calm.block ?_)) (by kernel_rfl) [20, 21, 22] (by kernel_rfl) rfl ?_
            (refine DO.splitP (d := 98) rfl (fun hg22 => ?_) (fun hg22 => ?_))
            refine DO.pure tab (by repeat (first|exact Calm.ret|refine Calm.then ?_|refine Calm.block ?_)) (by kernel_rfl) [23, 24] (by kernel_rfl) rfl ?_
            refine DO.index tab rRg 25 k hss3 (by repeat (first|exact Calm.ret|refine Calm.then ?_|refine Calm.block ?_)) (by kernel_rfl) (by kernel_rfl) rfl rfl rfl rfl rfl rfl rfl (by first | rfl | omega) rfl hxk ?_
            rintro b7 i7 f7 hf7 hA7; obtain rfl := (show f7 = rgD l k from hf7)
            refine DO.pure tab (by repeat (first|exact Calm.ret|refine Calm.then ?_|refine Calm.block ?_)) (by kernel_rfl) [26] (by kernel_rfl) rfl ?_
            (refine DO.loadA tab 27 hA7 (by repeat (first|exact Calm.ret|refine Calm.then ?_|refine Calm.block ?_)) (by kernel_rfl) (by kernel_rfl) rfl rfl rfl rfl rfl rfl rfl ?_)
            refine DO.pure tab (by repeat (first|exact Calm.ret|refine Calm.then ?_|refine Calm.block ?_)) (by kernel_rfl) [28, 29] (by kernel_rfl) rfl ?_
            refine DO.index tab rRg 30 i hss3 (by repeat (first|exact Calm.ret|refine Calm.then ?_|refine Calm.block ?_)) (by kernel_rfl) (by kernel_rfl) rfl rfl rfl rfl rfl rfl rfl (by first | rfl | omega) rfl hxi ?_
            rintro b8 i8 f8 hf8 hA8; obtain rfl := (show f8 = rgD l i from hf8)
            refine DO.pure tab (by repeat (first|exact Calm.ret|refine Calm.then ?_|refine Calm.block ?_)) (by kernel_rfl) [31] (by kernel_rfl) rfl ?_
            (refine DO.loadA tab 32 hA8 (by repeat (first|exact Calm.ret|refine Calm.then ?_|refine Calm.block ?_)) (by kernel_rfl) (by kernel_rfl) rfl rfl rfl rfl rfl rfl rfl ?_)
            refine DO.pure tab (by repeat (first|exact Calm.ret|refine Calm.then ?_|refine Calm.block ?_)) (by kernel_rfl) [33, 34] (by kernel_rfl) rfl ?_
            (refine DO.nil0 (by kernel_rfl) ?_)
            rotate_left 1
            refine DO.pure tab (by repeat (first|exact Calm.ret|refine Calm.then ?_|refine Calm.block ?_)) (by kernel_rfl) [23, 24, 25, 26, 27, 28, 29, 30, 31, 32, 33, 34] (by kernel_rfl) rfl ?_
            (refine DO.nil0 (by kernel_rfl) ?_)
            rotate_left 1
            refine DO.pure tab (by repeat (first|exact Calm.ret|refine Calm.then ?_|refine Calm.block ?_)) (by kernel_rfl) [10, 11, 12, 13, 14, 15, 16, 17, 18, 19, 20, 21, 22, 23, 24, 25, 26, 27, 28, 29, 30, 31, 32, 33, 34] (by kernel_rfl) rfl ?_
            (refine DO.nil0 (by kernel_rfl) ?_)
            rotate_left 1
            · repeat (refine q6 ?_)
              refine TC.condP rfl (fun hbad => ?_) (fun hbad => ?_)
              · exfalso; omega
              · repeat (first|refine q3 ?_|refine q4 tab rfl rfl ?_|refine q6 ?_|refine q7 ?_|refine q13 ?_)
                refine TO.step rfl (OT.arith (r' := ((k + 1 : Nat) : Int)) rfl rfl rfl rfl rfl rfl rfl (by omega) ?_)
                repeat (first|refine q4 tab rfl rfl ?_|refine q5 ?_|refine q6 ?_)
                exact ⟨k + 1, (by repeat (first|exact trivial|refine And.intro rfl ?_)), (by repeat (first|exact trivial|refine And.intro rfl ?_)), rfl, rfl, (by repeat (exact List.Sublist.refl _)), by omega, by omega⟩
            · repeat (first|refine q3 ?_|refine q4 tab rfl rfl ?_|refine q6 ?_|refine q7 ?_|refine q13 ?_|refine q17 rfl ?_)
              refine TO.step rfl (OT.arith (r' := ((k + 1 : Nat) : Int)) rfl rfl rfl rfl rfl rfl rfl (by omega) ?_)
              repeat (first|refine q4 tab rfl rfl ?_|refine q5 ?_|refine q6 ?_)
              exact ⟨k + 1, (by repeat (first|exact trivial|refine And.intro rfl ?_)), (by repeat (first|exact trivial|refine And.intro rfl ?_)), rfl, rfl, (by repeat (exact List.Sublist.refl _)), by omega, by omega⟩
            · repeat (first|refine q3 ?_|refine q4 tab rfl rfl ?_|refine q6 ?_|refine q7 ?_|refine q13 ?_|refine q17 rfl ?_)
              refine TO.step rfl (OT.arith (r' := ((k + 1 : Nat) : Int)) rfl rfl rfl rfl rfl rfl rfl (by omega) ?_)
              repeat (first|refine q4 tab rfl rfl ?_|refine q5 ?_|refine q6 ?_)
              exact ⟨k + 1, (by repeat (first|exact trivial|refine And.intro rfl ?_)), (by repeat (first|exact trivial|refine And.intro rfl ?_)), rfl, rfl, (by repeat (exact List.Sublist.refl _)), by omega, by omega⟩
          · repeat (first|refine q3 ?_|refine q4 tab rfl rfl ?_|refine q6 ?_|refine q7 ?_|refine q10 ?_|refine q11 ?_|refine q14 ?_)
            refine TO.step rfl (OT.arith (r' := ((i + 1 : Nat) : Int)) rfl rfl rfl rfl rfl rfl rfl (by omega) ?_)
            repeat (first|refine q4 tab rfl rfl ?_|refine q5 ?_|refine q6 ?_)
            exact ⟨i + 1, (by repeat (first|exact trivial|refine And.intro rfl ?_)), (by repeat (first|exact trivial|refine And.intro rfl ?_)), rfl, rfl, (by repeat (exact List.Sublist.refl _)), by omega, by omega⟩
      · repeat (first|refine q1 ?_|refine q3 ?_|refine q4 tab rfl rfl ?_|refine q5 ?_|refine q6 ?_|refine q10 ?_|refine q11 ?_|refine q14 ?_|refine q15 ?_)
        refine retQ_ret rfl (by repeat (exact List.Sublist.refl _)) ⟨Mem.le_trans hm1 (Mem.le_trans hm2 hm3), rfl, rfl⟩
  · rw [hc]
    repeat (first|refine q1 ?_|refine q3 ?_|refine q4 tab rfl rfl ?_|refine q5 ?_|refine q6 ?_)
    refine TO.step rfl (OT.call rfl rfl rfl rfl rfl rfl goes8 ((awake_law m2 _).x ?_));
    rintro _ m3 _ ⟨hm3, rfl, rfl⟩
    repeat (first|refine q1 ?_|refine q3 ?_|refine q4 tab rfl rfl ?_|refine q5 ?_|refine q6 ?_|refine q16 rfl ?_)
    refine TO.step rfl (OT.call rfl rfl rfl rfl rfl rfl goes8 ((awake_law m3 _).x ?_));
    rintro _ m4 _ ⟨hm4, rfl, rfl⟩
    repeat (first|refine q4 tab rfl rfl ?_|refine q5 ?_|refine q6 ?_|refine q8 ?_|refine q15 ?_)
    refine retQ_ret rfl (by repeat (exact List.Sublist.refl _)) ⟨Mem.le_trans hm1 (Mem.le_trans hm2 (Mem.le_trans hm3 hm4)), rfl, rfl⟩
  · rw [hc]
    repeat (first|refine q1 ?_|refine q3 ?_|refine q4 tab rfl rfl ?_|refine q5 ?_|refine q6 ?_)
    refine TO.step rfl (OT.call rfl rfl rfl rfl rfl rfl goes8 ((awake_law m2 _).x ?_));
    rintro _ m3 _ ⟨hm3, rfl, rfl⟩
    repeat (first|refine q1 ?_|refine q3 ?_|refine q4 tab rfl rfl ?_|refine q5 ?_|refine q6 ?_|refine q16 rfl ?_)
    refine TO.step rfl (OT.call rfl rfl rfl rfl rfl rfl goes8 ((awake_law m3 _).x ?_));
    rintro _ m4 _ ⟨hm4, rfl, rfl⟩
    repeat (first|refine q4 tab rfl rfl ?_|refine q5 ?_|refine q6 ?_|refine q8 ?_|refine q15 ?_)
    refine retQ_ret rfl (by repeat (exact List.Sublist.refl _)) ⟨Mem.le_trans hm1 (Mem.le_trans hm2 (Mem.le_trans hm3 hm4)), rfl, rfl⟩
end Go.Sep
