/-
  Slots, plainly: what the ranges are given.
-/
import Derived.Test.YtggfaplmdcpccaaB5
set_option linter.unusedVariables false
set_option linter.unusedSimpArgs false
namespace Go.Sep
def badR (r : Rg) : Bool := decide (r.frm < 0) || decide (r.to ≤ r.frm)
def checkM (l : List Rg) : Int := if 20000 < l.length then 4 else if l.any badR then 2 else 0
/-- the order of ranges: by their beginnings, of several by their numbers -/
structure OrdR (l : List Rg) (os : List Int) : Prop where
  perm : os.Perm ((List.range l.length).map fun i : Nat => (i : Int))
  srt : os.Pairwise fun a b => ltR l a b = true
theorem OrdR.one {l : List Rg} {a b : List Int} (h : OrdR l a) (k : OrdR l b) : a = b := sorted_one (ltR_ord l) h.srt k.srt (h.perm.trans k.perm.symm)
theorem OrdR.dom {l : List Rg} {os : List Int} (h : OrdR l os) : ∀ x ∈ os, inL l.length x := fun x hx => by
  obtain ⟨i, hi, rfl⟩ := List.mem_map.1 (h.perm.mem_iff.1 hx)
  have := List.mem_range.1 hi
  exact ⟨by omega, by omega⟩
theorem OrdR.len {l : List Rg} {os : List Int} (h : OrdR l os) : os.length = l.length := by
  have := h.perm.length_eq
  simpa using this
/-- what is held, what is free, how many there are, what each was given -/
structure AS where
  w : List Hd
  f : List Int
  n : Int
  out : List Int
/-- what is free at a moment -/
def freeAt (st : AS) (t : Int) : List Int := st.f ++ (st.w.filter fun x => decide (x.to ≤ t)).map Hd.slot
def holdAt (st : AS) (t : Int) : List Hd := st.w.filter fun x => !decide (x.to ≤ t)
structure GiveR (f1 : List Int) (n : Int) (slot : Int) (f2 : List Int) (n2 : Int) : Prop where
  a : f1 = [] → slot = n ∧ n2 = n + 1 ∧ f2 = []
  b : f1 ≠ [] → slot ∈ f1 ∧ (∀ x ∈ f1, slot ≤ x) ∧ n2 = n ∧ f2 = f1.erase slot
theorem GiveR.det {f1 : List Int} {n s1 s2 n1 n2 : Int} {g1 g2 : List Int} (h : GiveR f1 n s1 g1 n1) (k : GiveR f1 n s2 g2 n2) : s1 = s2 ∧ g1 = g2 ∧ n1 = n2 := by
  by_cases e : f1 = []
  · obtain ⟨a, b, c⟩ := h.a e
    obtain ⟨a', b', c'⟩ := k.a e
    exact ⟨a.trans a'.symm, c.trans c'.symm, b.trans b'.symm⟩
  · obtain ⟨a, b, c, d⟩ := h.b e
    obtain ⟨a', b', c', d'⟩ := k.b e
    have : s1 = s2 := by
      have h1 := b _ a'
      have h2 := b' _ a
      omega
    subst this
    exact ⟨rfl, d.trans d'.symm, c.trans c'.symm⟩
structure StepR (l : List Rg) (st : AS) (i : Int) (st' : AS) : Prop where
  give : ∃ slot, GiveR (freeAt st (fromOf l i)) st.n slot st'.f st'.n ∧ st'.w = holdAt st (fromOf l i) ++ [⟨(rgD l i.toNat).to, slot⟩] ∧ st'.out = st.out.set i.toNat slot
theorem StepR.det {l : List Rg} {st a b : AS} {i : Int} (h : StepR l st i a) (k : StepR l st i b) : a = b := by
  obtain ⟨s1, g1, w1, o1⟩ := h.give
  obtain ⟨s2, g2, w2, o2⟩ := k.give
  obtain ⟨rfl, e1, e2⟩ := g1.det g2
  obtain ⟨a1, a2, a3, a4⟩ := a
  obtain ⟨b1, b2, b3, b4⟩ := b
  simp only at *
  rw [w1, w2, o1, o2, e1, e2]
inductive AllR (l : List Rg) : List Int → AS → AS → Prop
  | nil (st : AS) : AllR l [] st st
  | cons {i : Int} {is : List Int} {a b c : AS} (h : StepR l a i b) (k : AllR l is b c) : AllR l (i :: is) a c
theorem AllR.det {l : List Rg} {is : List Int} {a b : AS} (h : AllR l is a b) : ∀ {c : AS}, AllR l is a c → b = c := by
  induction h with
  | nil => intro c k; cases k; rfl
  | cons h _ ih =>
    intro c k
    cases k with
    | cons h' k' =>
      have := h.det h'
      subst this
      exact ih k'
theorem AllR.snoc {l : List Rg} {is : List Int} {a b c : AS} {i : Int} (h : AllR l is a b) (k : StepR l b i c) : AllR l (is ++ [i]) a c := by
  induction h with
  | nil => exact .cons k (.nil _)
  | cons h _ ih => exact .cons h (ih k)
def as0 (l : List Rg) : AS := ⟨[], [], 0, List.replicate l.length 0⟩
/-- what the ranges are given -/
def SlotsR (l : List Rg) (s : List Int) (n : Int) : Prop := if checkM l ≠ 0 then s = [] ∧ n = 0 else ∃ os st, OrdR l os ∧ AllR l os (as0 l) st ∧ s = st.out ∧ n = st.n
theorem SlotsR.det {l : List Rg} {s t : List Int} {n k : Int} (h : SlotsR l s n) (h' : SlotsR l t k) : s = t ∧ n = k := by
  unfold SlotsR at h h'
  split at h
  · rw [if_pos (by assumption)] at h'
    exact ⟨h.1.trans h'.1.symm, h.2.trans h'.2.symm⟩
  · rw [if_neg (by assumption)] at h'
    obtain ⟨os, st, h1, h2, h3, h4⟩ := h
    obtain ⟨os', st', h1', h2', h3', h4'⟩ := h'
    have := h1.one h1'
    subst this
    have := h2.det h2'
    subst this
    exact ⟨h3.trans h3'.symm, h4.trans h4'.symm⟩

/-! all later by as1 much -/
def shR (k : Int) (r : Rg) : Rg := ⟨r.frm + k, r.to + k⟩
def shS (k : Int) (st : AS) : AS := ⟨st.w.map fun x => ⟨x.to + k, x.slot⟩, st.f, st.n, st.out⟩
theorem rgD_sh {l : List Rg} {k : Int} {i : Nat} (h : i < l.length) : rgD (l.map (shR k)) i = shR k (rgD l i) := by
  unfold rgD
  rw [List.getElem?_map, List.getElem?_eq_getElem h]
  rfl
theorem from_sh {l : List Rg} {k x : Int} (h : inL l.length x) : fromOf (l.map (shR k)) x = fromOf l x + k := by
  unfold fromOf
  rw [rgD_sh (by have := h.1; have := h.2; omega)]
  rfl
theorem ltR_sh {l : List Rg} {k x y : Int} (hx : inL l.length x) (hy : inL l.length y) : ltR (l.map (shR k)) x y = ltR l x y := by
  unfold ltR
  rw [from_sh hx, from_sh hy, Bool.eq_iff_iff]
  simp only [Bool.or_eq_true, Bool.and_eq_true, decide_eq_true_eq]
  omega
theorem OrdR.sh {l : List Rg} {k : Int} {os : List Int} (h : OrdR l os) : OrdR (l.map (shR k)) os := by
  refine ⟨by rw [List.length_map]; exact h.perm, ?_⟩
  refine h.srt.imp_of_mem fun {a b} ha hb hab => ?_
  rw [ltR_sh (h.dom a ha) (h.dom b hb)]
  exact hab
theorem filter_sh (w : List Hd) (t k : Int) : (w.map fun x : Hd => (⟨x.to + k, x.slot⟩ : Hd)).filter (fun x => decide (x.to ≤ t + k)) = (w.filter fun x => decide (x.to ≤ t)).map fun x : Hd => (⟨x.to + k, x.slot⟩ : Hd) := by
  induction w with
  | nil => rfl
  | cons x xs ih =>
    simp only [List.map_cons, List.filter_cons]
    by_cases e : x.to ≤ t
    · have : x.to + k ≤ t + k := by omega
      simp [e, this, ih]
    · have : ¬ x.to + k ≤ t + k := by omega
      simp [e, this, ih]
theorem filter_sh2 (w : List Hd) (t k : Int) : (w.map fun x : Hd => (⟨x.to + k, x.slot⟩ : Hd)).filter (fun x => !decide (x.to ≤ t + k)) = (w.filter fun x => !decide (x.to ≤ t)).map fun x : Hd => (⟨x.to + k, x.slot⟩ : Hd) := by
  induction w with
  | nil => rfl
  | cons x xs ih =>
    simp only [List.map_cons, List.filter_cons]
    by_cases e : x.to ≤ t
    · have : x.to + k ≤ t + k := by omega
      simp [e, this, ih]
    · have : ¬ x.to + k ≤ t + k := by omega
      simp [e, this, ih]
theorem StepR.sh {l : List Rg} {k i : Int} {a b : AS} (hi : inL l.length i) (h : StepR l a i b) : StepR (l.map (shR k)) (shS k a) i (shS k b) := by
  obtain ⟨s, g, w, o⟩ := h.give
  refine ⟨⟨s, ?_, ?_, o⟩⟩
  · have e : freeAt (shS k a) (fromOf (l.map (shR k)) i) = freeAt a (fromOf l i) := by
      rw [from_sh hi]
      unfold freeAt shS
      simp only
      rw [filter_sh, List.map_map]
      rfl
    rw [e]
    exact g
  · rw [rgD_sh (by have := hi.1; have := hi.2; omega), from_sh hi]
    unfold holdAt shS
    simp only
    rw [filter_sh2, w]
    simp [holdAt, shR]
theorem AllR.sh {l : List Rg} {k : Int} {is : List Int} {a b : AS} (h : AllR l is a b) : (∀ x ∈ is, inL l.length x) → AllR (l.map (shR k)) is (shS k a) (shS k b) := by
  induction h with
  | nil => intro _; exact .nil _
  | cons h _ ih => intro hd; exact .cons (h.sh (hd _ (List.mem_cons_self ..))) (ih fun x hx => hd x (List.mem_cons_of_mem _ hx))
theorem check_sh {l : List Rg} {k : Int} (h : checkM l = 0) (hk : 0 ≤ k) : checkM (l.map (shR k)) = 0 := by
  unfold checkM at h ⊢
  split at h
  · cases h
  · rename_i h1
    split at h
    · cases h
    · rename_i h2
      rw [if_neg (by rw [List.length_map]; exact h1), if_neg]
      intro h3
      apply h2
      obtain ⟨x, hx, hb⟩ := List.any_eq_true.1 h3
      obtain ⟨y, hy, rfl⟩ := List.mem_map.1 hx
      refine List.any_eq_true.2 ⟨y, hy, ?_⟩
      have e1 : (shR k y).frm = y.frm + k := rfl
      have e2 : (shR k y).to = y.to + k := rfl
      unfold badR at hb ⊢
      rw [e1, e2] at hb
      simp only [Bool.or_eq_true, decide_eq_true_eq] at hb ⊢
      omega
theorem SlotsR.sh {l : List Rg} {k : Int} {s : List Int} {n : Int} (h : SlotsR l s n) (h0 : checkM l = 0) (hk : 0 ≤ k) : SlotsR (l.map (shR k)) s n := by
  unfold SlotsR at h ⊢
  rw [if_neg (by simpa using h0)] at h
  rw [if_neg (by simpa using check_sh h0 hk)]
  obtain ⟨os, st, h1, h2, h3, h4⟩ := h
  refine ⟨os, shS k st, h1.sh, ?_, h3, h4⟩
  have := h2.sh (k := k) h1.dom
  have e : shS k (as0 l) = as0 (l.map (shR k)) := by simp [shS, as0]
  rw [← e]; exact this
end Go.Sep

/-
  Heaps: up and down.
-/
set_option linter.unusedVariables false
set_option linter.unusedSimpArgs false
namespace Go.Sep
open Go.Proofs
attribute [local irreducible] TC TO OT TCallX TCall DO DOt thenQ blockQ retQ At
theorem upI_law (m : Mem) (L : List Item) (bq b n c j : Nat) (hs : List Int) (hj : j < n) (hn : n ≤ hs.length) (hnb : n < 140737488355328) (hu : UI ltN hs n j) :
    TCall Try.prog 30 ⟨[.iface 53 (.pointer (some ⟨bq, 0, none⟩)), .int .i64 (j : Int)]⟩ m (.cells bq 0 [.slice (some ⟨b, 0, none⟩) n c] :: .cells b 0 (encs rInt hs) :: L) (fun r m' L' => m = m' ∧ ∃ hs', Mix n hs hs' ∧ HF ltN hs' n 0 ∧ .cells bq 0 [.slice (some ⟨b, 0, none⟩) n c] :: .cells b 0 (encs rInt hs') :: L = L') := by
  unfold TCall
  refine TCallX.enter Try.func30 rfl 23 rfl ?_
  repeat (refine q2 ?_)
  refine TC.loopK (ι := Nat × List Int) [0] rfl (fun x => [(1, .int .i64 (x.1 : Int))]) (fun _ => m) (fun x => .cells bq 0 [.slice (some ⟨b, 0, none⟩) n c] :: .cells b 0 (encs rInt x.2) :: L) (fun x => x.1 < n ∧ Mix n hs x.2 ∧ UI ltN x.2 n x.1) (fun x => x.1) (j, hs) (by repeat (first|exact trivial|refine And.intro rfl ?_)) rfl (by repeat (exact List.Sublist.refl _)) ⟨hj, Mix.refl _ _, hu⟩ ?_
  rintro ⟨j, xs⟩ ⟨hj, hmix, hui⟩
  simp only at hj hmix hui
  have hxl : n ≤ xs.length := by rw [hmix.len]; exact hn
  have hp : par j < n := by unfold par; omega
  repeat (first|refine q1 ?_|refine q2 ?_|refine q3 ?_|refine q4 tab rfl rfl ?_)
  refine TO.step rfl (OT.arith (r' := (j : Int) - 1) rfl rfl rfl rfl rfl rfl rfl (by omega) ?_)
  refine TO.step rfl (OT.quoK rfl rfl rfl rfl rfl (by decide) (r := ((par j : Nat) : Int)) (par_div j (by omega)) ?_)
  repeat (first|refine q1 ?_|refine q3 ?_|refine q4 tab rfl rfl ?_|refine q5 ?_|refine q6 ?_)
  (refine TO.splitP rfl rfl (fun hg => ?_) (fun hg => ?_))
  · repeat (first|refine q4 tab rfl rfl ?_|refine q5 ?_|refine q6 ?_|refine q10 ?_|refine q11 ?_|refine q12 rfl ?_|refine q14 ?_|refine q16 rfl ?_)
    refine retQ_n rfl (L' := .cells bq 0 [.slice (some ⟨b, 0, none⟩) n c] :: .cells b 0 (encs rInt xs) :: L) (by repeat (exact List.Sublist.refl _)) ⟨rfl, xs, hmix, hui.done (.inl (by unfold par at hg; omega)), rfl⟩
  · have hj0 : 0 < j := by unfold par at hg; omega
    repeat (refine q4 tab rfl rfl ?_)
    refine TO.step rfl (OT.invokeF (S := 48) tab 0 (by kernel_rfl) rfl rfl rfl rfl rfl rfl rfl rfl rfl goes73 ((lessI_law m L bq b n c j (par j) _ xs hj hp hxl).x ?_))
    rintro _ _ _ ⟨rfl, rfl, rfl⟩
    cases hl : ltN (gk xs j) (gk xs (par j)) with
    | false =>
      repeat (first|refine q4 tab rfl rfl ?_|refine q5 ?_|refine q6 ?_|refine q10 ?_|refine q11 ?_|refine q12 rfl ?_|refine q14 ?_|refine q16 rfl ?_)
      refine retQ_n rfl (L' := .cells bq 0 [.slice (some ⟨b, 0, none⟩) n c] :: .cells b 0 (encs rInt xs) :: L) (by repeat (exact List.Sublist.refl _)) ⟨rfl, xs, hmix, hui.done (.inr hl), rfl⟩
    | true =>
      repeat (first|refine q1 ?_|refine q3 ?_|refine q4 tab rfl rfl ?_|refine q5 ?_|refine q6 ?_|refine q13 ?_|refine q17 rfl ?_)
      refine TO.step rfl (OT.invokeF (S := 48) tab 0 (by kernel_rfl) rfl rfl rfl rfl rfl rfl rfl rfl rfl goes74 ((swapI_law m L bq b n c (par j) j _ xs hp hj hxl).x ?_))
      rintro _ _ _ ⟨rfl, rfl⟩
      repeat (first|refine q3 ?_|refine q4 tab rfl rfl ?_|refine q5 ?_|refine q6 ?_|refine q7 ?_)
      exact ⟨(par j, sw xs (par j) j), (by repeat (first|exact trivial|refine And.intro rfl ?_)), (by repeat (first|exact trivial|refine And.intro rfl ?_)), rfl, rfl, (by repeat (exact List.Sublist.refl _)), ⟨hp, hmix.trans (Mix.sw hp hj hxl), hui.step ltN_ord hxl hj hj0 hl⟩, by simp only; unfold par; omega⟩
end Go.Sep

/-
  Heaps: down, laid out, one put in, one taken out.
-/
set_option linter.unusedVariables false
set_option linter.unusedSimpArgs false
namespace Go.Sep
open Go.Proofs
attribute [local irreducible] TC TO OT TCallX TCall DO DOt thenQ blockQ retQ At
set_option maxHeartbeats 1000000 in
theorem downI_law (m : Mem) (L : List Item) (bq b n len c i0 : Nat) (hs : List Int) (hi0 : i0 ≤ n) (hnl : n ≤ len) (hn : len ≤ hs.length) (hnb : n < 70368744177664) (hd : DI ltN hs n i0 i0) :
    TCall Try.prog 31 ⟨[.iface 53 (.pointer (some ⟨bq, 0, none⟩)), .int .i64 (i0 : Int), .int .i64 (n : Int)]⟩ m (.cells bq 0 [.slice (some ⟨b, 0, none⟩) len c] :: .cells b 0 (encs rInt hs) :: L) (fun r m' L' => m = m' ∧ ∃ hs', Mix n hs hs' ∧ HF ltN hs' n i0 ∧ .cells bq 0 [.slice (some ⟨b, 0, none⟩) len c] :: .cells b 0 (encs rInt hs') :: L = L') := by
  unfold TCall
  refine TCallX.enter Try.func31 rfl 48 rfl ?_
  repeat (first|refine q1 ?_|refine q2 ?_|refine q3 ?_|refine q4 tab rfl rfl ?_|refine q5 ?_|refine q6 ?_)
  refine TC.loopK (ι := Nat × List Int) [0, 1, 2] rfl (fun x => [(7, .int .i64 (x.1 : Int))]) (fun _ => m) (fun x => .cells bq 0 [.slice (some ⟨b, 0, none⟩) len c] :: .cells b 0 (encs rInt x.2) :: L) (fun x => x.1 ≤ n ∧ Mix n hs x.2 ∧ DI ltN x.2 n i0 x.1 ∧ i0 ≤ x.1) (fun x => n - x.1) (i0, hs) (by repeat (first|exact trivial|refine And.intro rfl ?_)) rfl (by repeat (exact List.Sublist.refl _)) ⟨hi0, Mix.refl _ _, hd, Nat.le_refl _⟩ ?_
  rintro ⟨i, xs⟩ ⟨hi, hmix, hd, hlo⟩
  simp only at hi hmix hd hlo
  have hxl : len ≤ xs.length := by rw [hmix.len]; exact hn
  repeat (first|refine q1 ?_|refine q2 ?_|refine q3 ?_|refine q4 tab rfl rfl ?_)
  refine TO.step rfl (OT.arith (r' := ((2 * i : Nat) : Int)) rfl rfl rfl rfl rfl rfl (by omega) (by omega) ?_)
  refine TO.step rfl (OT.arith (r' := (((2*i) + 1 : Nat) : Int)) rfl rfl rfl rfl rfl rfl rfl (by omega) ?_)
  repeat (first|refine q1 ?_|refine q3 ?_|refine q4 tab rfl rfl ?_|refine q5 ?_|refine q6 ?_)
  (refine TO.splitP rfl rfl (fun hg => ?_) (fun hg => ?_))
  · repeat (first|refine q1 ?_|refine q3 ?_|refine q4 tab rfl rfl ?_|refine q5 ?_|refine q6 ?_|refine q10 ?_|refine q11 ?_|refine q12 rfl ?_|refine q14 ?_|refine q15 ?_|refine q16 rfl ?_)
    refine retQ_ret rfl (L' := .cells bq 0 [.slice (some ⟨b, 0, none⟩) len c] :: .cells b 0 (encs rInt xs) :: L) (by repeat (exact List.Sublist.refl _)) ⟨rfl, xs, hmix, hd.done0 (by omega), rfl⟩
  · have hneg : decide (((2 * i + 1 : Nat) : Int) < 0) = false := decide_eq_false (by omega)
    repeat (first|refine q1 ?_|refine q3 ?_|refine q4 tab rfl rfl ?_|refine q5 ?_|refine q6 ?_|refine q13 ?_|refine q17 rfl ?_)
    simp only [hneg]
    skip
    refine TO.step rfl (OT.arith (r' := (((2*i+1) + 1 : Nat) : Int)) rfl rfl rfl rfl rfl rfl rfl (by omega) ?_)
    repeat (first|refine q1 ?_|refine q3 ?_|refine q4 tab rfl rfl ?_|refine q5 ?_|refine q6 ?_)
    (refine TO.splitP rfl rfl (fun hg2 => ?_) (fun hg2 => ?_))
    · repeat (refine q4 tab rfl rfl ?_)
      refine TO.step rfl (OT.invokeF (S := 48) tab 0 (by kernel_rfl) rfl rfl rfl rfl rfl rfl rfl rfl rfl goes73 ((lessI_law m L bq b len c (2 * i + 1 + 1) (2 * i + 1) _ xs (by omega) (by omega) hxl).x ?_))
      rintro _ _ _ ⟨rfl, rfl, rfl⟩
      cases hl2 : ltN (gk xs (2 * i + 1 + 1)) (gk xs (2 * i + 1)) with
      | true =>
        repeat (first|refine q1 ?_|refine q3 ?_|refine q4 tab rfl rfl ?_|refine q5 ?_|refine q6 ?_|refine q16 rfl ?_)
        have hsm : ∀ k, 0 < k → k < n → par k = i → ltN (gk xs k) (gk xs (2 * i + 1 + 1)) = false := fun k h1 h2 h3 => by
          have : k = 2 * i + 1 ∨ k = 2 * i + 1 + 1 := by unfold par at h3; omega
          rcases this with rfl | rfl
          · exact ltN_ord.asym _ _ hl2
          · exact ltN_irr _
        have hJn : (2 * i + 1 + 1) < n := by omega
        have hJp : par (2 * i + 1 + 1) = i := by unfold par; omega
        have hin : i < n := by omega
        refine TO.step rfl (OT.invokeF (S := 48) tab 0 (by kernel_rfl) rfl rfl rfl rfl rfl rfl rfl rfl rfl goes73 ((lessI_law m L bq b len c (2 * i + 1 + 1) i _ xs (by omega) (by omega) hxl).x ?_))
        rintro _ _ _ ⟨rfl, rfl, rfl⟩
        cases hl : ltN (gk xs (2 * i + 1 + 1)) (gk xs i) with
        | false =>
          repeat (first|refine q1 ?_|refine q3 ?_|refine q4 tab rfl rfl ?_|refine q5 ?_|refine q6 ?_|refine q10 ?_|refine q11 ?_|refine q12 rfl ?_|refine q14 ?_|refine q15 ?_|refine q16 rfl ?_)
          refine retQ_ret rfl (L' := .cells bq 0 [.slice (some ⟨b, 0, none⟩) len c] :: .cells b 0 (encs rInt xs) :: L) (by repeat (exact List.Sublist.refl _)) ⟨rfl, xs, hmix, hd.done ltN_ord hsm hl, rfl⟩
        | true =>
          repeat (first|refine q1 ?_|refine q3 ?_|refine q4 tab rfl rfl ?_|refine q5 ?_|refine q6 ?_|refine q13 ?_|refine q17 rfl ?_)
          refine TO.step rfl (OT.invokeF (S := 48) tab 0 (by kernel_rfl) rfl rfl rfl rfl rfl rfl rfl rfl rfl goes74 ((swapI_law m L bq b len c i (2 * i + 1 + 1) _ xs (by omega) (by omega) hxl).x ?_))
          rintro _ _ _ ⟨rfl, rfl⟩
          repeat (first|refine q3 ?_|refine q4 tab rfl rfl ?_|refine q5 ?_|refine q6 ?_|refine q7 ?_)
          exact ⟨((2 * i + 1 + 1), sw xs i (2 * i + 1 + 1)), (by repeat (first|exact trivial|refine And.intro rfl ?_)), (by repeat (first|exact trivial|refine And.intro rfl ?_)), rfl, rfl, (by repeat (exact List.Sublist.refl _)), ⟨by simp only; omega, hmix.trans (Mix.sw hin hJn (by omega)), hd.step ltN_ord (by omega) (by omega) hJn (by omega) hJp hsm hl, by simp only; omega⟩, by simp only; omega⟩
      | false =>
        repeat (first|refine q1 ?_|refine q3 ?_|refine q4 tab rfl rfl ?_|refine q5 ?_|refine q6 ?_|refine q13 ?_|refine q17 rfl ?_)
        have hsm : ∀ k, 0 < k → k < n → par k = i → ltN (gk xs k) (gk xs (2 * i + 1)) = false := fun k h1 h2 h3 => by
          have : k = 2 * i + 1 ∨ k = 2 * i + 1 + 1 := by unfold par at h3; omega
          rcases this with rfl | rfl
          · exact ltN_irr _
          · exact hl2
        have hJn : (2 * i + 1) < n := by omega
        have hJp : par (2 * i + 1) = i := by unfold par; omega
        have hin : i < n := by omega
        refine TO.step rfl (OT.invokeF (S := 48) tab 0 (by kernel_rfl) rfl rfl rfl rfl rfl rfl rfl rfl rfl goes73 ((lessI_law m L bq b len c (2 * i + 1) i _ xs (by omega) (by omega) hxl).x ?_))
        rintro _ _ _ ⟨rfl, rfl, rfl⟩
        cases hl : ltN (gk xs (2 * i + 1)) (gk xs i) with
        | false =>
          repeat (first|refine q1 ?_|refine q3 ?_|refine q4 tab rfl rfl ?_|refine q5 ?_|refine q6 ?_|refine q10 ?_|refine q11 ?_|refine q12 rfl ?_|refine q14 ?_|refine q15 ?_|refine q16 rfl ?_)
          refine retQ_ret rfl (L' := .cells bq 0 [.slice (some ⟨b, 0, none⟩) len c] :: .cells b 0 (encs rInt xs) :: L) (by repeat (exact List.Sublist.refl _)) ⟨rfl, xs, hmix, hd.done ltN_ord hsm hl, rfl⟩
        | true =>
          repeat (first|refine q1 ?_|refine q3 ?_|refine q4 tab rfl rfl ?_|refine q5 ?_|refine q6 ?_|refine q13 ?_|refine q17 rfl ?_)
          refine TO.step rfl (OT.invokeF (S := 48) tab 0 (by kernel_rfl) rfl rfl rfl rfl rfl rfl rfl rfl rfl goes74 ((swapI_law m L bq b len c i (2 * i + 1) _ xs (by omega) (by omega) hxl).x ?_))
          rintro _ _ _ ⟨rfl, rfl⟩
          repeat (first|refine q3 ?_|refine q4 tab rfl rfl ?_|refine q5 ?_|refine q6 ?_|refine q7 ?_)
          exact ⟨((2 * i + 1), sw xs i (2 * i + 1)), (by repeat (first|exact trivial|refine And.intro rfl ?_)), (by repeat (first|exact trivial|refine And.intro rfl ?_)), rfl, rfl, (by repeat (exact List.Sublist.refl _)), ⟨by simp only; omega, hmix.trans (Mix.sw hin hJn (by omega)), hd.step ltN_ord (by omega) (by omega) hJn (by omega) hJp hsm hl, by simp only; omega⟩, by simp only; omega⟩
    · repeat (first|refine q1 ?_|refine q3 ?_|refine q4 tab rfl rfl ?_|refine q5 ?_|refine q6 ?_|refine q13 ?_|refine q17 rfl ?_)
      have hsm : ∀ k, 0 < k → k < n → par k = i → ltN (gk xs k) (gk xs (2 * i + 1)) = false := fun k h1 h2 h3 => by
        have : k = 2 * i + 1 := by unfold par at h3; omega
        rcases this with rfl
        exact ltN_irr _
      have hJn : (2 * i + 1) < n := by omega
      have hJp : par (2 * i + 1) = i := by unfold par; omega
      have hin : i < n := by omega
      refine TO.step rfl (OT.invokeF (S := 48) tab 0 (by kernel_rfl) rfl rfl rfl rfl rfl rfl rfl rfl rfl goes73 ((lessI_law m L bq b len c (2 * i + 1) i _ xs (by omega) (by omega) hxl).x ?_))
      rintro _ _ _ ⟨rfl, rfl, rfl⟩
      cases hl : ltN (gk xs (2 * i + 1)) (gk xs i) with
      | false =>
        repeat (first|refine q1 ?_|refine q3 ?_|refine q4 tab rfl rfl ?_|refine q5 ?_|refine q6 ?_|refine q10 ?_|refine q11 ?_|refine q12 rfl ?_|refine q14 ?_|refine q15 ?_|refine q16 rfl ?_)
        refine retQ_ret rfl (L' := .cells bq 0 [.slice (some ⟨b, 0, none⟩) len c] :: .cells b 0 (encs rInt xs) :: L) (by repeat (exact List.Sublist.refl _)) ⟨rfl, xs, hmix, hd.done ltN_ord hsm hl, rfl⟩
      | true =>
        repeat (first|refine q1 ?_|refine q3 ?_|refine q4 tab rfl rfl ?_|refine q5 ?_|refine q6 ?_|refine q13 ?_|refine q17 rfl ?_)
        refine TO.step rfl (OT.invokeF (S := 48) tab 0 (by kernel_rfl) rfl rfl rfl rfl rfl rfl rfl rfl rfl goes74 ((swapI_law m L bq b len c i (2 * i + 1) _ xs (by omega) (by omega) hxl).x ?_))
        rintro _ _ _ ⟨rfl, rfl⟩
        repeat (first|refine q3 ?_|refine q4 tab rfl rfl ?_|refine q5 ?_|refine q6 ?_|refine q7 ?_)
        exact ⟨((2 * i + 1), sw xs i (2 * i + 1)), (by repeat (first|exact trivial|refine And.intro rfl ?_)), (by repeat (first|exact trivial|refine And.intro rfl ?_)), rfl, rfl, (by repeat (exact List.Sublist.refl _)), ⟨by simp only; omega, hmix.trans (Mix.sw hin hJn (by omega)), hd.step ltN_ord (by omega) (by omega) hJn (by omega) hJp hsm hl, by simp only; omega⟩, by simp only; omega⟩
end Go.Sep

/-
  Heaps: Init, Pop, Push.
-/
set_option linter.unusedVariables false
set_option linter.unusedSimpArgs false
namespace Go.Sep
open Go.Proofs
attribute [local irreducible] TC TO OT TCallX TCall DO DOt thenQ blockQ retQ At
theorem hpopI_law (m : Mem) (L : List Item) (bq b n c : Nat) (hs : List Int) (hn : n < hs.length) (hnc : n < c) (hnb : n < 70368744177664) (hh : HF ltN hs (n + 1) 0) :
    TCall Try.prog 20 ⟨[.iface 53 (.pointer (some ⟨bq, 0, none⟩))]⟩ m (.cells bq 0 [.slice (some ⟨b, 0, none⟩) (n + 1) c] :: .cells b 0 (encs rInt hs) :: L) (fun r m' L' => m = m' ∧ r = .iface 3 (.int .i64 (gk hs 0)) ∧ ∃ hs', hs'.length = hs.length ∧ (hs'.take n ++ [gk hs 0]).Perm (hs.take (n + 1)) ∧ HF ltN hs' n 0 ∧ .cells bq 0 [.slice (some ⟨b, 0, none⟩) n c] :: .cells b 0 (encs rInt hs') :: L = L') := by
  unfold TCall
  refine TCallX.enter Try.func20 rfl 15 rfl ?_
  repeat (first|refine q1 ?_|refine q3 ?_|refine q4 tab rfl rfl ?_|refine q5 ?_|refine q6 ?_)
  refine TO.step rfl (OT.invokeF (S := 48) tab 0 (by kernel_rfl) rfl rfl rfl rfl rfl rfl rfl rfl rfl goes21 ((qlenI_law m _ ⟨some ⟨b, 0, none⟩, n + 1, c⟩).x ?_))
  rintro _ _ _ ⟨rfl, rfl, rfl⟩
  refine TO.step rfl (OT.arith (r' := (n : Int)) rfl rfl rfl rfl rfl rfl (by simp only; omega) (by omega) ?_)
  repeat (first|refine q1 ?_|refine q3 ?_|refine q4 tab rfl rfl ?_|refine q5 ?_|refine q6 ?_)
  refine TO.step rfl (OT.invokeF (S := 48) tab 0 (by kernel_rfl) rfl rfl rfl rfl rfl rfl rfl rfl rfl goes74 ((swapI_law m L bq b (n + 1) c 0 n _ hs (by omega) (by omega) (by omega)).x ?_))
  rintro _ _ _ ⟨rfl, rfl⟩
  repeat (first|refine q1 ?_|refine q3 ?_|refine q4 tab rfl rfl ?_|refine q5 ?_|refine q6 ?_)
  refine TO.step rfl (OT.call rfl rfl rfl rfl rfl rfl goes31 ((downI_law m L bq b n (n + 1) c 0 (sw hs 0 n) (by omega) (by omega) (by rw [sw_length]; omega) hnb (DI.pop hh (by omega))).x ?_)); rintro _ _ _ ⟨rfl, ys, hy1, hy2, rfl⟩
  have hyl : ys.length = hs.length := by rw [hy1.len, sw_length]
  have hyn : gk ys n = gk hs 0 := by
    rw [hy1.rest_get (Nat.le_refl _), gk_sw (by omega) (by omega), if_pos rfl]
  repeat (first|refine q1 ?_|refine q3 ?_|refine q4 tab rfl rfl ?_|refine q5 ?_|refine q6 ?_)
  refine TO.step rfl (OT.invokeP tab (by kernel_rfl) rfl rfl rfl rfl rfl rfl rfl goes75 ((qpopI_law m L bq b n c ys (by omega) hnc (by omega)).x ?_))
  rintro _ _ _ ⟨rfl, rfl, rfl⟩
  rw [hyn]
  repeat (first|refine q4 tab rfl rfl ?_|refine q5 ?_|refine q6 ?_|refine q15 ?_)
  refine retQ_ret rfl (L' := .cells bq 0 [.slice (some ⟨b, 0, none⟩) n c] :: .cells b 0 (encs rInt ys) :: L) (by repeat (exact List.Sublist.refl _)) ⟨rfl, rfl, ys, hyl, ?_, hy2, rfl⟩
  have h1 : ((sw hs 0 n).take (n + 1)).Perm (hs.take (n + 1)) := by
    rw [sw_take (by omega) (by omega)]
    exact sw_perm (by simp; omega) (by simp; omega)
  refine List.Perm.trans ?_ h1
  rw [take_succ_gk (xs := sw hs 0 n) (by rw [sw_length]; exact hn)]
  have h2 : gk (sw hs 0 n) n = gk hs 0 := by rw [gk_sw (by omega) (by omega), if_pos rfl]
  rw [h2]
  exact hy1.perm.append_right _
theorem hpushI_law (m : Mem) (L : List Item) (bq : Nat) (s : Sl) (hs : List Int) (x : Int) (hM : ORow s hs) (hfit : (s.len + 1) * 24 ≤ 140737488355328) (hh : HF ltN hs s.len 0) :
    TCall Try.prog 19 ⟨[.iface 53 (.pointer (some ⟨bq, 0, none⟩)), .iface 3 (.int .i64 x)]⟩ m (.cells bq 0 [s.v] :: mcell s (encs rInt hs) :: L) (fun r m' L' => m = m' ∧ ∃ s' hs', ORow s' hs' ∧ s'.len = s.len + 1 ∧ (hs'.take (s.len + 1)).Perm (hs.take s.len ++ [x]) ∧ HF ltN hs' (s.len + 1) 0 ∧ .cells bq 0 [s'.v] :: mcell s' (encs rInt hs') :: L = L') := by
  unfold TCall
  refine TCallX.enter Try.func19 rfl 12 rfl ?_
  repeat (first|refine q1 ?_|refine q3 ?_|refine q4 tab rfl rfl ?_)
  refine TO.step rfl (OT.invokeP tab (by kernel_rfl) rfl rfl rfl rfl rfl rfl rfl goes76 ((qpushI_law m L bq s hs x hM hfit).x ?_))
  rintro _ _ _ ⟨rfl, s2, hs2, h1, h2, h3, rfl⟩
  have hall := h1.all
  have hlen := h1.len
  obtain ⟨b, hb⟩ := h1.pos (by omega)
  repeat (first|refine q3 ?_|refine q4 tab rfl rfl ?_|refine q5 ?_|refine q6 ?_)
  refine TO.step rfl (OT.invokeF (S := 48) tab 0 (by kernel_rfl) rfl rfl rfl rfl rfl rfl rfl rfl rfl goes21 ((qlenI_law m _ s2).x ?_))
  rintro _ _ _ ⟨rfl, rfl, rfl⟩
  refine TO.step rfl (OT.arith (r' := (s.len : Int)) rfl rfl rfl rfl rfl rfl (by omega) (by omega) ?_)
  have hf : HF ltN hs2 s.len 0 := hh.congr fun k hk => by
    have e1 := gk_take (xs := hs2) (n := s.len + 1) (k := k) (by omega)
    have e2 := gk_take (xs := hs) (n := s.len) (k := k) hk
    rw [← e1, ← e2, h3]
    unfold gk
    rw [List.getElem?_append_left (by
      have := hM.len
      have := hM.all
      simp; omega)]
  rw [hb, h2]
  refine TO.step rfl (OT.call rfl rfl rfl rfl rfl rfl goes30 ((upI_law m L bq b (s.len + 1) s2.cap s.len hs2 (by omega) (by omega) (by omega) (UI.start hf)).x ?_)); rintro _ _ _ ⟨rfl, ys, hy1, hy2, rfl⟩
  repeat (refine q5 ?_)
  refine retQ_n rfl (L' := .cells bq 0 [.slice (some ⟨b, 0, none⟩) (s.len + 1) s2.cap] :: .cells b 0 (encs rInt ys) :: L) (by repeat (exact List.Sublist.refl _)) ⟨rfl, ⟨some ⟨b, 0, none⟩, s.len + 1, s2.cap⟩, ys, ⟨by simp only; omega, by simp only; rw [hy1.len]; exact hall, .inr ⟨b, rfl⟩⟩, rfl, ?_, hy2, rfl⟩
  rw [← h3]
  exact hy1.perm
end Go.Sep

/-
  Sorting in place: rotated; one after the other laid in its place.
-/
set_option linter.unusedVariables false
set_option linter.unusedSimpArgs false
namespace Go.Sep
open Go.Proofs
attribute [local irreducible] TC TO OT TCallX TCall DO DOt thenQ blockQ retQ At
/-- the comparison, as1 a value -/
@[reducible] def cmpF (bl : Nat) : Value := .func (.func 16) ⟨[]⟩ ⟨[.pointer (some ⟨bl, 0, none⟩)]⟩
theorem rotate_law (m : Mem) (L : List Item) (bd bl c a mm b : Nat) (xs : List Int) (h1 : a < mm) (h2 : mm < b) (hl : b ≤ xs.length) (hlim : xs.length ≤ 1000000) :
    TCall Try.prog 47 ⟨[.slice (some ⟨bd, 0, none⟩) xs.length c, .int .i64 (a : Int), .int .i64 (mm : Int), .int .i64 (b : Int), cmpF bl]⟩ m (rowI bd xs :: L) (fun r m' L' => m = m' ∧ ∃ ys, Seg a b xs ys ∧ (∀ t, gk ys t = rotF xs a mm b t) ∧ rowI bd ys :: L = L') := by
  unfold TCall
  refine TCallX.enter Try.func47 rfl 58 rfl ?_
  repeat (first|refine q1 ?_|refine q3 ?_|refine q4 tab rfl rfl ?_)
  refine TO.step rfl (OT.arith (r' := ((mm - a : Nat) : Int)) rfl rfl rfl rfl rfl rfl (by omega) (by omega) ?_)
  repeat (first|refine q1 ?_|refine q3 ?_|refine q4 tab rfl rfl ?_|refine q5 ?_|refine q6 ?_)
  refine TO.step rfl (OT.arith (r' := ((b - mm : Nat) : Int)) rfl rfl rfl rfl rfl rfl (by omega) (by omega) ?_)
  repeat (first|refine q1 ?_|refine q2 ?_|refine q4 tab rfl rfl ?_|refine q5 ?_|refine q6 ?_)
  refine TC.loopK (ι := Nat × Nat × List Int) [0, 2, 4] rfl (fun x => [(10, .int .i64 (x.1 : Int)), (11, .int .i64 (x.2.1 : Int))]) (fun _ => m) (fun x => rowI bd x.2.2 :: L) (fun x => RotI xs a mm b x.1 x.2.1 x.2.2) (fun x => x.1 + x.2.1) (mm - a, b - mm, xs) (by repeat (first|exact trivial|refine And.intro rfl ?_)) rfl (by repeat (exact List.Sublist.refl _)) (RotI.start h1 h2) ?_
  rintro ⟨i, j, ys⟩ hI
  simp only at hI ⊢
  have hyl := hI.seg.len
  have hi := hI.hi
  have hj := hI.hj
  repeat (first|refine q1 ?_|refine q3 ?_|refine q4 tab rfl rfl ?_|refine q5 ?_|refine q6 ?_)
  refine TC.condN rfl (fun hne => ?_) (fun hne => ?_)
  · have hij : i ≠ j := fun e => hne (by rw [e])
    repeat (first|refine q1 ?_|refine q2 ?_|refine q3 ?_|refine q4 tab rfl rfl ?_|refine q5 ?_|refine q6 ?_|refine q13 ?_)
    refine TC.condP rfl (fun hgt => ?_) (fun hgt => ?_)
    · repeat (first|refine q1 ?_|refine q3 ?_|refine q4 tab rfl rfl ?_)
      refine TO.step rfl (OT.arith (r' := ((mm - i : Nat) : Int)) rfl rfl rfl rfl rfl rfl (by omega) (by omega) ?_)
      repeat (refine q4 tab rfl rfl ?_)
      rw [← hyl]
      refine TO.step rfl (OT.call rfl rfl rfl rfl rfl rfl goes53 ((swaprange_law m L bd c (mm - i) mm j ys (cmpF bl) (by omega) (by omega) (by omega)).x ?_));
      rintro _ _ _ ⟨rfl, zs, hz, rfl⟩
      repeat (first|refine q3 ?_|refine q4 tab rfl rfl ?_|refine q5 ?_|refine q6 ?_)
      refine TO.step rfl (OT.arith (r' := ((i - j : Nat) : Int)) rfl rfl rfl rfl rfl rfl (by omega) (by omega) ?_)
      repeat (first|refine q4 tab rfl rfl ?_|refine q5 ?_|refine q6 ?_|refine q7 ?_)
      rw [hyl]
      exact ⟨(i - j, j, zs), (by repeat (first|exact trivial|refine And.intro rfl ?_)), (by repeat (first|exact trivial|refine And.intro rfl ?_)), rfl, rfl, (by repeat (exact List.Sublist.refl _)), hI.left (by omega) hz, by simp only; omega⟩
    · repeat (first|refine q1 ?_|refine q3 ?_|refine q4 tab rfl rfl ?_)
      refine TO.step rfl (OT.arith (r' := ((mm - i : Nat) : Int)) rfl rfl rfl rfl rfl rfl (by omega) (by omega) ?_)
      repeat (refine q4 tab rfl rfl ?_)
      refine TO.step rfl (OT.arith (r' := ((mm + j : Nat) : Int)) rfl rfl rfl rfl rfl rfl (by omega) (by omega) ?_)
      repeat (refine q4 tab rfl rfl ?_)
      refine TO.step rfl (OT.arith (r' := ((mm + j - i : Nat) : Int)) rfl rfl rfl rfl rfl rfl (by omega) (by omega) ?_)
      repeat (refine q4 tab rfl rfl ?_)
      rw [← hyl]
      refine TO.step rfl (OT.call rfl rfl rfl rfl rfl rfl goes53 ((swaprange_law m L bd c (mm - i) (mm + j - i) i ys (cmpF bl) (by omega) (by omega) (by omega)).x ?_));
      rintro _ _ _ ⟨rfl, zs, hz, rfl⟩
      repeat (first|refine q3 ?_|refine q4 tab rfl rfl ?_|refine q5 ?_|refine q6 ?_)
      refine TO.step rfl (OT.arith (r' := ((j - i : Nat) : Int)) rfl rfl rfl rfl rfl rfl (by omega) (by omega) ?_)
      repeat (first|refine q4 tab rfl rfl ?_|refine q5 ?_|refine q6 ?_|refine q7 ?_)
      rw [hyl]
      exact ⟨(i, j - i, zs), (by repeat (first|exact trivial|refine And.intro rfl ?_)), (by repeat (first|exact trivial|refine And.intro rfl ?_)), rfl, rfl, (by repeat (exact List.Sublist.refl _)), hI.right (by omega) hz, by simp only; omega⟩
  · have hij : i = j := by
      have : (i : Int) = (j : Int) := by simpa using hne
      omega
    subst hij
    repeat (first|refine q3 ?_|refine q4 tab rfl rfl ?_|refine q6 ?_|refine q10 ?_|refine q11 ?_|refine q14 ?_)
    refine TO.step rfl (OT.arith (r' := ((mm - i : Nat) : Int)) rfl rfl rfl rfl rfl rfl (by omega) (by omega) ?_)
    repeat (refine q4 tab rfl rfl ?_)
    rw [← hyl]
    refine TO.step rfl (OT.call rfl rfl rfl rfl rfl rfl goes53 ((swaprange_law m L bd c (mm - i) mm i ys (cmpF bl) (by omega) (by omega) (by omega)).x ?_));
    rintro _ _ _ ⟨rfl, zs, hz, rfl⟩
    repeat (refine q5 ?_)
    obtain ⟨k1, k2⟩ := hI.last hz
    refine retQ_n rfl (L' := rowI bd zs :: L) (by repeat (exact List.Sublist.refl _)) ⟨rfl, zs, k1, k2, rfl⟩
def Dom (N : Nat) (xs : List Int) : Prop := ∀ x ∈ xs, inL N x
theorem Dom.gk {N : Nat} {xs : List Int} (h : Dom N xs) {k : Nat} (hk : k < xs.length) : inL N (gk xs k) := h _ (List.mem_of_getElem? (gk_get hk))
theorem Dom.perm {N : Nat} {xs ys : List Int} (h : Dom N xs) (p : ys.Perm xs) : Dom N ys := fun x hx => h x (p.mem_iff.1 hx)
theorem cmp_dec (l : List Rg) (x y : Int) : decide (cmpV (fromOf l x) (fromOf l y) < 0) = wlR l x y := by
  unfold wlR
  rw [decide_eq_decide, cmpV_neg]
set_option maxHeartbeats 1000000 in
theorem insort_law (m : Mem) (L : List Item) (bd bl c a b : Nat) (xs : List Int) (ss : Sl) (l : List Rg) (hss : SlRep rRg m ss l) (hD : Dom l.length xs) (hab : a ≤ b) (hl : b ≤ xs.length) (hlim : xs.length ≤ 1000000) (hI : Inc xs a b) :
    TCall Try.prog 35 ⟨[.slice (some ⟨bd, 0, none⟩) xs.length c, .int .i64 (a : Int), .int .i64 (b : Int), cmpF bl]⟩ m (rowI bd xs :: .cells bl 0 [ss.v] :: L) (fun r m' L' => m = m' ∧ ∃ ys, Seg a b xs ys ∧ So (ltR l) ys a b ∧ rowI bd ys :: .cells bl 0 [ss.v] :: L = L') := by
  unfold TCall
  refine TCallX.enter Try.func35 rfl 53 rfl ?_
  repeat (first|refine q1 ?_|refine q3 ?_|refine q4 tab rfl rfl ?_)
  refine TO.step rfl (OT.arith (r' := ((a + 1 : Nat) : Int)) rfl rfl rfl rfl rfl rfl rfl (by omega) ?_)
  repeat (first|refine q2 ?_|refine q4 tab rfl rfl ?_|refine q5 ?_|refine q6 ?_)
  refine TC.loopK (ι := Nat × List Int) [0, 1, 2, 3] rfl (fun x => [(8, .int .i64 (x.1 : Int))]) (fun _ => m) (fun x => rowI bd x.2 :: .cells bl 0 [ss.v] :: L) (fun x => a + 1 ≤ x.1 ∧ x.1 ≤ b + 1 ∧ (a < b → x.1 ≤ b) ∧ (a = b ∨ InsO (ltR l) xs a x.1 x.2) ∧ (a = b → x.2 = xs)) (fun x => b + 1 - x.1) (a + 1, xs) (by repeat (first|exact trivial|refine And.intro rfl ?_)) rfl (by repeat (exact List.Sublist.refl _)) ⟨Nat.le_refl _, by simp only; omega, fun h => by simp only; omega, .inr (InsO.start _ _), fun _ => rfl⟩ ?_
  rintro ⟨i, ys⟩ ⟨hi1, hi2, hi3, hO, hE⟩
  simp only at hi1 hi2 hi3 hO hE ⊢
  repeat (first|refine q1 ?_|refine q3 ?_|refine q4 tab rfl rfl ?_|refine q5 ?_|refine q6 ?_)
  refine TC.condP rfl (fun hlt' => ?_) (fun hlt' => ?_)
  · have hlt : i < b := by omega
    have hO : InsO (ltR l) xs a i ys := hO.resolve_left (by omega)
    have hyl := hO.seg.len
    repeat (first|refine q1 ?_|refine q2 ?_|refine q3 ?_|refine q4 tab rfl rfl ?_|refine q5 ?_|refine q6 ?_|refine q13 ?_)
    refine TC.loopK (ι := Nat × List Int) [0, 1, 2, 3, 8] rfl (fun x => [(9, .int .i64 (x.1 : Int))]) (fun _ => m) (fun x => rowI bd x.2 :: .cells bl 0 [ss.v] :: L) (fun x => InsI (ltR l) ys a i x.1 x.2) (fun x => x.1) (i, ys) (by repeat (first|exact trivial|refine And.intro rfl ?_)) rfl (by repeat (exact List.Sublist.refl _)) (InsI.start (by omega)) ?_
    rintro ⟨j, zs⟩ hJ
    simp only at hJ ⊢
    have hzl := hJ.seg.len
    have hjl := hJ.le
    have hDz : Dom l.length zs := (hD.perm hO.seg.perm).perm hJ.seg.perm
    repeat (refine q1 ?_)
    refine TC.draw [] mixed 17 rfl [rowI bd zs, .cells bl 0 [ss.v]] L (by first | exact List.Perm.refl _ | (rw [List.append_nil]; exact List.Perm.refl _)) ?_
    refine DO.pure tab (by repeat (first|exact Calm.ret|refine Calm.then ?_|refine Calm.block ?_)) (by kernel_rfl) [0, 1, 2, 3] (by kernel_rfl) rfl ?_
    (refine DO.splitP (d := 21) rfl (fun hg3 => ?_) (fun hg3 => ?_))
    refine DO.pure tab (by repeat (first|exact Calm.ret|refine Calm.then ?_|refine Calm.block ?_)) (by kernel_rfl) [4, 5, 6] (by kernel_rfl) rfl ?_
    refine DO.indexP (sz := 1) tab 7 j (by repeat (first|exact Calm.ret|refine Calm.then ?_|refine Calm.block ?_)) (by kernel_rfl) (by kernel_rfl) rfl rfl rfl rfl rfl rfl rfl rfl rfl (by omega) ?_
    refine DO.loadR tab 8 0 (gk_map (xs := zs) (k := j) (by omega)) (by repeat (first|exact Calm.ret|refine Calm.then ?_|refine Calm.block ?_)) (by kernel_rfl) (by kernel_rfl) rfl rfl rfl rfl rfl rfl rfl rfl ?_
    refine DO.pure tab (by repeat (first|exact Calm.ret|refine Calm.then ?_|refine Calm.block ?_)) (by kernel_rfl) [9, 10] (by kernel_rfl) rfl ?_
    refine DO.arith 11 (r' := ((j - 1 : Nat) : Int)) (by repeat (first|exact Calm.ret|refine Calm.then ?_|refine Calm.block ?_)) (by kernel_rfl) (by kernel_rfl) rfl rfl rfl rfl rfl rfl rfl rfl (by first | rfl | omega | (simp only; omega)) (by omega) ?_
    refine DO.indexP (sz := 1) tab 12 (j - 1) (by repeat (first|exact Calm.ret|refine Calm.then ?_|refine Calm.block ?_)) (by kernel_rfl) (by kernel_rfl) rfl rfl rfl rfl rfl rfl rfl rfl rfl (by omega) ?_
    refine DO.loadR tab 13 0 (gk_map (xs := zs) (k := j - 1) (by omega)) (by repeat (first|exact Calm.ret|refine Calm.then ?_|refine Calm.block ?_)) (by kernel_rfl) (by kernel_rfl) rfl rfl rfl rfl rfl rfl rfl rfl ?_
    refine DO.run 14 rfl rfl (by kernel_rfl) rfl (OT.call rfl rfl rfl rfl rfl rfl goes16 ((cmp_law m L bd bl _ ss l hss (gk zs j) (gk zs (j - 1)) (hDz.gk (by omega)) (hDz.gk (by omega))).x ?_))
    rintro _ _ _ ⟨rfl, rfl, rfl⟩; refine ⟨Mem.le_refl _, _, List.Perm.refl _, ?_⟩
    refine DO.pure tab (by repeat (first|exact Calm.ret|refine Calm.then ?_|refine Calm.block ?_)) (by kernel_rfl) [15, 16] (by kernel_rfl) rfl ?_
    (refine DO.nil (by kernel_rfl) ?_)
    rotate_left 1
    refine DO.pure tab (by repeat (first|exact Calm.ret|refine Calm.then ?_|refine Calm.block ?_)) (by kernel_rfl) [4, 5, 6, 7, 8, 9, 10, 11, 12, 13, 14, 15, 16] (by kernel_rfl) rfl ?_
    (refine DO.nil (by kernel_rfl) ?_)
    rotate_left 1
    · repeat (refine q6 ?_)
      simp only [cmp_dec, wlR_lt (hJ.ahead hO hI hlt hg3)]
      cases hc : ltR l (gk zs j) (gk zs (j - 1)) with
      | true =>
        repeat (first|refine q1 ?_|refine q2 ?_|refine q6 ?_|refine q13 ?_|refine q16 rfl ?_)
        refine TC.draw [15, 16, 17] mixed 18 rfl (rowI bd zs :: .cells bl 0 [ss.v] :: L) [] (by simp) ?_
        refine DO.pure tab (by repeat (first|exact Calm.ret|refine Calm.then ?_|refine Calm.block ?_)) (by kernel_rfl) [0, 1, 2, 3] (by kernel_rfl) rfl ?_
        refine DO.arith 4 (r' := ((j - 1 : Nat) : Int)) (by repeat (first|exact Calm.ret|refine Calm.then ?_|refine Calm.block ?_)) (by kernel_rfl) (by kernel_rfl) rfl rfl rfl rfl rfl rfl rfl rfl (by first | rfl | omega | (simp only; omega)) (by omega) ?_
        refine DO.pure tab (by repeat (first|exact Calm.ret|refine Calm.then ?_|refine Calm.block ?_)) (by kernel_rfl) [5, 6] (by kernel_rfl) rfl ?_
        refine DO.arith 7 (r' := ((j - 1 : Nat) : Int)) (by repeat (first|exact Calm.ret|refine Calm.then ?_|refine Calm.block ?_)) (by kernel_rfl) (by kernel_rfl) rfl rfl rfl rfl rfl rfl rfl rfl (by first | rfl | omega | (simp only; omega)) (by omega) ?_
        refine DO.indexP (sz := 1) tab 8 (j - 1) (by repeat (first|exact Calm.ret|refine Calm.then ?_|refine Calm.block ?_)) (by kernel_rfl) (by kernel_rfl) rfl rfl rfl rfl rfl rfl rfl rfl rfl (by omega) ?_
        refine DO.loadR tab 9 0 (gk_map (xs := zs) (k := j - 1) (by omega)) (by repeat (first|exact Calm.ret|refine Calm.then ?_|refine Calm.block ?_)) (by kernel_rfl) (by kernel_rfl) rfl rfl rfl rfl rfl rfl rfl rfl ?_
        refine DO.pure tab (by repeat (first|exact Calm.ret|refine Calm.then ?_|refine Calm.block ?_)) (by kernel_rfl) [10, 11] (by kernel_rfl) rfl ?_
        refine DO.indexP (sz := 1) tab 12 j (by repeat (first|exact Calm.ret|refine Calm.then ?_|refine Calm.block ?_)) (by kernel_rfl) (by kernel_rfl) rfl rfl rfl rfl rfl rfl rfl rfl rfl (by omega) ?_
        refine DO.loadR tab 13 0 (gk_map (xs := zs) (k := j) (by omega)) (by repeat (first|exact Calm.ret|refine Calm.then ?_|refine Calm.block ?_)) (by kernel_rfl) (by kernel_rfl) rfl rfl rfl rfl rfl rfl rfl rfl ?_
        refine DO.indexP (sz := 1) tab 14 j (by repeat (first|exact Calm.ret|refine Calm.then ?_|refine Calm.block ?_)) (by kernel_rfl) (by kernel_rfl) rfl rfl rfl rfl rfl rfl rfl rfl rfl (by omega) ?_
        refine DO.tail ?_
        refine DOt.run 15 rfl rfl (by kernel_rfl) rfl ?_
        refine OT.storeM (k := j) tab 0 (Value.int .i64) (gk zs (j - 1)) rfl rfl rfl rfl rfl rfl rfl (by omega) ?_
        refine DOt.run 16 rfl rfl (by kernel_rfl) rfl ?_
        refine OT.indexP (sz := 1) tab (j - 1) rfl rfl rfl rfl rfl rfl rfl (by omega) ?_
        refine DOt.run 17 rfl rfl (by kernel_rfl) rfl ?_
        refine OT.storeM (k := j - 1) tab 0 (Value.int .i64) (gk zs j) rfl rfl rfl rfl rfl rfl rfl (by simp; omega) ?_
        refine DOt.nil (by kernel_rfl) ?_
        rotate_left 1
        repeat (first|refine q3 ?_|refine q4 tab rfl rfl ?_|refine q6 ?_|refine q7 ?_)
        refine TO.step rfl (OT.arith (r' := ((j - 1 : Nat) : Int)) rfl rfl rfl rfl rfl rfl (by omega) (by omega) ?_)
        repeat (first|refine q4 tab rfl rfl ?_|refine q5 ?_|refine q6 ?_)
        exact ⟨(j - 1, sw zs j (j - 1)), (by repeat (first|exact trivial|refine And.intro rfl ?_)), (by repeat (first|exact trivial|refine And.intro rfl ?_)), rfl, rfl, (by repeat (exact List.sublist_append_left _ _)), hJ.step (by omega) (by omega) hc, by simp only; omega⟩
      | false =>
        have hN := hJ.done (ltR_ord l) hO hI hlt (.inr hc)
        repeat (first|refine q3 ?_|refine q4 tab rfl rfl ?_|refine q6 ?_|refine q7 ?_|refine q10 ?_|refine q11 ?_|refine q14 ?_|refine q17 rfl ?_)
        refine TO.step rfl (OT.arith (r' := ((i + 1 : Nat) : Int)) rfl rfl rfl rfl rfl rfl rfl (by omega) ?_)
        repeat (first|refine q4 tab rfl rfl ?_|refine q5 ?_|refine q6 ?_)
        exact ⟨(i + 1, zs), (by repeat (first|exact trivial|refine And.intro rfl ?_)), (by repeat (first|exact trivial|refine And.intro rfl ?_)), rfl, rfl, (by repeat (exact List.Sublist.refl _)), ⟨by simp only; omega, by simp only; omega, fun _ => by simp only; omega, .inr hN, fun e => by omega⟩, by simp only; omega⟩
    · have hN := hJ.done (ltR_ord l) hO hI hlt (.inl (by omega))
      repeat (first|refine q3 ?_|refine q4 tab rfl rfl ?_|refine q6 ?_|refine q7 ?_|refine q10 ?_|refine q11 ?_|refine q14 ?_|refine q17 rfl ?_)
      refine TO.step rfl (OT.arith (r' := ((i + 1 : Nat) : Int)) rfl rfl rfl rfl rfl rfl rfl (by omega) ?_)
      repeat (first|refine q4 tab rfl rfl ?_|refine q5 ?_|refine q6 ?_)
      exact ⟨(i + 1, zs), (by repeat (first|exact trivial|refine And.intro rfl ?_)), (by repeat (first|exact trivial|refine And.intro rfl ?_)), rfl, rfl, (by repeat (exact List.Sublist.refl _)), ⟨by simp only; omega, by simp only; omega, fun _ => by simp only; omega, .inr hN, fun e => by omega⟩, by simp only; omega⟩
  · repeat (first|refine q10 ?_|refine q11 ?_|refine q14 ?_)
    have hfin : Seg a b xs ys ∧ So (ltR l) ys a b := by
      by_cases e : a = b
      · rw [hE e, e]
        exact ⟨Seg.refl _ _ _, fun i j h1 h2 h3 => by omega⟩
      · have h := hO.resolve_left e
        have : i = b := by have := hi3 (by omega); omega
        rw [this] at h
        exact ⟨h.seg, h.so⟩
    refine retQ_n rfl (L' := rowI bd ys :: .cells bl 0 [ss.v] :: L) (by repeat (exact List.Sublist.refl _)) ⟨rfl, ys, hfin.1, hfin.2, rfl⟩
end Go.Sep

/-
  Sorting in place: two sorted parts made one.
-/
set_option linter.unusedVariables false
set_option linter.unusedSimpArgs false
namespace Go.Sep
open Go.Proofs
attribute [local irreducible] TC TO OT TCallX TCall DO DOt thenQ blockQ retQ At
theorem rot_id {xs : List Int} {s m e : Nat} (h : s = m ∨ m = e) (hs : s ≤ m ∧ m ≤ e) (t : Nat) : gk xs t = rotF xs s m e t := by
  unfold rotF
  by_cases h1 : s ≤ t ∧ t < s + (e - m)
  · rw [if_pos h1]; congr 1; omega
  · rw [if_neg h1]
    by_cases h2 : s + (e - m) ≤ t ∧ t < e
    · rw [if_pos h2]; congr 1; omega
    · rw [if_neg h2]
/-- where a search stands: what is ahead of i is less, what is behind j is more -/
theorem lt_of_not {l : List Rg} {x y : Int} (h : ltR l x y = false) (hne : y < x) : ltR l y x = true := by
  rcases (ltR_ord l).tot y x with e | e | e
  · exact e
  · omega
  · rw [e] at h; cases h
def MergeAt (N : Nat) : Prop := ∀ (m : Mem) (L : List Item) (bd bl c a mm b : Nat) (xs : List Int) (ss : Sl) (l : List Rg), b - a ≤ N → SlRep rRg m ss l → Dom l.length xs → a < mm → mm < b → b ≤ xs.length → xs.length ≤ 1000000 → So (ltR l) xs a mm → So (ltR l) xs mm b → Ahead xs a mm b →
    TCall Try.prog 36 ⟨[.slice (some ⟨bd, 0, none⟩) xs.length c, .int .i64 (a : Int), .int .i64 (mm : Int), .int .i64 (b : Int), cmpF bl]⟩ m (rowI bd xs :: .cells bl 0 [ss.v] :: L) (fun r m' L' => m = m' ∧ ∃ ys, Seg a b xs ys ∧ So (ltR l) ys a b ∧ rowI bd ys :: .cells bl 0 [ss.v] :: L = L')
set_option maxHeartbeats 4000000 in
theorem merge_step (N : Nat) (ih : MergeAt N) : MergeAt (N + 1) := by
  intro m L bd bl c a mm b xs ss l hN hss hD ham hmb hl hlim hs1 hs2 hA
  have O := ltR_ord l
  unfold TCall
  refine TCallX.enter Try.func36 rfl 220 rfl ?_
  repeat (first|refine q1 ?_|refine q3 ?_|refine q4 tab rfl rfl ?_)
  refine TO.step rfl (OT.arith (r' := ((mm - a : Nat) : Int)) rfl rfl rfl rfl rfl rfl (by omega) (by omega) ?_)
  repeat (first|refine q4 tab rfl rfl ?_|refine q5 ?_|refine q6 ?_)
  refine TC.condP rfl (fun ho1 => ?_) (fun ho1 => ?_)
  · have hm1 : mm = a + 1 := by omega
    repeat (first|refine q1 ?_|refine q2 ?_|refine q3 ?_|refine q4 tab rfl rfl ?_|refine q5 ?_|refine q6 ?_)
    refine TC.loopK (ι := Nat × Nat) [0, 1, 2, 3, 4] rfl (fun x => [(10, .int .i64 (x.1 : Int)), (11, .int .i64 (x.2 : Int))]) (fun _ => m) (fun _ => rowI bd xs :: .cells bl 0 [ss.v] :: L) (fun x => mm ≤ x.1 ∧ x.1 ≤ x.2 ∧ x.2 ≤ b ∧ (∀ t, mm ≤ t → t < x.1 → ltR l (gk xs t) (gk xs a) = true) ∧ (∀ t, x.2 ≤ t → t < b → ltR l (gk xs a) (gk xs t) = true)) (fun x => x.2 - x.1) (mm, b) (by repeat (first|exact trivial|refine And.intro rfl ?_)) rfl (by repeat (exact List.Sublist.refl _)) ⟨Nat.le_refl _, by simp only; omega, Nat.le_refl _, fun t h1 h2 => by omega, fun t h1 h2 => by omega⟩ ?_
    rintro ⟨i, j⟩ ⟨k1, k2, k3, k4, k5⟩
    simp only at k1 k2 k3 k4 k5 ⊢
    repeat (first|refine q1 ?_|refine q3 ?_|refine q4 tab rfl rfl ?_|refine q5 ?_|refine q6 ?_)
    refine TC.condP rfl (fun hlt' => ?_) (fun hlt' => ?_)
    · have hlt : i < j := by omega
      repeat (first|refine q1 ?_|refine q2 ?_|refine q3 ?_|refine q4 tab rfl rfl ?_|refine q6 ?_|refine q13 ?_)
      refine TO.step rfl (OT.arith (r' := ((i + j : Nat) : Int)) rfl rfl rfl rfl rfl rfl (by omega) (by omega) ?_)
      refine TO.step rfl (OT.conv (r := ((i + j : Nat) : Int)) tab rfl rfl rfl rfl rfl rfl (IntWalk.u64_in _ ⟨by omega, by omega⟩) ?_)
      refine TO.step rfl (OT.half (r := (((i + j) / 2 : Nat) : Int)) rfl rfl rfl rfl rfl (by decide) (by rw [Int.fdiv_eq_ediv_of_nonneg _ (by omega)]; omega) ?_)
      refine TO.step rfl (OT.conv (r := (((i + j) / 2 : Nat) : Int)) tab rfl rfl rfl rfl rfl rfl (wrap64_in (by omega) (by omega)) ?_)
      have hh : i ≤ (i + j) / 2 ∧ (i + j) / 2 < j := by omega
      generalize (i + j) / 2 = h at hh
      repeat (first|refine q1 ?_|refine q4 tab rfl rfl ?_|refine q5 ?_|refine q6 ?_)
      refine TC.draw [] mixed 11 rfl [rowI bd xs, .cells bl 0 [ss.v]] L (by first | exact List.Perm.refl _ | (rw [List.append_nil]; exact List.Perm.refl _)) ?_
      refine DO.pure tab (by repeat (first|exact Calm.ret|refine Calm.then ?_|refine Calm.block ?_)) (by kernel_rfl) [0, 1, 2] (by kernel_rfl) rfl ?_
      refine DO.indexP (sz := 1) tab 3 h (by repeat (first|exact Calm.ret|refine Calm.then ?_|refine Calm.block ?_)) (by kernel_rfl) (by kernel_rfl) rfl rfl rfl rfl rfl rfl rfl rfl rfl (by omega) ?_
      refine DO.loadR tab 4 0 (gk_map (xs := xs) (k := h) (by omega)) (by repeat (first|exact Calm.ret|refine Calm.then ?_|refine Calm.block ?_)) (by kernel_rfl) (by kernel_rfl) rfl rfl rfl rfl rfl rfl rfl rfl ?_
      refine DO.pure tab (by repeat (first|exact Calm.ret|refine Calm.then ?_|refine Calm.block ?_)) (by kernel_rfl) [5, 6] (by kernel_rfl) rfl ?_
      refine DO.indexP (sz := 1) tab 7 a (by repeat (first|exact Calm.ret|refine Calm.then ?_|refine Calm.block ?_)) (by kernel_rfl) (by kernel_rfl) rfl rfl rfl rfl rfl rfl rfl rfl rfl (by omega) ?_
      refine DO.loadR tab 8 0 (gk_map (xs := xs) (k := a) (by omega)) (by repeat (first|exact Calm.ret|refine Calm.then ?_|refine Calm.block ?_)) (by kernel_rfl) (by kernel_rfl) rfl rfl rfl rfl rfl rfl rfl rfl ?_
      refine DO.run 9 rfl rfl (by kernel_rfl) rfl (OT.call rfl rfl rfl rfl rfl rfl goes16 ((cmp_law m L bd bl _ ss l hss (gk xs h) (gk xs a) (hD.gk (by omega)) (hD.gk (by omega))).x ?_))
      rintro _ _ _ ⟨rfl, rfl, rfl⟩; refine ⟨Mem.le_refl _, _, List.Perm.refl _, ?_⟩
      refine DO.pure tab (by repeat (first|exact Calm.ret|refine Calm.then ?_|refine Calm.block ?_)) (by kernel_rfl) [10] (by kernel_rfl) rfl ?_
      (refine DO.nil (by kernel_rfl) ?_)
      rotate_left 1
      repeat (refine q6 ?_)
      have hah := hA a h (Nat.le_refl _) (by omega) (by omega) (by omega)
      simp only [cmp_dec, wlR_lt hah]
      cases hc : ltR l (gk xs h) (gk xs a) with
      | true =>
        repeat (first|refine q3 ?_|refine q4 tab rfl rfl ?_|refine q16 rfl ?_)
        refine TO.step rfl (OT.arith (r' := ((h + 1 : Nat) : Int)) rfl rfl rfl rfl rfl rfl rfl (by omega) ?_)
        repeat (first|refine q4 tab rfl rfl ?_|refine q5 ?_|refine q6 ?_|refine q7 ?_)
        refine ⟨(h + 1, j), (by repeat (first|exact trivial|refine And.intro rfl ?_)), (by repeat (first|exact trivial|refine And.intro rfl ?_)), rfl, rfl, (by repeat (exact List.Sublist.refl _)), ⟨by simp only; omega, by simp only; omega, k3, fun t q1 q2 => ?_, k5⟩, by simp only; omega⟩
        by_cases e : t = h
        · rw [e]; exact hc
        · exact O.trans _ _ _ (hs2 t h q1 (by simp only at q2; omega) (by omega)) hc
      | false =>
        have hc2 := lt_of_not hc hah
        repeat (first|refine q3 ?_|refine q4 tab rfl rfl ?_|refine q5 ?_|refine q6 ?_|refine q7 ?_|refine q17 rfl ?_)
        refine ⟨(i, h), (by repeat (first|exact trivial|refine And.intro rfl ?_)), (by repeat (first|exact trivial|refine And.intro rfl ?_)), rfl, rfl, (by repeat (exact List.Sublist.refl _)), ⟨k1, by simp only; omega, by simp only; omega, k4, fun t q1 q2 => ?_⟩, by simp only; omega⟩
        by_cases e : t = h
        · rw [e]; exact hc2
        · exact O.trans _ _ _ hc2 (hs2 h t (by omega) (by simp only at q1; omega) q2)
    · have hij : i = j := by omega
      subst hij
      repeat (first|refine q1 ?_|refine q2 ?_|refine q3 ?_|refine q4 tab rfl rfl ?_|refine q5 ?_|refine q6 ?_|refine q10 ?_|refine q11 ?_|refine q14 ?_)
      refine TC.loopK (ι := Nat × List Int) [0, 10] rfl (fun x => [(13, .int .i64 (x.1 : Int))]) (fun _ => m) (fun x => rowI bd x.2 :: .cells bl 0 [ss.v] :: L) (fun x => a ≤ x.1 ∧ x.1 ≤ i - 1 ∧ Seg a b xs x.2 ∧ ShR xs a x.1 x.2) (fun x => i - x.1) (a, xs) (by repeat (first|exact trivial|refine And.intro rfl ?_)) rfl (by repeat (exact List.Sublist.refl _)) ⟨Nat.le_refl _, by simp only; omega, Seg.refl _ _ _, ⟨rfl, fun t q1 q2 => by omega, fun t _ => rfl⟩⟩ ?_
      rintro ⟨k, ys⟩ ⟨p1, p2, p3, p4⟩
      simp only at p1 p2 p3 p4 ⊢
      have hyl := p3.len
      repeat (first|refine q1 ?_|refine q3 ?_|refine q4 tab rfl rfl ?_)
      refine TO.step rfl (OT.arith (r' := ((i - 1 : Nat) : Int)) rfl rfl rfl rfl rfl rfl (by omega) (by omega) ?_)
      repeat (first|refine q4 tab rfl rfl ?_|refine q5 ?_|refine q6 ?_)
      refine TC.condP rfl (fun hlk => ?_) (fun hlk => ?_)
      · repeat (first|refine q1 ?_|refine q2 ?_|refine q6 ?_|refine q13 ?_)
        refine TC.draw [15, 16, 17] mixed 18 rfl (rowI bd ys :: .cells bl 0 [ss.v] :: L) [] (by simp) ?_
        refine DO.pure tab (by repeat (first|exact Calm.ret|refine Calm.then ?_|refine Calm.block ?_)) (by kernel_rfl) [0, 1, 2, 3] (by kernel_rfl) rfl ?_
        refine DO.arith 4 (r' := ((k + 1 : Nat) : Int)) (by repeat (first|exact Calm.ret|refine Calm.then ?_|refine Calm.block ?_)) (by kernel_rfl) (by kernel_rfl) rfl rfl rfl rfl rfl rfl rfl rfl (by first | rfl | omega | (simp only; omega)) (by omega) ?_
        refine DO.pure tab (by repeat (first|exact Calm.ret|refine Calm.then ?_|refine Calm.block ?_)) (by kernel_rfl) [5, 6] (by kernel_rfl) rfl ?_
        refine DO.arith 7 (r' := ((k + 1 : Nat) : Int)) (by repeat (first|exact Calm.ret|refine Calm.then ?_|refine Calm.block ?_)) (by kernel_rfl) (by kernel_rfl) rfl rfl rfl rfl rfl rfl rfl rfl (by first | rfl | omega | (simp only; omega)) (by omega) ?_
        refine DO.indexP (sz := 1) tab 8 (k + 1) (by repeat (first|exact Calm.ret|refine Calm.then ?_|refine Calm.block ?_)) (by kernel_rfl) (by kernel_rfl) rfl rfl rfl rfl rfl rfl rfl rfl rfl (by omega) ?_
        refine DO.loadR tab 9 0 (gk_map (xs := ys) (k := k + 1) (by omega)) (by repeat (first|exact Calm.ret|refine Calm.then ?_|refine Calm.block ?_)) (by kernel_rfl) (by kernel_rfl) rfl rfl rfl rfl rfl rfl rfl rfl ?_
        refine DO.pure tab (by repeat (first|exact Calm.ret|refine Calm.then ?_|refine Calm.block ?_)) (by kernel_rfl) [10, 11] (by kernel_rfl) rfl ?_
        refine DO.indexP (sz := 1) tab 12 k (by repeat (first|exact Calm.ret|refine Calm.then ?_|refine Calm.block ?_)) (by kernel_rfl) (by kernel_rfl) rfl rfl rfl rfl rfl rfl rfl rfl rfl (by omega) ?_
        refine DO.loadR tab 13 0 (gk_map (xs := ys) (k := k) (by omega)) (by repeat (first|exact Calm.ret|refine Calm.then ?_|refine Calm.block ?_)) (by kernel_rfl) (by kernel_rfl) rfl rfl rfl rfl rfl rfl rfl rfl ?_
        refine DO.indexP (sz := 1) tab 14 k (by repeat (first|exact Calm.ret|refine Calm.then ?_|refine Calm.block ?_)) (by kernel_rfl) (by kernel_rfl) rfl rfl rfl rfl rfl rfl rfl rfl rfl (by omega) ?_
        refine DO.tail ?_
        refine DOt.run 15 rfl rfl (by kernel_rfl) rfl ?_
        refine OT.storeM (k := k) tab 0 (Value.int .i64) (gk ys (k + 1)) rfl rfl rfl rfl rfl rfl rfl (by omega) ?_
        refine DOt.run 16 rfl rfl (by kernel_rfl) rfl ?_
        refine OT.indexP (sz := 1) tab (k + 1) rfl rfl rfl rfl rfl rfl rfl (by omega) ?_
        refine DOt.run 17 rfl rfl (by kernel_rfl) rfl ?_
        refine OT.storeM (k := k + 1) tab 0 (Value.int .i64) (gk ys k) rfl rfl rfl rfl rfl rfl rfl (by simp; omega) ?_
        refine DOt.nil (by kernel_rfl) ?_
        rotate_left 1
        repeat (first|refine q3 ?_|refine q4 tab rfl rfl ?_|refine q6 ?_|refine q7 ?_)
        refine TO.step rfl (OT.arith (r' := ((k + 1 : Nat) : Int)) rfl rfl rfl rfl rfl rfl rfl (by omega) ?_)
        repeat (first|refine q4 tab rfl rfl ?_|refine q5 ?_|refine q6 ?_)
        exact ⟨(k + 1, sw ys k (k + 1)), (by repeat (first|exact trivial|refine And.intro rfl ?_)), (by repeat (first|exact trivial|refine And.intro rfl ?_)), rfl, rfl, (by repeat (exact List.sublist_append_left _ _)), ⟨by simp only; omega, by simp only; omega, p3.trans (Seg.sw (by omega) (by omega) (by omega)), p4.step (by omega) (by omega)⟩, by simp only; omega⟩
      · have hki : k = i - 1 := by omega
        subst hki
        repeat (first|refine q6 ?_|refine q8 ?_|refine q10 ?_|refine q11 ?_|refine q14 ?_|refine q15 ?_)
        refine retQ_ret rfl (L' := rowI bd ys :: .cells bl 0 [ss.v] :: L) (by repeat (exact List.Sublist.refl _)) ⟨rfl, ys, p3, p4.sorted (by omega) (by omega) O (by rw [← hm1]; exact hs2) (fun t q1 q2 => k4 t (by omega) q2) k5, rfl⟩
  · repeat (first|refine q1 ?_|refine q3 ?_|refine q4 tab rfl rfl ?_|refine q6 ?_|refine q13 ?_)
    refine TO.step rfl (OT.arith (r' := ((b - mm : Nat) : Int)) rfl rfl rfl rfl rfl rfl (by omega) (by omega) ?_)
    repeat (first|refine q4 tab rfl rfl ?_|refine q5 ?_|refine q6 ?_)
    refine TC.condP rfl (fun ho2 => ?_) (fun ho2 => ?_)
    · have hm1 : b = mm + 1 := by omega
      repeat (first|refine q1 ?_|refine q2 ?_|refine q3 ?_|refine q4 tab rfl rfl ?_|refine q5 ?_|refine q6 ?_)
      refine TC.loopK (ι := Nat × Nat) [0, 1, 2, 3, 4] rfl (fun x => [(14, .int .i64 (x.1 : Int)), (15, .int .i64 (x.2 : Int))]) (fun _ => m) (fun _ => rowI bd xs :: .cells bl 0 [ss.v] :: L) (fun x => a ≤ x.1 ∧ x.1 ≤ x.2 ∧ x.2 ≤ mm ∧ (∀ t, a ≤ t → t < x.1 → ltR l (gk xs t) (gk xs mm) = true) ∧ (∀ t, x.2 ≤ t → t < mm → ltR l (gk xs mm) (gk xs t) = true)) (fun x => x.2 - x.1) (a, mm) (by repeat (first|exact trivial|refine And.intro rfl ?_)) rfl (by repeat (exact List.Sublist.refl _)) ⟨Nat.le_refl _, by simp only; omega, Nat.le_refl _, fun t h1 h2 => by omega, fun t h1 h2 => by omega⟩ ?_
      rintro ⟨i, j⟩ ⟨k1, k2, k3, k4, k5⟩
      simp only at k1 k2 k3 k4 k5 ⊢
      repeat (first|refine q1 ?_|refine q3 ?_|refine q4 tab rfl rfl ?_|refine q5 ?_|refine q6 ?_)
      refine TC.condP rfl (fun hlt' => ?_) (fun hlt' => ?_)
      · have hlt : i < j := by omega
        repeat (first|refine q1 ?_|refine q2 ?_|refine q3 ?_|refine q4 tab rfl rfl ?_|refine q6 ?_|refine q13 ?_)
        refine TO.step rfl (OT.arith (r' := ((i + j : Nat) : Int)) rfl rfl rfl rfl rfl rfl (by omega) (by omega) ?_)
        refine TO.step rfl (OT.conv (r := ((i + j : Nat) : Int)) tab rfl rfl rfl rfl rfl rfl (IntWalk.u64_in _ ⟨by omega, by omega⟩) ?_)
        refine TO.step rfl (OT.half (r := (((i + j) / 2 : Nat) : Int)) rfl rfl rfl rfl rfl (by decide) (by rw [Int.fdiv_eq_ediv_of_nonneg _ (by omega)]; omega) ?_)
        refine TO.step rfl (OT.conv (r := (((i + j) / 2 : Nat) : Int)) tab rfl rfl rfl rfl rfl rfl (wrap64_in (by omega) (by omega)) ?_)
        have hh : i ≤ (i + j) / 2 ∧ (i + j) / 2 < j := by omega
        generalize (i + j) / 2 = h at hh
        repeat (first|refine q1 ?_|refine q4 tab rfl rfl ?_|refine q5 ?_|refine q6 ?_)
        refine TC.draw [] mixed 12 rfl [rowI bd xs, .cells bl 0 [ss.v]] L (by first | exact List.Perm.refl _ | (rw [List.append_nil]; exact List.Perm.refl _)) ?_
        refine DO.pure tab (by repeat (first|exact Calm.ret|refine Calm.then ?_|refine Calm.block ?_)) (by kernel_rfl) [0, 1, 2] (by kernel_rfl) rfl ?_
        refine DO.indexP (sz := 1) tab 3 mm (by repeat (first|exact Calm.ret|refine Calm.then ?_|refine Calm.block ?_)) (by kernel_rfl) (by kernel_rfl) rfl rfl rfl rfl rfl rfl rfl rfl rfl (by omega) ?_
        refine DO.loadR tab 4 0 (gk_map (xs := xs) (k := mm) (by omega)) (by repeat (first|exact Calm.ret|refine Calm.then ?_|refine Calm.block ?_)) (by kernel_rfl) (by kernel_rfl) rfl rfl rfl rfl rfl rfl rfl rfl ?_
        refine DO.pure tab (by repeat (first|exact Calm.ret|refine Calm.then ?_|refine Calm.block ?_)) (by kernel_rfl) [5, 6] (by kernel_rfl) rfl ?_
        refine DO.indexP (sz := 1) tab 7 h (by repeat (first|exact Calm.ret|refine Calm.then ?_|refine Calm.block ?_)) (by kernel_rfl) (by kernel_rfl) rfl rfl rfl rfl rfl rfl rfl rfl rfl (by omega) ?_
        refine DO.loadR tab 8 0 (gk_map (xs := xs) (k := h) (by omega)) (by repeat (first|exact Calm.ret|refine Calm.then ?_|refine Calm.block ?_)) (by kernel_rfl) (by kernel_rfl) rfl rfl rfl rfl rfl rfl rfl rfl ?_
        refine DO.run 9 rfl rfl (by kernel_rfl) rfl (OT.call rfl rfl rfl rfl rfl rfl goes16 ((cmp_law m L bd bl _ ss l hss (gk xs mm) (gk xs h) (hD.gk (by omega)) (hD.gk (by omega))).x ?_))
        rintro _ _ _ ⟨rfl, rfl, rfl⟩; refine ⟨Mem.le_refl _, _, List.Perm.refl _, ?_⟩
        refine DO.pure tab (by repeat (first|exact Calm.ret|refine Calm.then ?_|refine Calm.block ?_)) (by kernel_rfl) [10, 11] (by kernel_rfl) rfl ?_
        (refine DO.nil (by kernel_rfl) ?_)
        rotate_left 1
        repeat (refine q6 ?_)
        have hah := hA h mm (by omega) (by omega) (Nat.le_refl _) (by omega)
        simp only [cmp_dec, wlR_lt hah]
        cases hc : ltR l (gk xs mm) (gk xs h) with
        | false =>
          have hc2 := lt_of_not hc hah
          repeat (first|refine q3 ?_|refine q4 tab rfl rfl ?_|refine q16 rfl ?_)
          refine TO.step rfl (OT.arith (r' := ((h + 1 : Nat) : Int)) rfl rfl rfl rfl rfl rfl rfl (by omega) ?_)
          repeat (first|refine q4 tab rfl rfl ?_|refine q5 ?_|refine q6 ?_|refine q7 ?_)
          refine ⟨(h + 1, j), (by repeat (first|exact trivial|refine And.intro rfl ?_)), (by repeat (first|exact trivial|refine And.intro rfl ?_)), rfl, rfl, (by repeat (exact List.Sublist.refl _)), ⟨by simp only; omega, by simp only; omega, k3, fun t q1 q2 => ?_, k5⟩, by simp only; omega⟩
          by_cases e : t = h
          · rw [e]; exact hc2
          · exact O.trans _ _ _ (hs1 t h q1 (by simp only at q2; omega) (by omega)) hc2
        | true =>
          repeat (first|refine q3 ?_|refine q4 tab rfl rfl ?_|refine q5 ?_|refine q6 ?_|refine q7 ?_|refine q17 rfl ?_)
          refine ⟨(i, h), (by repeat (first|exact trivial|refine And.intro rfl ?_)), (by repeat (first|exact trivial|refine And.intro rfl ?_)), rfl, rfl, (by repeat (exact List.Sublist.refl _)), ⟨k1, by simp only; omega, by simp only; omega, k4, fun t q1 q2 => ?_⟩, by simp only; omega⟩
          by_cases e : t = h
          · rw [e]; exact hc
          · exact O.trans _ _ _ hc (hs1 h t (by omega) (by simp only at q1; omega) q2)
      · have hij : i = j := by omega
        subst hij
        repeat (first|refine q1 ?_|refine q2 ?_|refine q3 ?_|refine q4 tab rfl rfl ?_|refine q5 ?_|refine q6 ?_|refine q10 ?_|refine q11 ?_|refine q14 ?_)
        refine TC.loopK (ι := Nat × List Int) [0, 14] rfl (fun x => [(17, .int .i64 (x.1 : Int))]) (fun _ => m) (fun x => rowI bd x.2 :: .cells bl 0 [ss.v] :: L) (fun x => i ≤ x.1 ∧ x.1 ≤ mm ∧ Seg a b xs x.2 ∧ ShL xs mm x.1 x.2) (fun x => x.1) (mm, xs) (by repeat (first|exact trivial|refine And.intro rfl ?_)) rfl (by repeat (exact List.Sublist.refl _)) ⟨k3, Nat.le_refl _, Seg.refl _ _ _, ⟨rfl, fun t q1 q2 => by omega, fun t _ => rfl⟩⟩ ?_
        rintro ⟨k, ys⟩ ⟨p1, p2, p3, p4⟩
        simp only at p1 p2 p3 p4 ⊢
        have hyl := p3.len
        repeat (first|refine q1 ?_|refine q3 ?_|refine q4 tab rfl rfl ?_|refine q5 ?_|refine q6 ?_)
        refine TC.condP rfl (fun hlk => ?_) (fun hlk => ?_)
        · repeat (first|refine q1 ?_|refine q2 ?_|refine q6 ?_|refine q13 ?_)
          refine TC.draw [15, 16, 17] mixed 18 rfl (rowI bd ys :: .cells bl 0 [ss.v] :: L) [] (by simp) ?_
          refine DO.pure tab (by repeat (first|exact Calm.ret|refine Calm.then ?_|refine Calm.block ?_)) (by kernel_rfl) [0, 1, 2, 3] (by kernel_rfl) rfl ?_
          refine DO.arith 4 (r' := ((k - 1 : Nat) : Int)) (by repeat (first|exact Calm.ret|refine Calm.then ?_|refine Calm.block ?_)) (by kernel_rfl) (by kernel_rfl) rfl rfl rfl rfl rfl rfl rfl rfl (by first | rfl | omega | (simp only; omega)) (by omega) ?_
          refine DO.pure tab (by repeat (first|exact Calm.ret|refine Calm.then ?_|refine Calm.block ?_)) (by kernel_rfl) [5, 6] (by kernel_rfl) rfl ?_
          refine DO.arith 7 (r' := ((k - 1 : Nat) : Int)) (by repeat (first|exact Calm.ret|refine Calm.then ?_|refine Calm.block ?_)) (by kernel_rfl) (by kernel_rfl) rfl rfl rfl rfl rfl rfl rfl rfl (by first | rfl | omega | (simp only; omega)) (by omega) ?_
          refine DO.indexP (sz := 1) tab 8 (k - 1) (by repeat (first|exact Calm.ret|refine Calm.then ?_|refine Calm.block ?_)) (by kernel_rfl) (by kernel_rfl) rfl rfl rfl rfl rfl rfl rfl rfl rfl (by omega) ?_
          refine DO.loadR tab 9 0 (gk_map (xs := ys) (k := k - 1) (by omega)) (by repeat (first|exact Calm.ret|refine Calm.then ?_|refine Calm.block ?_)) (by kernel_rfl) (by kernel_rfl) rfl rfl rfl rfl rfl rfl rfl rfl ?_
          refine DO.pure tab (by repeat (first|exact Calm.ret|refine Calm.then ?_|refine Calm.block ?_)) (by kernel_rfl) [10, 11] (by kernel_rfl) rfl ?_
          refine DO.indexP (sz := 1) tab 12 k (by repeat (first|exact Calm.ret|refine Calm.then ?_|refine Calm.block ?_)) (by kernel_rfl) (by kernel_rfl) rfl rfl rfl rfl rfl rfl rfl rfl rfl (by omega) ?_
          refine DO.loadR tab 13 0 (gk_map (xs := ys) (k := k) (by omega)) (by repeat (first|exact Calm.ret|refine Calm.then ?_|refine Calm.block ?_)) (by kernel_rfl) (by kernel_rfl) rfl rfl rfl rfl rfl rfl rfl rfl ?_
          refine DO.indexP (sz := 1) tab 14 k (by repeat (first|exact Calm.ret|refine Calm.then ?_|refine Calm.block ?_)) (by kernel_rfl) (by kernel_rfl) rfl rfl rfl rfl rfl rfl rfl rfl rfl (by omega) ?_
          refine DO.tail ?_
          refine DOt.run 15 rfl rfl (by kernel_rfl) rfl ?_
          refine OT.storeM (k := k) tab 0 (Value.int .i64) (gk ys (k - 1)) rfl rfl rfl rfl rfl rfl rfl (by omega) ?_
          refine DOt.run 16 rfl rfl (by kernel_rfl) rfl ?_
          refine OT.indexP (sz := 1) tab (k - 1) rfl rfl rfl rfl rfl rfl rfl (by omega) ?_
          refine DOt.run 17 rfl rfl (by kernel_rfl) rfl ?_
          refine OT.storeM (k := k - 1) tab 0 (Value.int .i64) (gk ys k) rfl rfl rfl rfl rfl rfl rfl (by simp; omega) ?_
          refine DOt.nil (by kernel_rfl) ?_
          rotate_left 1
          repeat (first|refine q3 ?_|refine q4 tab rfl rfl ?_|refine q6 ?_|refine q7 ?_)
          refine TO.step rfl (OT.arith (r' := ((k - 1 : Nat) : Int)) rfl rfl rfl rfl rfl rfl (by omega) (by omega) ?_)
          repeat (first|refine q4 tab rfl rfl ?_|refine q5 ?_|refine q6 ?_)
          exact ⟨(k - 1, sw ys k (k - 1)), (by repeat (first|exact trivial|refine And.intro rfl ?_)), (by repeat (first|exact trivial|refine And.intro rfl ?_)), rfl, rfl, (by repeat (exact List.sublist_append_left _ _)), ⟨by simp only; omega, by simp only; omega, p3.trans (Seg.sw (by omega) (by omega) (by omega)), p4.step (by omega) (by omega) (by omega)⟩, by simp only; omega⟩
        · have hki : k = i := by omega
          subst hki
          repeat (first|refine q6 ?_|refine q8 ?_|refine q10 ?_|refine q11 ?_|refine q14 ?_|refine q15 ?_)
          refine retQ_ret rfl (L' := rowI bd ys :: .cells bl 0 [ss.v] :: L) (by repeat (exact List.Sublist.refl _)) ⟨rfl, ys, p3, by rw [hm1]; exact p4.sorted ⟨k1, k3⟩ O hs1 k4 k5, rfl⟩
    · repeat (first|refine q1 ?_|refine q3 ?_|refine q4 tab rfl rfl ?_|refine q6 ?_|refine q13 ?_)
      refine TO.step rfl (OT.arith (r' := ((a + b : Nat) : Int)) rfl rfl rfl rfl rfl rfl (by omega) (by omega) ?_)
      refine TO.step rfl (OT.conv (r := ((a + b : Nat) : Int)) tab rfl rfl rfl rfl rfl rfl (IntWalk.u64_in _ ⟨by omega, by omega⟩) ?_)
      refine TO.step rfl (OT.half (r := (((a + b) / 2 : Nat) : Int)) rfl rfl rfl rfl rfl (by decide) (by rw [Int.fdiv_eq_ediv_of_nonneg _ (by omega)]; omega) ?_)
      refine TO.step rfl (OT.conv (r := (((a + b) / 2 : Nat) : Int)) tab rfl rfl rfl rfl rfl rfl (wrap64_in (by omega) (by omega)) ?_)
      repeat (first|refine q1 ?_|refine q3 ?_|refine q4 tab rfl rfl ?_|refine q5 ?_|refine q6 ?_)
      have hmid : 2 * ((a + b) / 2) ≤ a + b ∧ a + b ≤ 2 * ((a + b) / 2) + 1 := by omega
      refine TO.step rfl (OT.arith (r' := (((a + b) / 2 + mm : Nat) : Int)) rfl rfl rfl rfl rfl rfl (by omega) (by omega) ?_)
      repeat (first|refine q1 ?_|refine q3 ?_|refine q4 tab rfl rfl ?_|refine q5 ?_|refine q6 ?_)
      refine TC.condP rfl (fun hgt => ?_) (fun hgt => ?_)
      · repeat (first|refine q1 ?_|refine q3 ?_|refine q4 tab rfl rfl ?_)
        refine TO.step rfl (OT.arith (r' := (((a + b) / 2 + mm - b : Nat) : Int)) rfl rfl rfl rfl rfl rfl (by omega) (by omega) ?_)
        repeat (first|refine q1 ?_|refine q3 ?_|refine q4 tab rfl rfl ?_|refine q5 ?_|refine q6 ?_)
        have hR : CutR a mm b ((a + b) / 2 + mm - b) ((a + b) / 2) := ⟨⟨ham, hmb⟩, .inr ⟨by omega, rfl, rfl⟩⟩
        refine TO.step rfl (OT.arith (r' := (((a + b) / 2 + mm - 1 : Nat) : Int)) rfl rfl rfl rfl rfl rfl (by omega) (by omega) ?_)
        repeat (first|refine q1 ?_|refine q2 ?_|refine q4 tab rfl rfl ?_|refine q5 ?_|refine q6 ?_)
        obtain ⟨r1, r2, r3, hrng⟩ := hR.rng
        refine TC.loopK (ι := Nat × Nat) [0, 1, 2, 3, 4, 18, 19, 22] rfl (fun x => [(20, .int .i64 (x.1 : Int)), (21, .int .i64 (x.2 : Int))]) (fun _ => m) (fun _ => rowI bd xs :: .cells bl 0 [ss.v] :: L) (fun x => CutI (ltR l) xs ((a + b) / 2 + mm - 1) ((a + b) / 2 + mm - b) ((a + b) / 2) x.1 x.2) (fun x => x.2 - x.1) (((a + b) / 2 + mm - b), ((a + b) / 2)) (by repeat (first|exact trivial|refine And.intro rfl ?_)) rfl (by repeat (exact List.Sublist.refl _)) (CutI.start r2) ?_
        rintro ⟨s, r⟩ hC
        simp only at hC ⊢
        have hle := hC.le
        repeat (first|refine q1 ?_|refine q3 ?_|refine q4 tab rfl rfl ?_|refine q5 ?_|refine q6 ?_)
        refine TC.condP rfl (fun hlt' => ?_) (fun hlt' => ?_)
        · have hlt : s < r := by omega
          repeat (first|refine q1 ?_|refine q2 ?_|refine q3 ?_|refine q4 tab rfl rfl ?_|refine q6 ?_|refine q13 ?_)
          refine TO.step rfl (OT.arith (r' := ((s + r : Nat) : Int)) rfl rfl rfl rfl rfl rfl (by omega) (by omega) ?_)
          refine TO.step rfl (OT.conv (r := ((s + r : Nat) : Int)) tab rfl rfl rfl rfl rfl rfl (IntWalk.u64_in _ ⟨by omega, by omega⟩) ?_)
          refine TO.step rfl (OT.half (r := (((s + r) / 2 : Nat) : Int)) rfl rfl rfl rfl rfl (by decide) (by rw [Int.fdiv_eq_ediv_of_nonneg _ (by omega)]; omega) ?_)
          refine TO.step rfl (OT.conv (r := (((s + r) / 2 : Nat) : Int)) tab rfl rfl rfl rfl rfl rfl (wrap64_in (by omega) (by omega)) ?_)
          have hh : s ≤ (s + r) / 2 ∧ (s + r) / 2 < r := by omega
          generalize (s + r) / 2 = h at hh
          have hq := hrng h (by omega) (by omega)
          repeat (first|refine q1 ?_|refine q4 tab rfl rfl ?_|refine q5 ?_|refine q6 ?_)
          refine TC.draw [] mixed 14 rfl [rowI bd xs, .cells bl 0 [ss.v]] L (by first | exact List.Perm.refl _ | (rw [List.append_nil]; exact List.Perm.refl _)) ?_
          refine DO.pure tab (by repeat (first|exact Calm.ret|refine Calm.then ?_|refine Calm.block ?_)) (by kernel_rfl) [0, 1, 2, 3] (by kernel_rfl) rfl ?_
          refine DO.arith 4 (r' := (((a + b) / 2 + mm - 1 - h : Nat) : Int)) (by repeat (first|exact Calm.ret|refine Calm.then ?_|refine Calm.block ?_)) (by kernel_rfl) (by kernel_rfl) rfl rfl rfl rfl rfl rfl rfl rfl (by first | rfl | omega | (simp only; omega)) (by omega) ?_
          refine DO.indexP (sz := 1) tab 5 ((a + b) / 2 + mm - 1 - h) (by repeat (first|exact Calm.ret|refine Calm.then ?_|refine Calm.block ?_)) (by kernel_rfl) (by kernel_rfl) rfl rfl rfl rfl rfl rfl rfl rfl rfl (by omega) ?_
          refine DO.loadR tab 6 0 (gk_map (xs := xs) (k := (a + b) / 2 + mm - 1 - h) (by omega)) (by repeat (first|exact Calm.ret|refine Calm.then ?_|refine Calm.block ?_)) (by kernel_rfl) (by kernel_rfl) rfl rfl rfl rfl rfl rfl rfl rfl ?_
          refine DO.pure tab (by repeat (first|exact Calm.ret|refine Calm.then ?_|refine Calm.block ?_)) (by kernel_rfl) [7, 8] (by kernel_rfl) rfl ?_
          refine DO.indexP (sz := 1) tab 9 h (by repeat (first|exact Calm.ret|refine Calm.then ?_|refine Calm.block ?_)) (by kernel_rfl) (by kernel_rfl) rfl rfl rfl rfl rfl rfl rfl rfl rfl (by omega) ?_
          refine DO.loadR tab 10 0 (gk_map (xs := xs) (k := h) (by omega)) (by repeat (first|exact Calm.ret|refine Calm.then ?_|refine Calm.block ?_)) (by kernel_rfl) (by kernel_rfl) rfl rfl rfl rfl rfl rfl rfl rfl ?_
          refine DO.run 11 rfl rfl (by kernel_rfl) rfl (OT.call rfl rfl rfl rfl rfl rfl goes16 ((cmp_law m L bd bl _ ss l hss (gk xs ((a + b) / 2 + mm - 1 - h)) (gk xs h) (hD.gk (by omega)) (hD.gk (by omega))).x ?_))
          rintro _ _ _ ⟨rfl, rfl, rfl⟩; refine ⟨Mem.le_refl _, _, List.Perm.refl _, ?_⟩
          refine DO.pure tab (by repeat (first|exact Calm.ret|refine Calm.then ?_|refine Calm.block ?_)) (by kernel_rfl) [12, 13] (by kernel_rfl) rfl ?_
          (refine DO.nil (by kernel_rfl) ?_)
          rotate_left 1
          repeat (refine q6 ?_)
          have hah := hA h ((a + b) / 2 + mm - 1 - h) (by omega) (by omega) (by omega) (by omega)
          simp only [cmp_dec, wlR_lt hah]
          cases hc : ltR l (gk xs ((a + b) / 2 + mm - 1 - h)) (gk xs h) with
          | false =>
            have hC2 := hC.low O hR hs1 hs2 hh (lt_of_not hc hah)
            repeat (first|refine q3 ?_|refine q4 tab rfl rfl ?_|refine q16 rfl ?_)
            refine TO.step rfl (OT.arith (r' := ((h + 1 : Nat) : Int)) rfl rfl rfl rfl rfl rfl rfl (by omega) ?_)
            repeat (first|refine q4 tab rfl rfl ?_|refine q5 ?_|refine q6 ?_|refine q7 ?_)
            exact ⟨(h + 1, r), (by repeat (first|exact trivial|refine And.intro rfl ?_)), (by repeat (first|exact trivial|refine And.intro rfl ?_)), rfl, rfl, (by repeat (exact List.Sublist.refl _)), hC2, by simp only; omega⟩
          | true =>
            have hC2 := hC.high O hR hs1 hs2 hh hc
            repeat (first|refine q3 ?_|refine q4 tab rfl rfl ?_|refine q5 ?_|refine q6 ?_|refine q7 ?_|refine q17 rfl ?_)
            exact ⟨(s, h), (by repeat (first|exact trivial|refine And.intro rfl ?_)), (by repeat (first|exact trivial|refine And.intro rfl ?_)), rfl, rfl, (by repeat (exact List.Sublist.refl _)), hC2, by simp only; omega⟩
        · have hsr : s = r := by omega
          subst hsr
          repeat (first|refine q1 ?_|refine q3 ?_|refine q4 tab rfl rfl ?_|refine q6 ?_|refine q10 ?_|refine q11 ?_|refine q14 ?_)
          refine TO.step rfl (OT.arith (r' := (((a + b) / 2 + mm - s : Nat) : Int)) rfl rfl rfl rfl rfl rfl (by omega) (by omega) ?_)
          refine TO.pureP tab rfl rfl ?_
          refine TO.nil ?_
          refine thenQ_n ?_
          refine TC.cut (ι := List Int) [0, 1, 3, 4, 18, 20, 24] rfl (fun _ => []) (fun _ => m) (fun ys => rowI bd ys :: .cells bl 0 [ss.v] :: L) (fun ys => Cutd (ltR l) a mm b s xs ys) ?_ (fun ys hY => ?_)
          · repeat (first|refine q1 ?_|refine q3 ?_|refine q4 tab rfl rfl ?_)
            (refine TO.splitP rfl rfl (fun hx1 => ?_) (fun hx1 => ?_))
            · repeat (first|refine q4 tab rfl rfl ?_|refine q5 ?_|refine q6 ?_)
              refine TC.condP rfl (fun hx2 => ?_) (fun hx2 => ?_)
              · repeat (first|refine q3 ?_|refine q4 tab rfl rfl ?_)
                refine TO.step rfl (OT.call rfl rfl rfl rfl rfl rfl goes47 ((rotate_law m _ bd bl c s mm ((a + b) / 2 + mm - s) xs (by omega) (by omega) (by omega) hlim).x ?_));
                rintro _ _ _ ⟨rfl, ys, hy1, hy2, rfl⟩
                repeat (first|refine q5 ?_|refine q6 ?_)
                exact ⟨ys, (by repeat (exact trivial)), (by repeat (first|exact trivial|refine And.intro rfl ?_)), rfl, rfl, (by repeat (exact List.Sublist.refl _)), hC.done O hR hs1 hs2 hA (hy1.mono (by omega) (by omega)) hy2⟩
              · repeat (first|refine q6 ?_|refine q13 ?_)
                exact ⟨xs, (by repeat (exact trivial)), (by repeat (first|exact trivial|refine And.intro rfl ?_)), rfl, rfl, (by repeat (exact List.Sublist.refl _)), hC.done O hR hs1 hs2 hA (Seg.refl _ _ _) (rot_id (by omega) (by omega))⟩
            · repeat (first|refine q4 tab rfl rfl ?_|refine q5 ?_|refine q6 ?_|refine q13 ?_|refine q17 rfl ?_)
              exact ⟨xs, (by repeat (exact trivial)), (by repeat (first|exact trivial|refine And.intro rfl ?_)), rfl, rfl, (by repeat (exact List.Sublist.refl _)), hC.done O hR hs1 hs2 hA (Seg.refl _ _ _) (rot_id (by omega) (by omega))⟩
          have hyl := hY.seg.len
          have hDy := hD.perm hY.seg.perm
          have hyle := hY.le
          refine TC.cut (ι := List Int) [0, 3, 4, 18, 24] rfl (fun _ => []) (fun _ => m) (fun zs => rowI bd zs :: .cells bl 0 [ss.v] :: L) (fun zs => Seg a ((a + b) / 2) ys zs ∧ So (ltR l) zs a ((a + b) / 2)) ?_ (fun zs hZ => ?_)
          · repeat (first|refine q1 ?_|refine q3 ?_|refine q4 tab rfl rfl ?_)
            (refine TO.splitP rfl rfl (fun hx1 => ?_) (fun hx1 => ?_))
            · repeat (first|refine q4 tab rfl rfl ?_|refine q5 ?_|refine q6 ?_)
              refine TC.condP rfl (fun hx2 => ?_) (fun hx2 => ?_)
              · repeat (first|refine q3 ?_|refine q4 tab rfl rfl ?_)
                rw [← hyl]
                refine TO.step rfl (OT.call rfl rfl rfl rfl rfl rfl goes36 ((ih m L bd bl c a s ((a + b) / 2) ys ss l (by omega) hss hDy (by omega) (by omega) (by omega) (by omega) hY.s1 hY.s2 hY.ah1).x ?_));
                rintro _ _ _ ⟨rfl, zs, hz1, hz2, rfl⟩
                rw [hyl]
                repeat (first|refine q5 ?_|refine q6 ?_)
                exact ⟨zs, (by repeat (exact trivial)), (by repeat (first|exact trivial|refine And.intro rfl ?_)), rfl, rfl, (by repeat (exact List.Sublist.refl _)), hz1, hz2⟩
              · repeat (first|refine q6 ?_|refine q13 ?_)
                exact ⟨ys, (by repeat (exact trivial)), (by repeat (first|exact trivial|refine And.intro rfl ?_)), rfl, rfl, (by repeat (exact List.Sublist.refl _)), Seg.refl _ _ _, hY.s1.sub (Nat.le_refl _) (by omega)⟩
            · repeat (first|refine q4 tab rfl rfl ?_|refine q5 ?_|refine q6 ?_|refine q13 ?_|refine q17 rfl ?_)
              exact ⟨ys, (by repeat (exact trivial)), (by repeat (first|exact trivial|refine And.intro rfl ?_)), rfl, rfl, (by repeat (exact List.Sublist.refl _)), Seg.refl _ _ _, hY.s2.sub (by omega) (Nat.le_refl _)⟩
          have hzl := hZ.1.len
          have hDz := hDy.perm hZ.1.perm
          have z3 : So (ltR l) zs ((a + b) / 2) ((a + b) / 2 + mm - s) := hY.s3.of fun i q1 q2 => hZ.1.out i (by omega)
          have z4 : So (ltR l) zs ((a + b) / 2 + mm - s) b := hY.s4.of fun i q1 q2 => hZ.1.out i (by omega)
          have zA : Ahead zs ((a + b) / 2) ((a + b) / 2 + mm - s) b := fun i j q1 q2 q3 q4 => by
            rw [hZ.1.out i (by omega), hZ.1.out j (by omega)]
            exact hY.ah2 i j q1 q2 q3 q4
          repeat (first|refine q1 ?_|refine q3 ?_|refine q4 tab rfl rfl ?_)
          (refine TO.splitP rfl rfl (fun hx1 => ?_) (fun hx1 => ?_))
          · repeat (first|refine q4 tab rfl rfl ?_|refine q5 ?_|refine q6 ?_)
            refine TC.condP rfl (fun hx2 => ?_) (fun hx2 => ?_)
            · repeat (first|refine q3 ?_|refine q4 tab rfl rfl ?_)
              rw [← hyl, ← hzl]
              refine TO.step rfl (OT.call rfl rfl rfl rfl rfl rfl goes36 ((ih m L bd bl c ((a + b) / 2) ((a + b) / 2 + mm - s) b zs ss l (by omega) hss hDz (by omega) (by omega) (by omega) (by omega) z3 z4 zA).x ?_));
              rintro _ _ _ ⟨rfl, ws, hw1, hw2, rfl⟩
              repeat (refine q5 ?_)
              obtain ⟨f1, f2⟩ := hY.join hZ.1 hZ.2 hw1 hw2 (by omega)
              refine retQ_n rfl (L' := rowI bd ws :: .cells bl 0 [ss.v] :: L) (by repeat (exact List.Sublist.refl _)) ⟨rfl, ws, f1, f2, rfl⟩
            · repeat (refine q13 ?_)
              obtain ⟨f1, f2⟩ := hY.join hZ.1 hZ.2 (Seg.refl _ _ _) (z3.sub (Nat.le_refl _) (by omega)) (by omega)
              refine retQ_n rfl (L' := rowI bd zs :: .cells bl 0 [ss.v] :: L) (by repeat (exact List.Sublist.refl _)) ⟨rfl, zs, f1, f2, rfl⟩
          · repeat (first|refine q4 tab rfl rfl ?_|refine q5 ?_|refine q6 ?_|refine q13 ?_|refine q17 rfl ?_)
            obtain ⟨f1, f2⟩ := hY.join hZ.1 hZ.2 (Seg.refl _ _ _) (z4.sub (by omega) (Nat.le_refl _)) (by omega)
            refine retQ_n rfl (L' := rowI bd zs :: .cells bl 0 [ss.v] :: L) (by repeat (exact List.Sublist.refl _)) ⟨rfl, zs, f1, f2, rfl⟩
      · repeat (first|refine q1 ?_|refine q3 ?_|refine q4 tab rfl rfl ?_|refine q5 ?_|refine q6 ?_)
        have hR : CutR a mm b a mm := ⟨⟨ham, hmb⟩, .inl ⟨by omega, rfl, rfl⟩⟩
        refine TO.step rfl (OT.arith (r' := (((a + b) / 2 + mm - 1 : Nat) : Int)) rfl rfl rfl rfl rfl rfl (by omega) (by omega) ?_)
        repeat (first|refine q1 ?_|refine q2 ?_|refine q4 tab rfl rfl ?_|refine q5 ?_|refine q6 ?_)
        obtain ⟨r1, r2, r3, hrng⟩ := hR.rng
        refine TC.loopK (ι := Nat × Nat) [0, 1, 2, 3, 4, 18, 19, 22] rfl (fun x => [(20, .int .i64 (x.1 : Int)), (21, .int .i64 (x.2 : Int))]) (fun _ => m) (fun _ => rowI bd xs :: .cells bl 0 [ss.v] :: L) (fun x => CutI (ltR l) xs ((a + b) / 2 + mm - 1) a mm x.1 x.2) (fun x => x.2 - x.1) (a, mm) (by repeat (first|exact trivial|refine And.intro rfl ?_)) rfl (by repeat (exact List.Sublist.refl _)) (CutI.start r2) ?_
        rintro ⟨s, r⟩ hC
        simp only at hC ⊢
        have hle := hC.le
        repeat (first|refine q1 ?_|refine q3 ?_|refine q4 tab rfl rfl ?_|refine q5 ?_|refine q6 ?_)
        refine TC.condP rfl (fun hlt' => ?_) (fun hlt' => ?_)
        · have hlt : s < r := by omega
          repeat (first|refine q1 ?_|refine q2 ?_|refine q3 ?_|refine q4 tab rfl rfl ?_|refine q6 ?_|refine q13 ?_)
          refine TO.step rfl (OT.arith (r' := ((s + r : Nat) : Int)) rfl rfl rfl rfl rfl rfl (by omega) (by omega) ?_)
          refine TO.step rfl (OT.conv (r := ((s + r : Nat) : Int)) tab rfl rfl rfl rfl rfl rfl (IntWalk.u64_in _ ⟨by omega, by omega⟩) ?_)
          refine TO.step rfl (OT.half (r := (((s + r) / 2 : Nat) : Int)) rfl rfl rfl rfl rfl (by decide) (by rw [Int.fdiv_eq_ediv_of_nonneg _ (by omega)]; omega) ?_)
          refine TO.step rfl (OT.conv (r := (((s + r) / 2 : Nat) : Int)) tab rfl rfl rfl rfl rfl rfl (wrap64_in (by omega) (by omega)) ?_)
          have hh : s ≤ (s + r) / 2 ∧ (s + r) / 2 < r := by omega
          generalize (s + r) / 2 = h at hh
          have hq := hrng h (by omega) (by omega)
          repeat (first|refine q1 ?_|refine q4 tab rfl rfl ?_|refine q5 ?_|refine q6 ?_)
          refine TC.draw [] mixed 14 rfl [rowI bd xs, .cells bl 0 [ss.v]] L (by first | exact List.Perm.refl _ | (rw [List.append_nil]; exact List.Perm.refl _)) ?_
          refine DO.pure tab (by repeat (first|exact Calm.ret|refine Calm.then ?_|refine Calm.block ?_)) (by kernel_rfl) [0, 1, 2, 3] (by kernel_rfl) rfl ?_
          refine DO.arith 4 (r' := (((a + b) / 2 + mm - 1 - h : Nat) : Int)) (by repeat (first|exact Calm.ret|refine Calm.then ?_|refine Calm.block ?_)) (by kernel_rfl) (by kernel_rfl) rfl rfl rfl rfl rfl rfl rfl rfl (by first | rfl | omega | (simp only; omega)) (by omega) ?_
          refine DO.indexP (sz := 1) tab 5 ((a + b) / 2 + mm - 1 - h) (by repeat (first|exact Calm.ret|refine Calm.then ?_|refine Calm.block ?_)) (by kernel_rfl) (by kernel_rfl) rfl rfl rfl rfl rfl rfl rfl rfl rfl (by omega) ?_
          refine DO.loadR tab 6 0 (gk_map (xs := xs) (k := (a + b) / 2 + mm - 1 - h) (by omega)) (by repeat (first|exact Calm.ret|refine Calm.then ?_|refine Calm.block ?_)) (by kernel_rfl) (by kernel_rfl) rfl rfl rfl rfl rfl rfl rfl rfl ?_
          refine DO.pure tab (by repeat (first|exact Calm.ret|refine Calm.then ?_|refine Calm.block ?_)) (by kernel_rfl) [7, 8] (by kernel_rfl) rfl ?_
          refine DO.indexP (sz := 1) tab 9 h (by repeat (first|exact Calm.ret|refine Calm.then ?_|refine Calm.block ?_)) (by kernel_rfl) (by kernel_rfl) rfl rfl rfl rfl rfl rfl rfl rfl rfl (by omega) ?_
          refine DO.loadR tab 10 0 (gk_map (xs := xs) (k := h) (by omega)) (by repeat (first|exact Calm.ret|refine Calm.then ?_|refine Calm.block ?_)) (by kernel_rfl) (by kernel_rfl) rfl rfl rfl rfl rfl rfl rfl rfl ?_
          refine DO.run 11 rfl rfl (by kernel_rfl) rfl (OT.call rfl rfl rfl rfl rfl rfl goes16 ((cmp_law m L bd bl _ ss l hss (gk xs ((a + b) / 2 + mm - 1 - h)) (gk xs h) (hD.gk (by omega)) (hD.gk (by omega))).x ?_))
          rintro _ _ _ ⟨rfl, rfl, rfl⟩; refine ⟨Mem.le_refl _, _, List.Perm.refl _, ?_⟩
          refine DO.pure tab (by repeat (first|exact Calm.ret|refine Calm.then ?_|refine Calm.block ?_)) (by kernel_rfl) [12, 13] (by kernel_rfl) rfl ?_
          (refine DO.nil (by kernel_rfl) ?_)
          rotate_left 1
          repeat (refine q6 ?_)
          have hah := hA h ((a + b) / 2 + mm - 1 - h) (by omega) (by omega) (by omega) (by omega)
          simp only [cmp_dec, wlR_lt hah]
          cases hc : ltR l (gk xs ((a + b) / 2 + mm - 1 - h)) (gk xs h) with
          | false =>
            have hC2 := hC.low O hR hs1 hs2 hh (lt_of_not hc hah)
            repeat (first|refine q3 ?_|refine q4 tab rfl rfl ?_|refine q16 rfl ?_)
            refine TO.step rfl (OT.arith (r' := ((h + 1 : Nat) : Int)) rfl rfl rfl rfl rfl rfl rfl (by omega) ?_)
            repeat (first|refine q4 tab rfl rfl ?_|refine q5 ?_|refine q6 ?_|refine q7 ?_)
            exact ⟨(h + 1, r), (by repeat (first|exact trivial|refine And.intro rfl ?_)), (by repeat (first|exact trivial|refine And.intro rfl ?_)), rfl, rfl, (by repeat (exact List.Sublist.refl _)), hC2, by simp only; omega⟩
          | true =>
            have hC2 := hC.high O hR hs1 hs2 hh hc
            repeat (first|refine q3 ?_|refine q4 tab rfl rfl ?_|refine q5 ?_|refine q6 ?_|refine q7 ?_|refine q17 rfl ?_)
            exact ⟨(s, h), (by repeat (first|exact trivial|refine And.intro rfl ?_)), (by repeat (first|exact trivial|refine And.intro rfl ?_)), rfl, rfl, (by repeat (exact List.Sublist.refl _)), hC2, by simp only; omega⟩
        · have hsr : s = r := by omega
          subst hsr
          repeat (first|refine q1 ?_|refine q3 ?_|refine q4 tab rfl rfl ?_|refine q6 ?_|refine q10 ?_|refine q11 ?_|refine q14 ?_)
          refine TO.step rfl (OT.arith (r' := (((a + b) / 2 + mm - s : Nat) : Int)) rfl rfl rfl rfl rfl rfl (by omega) (by omega) ?_)
          refine TO.pureP tab rfl rfl ?_
          refine TO.nil ?_
          refine thenQ_n ?_
          refine TC.cut (ι := List Int) [0, 1, 3, 4, 18, 20, 24] rfl (fun _ => []) (fun _ => m) (fun ys => rowI bd ys :: .cells bl 0 [ss.v] :: L) (fun ys => Cutd (ltR l) a mm b s xs ys) ?_ (fun ys hY => ?_)
          · repeat (first|refine q1 ?_|refine q3 ?_|refine q4 tab rfl rfl ?_)
            (refine TO.splitP rfl rfl (fun hx1 => ?_) (fun hx1 => ?_))
            · repeat (first|refine q4 tab rfl rfl ?_|refine q5 ?_|refine q6 ?_)
              refine TC.condP rfl (fun hx2 => ?_) (fun hx2 => ?_)
              · repeat (first|refine q3 ?_|refine q4 tab rfl rfl ?_)
                refine TO.step rfl (OT.call rfl rfl rfl rfl rfl rfl goes47 ((rotate_law m _ bd bl c s mm ((a + b) / 2 + mm - s) xs (by omega) (by omega) (by omega) hlim).x ?_));
                rintro _ _ _ ⟨rfl, ys, hy1, hy2, rfl⟩
                repeat (first|refine q5 ?_|refine q6 ?_)
                exact ⟨ys, (by repeat (exact trivial)), (by repeat (first|exact trivial|refine And.intro rfl ?_)), rfl, rfl, (by repeat (exact List.Sublist.refl _)), hC.done O hR hs1 hs2 hA (hy1.mono (by omega) (by omega)) hy2⟩
              · repeat (first|refine q6 ?_|refine q13 ?_)
                exact ⟨xs, (by repeat (exact trivial)), (by repeat (first|exact trivial|refine And.intro rfl ?_)), rfl, rfl, (by repeat (exact List.Sublist.refl _)), hC.done O hR hs1 hs2 hA (Seg.refl _ _ _) (rot_id (by omega) (by omega))⟩
            · repeat (first|refine q4 tab rfl rfl ?_|refine q5 ?_|refine q6 ?_|refine q13 ?_|refine q17 rfl ?_)
              exact ⟨xs, (by repeat (exact trivial)), (by repeat (first|exact trivial|refine And.intro rfl ?_)), rfl, rfl, (by repeat (exact List.Sublist.refl _)), hC.done O hR hs1 hs2 hA (Seg.refl _ _ _) (rot_id (by omega) (by omega))⟩
          have hyl := hY.seg.len
          have hDy := hD.perm hY.seg.perm
          have hyle := hY.le
          refine TC.cut (ι := List Int) [0, 3, 4, 18, 24] rfl (fun _ => []) (fun _ => m) (fun zs => rowI bd zs :: .cells bl 0 [ss.v] :: L) (fun zs => Seg a ((a + b) / 2) ys zs ∧ So (ltR l) zs a ((a + b) / 2)) ?_ (fun zs hZ => ?_)
          · repeat (first|refine q1 ?_|refine q3 ?_|refine q4 tab rfl rfl ?_)
            (refine TO.splitP rfl rfl (fun hx1 => ?_) (fun hx1 => ?_))
            · repeat (first|refine q4 tab rfl rfl ?_|refine q5 ?_|refine q6 ?_)
              refine TC.condP rfl (fun hx2 => ?_) (fun hx2 => ?_)
              · repeat (first|refine q3 ?_|refine q4 tab rfl rfl ?_)
                rw [← hyl]
                refine TO.step rfl (OT.call rfl rfl rfl rfl rfl rfl goes36 ((ih m L bd bl c a s ((a + b) / 2) ys ss l (by omega) hss hDy (by omega) (by omega) (by omega) (by omega) hY.s1 hY.s2 hY.ah1).x ?_));
                rintro _ _ _ ⟨rfl, zs, hz1, hz2, rfl⟩
                rw [hyl]
                repeat (first|refine q5 ?_|refine q6 ?_)
                exact ⟨zs, (by repeat (exact trivial)), (by repeat (first|exact trivial|refine And.intro rfl ?_)), rfl, rfl, (by repeat (exact List.Sublist.refl _)), hz1, hz2⟩
              · repeat (first|refine q6 ?_|refine q13 ?_)
                exact ⟨ys, (by repeat (exact trivial)), (by repeat (first|exact trivial|refine And.intro rfl ?_)), rfl, rfl, (by repeat (exact List.Sublist.refl _)), Seg.refl _ _ _, hY.s1.sub (Nat.le_refl _) (by omega)⟩
            · repeat (first|refine q4 tab rfl rfl ?_|refine q5 ?_|refine q6 ?_|refine q13 ?_|refine q17 rfl ?_)
              exact ⟨ys, (by repeat (exact trivial)), (by repeat (first|exact trivial|refine And.intro rfl ?_)), rfl, rfl, (by repeat (exact List.Sublist.refl _)), Seg.refl _ _ _, hY.s2.sub (by omega) (Nat.le_refl _)⟩
          have hzl := hZ.1.len
          have hDz := hDy.perm hZ.1.perm
          have z3 : So (ltR l) zs ((a + b) / 2) ((a + b) / 2 + mm - s) := hY.s3.of fun i q1 q2 => hZ.1.out i (by omega)
          have z4 : So (ltR l) zs ((a + b) / 2 + mm - s) b := hY.s4.of fun i q1 q2 => hZ.1.out i (by omega)
          have zA : Ahead zs ((a + b) / 2) ((a + b) / 2 + mm - s) b := fun i j q1 q2 q3 q4 => by
            rw [hZ.1.out i (by omega), hZ.1.out j (by omega)]
            exact hY.ah2 i j q1 q2 q3 q4
          repeat (first|refine q1 ?_|refine q3 ?_|refine q4 tab rfl rfl ?_)
          (refine TO.splitP rfl rfl (fun hx1 => ?_) (fun hx1 => ?_))
          · repeat (first|refine q4 tab rfl rfl ?_|refine q5 ?_|refine q6 ?_)
            refine TC.condP rfl (fun hx2 => ?_) (fun hx2 => ?_)
            · repeat (first|refine q3 ?_|refine q4 tab rfl rfl ?_)
              rw [← hyl, ← hzl]
              refine TO.step rfl (OT.call rfl rfl rfl rfl rfl rfl goes36 ((ih m L bd bl c ((a + b) / 2) ((a + b) / 2 + mm - s) b zs ss l (by omega) hss hDz (by omega) (by omega) (by omega) (by omega) z3 z4 zA).x ?_));
              rintro _ _ _ ⟨rfl, ws, hw1, hw2, rfl⟩
              repeat (refine q5 ?_)
              obtain ⟨f1, f2⟩ := hY.join hZ.1 hZ.2 hw1 hw2 (by omega)
              refine retQ_n rfl (L' := rowI bd ws :: .cells bl 0 [ss.v] :: L) (by repeat (exact List.Sublist.refl _)) ⟨rfl, ws, f1, f2, rfl⟩
            · repeat (refine q13 ?_)
              obtain ⟨f1, f2⟩ := hY.join hZ.1 hZ.2 (Seg.refl _ _ _) (z3.sub (Nat.le_refl _) (by omega)) (by omega)
              refine retQ_n rfl (L' := rowI bd zs :: .cells bl 0 [ss.v] :: L) (by repeat (exact List.Sublist.refl _)) ⟨rfl, zs, f1, f2, rfl⟩
          · repeat (first|refine q4 tab rfl rfl ?_|refine q5 ?_|refine q6 ?_|refine q13 ?_|refine q17 rfl ?_)
            obtain ⟨f1, f2⟩ := hY.join hZ.1 hZ.2 (Seg.refl _ _ _) (z4.sub (by omega) (Nat.le_refl _)) (by omega)
            refine retQ_n rfl (L' := rowI bd zs :: .cells bl 0 [ss.v] :: L) (by repeat (exact List.Sublist.refl _)) ⟨rfl, zs, f1, f2, rfl⟩
end Go.Sep

/-
  Sorting in place: the stable sort.
-/
set_option linter.unusedVariables false
set_option linter.unusedSimpArgs false
namespace Go.Sep
open Go.Proofs
attribute [local irreducible] TC TO OT TCallX TCall DO DOt thenQ blockQ retQ At
theorem merge_law : ∀ N, MergeAt N
  | 0 => fun m L bd bl c a mm b xs ss l hN _ _ h1 h2 => by omega
  | N + 1 => merge_step N (merge_law N)
set_option maxHeartbeats 2000000 in
theorem stable_law (m : Mem) (L : List Item) (bd bl c : Nat) (xs : List Int) (ss : Sl) (l : List Rg) (hss : SlRep rRg m ss l) (hD : Dom l.length xs) (hlim : xs.length ≤ 1000000) (hid : ∀ i, i < xs.length → gk xs i = (i : Int)) :
    TCall Try.prog 28 ⟨[.slice (some ⟨bd, 0, none⟩) xs.length c, .int .i64 (xs.length : Int), cmpF bl]⟩ m (rowI bd xs :: .cells bl 0 [ss.v] :: L) (fun r m' L' => m = m' ∧ ∃ ys, ys.Perm xs ∧ So (ltR l) ys 0 xs.length ∧ rowI bd ys :: .cells bl 0 [ss.v] :: L = L') := by
  have O := ltR_ord l
  unfold TCall
  refine TCallX.enter Try.func28 rfl 63 rfl ?_
  repeat (first|refine q1 ?_|refine q2 ?_|refine q3 ?_|refine q4 tab rfl rfl ?_|refine q5 ?_|refine q6 ?_)
  refine TC.loopK (ι := Nat × List Int) [0, 1, 2, 6] rfl (fun x => [(7, .int .i64 (x.1 : Int)), (8, .int .i64 ((x.1 + 20 : Nat) : Int))]) (fun _ => m) (fun x => rowI bd x.2 :: .cells bl 0 [ss.v] :: L) (fun x => x.1 ≤ xs.length ∧ x.2.Perm xs ∧ Pre (ltR l) 20 xs.length x.2 x.1 ∧ ∀ i, x.1 ≤ i → i < xs.length → gk x.2 i = (i : Int)) (fun x => xs.length - x.1) (0, xs) (by repeat (first|exact trivial|refine And.intro rfl ?_)) rfl (by repeat (exact List.Sublist.refl _)) ⟨Nat.zero_le _, .refl _, Pre.start _ _ _, fun i _ h => hid i h⟩ ?_
  rintro ⟨a, ys⟩ ⟨ha, hp, hP, hi⟩
  simp only at ha hp hP hi ⊢
  have hyl := hp.length_eq
  have hDy := hD.perm hp
  repeat (first|refine q1 ?_|refine q3 ?_|refine q4 tab rfl rfl ?_|refine q5 ?_|refine q6 ?_)
  refine TC.condP rfl (fun hb => ?_) (fun hb => ?_)
  · repeat (first|refine q1 ?_|refine q2 ?_|refine q3 ?_|refine q4 tab rfl rfl ?_|refine q6 ?_|refine q13 ?_)
    rw [← hyl]
    refine TO.step rfl (OT.call rfl rfl rfl rfl rfl rfl goes35 ((insort_law m L bd bl c a (a + 20) ys ss l hss hDy (by omega) (by omega) (by omega) (fun i j h1 h2 h3 => by rw [hi i h1 (by omega), hi j (by omega) (by omega)]; omega)).x ?_));
    rintro _ _ _ ⟨rfl, zs, hz1, hz2, rfl⟩
    rw [hyl]
    repeat (first|refine q1 ?_|refine q3 ?_|refine q4 tab rfl rfl ?_|refine q5 ?_|refine q6 ?_)
    refine TO.step rfl (OT.arith (r' := ((a + 20 + 20 : Nat) : Int)) rfl rfl rfl rfl rfl rfl (by omega) (by omega) ?_)
    repeat (first|refine q4 tab rfl rfl ?_|refine q5 ?_|refine q6 ?_|refine q7 ?_)
    exact ⟨(a + 20, zs), (by repeat (first|exact trivial|refine And.intro rfl ?_)), (by repeat (first|exact trivial|refine And.intro rfl ?_)), rfl, rfl, (by repeat (exact List.Sublist.refl _)), ⟨by simp only; omega, hz1.perm.trans hp, hP.next (by omega) (by omega) hz1 hz2 (fun i h1 h2 => by rw [hi i h1 (by omega)]; omega), fun i h1 h2 => by simp only at h1; rw [hz1.out i (by omega)]; exact hi i (by omega) h2⟩, by simp only; omega⟩
  · repeat (first|refine q1 ?_|refine q3 ?_|refine q4 tab rfl rfl ?_|refine q6 ?_|refine q10 ?_|refine q11 ?_|refine q14 ?_)
    rw [← hyl]
    refine TO.step rfl (OT.call rfl rfl rfl rfl rfl rfl goes35 ((insort_law m L bd bl c a ys.length ys ss l hss hDy (by omega) (Nat.le_refl _) (by omega) (fun i j h1 h2 h3 => by rw [hi i h1 (by omega), hi j (by omega) (by omega)]; omega)).x ?_));
    rintro _ _ _ ⟨rfl, zs, hz1, hz2, rfl⟩
    rw [hyl]
    have hB : Bs (ltR l) zs 20 xs.length 0 := by
      by_cases e : a < xs.length
      · exact (hP.next (b := ys.length) e (by omega) hz1 hz2 (fun i h1 h2 => by rw [hi i h1 (by omega)]; omega)).done (by omega)
      · have hB := hP.done (by omega)
        exact hB.of fun i _ => by
          by_cases e2 : i < a
          · exact hz1.out i (.inl e2)
          · exact hz1.out i (.inr (by omega))
    have hzp := hz1.perm.trans hp
    repeat (first|refine q2 ?_|refine q5 ?_|refine q6 ?_)
    refine TC.loopK (ι := Nat × List Int) [0, 1, 2] rfl (fun x => [(6, .int .i64 (x.1 : Int))]) (fun _ => m) (fun x => rowI bd x.2 :: .cells bl 0 [ss.v] :: L) (fun x => 20 ≤ x.1 ∧ x.1 ≤ 2000000 ∧ x.2.Perm xs ∧ Bs (ltR l) x.2 x.1 xs.length 0) (fun x => xs.length - x.1) (20, zs) (by repeat (first|exact trivial|refine And.intro rfl ?_)) rfl (by repeat (exact List.Sublist.refl _)) ⟨Nat.le_refl _, by simp only; omega, hzp, hB⟩ ?_
    clear hB hzp hz1 hz2 hi hP hp hDy hyl
    rintro ⟨s, ys⟩ ⟨hs1, hs2, hp, hB⟩
    simp only at hs1 hs2 hp hB ⊢
    repeat (first|refine q1 ?_|refine q3 ?_|refine q4 tab rfl rfl ?_|refine q5 ?_|refine q6 ?_)
    refine TC.condP rfl (fun hsn => ?_) (fun hsn => ?_)
    · repeat (first|refine q1 ?_|refine q2 ?_|refine q3 ?_|refine q4 tab rfl rfl ?_|refine q6 ?_|refine q13 ?_)
      refine TO.step rfl (OT.arith (r' := ((s + s : Nat) : Int)) rfl rfl rfl rfl rfl rfl (by omega) (by omega) ?_)
      repeat (first|refine q1 ?_|refine q2 ?_|refine q4 tab rfl rfl ?_|refine q5 ?_|refine q6 ?_)
      refine TC.loopK (ι := Nat × List Int) [0, 1, 2, 6] rfl (fun x => [(7, .int .i64 (x.1 : Int)), (8, .int .i64 ((x.1 + (s + s) : Nat) : Int))]) (fun _ => m) (fun x => rowI bd x.2 :: .cells bl 0 [ss.v] :: L) (fun x => x.1 ≤ xs.length ∧ x.2.Perm xs ∧ Pre (ltR l) (s + s) xs.length x.2 x.1 ∧ Bs (ltR l) x.2 s xs.length x.1) (fun x => xs.length - x.1) (0, ys) ?_ rfl (by repeat (exact List.Sublist.refl _)) ⟨Nat.zero_le _, hp, Pre.start _ _ _, hB⟩ ?_
      · simp only [Nat.zero_add]; exact (by repeat (first|exact trivial|refine And.intro rfl ?_))
      clear hp hB
      rintro ⟨a, zs⟩ ⟨ha, hp, hP, hB⟩
      simp only at ha hp hP hB ⊢
      have hzl := hp.length_eq
      have hDz := hD.perm hp
      repeat (first|refine q1 ?_|refine q3 ?_|refine q4 tab rfl rfl ?_|refine q5 ?_|refine q6 ?_)
      refine TC.condP rfl (fun hb2 => ?_) (fun hb2 => ?_)
      · obtain ⟨t1, t2, t3, t4, t5⟩ := hB.two (b := a + (s + s)) (by omega) (by omega)
        repeat (first|refine q1 ?_|refine q2 ?_|refine q3 ?_|refine q4 tab rfl rfl ?_|refine q6 ?_|refine q13 ?_)
        refine TO.step rfl (OT.arith (r' := ((a + s : Nat) : Int)) rfl rfl rfl rfl rfl rfl (by omega) (by omega) ?_)
        repeat (refine q4 tab rfl rfl ?_)
        rw [← hzl]
        refine TO.step rfl (OT.call rfl rfl rfl rfl rfl rfl goes36 ((merge_law _ m L bd bl c a (a + s) (a + (s + s)) zs ss l (Nat.le_refl _) hss hDz (by omega) (by omega) (by omega) (by omega) t1 t2 t3).x ?_));
        rintro _ _ _ ⟨rfl, ws, hw1, hw2, rfl⟩
        rw [hzl]
        repeat (first|refine q1 ?_|refine q3 ?_|refine q4 tab rfl rfl ?_|refine q5 ?_|refine q6 ?_)
        refine TO.step rfl (OT.arith (r' := ((s + s : Nat) : Int)) rfl rfl rfl rfl rfl rfl (by omega) (by omega) ?_)
        refine TO.step rfl (OT.arith (r' := ((a + (s + s) + (s + s) : Nat) : Int)) rfl rfl rfl rfl rfl rfl (by omega) (by omega) ?_)
        repeat (first|refine q4 tab rfl rfl ?_|refine q5 ?_|refine q6 ?_|refine q7 ?_)
        refine ⟨(a + (s + s), ws), (by repeat (first|exact trivial|refine And.intro rfl ?_)), (by repeat (first|exact trivial|refine And.intro rfl ?_)), rfl, rfl, (by repeat (exact List.Sublist.refl _)), ⟨by simp only; omega, hw1.perm.trans hp, hP.next (by omega) (by omega) hw1 hw2 t4, ?_⟩, by simp only; omega⟩
        simp only
        rw [Nat.add_assoc] at t5
        exact t5.of fun i h => hw1.out i (.inr h)
      · repeat (first|refine q1 ?_|refine q3 ?_|refine q4 tab rfl rfl ?_|refine q6 ?_|refine q10 ?_|refine q11 ?_|refine q14 ?_)
        refine TO.step rfl (OT.arith (r' := ((a + s : Nat) : Int)) rfl rfl rfl rfl rfl rfl (by omega) (by omega) ?_)
        repeat (first|refine q1 ?_|refine q3 ?_|refine q4 tab rfl rfl ?_|refine q5 ?_|refine q6 ?_)
        refine TC.condP rfl (fun hm => ?_) (fun hm => ?_)
        · obtain ⟨t1, t2, t3, t4, t5⟩ := hB.two (b := zs.length) (by omega) (by omega)
          repeat (first|refine q3 ?_|refine q4 tab rfl rfl ?_)
          rw [← hzl]
          refine TO.step rfl (OT.call rfl rfl rfl rfl rfl rfl goes36 ((merge_law _ m L bd bl c a (a + s) zs.length zs ss l (Nat.le_refl _) hss hDz (by omega) (by omega) (by omega) (by omega) t1 t2 t3).x ?_));
          rintro _ _ _ ⟨rfl, ws, hw1, hw2, rfl⟩
          rw [hzl]
          repeat (first|refine q3 ?_|refine q4 tab rfl rfl ?_|refine q5 ?_|refine q6 ?_)
          refine TO.step rfl (OT.arith (r' := ((s + s : Nat) : Int)) rfl rfl rfl rfl rfl rfl (by omega) (by omega) ?_)
          repeat (first|refine q4 tab rfl rfl ?_|refine q5 ?_|refine q6 ?_|refine q7 ?_)
          exact ⟨(s + s, ws), (by repeat (first|exact trivial|refine And.intro rfl ?_)), (by repeat (first|exact trivial|refine And.intro rfl ?_)), rfl, rfl, (by repeat (exact List.Sublist.refl _)), ⟨by simp only; omega, by simp only; omega, hw1.perm.trans hp, (hP.next (b := zs.length) (by omega) (by omega) hw1 hw2 t4).done (by omega)⟩, by simp only; omega⟩
        · repeat (first|refine q3 ?_|refine q4 tab rfl rfl ?_|refine q6 ?_|refine q13 ?_)
          refine TO.step rfl (OT.arith (r' := ((s + s : Nat) : Int)) rfl rfl rfl rfl rfl rfl (by omega) (by omega) ?_)
          repeat (first|refine q4 tab rfl rfl ?_|refine q5 ?_|refine q6 ?_|refine q7 ?_)
          exact ⟨(s + s, zs), (by repeat (first|exact trivial|refine And.intro rfl ?_)), (by repeat (first|exact trivial|refine And.intro rfl ?_)), rfl, rfl, (by repeat (exact List.Sublist.refl _)), ⟨by simp only; omega, by simp only; omega, hp, hP zs (fun _ _ => rfl) (hB.one (by omega))⟩, by simp only; omega⟩
    · repeat (first|refine q10 ?_|refine q11 ?_|refine q14 ?_)
      refine retQ_n rfl (L' := rowI bd ys :: .cells bl 0 [ss.v] :: L) (by repeat (exact List.Sublist.refl _)) ⟨rfl, ys, hp, hB.all (by omega), rfl⟩
theorem sortstable_law (m : Mem) (L : List Item) (bd bl c : Nat) (xs : List Int) (ss : Sl) (l : List Rg) (hss : SlRep rRg m ss l) (hD : Dom l.length xs) (hlim : xs.length ≤ 1000000) (hid : ∀ i, i < xs.length → gk xs i = (i : Int)) :
    TCall Try.prog 15 ⟨[.slice (some ⟨bd, 0, none⟩) xs.length c, cmpF bl]⟩ m (rowI bd xs :: .cells bl 0 [ss.v] :: L) (fun r m' L' => m = m' ∧ ∃ ys, ys.Perm xs ∧ So (ltR l) ys 0 xs.length ∧ rowI bd ys :: .cells bl 0 [ss.v] :: L = L') := by
  unfold TCall
  refine TCallX.enter Try.func15 rfl 9 rfl ?_
  repeat (first|refine q3 ?_|refine q4 tab rfl rfl ?_)
  refine TO.step rfl (OT.call rfl rfl rfl rfl rfl rfl goes28 ((stable_law m L bd bl c xs ss l hss hD hlim hid).x ?_));
  rintro _ _ _ ⟨rfl, ys, hy1, hy2, rfl⟩
  repeat (refine q5 ?_)
  refine retQ_n rfl (L' := rowI bd ys :: .cells bl 0 [ss.v] :: L) (by repeat (exact List.Sublist.refl _)) ⟨rfl, ys, hy1, hy2, rfl⟩
end Go.Sep

/-
  Slots: the ranges are looked at; rows compared.
-/
set_option linter.unusedVariables false
set_option linter.unusedSimpArgs false
namespace Go.Sep
open Go.Proofs
attribute [local irreducible] TC TO OT TCallX TCall DO DOt thenQ blockQ retQ At
@[reducible] def rgV (x : Rg) : Value := .agg ⟨[.int .i64 x.frm, .int .i64 x.to]⟩
theorem bad_law (m : Mem) (L : List Item) (x : Rg) : TCall Try.prog 27 ⟨[rgV x]⟩ m L (Ret (.bool (badR x)) m L) := by
  unfold TCall
  refine TCallX.enter Try.func27 rfl 13 rfl ?_
  repeat (first|refine q1 ?_|refine q3 ?_)
  refine TO.step rfl (OT.box rfl rfl rfl rfl rfl (fun b => ?_))
  repeat (first|(first|refine q1 ?_|refine q3 ?_|refine q4 tab rfl rfl ?_|refine q5 ?_|refine q6 ?_)|(refine qs rfl (ql tab 0 rfl rfl rfl rfl rfl rfl ?_)))
  (refine TO.splitP rfl rfl (fun hc => ?_) (fun hc => ?_))
  · repeat ((first|refine q4 tab rfl rfl ?_|refine q5 ?_|refine q6 ?_|refine q15 ?_))
    refine retQ_ret rfl (by repeat (first|exact List.Sublist.refl _|refine List.Sublist.cons _ ?_)) ⟨rfl, rfl, ?_⟩
    simp [badR, hc]
  · repeat (first|(first|refine q4 tab rfl rfl ?_|refine q5 ?_|refine q6 ?_|refine q15 ?_)|(refine qs rfl (ql tab 0 rfl rfl rfl rfl rfl rfl ?_)))
    refine retQ_ret rfl (by repeat (first|exact List.Sublist.refl _|refine List.Sublist.cons _ ?_)) ⟨rfl, rfl, ?_⟩
    have : 0 ≤ x.frm := by omega
    simp [badR]
    omega
theorem indexbad_law (m : Mem) (L : List Item) (ss : Sl) (l : List Rg) (hss : SlRep rRg m ss l) :
    TCall Try.prog 34 ⟨[ss.v, .func (.func 27) ⟨[]⟩ ⟨[]⟩]⟩ m L (fun r m' L' => m = m' ∧ L = L' ∧ ∃ v : Int, r = .int .i64 v ∧ decide (0 ≤ v) = l.any badR) := by
  have hl := hss.len
  have hsm := hss.small rfl
  unfold TCall
  refine TCallX.enter Try.func34 rfl 19 rfl ?_
  repeat (first|refine q1 ?_|refine q2 ?_|refine q3 ?_|refine q4 tab rfl rfl ?_|refine q5 ?_|refine q6 ?_)
  refine TC.loopK (ι := Nat) [0, 1, 7] rfl (fun k => [(8, .int .i64 (k : Int))]) (fun _ => m) (fun _ => L) (fun k => k ≤ l.length ∧ (l.take k).any badR = false) (fun k => l.length - k) 0 (by repeat (first|exact trivial|refine And.intro rfl ?_)) rfl (by repeat (exact List.Sublist.refl _)) ⟨Nat.zero_le _, rfl⟩ ?_
  rintro k ⟨hk, hI⟩
  repeat (first|refine q1 ?_|refine q3 ?_|refine q4 tab rfl rfl ?_|refine q5 ?_|refine q6 ?_)
  refine TC.condP rfl (fun hlt' => ?_) (fun hlt' => ?_)
  · have hlt : k < l.length := by omega
    have hx : l[k]? = some l[k] := by simp [hlt]
    have hxm := List.getElem_mem hlt
    have hxt : l.take (k + 1) = l.take k ++ [l[k]] := List.take_succ_eq_append_getElem hlt
    generalize l[k] = x at hx hxm hxt
    repeat (first|refine q1 ?_|refine q2 ?_|refine q3 ?_|refine q4 tab rfl rfl ?_|refine q5 ?_|refine q6 ?_|refine q13 ?_)
    refine TO.step rfl (OT.index tab rRg k hss rfl rfl rfl rfl rfl (by first | rfl | omega | (simp only; omega)) rfl hx ?_)
    rintro b2 i2 f2 hf2 hA2
    obtain rfl := (show f2 = x from hf2)
    (refine TO.step rfl (OT.loadA0 tab hA2 rfl rfl rfl rfl rfl ?_))
    skip
    refine TO.step rfl (OT.call rfl rfl rfl rfl rfl rfl goes27 ((bad_law m L f2).x ?_));
    rintro _ _ _ ⟨rfl, rfl, rfl⟩
    cases hb : badR f2 with
    | true =>
      repeat (first|refine q1 ?_|refine q3 ?_|refine q4 tab rfl rfl ?_|refine q5 ?_|refine q6 ?_|refine q8 ?_|refine q9 ?_|refine q15 ?_|refine q16 rfl ?_)
      refine retQ_ret rfl (L' := L) (by repeat (exact List.Sublist.refl _)) ⟨rfl, rfl, (k : Int), rfl, ?_⟩
      rw [decide_eq_true (by omega)]
      exact (List.any_eq_true.2 ⟨f2, hxm, hb⟩).symm
    | false =>
      repeat (first|refine q3 ?_|refine q5 ?_|refine q6 ?_|refine q7 ?_|refine q13 ?_|refine q17 rfl ?_)
      refine TO.step rfl (OT.arith (r' := ((k + 1 : Nat) : Int)) rfl rfl rfl rfl rfl rfl rfl (by omega) ?_)
      repeat (first|refine q4 tab rfl rfl ?_|refine q5 ?_|refine q6 ?_)
      exact ⟨k + 1, (by repeat (first|exact trivial|refine And.intro rfl ?_)), (by repeat (first|exact trivial|refine And.intro rfl ?_)), rfl, rfl, (by repeat (exact List.Sublist.refl _)), ⟨by omega, by rw [hxt, List.any_append, hI]; simp [hb]⟩, by omega⟩
  · repeat (first|refine q1 ?_|refine q3 ?_|refine q4 tab rfl rfl ?_|refine q5 ?_|refine q6 ?_|refine q10 ?_|refine q11 ?_|refine q14 ?_|refine q15 ?_)
    refine retQ_ret rfl (L' := L) (by repeat (exact List.Sublist.refl _)) ⟨rfl, rfl, -1, rfl, ?_⟩
    rw [List.take_of_length_le (by omega)] at hI
    rw [hI]
    rfl
theorem containsbad_law (m : Mem) (L : List Item) (ss : Sl) (l : List Rg) (hss : SlRep rRg m ss l) :
    TCall Try.prog 26 ⟨[ss.v, .func (.func 27) ⟨[]⟩ ⟨[]⟩]⟩ m L (Ret (.bool (l.any badR)) m L) := by
  unfold TCall
  refine TCallX.enter Try.func26 rfl 9 rfl ?_
  repeat (first|refine q1 ?_|refine q3 ?_|refine q4 tab rfl rfl ?_|refine q5 ?_|refine q6 ?_)
  refine TO.step rfl (OT.call rfl rfl rfl rfl rfl rfl goes34 ((indexbad_law m L ss l hss).x ?_));
  rintro _ _ _ ⟨rfl, rfl, v, rfl, hv⟩
  repeat (first|refine q4 tab rfl rfl ?_|refine q5 ?_|refine q6 ?_|refine q15 ?_)
  refine retQ_ret rfl (by repeat (exact List.Sublist.refl _)) ⟨rfl, rfl, ?_⟩
  rw [← hv]
theorem check_law (m : Mem) (L : List Item) (ss : Sl) (l : List Rg) (hss : SlRep rRg m ss l) :
    TCall Try.prog 14 ⟨[ss.v]⟩ m L (Ret (.int .i64 (checkM l)) m L) := by
  have hl := hss.len
  unfold TCall
  refine TCallX.enter Try.func14 rfl 8 rfl ?_
  repeat (first|refine q1 ?_|refine q3 ?_|refine q4 tab rfl rfl ?_|refine q5 ?_|refine q6 ?_)
  refine TC.condP rfl (fun hc => ?_) (fun hc => ?_)
  · repeat (first|refine q1 ?_|refine q3 ?_|refine q4 tab rfl rfl ?_|refine q5 ?_|refine q6 ?_|refine q8 ?_|refine q15 ?_)
    refine retQ_ret rfl (by repeat (exact List.Sublist.refl _)) ⟨rfl, rfl, ?_⟩
    rw [checkM, if_pos (by omega)]
  · repeat (first|refine q1 ?_|refine q3 ?_|refine q4 tab rfl rfl ?_|refine q6 ?_|refine q13 ?_)
    refine TO.step rfl (OT.call rfl rfl rfl rfl rfl rfl goes26 ((containsbad_law m L ss l hss).x ?_));
    rintro _ _ _ ⟨rfl, rfl, rfl⟩
    cases hb : l.any badR with
    | true =>
      repeat (first|refine q1 ?_|refine q3 ?_|refine q4 tab rfl rfl ?_|refine q5 ?_|refine q6 ?_|refine q8 ?_|refine q15 ?_|refine q16 rfl ?_)
      refine retQ_ret rfl (by repeat (exact List.Sublist.refl _)) ⟨rfl, rfl, ?_⟩
      rw [checkM, if_neg (by omega), if_pos hb]
    | false =>
      repeat (first|refine q1 ?_|refine q3 ?_|refine q4 tab rfl rfl ?_|refine q5 ?_|refine q6 ?_|refine q13 ?_|refine q15 ?_|refine q17 rfl ?_)
      refine retQ_ret rfl (by repeat (exact List.Sublist.refl _)) ⟨rfl, rfl, ?_⟩
      rw [checkM, if_neg (by omega), if_neg (by rw [hb]; decide)]
end Go.Sep

/-
  The walk of Assign.
-/
set_option linter.unusedVariables false
set_option linter.unusedSimpArgs false
namespace Go.Sep
open Go.Proofs
attribute [local irreducible] TC TO OT TCallX TCall DO DOt thenQ blockQ retQ At
/-- within a moment: what is held till later, what is free now -/
structure MomI (st : AS) (t : Int) (w : List Hd) (f : List Int) : Prop where
  h : (w.filter fun x => !decide (x.to ≤ t)).Perm (holdAt st t)
  f : (f ++ (w.filter fun x => decide (x.to ≤ t)).map Hd.slot).Perm (freeAt st t)
theorem MomI.start {st : AS} {t : Int} {w : List Hd} {f : List Int} (hw : w.Perm st.w) (hf : f.Perm st.f) : MomI st t w f := ⟨hw.filter _, hf.append ((hw.filter _).map _)⟩
theorem MomI.step {st : AS} {t : Int} {w rest : List Hd} {f f2 : List Int} {x : Hd} (h : MomI st t w f) (hx : x.to ≤ t) (p : (rest ++ [x]).Perm w) (q : f2.Perm (f ++ [x.slot])) : MomI st t rest f2 := by
  have e1 : ([x] : List Hd).filter (fun x => !decide (x.to ≤ t)) = [] := by simp [hx]
  have e2 : ([x] : List Hd).filter (fun x => decide (x.to ≤ t)) = [x] := by simp [hx]
  constructor
  · refine List.Perm.trans ?_ h.h
    have := p.filter (fun x => !decide (x.to ≤ t))
    rw [List.filter_append, e1, List.append_nil] at this
    exact this
  · refine List.Perm.trans ?_ h.f
    have hp := (p.filter (fun x => decide (x.to ≤ t))).map Hd.slot
    rw [List.filter_append, e2, List.map_append] at hp
    refine List.Perm.trans (q.append_right _) ?_
    rw [List.append_assoc]
    refine List.Perm.append_left f ?_
    exact (List.perm_append_comm).trans hp
theorem MomI.done {st : AS} {t : Int} {w : List Hd} {f : List Int} (h : MomI st t w f) (hn : ∀ y ∈ w, t < y.to) : w.Perm (holdAt st t) ∧ f.Perm (freeAt st t) := by
  have e1 : w.filter (fun x => !decide (x.to ≤ t)) = w := List.filter_eq_self.2 fun y hy => by have := hn y hy; simp; omega
  have e2 : w.filter (fun x => decide (x.to ≤ t)) = [] := List.filter_eq_nil_iff.2 fun y hy => by have := hn y hy; simp; omega
  have h1 := h.h
  have h2 := h.f
  rw [e1] at h1
  rw [e2] at h2
  simp at h2
  exact ⟨h1, h2⟩
theorem MomI.len {st : AS} {t : Int} {w : List Hd} {f : List Int} (h : MomI st t w f) : w.length + f.length = st.w.length + st.f.length := by
  have h1 := h.h.length_eq
  have h2 := h.f.length_eq
  have e : ∀ ws : List Hd, (ws.filter fun x => !decide (x.to ≤ t)).length + (ws.filter fun x => decide (x.to ≤ t)).length = ws.length := fun ws => by
    induction ws with
    | nil => rfl
    | cons y ys ih =>
      simp only [List.filter_cons]
      by_cases c : y.to ≤ t <;> simp [c] <;> omega
  have a1 := e w
  have a2 := e st.w
  simp only [holdAt, freeAt, List.length_append, List.length_map] at h1 h2
  omega
theorem give_new {st : AS} {t : Int} {f : List Int} (hf : f.Perm (freeAt st t)) (h0 : f.length = 0) : GiveR (freeAt st t) st.n st.n [] (st.n + 1) := by
  have e : freeAt st t = [] := by
    have := hf.length_eq
    exact List.eq_nil_of_length_eq_zero (by omega)
  exact ⟨fun _ => ⟨rfl, rfl, rfl⟩, fun h => absurd e h⟩
theorem give_old {st : AS} {t : Int} {f rest : List Int} {x : Int} (hf : f.Perm (freeAt st t)) (p : (rest ++ [x]).Perm f) (hm : ∀ y ∈ f, ltN y x = false) : GiveR (freeAt st t) st.n x ((freeAt st t).erase x) st.n ∧ rest.Perm ((freeAt st t).erase x) := by
  have hx : x ∈ freeAt st t := hf.mem_iff.1 (p.mem_iff.1 (by simp))
  refine ⟨⟨fun e => (by rw [e] at hx; cases hx), fun _ => ⟨hx, fun y hy => ?_, rfl, rfl⟩⟩, ?_⟩
  · have := hm y (hf.mem_iff.2 hy)
    simp only [ltN, decide_eq_false_iff_not] at this
    omega
  · have h1 := (List.perm_append_comm (l₁ := [x]) (l₂ := rest)).trans (p.trans hf)
    have h2 := h1.erase x
    simpa using h2
theorem min_gk {α : Type} [Inhabited α] {lt : α → α → Bool} {hs : List α} {n : Nat} (O : OrdK lt) (hirr : ∀ a, lt a a = false) (h : HF lt hs n 0) (hn : n ≤ hs.length) : ∀ y ∈ hs.take n, lt y (gk hs 0) = false := fun y hy => by
  obtain ⟨i, hi⟩ := List.getElem?_of_mem hy
  rw [List.getElem?_take] at hi
  split at hi
  · have := h.min O hirr i (by assumption)
    rw [gk_get (by omega)] at hi
    simp only [Option.some.injEq] at hi
    rw [← hi]; exact this
  · cases hi
theorem perm7 {a b : Item} {L : List Item} : (mcell ⟨none, 0, 0⟩ [] :: mcell ⟨none, 0, 0⟩ [] :: a :: b :: L).Perm ([b, mcell ⟨none, 0, 0⟩ [], a, mcell ⟨none, 0, 0⟩ []] ++ L) := by
  generalize mcell ⟨none, 0, 0⟩ [] = c
  have h1 : (c :: c :: a :: b :: L).Perm (c :: c :: b :: a :: L) := ((List.Perm.swap _ _ _).cons _).cons _
  have h2 : (c :: c :: b :: a :: L).Perm (b :: c :: c :: a :: L) := ((List.Perm.swap _ _ _).cons _).trans (List.Perm.swap _ _ _)
  have h3 : (b :: c :: c :: a :: L).Perm (b :: c :: a :: c :: L) := ((List.Perm.swap _ _ _).cons _).cons _
  exact (h1.trans h2).trans h3
theorem perm8 {a b c d : Item} {L : List Item} : (a :: b :: c :: d :: L).Perm (c :: d :: a :: b :: L) := List.perm_append_comm_assoc [a, b] [c, d] L
structure HpS where
  sw : Sl
  hw : List Hd
  sf : Sl
  hf : List Int
structure HpI (x : HpS) : Prop where
  mw : ORow x.sw x.hw
  hw : HF ltH x.hw x.sw.len 0
  mf : ORow x.sf x.hf
  hf : HF ltN x.hf x.sf.len 0
@[reducible] def hpL (bw bf : Nat) (x : HpS) : List Item := [.cells bw 0 [x.sw.v], mcell x.sw (encs rHd x.hw), .cells bf 0 [x.sf.v], mcell x.sf (encs rInt x.hf)]
def SlotsOut (l : List Rg) (m : Mem) (L : List Item) : Value → Mem → List Item → Prop := Made m L fun r m' => ∃ (t : Sl) (s : List Int) (n : Int), r = .tuple ⟨[t.v, .int .i64 n, .int .i64 (checkM l)]⟩ ∧ SlRep rInt m' t s ∧ SlotsR l s n
set_option maxHeartbeats 4000000 in
theorem assign_law (m : Mem) (L : List Item) (ss : Sl) (l : List Rg) (hss : SlRep rRg m ss l) :
    TCall Try.prog 7 ⟨[ss.v]⟩ m L (SlotsOut l m L) := by
  have hl := hss.len
  unfold TCall
  refine TCallX.enter Try.func7 rfl 92 rfl ?_
  repeat (first|refine q1 ?_|refine q3 ?_)
  refine TO.step rfl (OT.box rfl rfl rfl rfl rfl (fun bl => ?_))
  repeat (first|(first|refine q1 ?_|refine q3 ?_|refine q4 tab rfl rfl ?_|refine q5 ?_|refine q6 ?_)|(refine qs rfl (qz tab 0 rfl rfl rfl rfl rfl rfl ?_)))
  refine TO.step rfl (OT.call rfl rfl rfl rfl rfl rfl goes14 ((check_law m _ ss l hss).x ?_));
  rintro _ _ _ ⟨rfl, rfl, rfl⟩
  repeat (first|refine q1 ?_|refine q3 ?_|refine q4 tab rfl rfl ?_|refine q5 ?_|refine q6 ?_)
  refine TC.condN rfl (fun hb => ?_) (fun hb => ?_)
  · repeat (first|refine q1 ?_|refine q3 ?_|refine q4 tab rfl rfl ?_|refine q5 ?_|refine q6 ?_|refine q8 ?_|refine q15 ?_)
    refine retQ_ret rfl (L' := L) (by repeat (first|exact List.Sublist.refl _|refine List.Sublist.cons _ ?_)) ⟨Mem.le_refl _, rfl, ⟨none, 0, 0⟩, [], 0, rfl, SlRep.nil _ _, ?_⟩
    unfold SlotsR
    rw [if_pos (by simpa using hb)]
    exact ⟨rfl, rfl⟩
  · have h0 : checkM l = 0 := by simpa using hb
    have hlen : l.length ≤ 20000 := by
      unfold checkM at h0
      split at h0
      · cases h0
      · omega
    repeat (first|(first|refine q1 ?_|refine q3 ?_|refine q4 tab rfl rfl ?_|refine q6 ?_|refine q13 ?_)|(refine qs rfl (qz tab 0 rfl rfl rfl rfl rfl rfl ?_)))
    refine TO.step rfl (OT.makeM tab (Value.int .i64) 0 l.length (by omega) rfl rfl rfl rfl rfl rfl rfl rfl (show l.length * 8 ≤ 281474976710656 by omega) rfl (fun bd => ?_))
    repeat (first|refine q1 ?_|refine q2 ?_|refine q3 ?_|refine q4 tab rfl rfl ?_|refine q5 ?_|refine q6 ?_)
    refine TC.loopK (ι := Nat × List Int) [1, 3, 6, 22] rfl (fun x => [(23, .int .i64 (x.1 : Int))]) (fun _ => m) (fun x => rowI bd x.2 :: .cells bl 0 [ss.v] :: L) (fun x => x.1 ≤ l.length ∧ x.2.length = l.length ∧ ∀ i, i < x.1 → gk x.2 i = (i : Int)) (fun x => l.length - x.1) (0, List.replicate l.length 0) (by repeat (first|exact trivial|refine And.intro rfl ?_)) rfl (by repeat (exact List.Sublist.refl _)) ⟨Nat.zero_le _, by simp, fun i hi => by omega⟩ ?_
    rintro ⟨k, xs⟩ ⟨hk, hxl, hid⟩
    simp only at hk hxl hid ⊢
    repeat (first|refine q1 ?_|refine q3 ?_|refine q4 tab rfl rfl ?_|refine q5 ?_|refine q6 ?_)
    refine TC.condP rfl (fun hlt' => ?_) (fun hlt' => ?_)
    · have hlt : k < l.length := by omega
      repeat (first|refine q1 ?_|refine q2 ?_|refine q3 ?_|refine q4 tab rfl rfl ?_|refine q5 ?_|refine q6 ?_|refine q13 ?_)
      refine TO.step rfl (OT.indexP (sz := 1) tab k rfl rfl rfl rfl rfl rfl rfl (by omega) ?_)
      refine TO.step rfl (OT.storeM (k := k) tab 0 (Value.int .i64) (k : Int) rfl rfl rfl rfl rfl rfl rfl (by omega) ?_)
      repeat (first|refine q3 ?_|refine q5 ?_|refine q6 ?_|refine q7 ?_)
      refine TO.step rfl (OT.arith (r' := ((k + 1 : Nat) : Int)) rfl rfl rfl rfl rfl rfl rfl (by omega) ?_)
      repeat (first|refine q4 tab rfl rfl ?_|refine q5 ?_|refine q6 ?_)
      refine ⟨(k + 1, xs.set k (k : Int)), (by repeat (first|exact trivial|refine And.intro rfl ?_)), (by repeat (first|exact trivial|refine And.intro rfl ?_)), rfl, rfl, (by repeat (exact List.Sublist.refl _)), ⟨by simp only; omega, by simp only [List.length_set]; exact hxl, fun i hi => ?_⟩, by simp only; omega⟩
      simp only at hi ⊢
      rw [gk_set (by omega)]
      split
      · omega
      · exact hid i (by omega)
    · have hkl : k = l.length := by omega
      subst hkl
      have hxe : xs = (List.range l.length).map fun i : Nat => (i : Int) := by
        apply List.ext_getElem?
        intro i
        by_cases hi : i < l.length
        · rw [gk_get (by omega), hid i hi]
          simp [hi]
        · rw [List.getElem?_eq_none (by omega), List.getElem?_eq_none (by simp; omega)]
      have hD : Dom l.length xs := fun x hx => by
        rw [hxe] at hx
        obtain ⟨i, hi, rfl⟩ := List.mem_map.1 hx
        have := List.mem_range.1 hi
        exact ⟨by omega, by omega⟩
      repeat (first|refine q1 ?_|refine q3 ?_|refine q4 tab rfl rfl ?_|refine q6 ?_|refine q10 ?_|refine q11 ?_|refine q14 ?_)
      rw [← hxl]
      refine TO.step rfl (OT.call rfl rfl rfl rfl rfl rfl goes15 ((sortstable_law m L bd bl xs.length xs ss l hss hD (by omega) (fun i hi => hid i (by omega))).x ?_));
      rintro _ _ _ ⟨rfl, os, hop, hos, rfl⟩
      rw [hxl] at hos ⊢
      have hol := hop.length_eq
      have hOrd : OrdR l os := ⟨by rw [← hxe]; exact hop, So.pairwise (by rw [hol, hxl]; exact hos)⟩
      have hdom := hOrd.dom
      repeat (first|(first|refine q1 ?_|refine q3 ?_|refine q4 tab rfl rfl ?_|refine q5 ?_|refine q6 ?_)|(refine qs rfl (qz tab 1 rfl rfl rfl rfl rfl rfl ?_)))
      refine TO.step rfl (OT.makeM tab (Value.int .i64) 0 l.length (by omega) rfl rfl rfl rfl rfl rfl rfl rfl (show l.length * 8 ≤ 281474976710656 by omega) rfl (fun bs => ?_))
      repeat (first|refine q1 ?_|refine q3 ?_|refine q4 tab rfl rfl ?_|refine q5 ?_|refine q6 ?_)
      refine TO.step rfl (OT.alloc tab rfl rfl rfl rfl (fun bw => ?_))
      repeat (first|refine q1 ?_|refine q3 ?_|refine q5 ?_|refine q6 ?_)
      refine TO.step rfl (OT.alloc tab rfl rfl rfl rfl (fun bf => ?_))
      repeat (first|refine q1 ?_|refine q2 ?_|refine q3 ?_|refine q4 tab rfl rfl ?_|refine q5 ?_|refine q6 ?_)
      refine TC.mcell0 ?_
      refine TC.mcell0 ?_
      refine TC.perm (perm7 (a := .cells bf 0 [Sl.v ⟨none, 0, 0⟩]) (b := .cells bw 0 [Sl.v ⟨none, 0, 0⟩])) ?_
      refine TC.perm (L' := hpL bw bf ⟨⟨none, 0, 0⟩, [], ⟨none, 0, 0⟩, []⟩ ++ rowI bd os :: rowI bs (as0 l).out :: .cells bl 0 [ss.v] :: L) ((List.Perm.refl _).append (List.Perm.swap _ _ _)) ?_
      refine TC.loopK (ι := Nat × HpS × AS) [1, 2, 8, 9, 37, 38] rfl (fun x => [(39, .int .i64 (x.1 : Int)), (3, .int .i64 x.2.2.n)]) (fun _ => m) (fun x => hpL bw bf x.2.1 ++ rowI bd os :: rowI bs x.2.2.out :: .cells bl 0 [ss.v] :: L) (fun x => x.1 ≤ l.length ∧ HpI x.2.1 ∧ (x.2.1.hw.take x.2.1.sw.len).Perm x.2.2.w ∧ (x.2.1.hf.take x.2.1.sf.len).Perm x.2.2.f ∧ AllR l (os.take x.1) (as0 l) x.2.2 ∧ x.2.2.out.length = l.length ∧ x.2.2.w.length + x.2.2.f.length ≤ x.1 ∧ 0 ≤ x.2.2.n ∧ x.2.2.n ≤ x.1) (fun x => l.length - x.1) (0, ⟨⟨none, 0, 0⟩, [], ⟨none, 0, 0⟩, []⟩, as0 l) (by repeat (first|exact trivial|refine And.intro rfl ?_)) rfl (by repeat (exact List.Sublist.refl _)) ⟨Nat.zero_le _, ⟨ORow.nil, fun k h1 h2 => by simp at h2, ORow.nil, fun k h1 h2 => by simp at h2⟩, .refl _, .refl _, .nil _, by simp [as0], by simp [as0], by simp [as0], by simp [as0]⟩ ?_
      rintro ⟨k, x, st⟩ ⟨hk, hH, hW, hF, hA, hout, hsz, hn0, hnk⟩
      simp only at hk hH hW hF hA hout hsz hn0 hnk ⊢
      repeat (first|refine q1 ?_|refine q3 ?_|refine q4 tab rfl rfl ?_|refine q5 ?_|refine q6 ?_)
      refine TC.condP rfl (fun hlt2' => ?_) (fun hlt2' => ?_)
      · have hlt : k < os.length := by omega
        have hxi : os[k]? = some os[k] := by simp [hlt]
        have hxt : os.take (k + 1) = os.take k ++ [os[k]] := List.take_succ_eq_append_getElem hlt
        have hidm := hdom _ (List.getElem_mem hlt)
        generalize os[k] = i at hxi hxt hidm
        have hi0 := hidm.1
        have hi1 := hidm.2
        have hil : i.toNat < l.length := by omega
        have hgi : l[i.toNat]? = some (rgD l i.toNat) := by unfold rgD; rw [List.getElem?_eq_getElem hil]; rfl
        repeat (first|refine q1 ?_|refine q2 ?_|refine q3 ?_|refine q6 ?_|refine q13 ?_)
        refine TO.step rfl (OT.indexP (sz := 1) tab k rfl rfl rfl rfl rfl rfl rfl (by omega) ?_)
        refine TO.step rfl (OT.loadR tab 4 (v := .int .i64 i) (k := k) (cs := os.map (Value.int .i64)) (by rw [List.getElem?_map, hxi]; rfl) rfl rfl rfl rfl rfl rfl ?_)
        repeat (first|refine q1 ?_|refine q2 ?_|refine q4 tab rfl rfl ?_|refine q5 ?_|refine q6 ?_)
        have hmom := MomI.start (t := fromOf l i) hW hF
        have hbnd : (x.hw.take x.sw.len).length + (x.hf.take x.sf.len).length ≤ k := by rw [hW.length_eq, hF.length_eq]; exact hsz
        refine TC.loopK (ι := HpS) [1, 2, 3, 8, 9, 11, 37, 38, 39] rfl (fun _ => []) (fun _ => m) (fun x => hpL bw bf x ++ rowI bd os :: rowI bs st.out :: .cells bl 0 [ss.v] :: L) (fun x => HpI x ∧ MomI st (fromOf l i) (x.hw.take x.sw.len) (x.hf.take x.sf.len)) (fun x => x.sw.len) x (by repeat (exact trivial)) rfl (by repeat (exact List.Sublist.refl _)) ⟨hH, hmom⟩ ?_
        clear hH hmom hW hF hbnd
        rintro ⟨sw, hw, sf, hf⟩ ⟨hH, hM⟩
        have hMw := hH.mw
        have hMf := hH.mf
        have hhw := hH.hw
        have hhf := hH.hf
        have hml := hM.len
        simp only at hMw hMf hhw hhf hM hml ⊢
        have w1 := hMw.len
        have w2 := hMw.all
        have f1 := hMf.len
        have f2 := hMf.all
        rw [List.length_take, List.length_take] at hml
        repeat (refine q1 ?_)
        by_cases hz : sw.len = 0
        · have hdone := hM.done (fun y hy => by rw [hz] at hy; simp at hy)
          refine TC.draw [] mixed 15 rfl [.cells bw 0 [sw.v], mcell sw (encs rHd hw), .cells bf 0 [sf.v], mcell sf (encs rInt hf), rowI bd os, rowI bs st.out, .cells bl 0 [ss.v]] L (by first | exact List.Perm.refl _ | (rw [List.append_nil]; exact List.Perm.refl _)) ?_
          (refine DO.loadL (k := 0) tab 0 0 (by repeat (first|exact Calm.ret|refine Calm.then ?_|refine Calm.block ?_)) (by kernel_rfl) (by kernel_rfl) rfl rfl rfl rfl rfl rfl rfl rfl ?_)
          refine DO.run 1 rfl rfl (by kernel_rfl) rfl (OT.call rfl rfl rfl rfl rfl rfl goes18 ((qlenW_law m _ sw).x ?_))
          rintro _ _ _ ⟨rfl, rfl, rfl⟩; refine ⟨Mem.le_refl _, _, List.Perm.refl _, ?_⟩
          refine DO.pure tab (by repeat (first|exact Calm.ret|refine Calm.then ?_|refine Calm.block ?_)) (by kernel_rfl) [2, 3] (by kernel_rfl) rfl ?_
          (refine DO.splitP (d := 46) rfl (fun hg3 => ?_) (fun hg3 => ?_))
          · first | (exfalso; omega) | exact absurd rfl hg3 | exact absurd (by assumption) hg3 | contradiction
          refine DO.pure tab (by repeat (first|exact Calm.ret|refine Calm.then ?_|refine Calm.block ?_)) (by kernel_rfl) [4, 5, 6, 7, 8, 9, 10, 11, 12, 13, 14] (by kernel_rfl) rfl ?_
          (refine DO.nil (by kernel_rfl) ?_)
          rotate_left 1
          repeat (first|refine q1 ?_|refine q3 ?_|refine q4 tab rfl rfl ?_|refine q5 ?_|refine q6 ?_|refine q10 ?_|refine q11 ?_|refine q14 ?_|refine q17 rfl ?_)
          (refine qs rfl (ql tab 2 rfl rfl rfl rfl rfl rfl ?_))
          refine TO.step rfl (OT.call rfl rfl rfl rfl rfl rfl goes21 ((qlenI_law m _ sf).x ?_));
          rintro _ _ _ ⟨rfl, rfl, rfl⟩
          repeat (first|refine q4 tab rfl rfl ?_|refine q5 ?_|refine q6 ?_)
          refine TC.condP rfl (fun hfz => ?_) (fun hfz => ?_)
          · obtain ⟨b9, hb9⟩ := hMf.pos (by omega)
            obtain ⟨nf, hnf⟩ : ∃ nf, sf.len = nf + 1 := ⟨sf.len - 1, by omega⟩
            obtain ⟨sa9, sl9, c9⟩ := sf
            simp only at hnf hb9
            subst hnf
            cases hb9
            simp only at hhf f1 f2 hml hdone
            have hminf := min_gk ltN_ord ltN_irr hhf (by omega)
            repeat (refine q3 ?_)
            refine TO.step rfl (OT.mkIface tab rfl rfl rfl rfl rfl ?_)
            refine TO.perm (L' := .cells bf 0 [.slice (some ⟨b9, 0, none⟩) (nf + 1) c9] :: .cells b9 0 (encs rInt hf) :: .cells bw 0 [sw.v] :: mcell sw (encs rHd hw) :: rowI bd os :: rowI bs st.out :: .cells bl 0 [ss.v] :: L) perm8 ?_
            refine TO.step rfl (OT.call rfl rfl rfl rfl rfl rfl goes20 ((hpopI_law m _ bf b9 nf c9 hf (by omega) (by omega) (by omega) hhf).x ?_));
            rintro _ _ _ ⟨rfl, rfl, ys, hyl, hyp, hyh, rfl⟩
            refine TO.step rfl (OT.assert tab rfl rfl rfl rfl rfl ?_)
            refine TO.perm perm8 ?_
            obtain ⟨hG, hF2⟩ := give_old hdone.2 hyp hminf
            have hMf2 : ORow ⟨some ⟨b9, 0, none⟩, nf, c9⟩ ys := ⟨by simp only; omega, by simp only; omega, .inr ⟨b9, rfl⟩⟩
            have hslen : ((freeAt st (fromOf l i)).erase (gk hf 0)).length + 1 = (freeAt st (fromOf l i)).length := by
              rw [List.length_erase_of_mem (hG.b (fun e => by
                have h1 := hdone.2.length_eq
                rw [List.length_take, e, List.length_nil] at h1
                omega)).1]
              have := hdone.2.length_eq
              rw [List.length_take] at this
              omega
            have hfl := hdone.2.length_eq
            rw [List.length_take] at hfl
            repeat (first|refine q1 ?_|refine q3 ?_|refine q4 tab rfl rfl ?_|refine q5 ?_|refine q6 ?_)
            refine TO.step rfl (OT.indexP (sz := 1) tab i.toNat rfl rfl rfl rfl rfl (by omega) rfl (by omega) ?_)
            refine TO.step rfl (OT.storeM (k := i.toNat) tab 5 (Value.int .i64) (gk hf 0) rfl rfl rfl rfl rfl rfl rfl (by omega) ?_)
            repeat (first|refine q3 ?_|refine q5 ?_|refine q6 ?_)
            refine TO.step rfl (OT.mkIface tab rfl rfl rfl rfl rfl ?_)
            refine TO.perm (L' := .cells bw 0 [sw.v] :: mcell sw (encs rHd hw) :: .cells bf 0 [(Sl.mk (some ⟨b9, 0, none⟩) nf c9).v] :: mcell (Sl.mk (some ⟨b9, 0, none⟩) nf c9) (encs rInt ys) :: rowI bd os :: rowI bs (st.out.set i.toNat (gk hf 0)) :: .cells bl 0 [ss.v] :: L) (List.Perm.refl _) ?_
            refine TO.step rfl (OT.loadL0 tab 6 rfl rfl rfl rfl rfl rfl ?_)
            repeat (refine q4 tab rfl rfl ?_)
            refine TO.step rfl (OT.index tab rRg i.toNat hss rfl rfl rfl rfl rfl (by first | rfl | omega | (simp only; omega)) rfl hgi ?_)
            rintro b8 i8 h8 e8 hA8
            obtain rfl := (show h8 = rgD l i.toNat from e8)
            repeat (refine q4 tab rfl rfl ?_)
            (refine TO.step rfl (OT.loadA tab hA8 rfl rfl rfl rfl rfl ?_))
            repeat (refine q4 tab rfl rfl ?_)
            refine TO.step rfl (OT.mkIface tab rfl rfl rfl rfl rfl ?_)
            refine TO.step rfl (OT.call rfl rfl rfl rfl rfl rfl goes19 ((hpushW_law m _ bw sw hw ⟨(rgD l i.toNat).to, (gk hf 0)⟩ hMw (by (try simp only); omega) hhw).x ?_));
            rintro _ _ _ ⟨rfl, sw3, hw3, r1, r2, r3, r4, rfl⟩
            repeat (first|refine q3 ?_|refine q5 ?_|refine q6 ?_|refine q7 ?_)
            refine TO.step rfl (OT.arith (r' := ((k + 1 : Nat) : Int)) rfl rfl rfl rfl rfl rfl rfl (by omega) ?_)
            repeat (first|refine q4 tab rfl rfl ?_|refine q5 ?_|refine q6 ?_)
            have hwl := hdone.1.length_eq
            rw [List.length_take] at hwl
            refine ⟨(k + 1, ⟨sw3, hw3, (Sl.mk (some ⟨b9, 0, none⟩) nf c9), ys⟩, ⟨holdAt st (fromOf l i) ++ [⟨(rgD l i.toNat).to, (gk hf 0)⟩], ((freeAt st (fromOf l i)).erase (gk hf 0)), st.n, st.out.set i.toNat (gk hf 0)⟩), (by repeat (first|exact trivial|refine And.intro rfl ?_)), (by repeat (first|exact trivial|refine And.intro rfl ?_)), rfl, rfl, (by repeat (exact List.Sublist.refl _)), ⟨by simp only; omega, ⟨r1, by simp only [r2]; exact r4, hMf2, hyh⟩, ?_, hF2, ?_, by simp only [List.length_set]; exact hout, ?_, by simp only; omega, by simp only; omega⟩, by simp only; omega⟩
            · simp only [r2]
              exact r3.trans (hdone.1.append_right _)
            · simp only [hxt]
              exact hA.snoc ⟨⟨_, hG, rfl, rfl⟩⟩
            · simp only [List.length_append, List.length_singleton]
              (try simp only at hwl hslen hfl hml)
              first | omega | (simp only [List.length_nil]; omega)
          · have hG := give_new hdone.2 (by rw [List.length_take]; omega)
            have hF2 : (hf.take sf.len).Perm [] := by rw [show sf.len = 0 by omega]; simp
            have hslen : (0 : Nat) = (freeAt st (fromOf l i)).length := by
              have := hdone.2.length_eq
              rw [List.length_take] at this
              omega
            have hfl := hdone.2.length_eq
            rw [List.length_take] at hfl
            repeat (first|refine q3 ?_|refine q4 tab rfl rfl ?_)
            refine TO.step rfl (OT.arith (r' := st.n + 1) rfl rfl rfl rfl rfl rfl rfl (by omega) ?_)
            repeat (first|refine q1 ?_|refine q3 ?_|refine q4 tab rfl rfl ?_|refine q5 ?_|refine q6 ?_)
            refine TO.step rfl (OT.indexP (sz := 1) tab i.toNat rfl rfl rfl rfl rfl (by omega) rfl (by omega) ?_)
            refine TO.step rfl (OT.storeM (k := i.toNat) tab 5 (Value.int .i64) st.n rfl rfl rfl rfl rfl rfl rfl (by omega) ?_)
            repeat (first|refine q3 ?_|refine q5 ?_|refine q6 ?_)
            refine TO.step rfl (OT.mkIface tab rfl rfl rfl rfl rfl ?_)
            refine TO.perm (L' := .cells bw 0 [sw.v] :: mcell sw (encs rHd hw) :: .cells bf 0 [sf.v] :: mcell sf (encs rInt hf) :: rowI bd os :: rowI bs (st.out.set i.toNat st.n) :: .cells bl 0 [ss.v] :: L) (List.Perm.refl _) ?_
            refine TO.step rfl (OT.loadL0 tab 6 rfl rfl rfl rfl rfl rfl ?_)
            repeat (refine q4 tab rfl rfl ?_)
            refine TO.step rfl (OT.index tab rRg i.toNat hss rfl rfl rfl rfl rfl (by first | rfl | omega | (simp only; omega)) rfl hgi ?_)
            rintro b8 i8 h8 e8 hA8
            obtain rfl := (show h8 = rgD l i.toNat from e8)
            repeat (refine q4 tab rfl rfl ?_)
            (refine TO.step rfl (OT.loadA tab hA8 rfl rfl rfl rfl rfl ?_))
            repeat (refine q4 tab rfl rfl ?_)
            refine TO.step rfl (OT.mkIface tab rfl rfl rfl rfl rfl ?_)
            refine TO.step rfl (OT.call rfl rfl rfl rfl rfl rfl goes19 ((hpushW_law m _ bw sw hw ⟨(rgD l i.toNat).to, st.n⟩ hMw (by (try simp only); omega) hhw).x ?_));
            rintro _ _ _ ⟨rfl, sw3, hw3, r1, r2, r3, r4, rfl⟩
            repeat (first|refine q3 ?_|refine q5 ?_|refine q6 ?_|refine q7 ?_)
            refine TO.step rfl (OT.arith (r' := ((k + 1 : Nat) : Int)) rfl rfl rfl rfl rfl rfl rfl (by omega) ?_)
            repeat (first|refine q4 tab rfl rfl ?_|refine q5 ?_|refine q6 ?_)
            have hwl := hdone.1.length_eq
            rw [List.length_take] at hwl
            refine ⟨(k + 1, ⟨sw3, hw3, sf, hf⟩, ⟨holdAt st (fromOf l i) ++ [⟨(rgD l i.toNat).to, st.n⟩], ([] : List Int), (st.n + 1), st.out.set i.toNat st.n⟩), (by repeat (first|exact trivial|refine And.intro rfl ?_)), (by repeat (first|exact trivial|refine And.intro rfl ?_)), rfl, rfl, (by repeat (exact List.Sublist.refl _)), ⟨by simp only; omega, ⟨r1, by simp only [r2]; exact r4, hMf, hhf⟩, ?_, hF2, ?_, by simp only [List.length_set]; exact hout, ?_, by simp only; omega, by simp only; omega⟩, by simp only; omega⟩
            · simp only [r2]
              exact r3.trans (hdone.1.append_right _)
            · simp only [hxt]
              exact hA.snoc ⟨⟨_, hG, rfl, rfl⟩⟩
            · simp only [List.length_append, List.length_singleton]
              (try simp only at hwl hslen hfl hml)
              first | omega | (simp only [List.length_nil]; omega)
        · obtain ⟨bb, hbb⟩ := hMw.pos (by omega)
          obtain ⟨n, hnn⟩ : ∃ n, sw.len = n + 1 := ⟨sw.len - 1, by omega⟩
          obtain ⟨sa', sl', c⟩ := sw
          simp only at hnn hbb
          subst hnn
          cases hbb
          simp only at hhw hM w1 w2 hml
          have hx0 := gk_get (xs := hw) (k := 0) (by omega)
          have hmin := min_gk ltH_ord ltH_irr hhw (by omega)
          refine TC.draw [] mixed 15 rfl [.cells bw 0 [(Sl.mk (some ⟨bb, 0, none⟩) (n + 1) c).v], mcell (Sl.mk (some ⟨bb, 0, none⟩) (n + 1) c) (encs rHd hw), .cells bf 0 [sf.v], mcell sf (encs rInt hf), rowI bd os, rowI bs st.out, .cells bl 0 [ss.v]] L (by first | exact List.Perm.refl _ | (rw [List.append_nil]; exact List.Perm.refl _)) ?_
          (refine DO.loadL (k := 0) tab 0 0 (by repeat (first|exact Calm.ret|refine Calm.then ?_|refine Calm.block ?_)) (by kernel_rfl) (by kernel_rfl) rfl rfl rfl rfl rfl rfl rfl rfl ?_)
          refine DO.run 1 rfl rfl (by kernel_rfl) rfl (OT.call rfl rfl rfl rfl rfl rfl goes18 ((qlenW_law m _ ⟨some ⟨bb, 0, none⟩, n + 1, c⟩).x ?_))
          rintro _ _ _ ⟨rfl, rfl, rfl⟩; refine ⟨Mem.le_refl _, _, List.Perm.refl _, ?_⟩
          refine DO.pure tab (by repeat (first|exact Calm.ret|refine Calm.then ?_|refine Calm.block ?_)) (by kernel_rfl) [2, 3] (by kernel_rfl) rfl ?_
          (refine DO.splitP (d := 46) rfl (fun hg3 => ?_) (fun hg3 => ?_))
          (refine DO.loadL (k := 0) tab 4 0 (by repeat (first|exact Calm.ret|refine Calm.then ?_|refine Calm.block ?_)) (by kernel_rfl) (by kernel_rfl) rfl rfl rfl rfl rfl rfl rfl rfl ?_)
          refine DO.indexP (sz := 2) (n := n + 1) (c := c) tab 5 0 (by repeat (first|exact Calm.ret|refine Calm.then ?_|refine Calm.block ?_)) (by kernel_rfl) (by kernel_rfl) rfl rfl rfl rfl rfl rfl rfl rfl rfl (by omega) ?_
          refine DO.pure tab (by repeat (first|exact Calm.ret|refine Calm.then ?_|refine Calm.block ?_)) (by kernel_rfl) [6] (by kernel_rfl) rfl ?_
          refine DO.loadE (jj := 0) tab 7 1 rHd hx0 (by simp [rHd]) (fun _ => rfl) (by repeat (first|exact Calm.ret|refine Calm.then ?_|refine Calm.block ?_)) (by kernel_rfl) (by kernel_rfl) rfl rfl rfl rfl rfl rfl rfl ?_
          (refine DO.loadL (k := 0) tab 8 6 (by repeat (first|exact Calm.ret|refine Calm.then ?_|refine Calm.block ?_)) (by kernel_rfl) (by kernel_rfl) rfl rfl rfl rfl rfl rfl rfl rfl ?_)
          refine DO.pure tab (by repeat (first|exact Calm.ret|refine Calm.then ?_|refine Calm.block ?_)) (by kernel_rfl) [9] (by kernel_rfl) rfl ?_
          refine DO.index tab rRg 10 i.toNat hss (by repeat (first|exact Calm.ret|refine Calm.then ?_|refine Calm.block ?_)) (by kernel_rfl) (by kernel_rfl) rfl rfl rfl rfl rfl rfl rfl (by first | rfl | omega) rfl hgi ?_
          rintro b6 i6 h6 e6 hA6; obtain rfl := (show h6 = rgD l i.toNat from e6)
          refine DO.pure tab (by repeat (first|exact Calm.ret|refine Calm.then ?_|refine Calm.block ?_)) (by kernel_rfl) [11] (by kernel_rfl) rfl ?_
          (refine DO.loadA tab 12 hA6 (by repeat (first|exact Calm.ret|refine Calm.then ?_|refine Calm.block ?_)) (by kernel_rfl) (by kernel_rfl) rfl rfl rfl rfl rfl rfl rfl ?_)
          refine DO.pure tab (by repeat (first|exact Calm.ret|refine Calm.then ?_|refine Calm.block ?_)) (by kernel_rfl) [13, 14] (by kernel_rfl) rfl ?_
          (refine DO.nil (by kernel_rfl) ?_)
          rotate_left 1
          · first | (exfalso; omega) | exact absurd rfl hg3 | exact absurd (by assumption) hg3 | contradiction
          repeat (refine q6 ?_)
          refine TC.condP rfl (fun hto => ?_) (fun hto => ?_)
          · repeat (first|refine q2 ?_|refine q3 ?_|refine q6 ?_|refine q13 ?_)
            refine TO.step rfl (OT.mkIface tab rfl rfl rfl rfl rfl ?_)
            refine TO.step rfl (OT.mkIface tab rfl rfl rfl rfl rfl ?_)
            refine TO.perm (L' := .cells bw 0 [.slice (some ⟨bb, 0, none⟩) (n + 1) c] :: .cells bb 0 (encs rHd hw) :: .cells bf 0 [sf.v] :: mcell sf (encs rInt hf) :: rowI bd os :: rowI bs st.out :: .cells bl 0 [ss.v] :: L) (List.Perm.refl _) ?_
            refine TO.step rfl (OT.call rfl rfl rfl rfl rfl rfl goes20 ((hpopW_law m _ bw bb n c hw (by omega) (by omega) (by omega) hhw).x ?_));
            rintro _ _ _ ⟨rfl, rfl, ys, hyl, hyp, hyh, rfl⟩
            refine TO.step rfl (OT.assert tab rfl rfl rfl rfl rfl ?_)
            repeat (refine q4 tab rfl rfl ?_)
            refine TO.step rfl (OT.mkIface tab rfl rfl rfl rfl rfl ?_)
            refine TO.perm (L' := .cells bf 0 [sf.v] :: mcell sf (encs rInt hf) :: .cells bw 0 [.slice (some ⟨bb, 0, none⟩) n c] :: .cells bb 0 (encs rHd ys) :: rowI bd os :: rowI bs st.out :: .cells bl 0 [ss.v] :: L) perm8 ?_
            refine TO.step rfl (OT.call rfl rfl rfl rfl rfl rfl goes19 ((hpushI_law m _ bf sf hf (gk hw 0).slot hMf (by omega) hhf).x ?_));
            rintro _ _ _ ⟨rfl, sf2, hf2, p1, p2, p3, p4, rfl⟩
            refine TO.perm perm8 ?_
            repeat (first|refine q5 ?_|refine q6 ?_|refine q7 ?_)
            have hmy : ORow ⟨some ⟨bb, 0, none⟩, n, c⟩ ys := ⟨by simp only; omega, by simp only; omega, .inr ⟨bb, rfl⟩⟩
            exact ⟨⟨⟨some ⟨bb, 0, none⟩, n, c⟩, ys, sf2, hf2⟩, (by repeat (exact trivial)), (by repeat (first|exact trivial|refine And.intro rfl ?_)), rfl, rfl, (by repeat (exact List.Sublist.refl _)), ⟨⟨hmy, hyh, p1, by simp only [p2]; exact p4⟩, hM.step hto hyp (by simp only [p2]; exact p3)⟩, by simp only; omega⟩
          · have hdone := hM.done (fun y hy => by
              have := hmin y hy
              simp only [ltH, decide_eq_false_iff_not] at this
              have e : fromOf l i = (rgD l i.toNat).frm := rfl
              omega)
            repeat (first|refine q1 ?_|refine q3 ?_|refine q4 tab rfl rfl ?_|refine q5 ?_|refine q6 ?_|refine q10 ?_|refine q11 ?_|refine q14 ?_)
            (refine qs rfl (ql tab 2 rfl rfl rfl rfl rfl rfl ?_))
            refine TO.step rfl (OT.call rfl rfl rfl rfl rfl rfl goes21 ((qlenI_law m _ sf).x ?_));
            rintro _ _ _ ⟨rfl, rfl, rfl⟩
            repeat (first|refine q4 tab rfl rfl ?_|refine q5 ?_|refine q6 ?_)
            refine TC.condP rfl (fun hfz => ?_) (fun hfz => ?_)
            · obtain ⟨b9, hb9⟩ := hMf.pos (by omega)
              obtain ⟨nf, hnf⟩ : ∃ nf, sf.len = nf + 1 := ⟨sf.len - 1, by omega⟩
              obtain ⟨sa9, sl9, c9⟩ := sf
              simp only at hnf hb9
              subst hnf
              cases hb9
              simp only at hhf f1 f2 hml hdone
              have hminf := min_gk ltN_ord ltN_irr hhf (by omega)
              repeat (refine q3 ?_)
              refine TO.step rfl (OT.mkIface tab rfl rfl rfl rfl rfl ?_)
              refine TO.perm (L' := .cells bf 0 [.slice (some ⟨b9, 0, none⟩) (nf + 1) c9] :: .cells b9 0 (encs rInt hf) :: .cells bw 0 [(Sl.mk (some ⟨bb, 0, none⟩) (n + 1) c).v] :: mcell (Sl.mk (some ⟨bb, 0, none⟩) (n + 1) c) (encs rHd hw) :: rowI bd os :: rowI bs st.out :: .cells bl 0 [ss.v] :: L) perm8 ?_
              refine TO.step rfl (OT.call rfl rfl rfl rfl rfl rfl goes20 ((hpopI_law m _ bf b9 nf c9 hf (by omega) (by omega) (by omega) hhf).x ?_));
              rintro _ _ _ ⟨rfl, rfl, ys, hyl, hyp, hyh, rfl⟩
              refine TO.step rfl (OT.assert tab rfl rfl rfl rfl rfl ?_)
              refine TO.perm perm8 ?_
              obtain ⟨hG, hF2⟩ := give_old hdone.2 hyp hminf
              have hMf2 : ORow ⟨some ⟨b9, 0, none⟩, nf, c9⟩ ys := ⟨by simp only; omega, by simp only; omega, .inr ⟨b9, rfl⟩⟩
              have hslen : ((freeAt st (fromOf l i)).erase (gk hf 0)).length + 1 = (freeAt st (fromOf l i)).length := by
                rw [List.length_erase_of_mem (hG.b (fun e => by
                  have h1 := hdone.2.length_eq
                  rw [List.length_take, e, List.length_nil] at h1
                  omega)).1]
                have := hdone.2.length_eq
                rw [List.length_take] at this
                omega
              have hfl := hdone.2.length_eq
              rw [List.length_take] at hfl
              repeat (first|refine q1 ?_|refine q3 ?_|refine q4 tab rfl rfl ?_|refine q5 ?_|refine q6 ?_)
              refine TO.step rfl (OT.indexP (sz := 1) tab i.toNat rfl rfl rfl rfl rfl (by omega) rfl (by omega) ?_)
              refine TO.step rfl (OT.storeM (k := i.toNat) tab 5 (Value.int .i64) (gk hf 0) rfl rfl rfl rfl rfl rfl rfl (by omega) ?_)
              repeat (first|refine q3 ?_|refine q5 ?_|refine q6 ?_)
              refine TO.step rfl (OT.mkIface tab rfl rfl rfl rfl rfl ?_)
              refine TO.perm (L' := .cells bw 0 [(Sl.mk (some ⟨bb, 0, none⟩) (n + 1) c).v] :: mcell (Sl.mk (some ⟨bb, 0, none⟩) (n + 1) c) (encs rHd hw) :: .cells bf 0 [(Sl.mk (some ⟨b9, 0, none⟩) nf c9).v] :: mcell (Sl.mk (some ⟨b9, 0, none⟩) nf c9) (encs rInt ys) :: rowI bd os :: rowI bs (st.out.set i.toNat (gk hf 0)) :: .cells bl 0 [ss.v] :: L) (List.Perm.refl _) ?_
              refine TO.step rfl (OT.loadL0 tab 6 rfl rfl rfl rfl rfl rfl ?_)
              repeat (refine q4 tab rfl rfl ?_)
              refine TO.step rfl (OT.index tab rRg i.toNat hss rfl rfl rfl rfl rfl (by first | rfl | omega | (simp only; omega)) rfl hgi ?_)
              rintro b8 i8 h8 e8 hA8
              obtain rfl := (show h8 = rgD l i.toNat from e8)
              repeat (refine q4 tab rfl rfl ?_)
              (refine TO.step rfl (OT.loadA tab hA8 rfl rfl rfl rfl rfl ?_))
              repeat (refine q4 tab rfl rfl ?_)
              refine TO.step rfl (OT.mkIface tab rfl rfl rfl rfl rfl ?_)
              refine TO.step rfl (OT.call rfl rfl rfl rfl rfl rfl goes19 ((hpushW_law m _ bw (Sl.mk (some ⟨bb, 0, none⟩) (n + 1) c) hw ⟨(rgD l i.toNat).to, (gk hf 0)⟩ hMw (by (try simp only); omega) hhw).x ?_));
              rintro _ _ _ ⟨rfl, sw3, hw3, r1, r2, r3, r4, rfl⟩
              repeat (first|refine q3 ?_|refine q5 ?_|refine q6 ?_|refine q7 ?_)
              refine TO.step rfl (OT.arith (r' := ((k + 1 : Nat) : Int)) rfl rfl rfl rfl rfl rfl rfl (by omega) ?_)
              repeat (first|refine q4 tab rfl rfl ?_|refine q5 ?_|refine q6 ?_)
              have hwl := hdone.1.length_eq
              rw [List.length_take] at hwl
              refine ⟨(k + 1, ⟨sw3, hw3, (Sl.mk (some ⟨b9, 0, none⟩) nf c9), ys⟩, ⟨holdAt st (fromOf l i) ++ [⟨(rgD l i.toNat).to, (gk hf 0)⟩], ((freeAt st (fromOf l i)).erase (gk hf 0)), st.n, st.out.set i.toNat (gk hf 0)⟩), (by repeat (first|exact trivial|refine And.intro rfl ?_)), (by repeat (first|exact trivial|refine And.intro rfl ?_)), rfl, rfl, (by repeat (exact List.Sublist.refl _)), ⟨by simp only; omega, ⟨r1, by simp only [r2]; exact r4, hMf2, hyh⟩, ?_, hF2, ?_, by simp only [List.length_set]; exact hout, ?_, by simp only; omega, by simp only; omega⟩, by simp only; omega⟩
              · simp only [r2]
                exact r3.trans (hdone.1.append_right _)
              · simp only [hxt]
                exact hA.snoc ⟨⟨_, hG, rfl, rfl⟩⟩
              · simp only [List.length_append, List.length_singleton]
                (try simp only at hwl hslen hfl hml)
                first | omega | (simp only [List.length_nil]; omega)
            · have hG := give_new hdone.2 (by rw [List.length_take]; omega)
              have hF2 : (hf.take sf.len).Perm [] := by rw [show sf.len = 0 by omega]; simp
              have hslen : (0 : Nat) = (freeAt st (fromOf l i)).length := by
                have := hdone.2.length_eq
                rw [List.length_take] at this
                omega
              have hfl := hdone.2.length_eq
              rw [List.length_take] at hfl
              repeat (first|refine q3 ?_|refine q4 tab rfl rfl ?_)
              refine TO.step rfl (OT.arith (r' := st.n + 1) rfl rfl rfl rfl rfl rfl rfl (by omega) ?_)
              repeat (first|refine q1 ?_|refine q3 ?_|refine q4 tab rfl rfl ?_|refine q5 ?_|refine q6 ?_)
              refine TO.step rfl (OT.indexP (sz := 1) tab i.toNat rfl rfl rfl rfl rfl (by omega) rfl (by omega) ?_)
              refine TO.step rfl (OT.storeM (k := i.toNat) tab 5 (Value.int .i64) st.n rfl rfl rfl rfl rfl rfl rfl (by omega) ?_)
              repeat (first|refine q3 ?_|refine q5 ?_|refine q6 ?_)
              refine TO.step rfl (OT.mkIface tab rfl rfl rfl rfl rfl ?_)
              refine TO.perm (L' := .cells bw 0 [(Sl.mk (some ⟨bb, 0, none⟩) (n + 1) c).v] :: mcell (Sl.mk (some ⟨bb, 0, none⟩) (n + 1) c) (encs rHd hw) :: .cells bf 0 [sf.v] :: mcell sf (encs rInt hf) :: rowI bd os :: rowI bs (st.out.set i.toNat st.n) :: .cells bl 0 [ss.v] :: L) (List.Perm.refl _) ?_
              refine TO.step rfl (OT.loadL0 tab 6 rfl rfl rfl rfl rfl rfl ?_)
              repeat (refine q4 tab rfl rfl ?_)
              refine TO.step rfl (OT.index tab rRg i.toNat hss rfl rfl rfl rfl rfl (by first | rfl | omega | (simp only; omega)) rfl hgi ?_)
              rintro b8 i8 h8 e8 hA8
              obtain rfl := (show h8 = rgD l i.toNat from e8)
              repeat (refine q4 tab rfl rfl ?_)
              (refine TO.step rfl (OT.loadA tab hA8 rfl rfl rfl rfl rfl ?_))
              repeat (refine q4 tab rfl rfl ?_)
              refine TO.step rfl (OT.mkIface tab rfl rfl rfl rfl rfl ?_)
              refine TO.step rfl (OT.call rfl rfl rfl rfl rfl rfl goes19 ((hpushW_law m _ bw (Sl.mk (some ⟨bb, 0, none⟩) (n + 1) c) hw ⟨(rgD l i.toNat).to, st.n⟩ hMw (by (try simp only); omega) hhw).x ?_));
              rintro _ _ _ ⟨rfl, sw3, hw3, r1, r2, r3, r4, rfl⟩
              repeat (first|refine q3 ?_|refine q5 ?_|refine q6 ?_|refine q7 ?_)
              refine TO.step rfl (OT.arith (r' := ((k + 1 : Nat) : Int)) rfl rfl rfl rfl rfl rfl rfl (by omega) ?_)
              repeat (first|refine q4 tab rfl rfl ?_|refine q5 ?_|refine q6 ?_)
              have hwl := hdone.1.length_eq
              rw [List.length_take] at hwl
              refine ⟨(k + 1, ⟨sw3, hw3, sf, hf⟩, ⟨holdAt st (fromOf l i) ++ [⟨(rgD l i.toNat).to, st.n⟩], ([] : List Int), (st.n + 1), st.out.set i.toNat st.n⟩), (by repeat (first|exact trivial|refine And.intro rfl ?_)), (by repeat (first|exact trivial|refine And.intro rfl ?_)), rfl, rfl, (by repeat (exact List.Sublist.refl _)), ⟨by simp only; omega, ⟨r1, by simp only [r2]; exact r4, hMf, hhf⟩, ?_, hF2, ?_, by simp only [List.length_set]; exact hout, ?_, by simp only; omega, by simp only; omega⟩, by simp only; omega⟩
              · simp only [r2]
                exact r3.trans (hdone.1.append_right _)
              · simp only [hxt]
                exact hA.snoc ⟨⟨_, hG, rfl, rfl⟩⟩
              · simp only [List.length_append, List.length_singleton]
                (try simp only at hwl hslen hfl hml)
                first | omega | (simp only [List.length_nil]; omega)
      · have hkl : k = os.length := by omega
        subst hkl
        rw [List.take_length] at hA
        have hfin : SlotsR l st.out st.n := by
          unfold SlotsR
          rw [if_neg (by simpa using h0)]
          exact ⟨os, st, hOrd, hA, rfl, rfl⟩
        repeat (first|refine q1 ?_|refine q6 ?_|refine q10 ?_|refine q11 ?_|refine q14 ?_)
        refine TC.freezeAt 5 rfl (fun m2 hm2 hAt => ?_)
        repeat (first|refine q3 ?_|refine q4 tab rfl rfl ?_|refine q5 ?_|refine q6 ?_|refine q15 ?_)
        refine retQ_ret rfl (L' := L) ?_ ⟨hm2, rfl, ⟨some ⟨bs, 0, none⟩, l.length, l.length⟩, st.out, st.n, by rw [h0], ?_, hfin⟩
        · exact (List.sublist_append_right [.cells bw 0 [x.sw.v], mcell x.sw (encs rHd x.hw), .cells bf 0 [x.sf.v], mcell x.sf (encs rInt x.hf), rowI bd os, .cells bl 0 [ss.v]] L)
        · have hI : IRow ⟨some ⟨bs, 0, none⟩, l.length, l.length⟩ bs st.out.length := ⟨by rw [hout], Nat.le_refl _, fun _ => ⟨l.length, by rw [hout]⟩, fun _ h => by cases h⟩
          exact hI.rep hAt (by omega)
end Go.Sep

/-
  Slots: rows compared, awake, and the law SlotsMoved.
-/
set_option linter.unusedVariables false
set_option linter.unusedSimpArgs false
namespace Go.Sep
open Go.Proofs
attribute [local irreducible] TC TO OT TCallX TCall DO DOt thenQ blockQ retQ At
theorem same_law (m : Mem) (L : List Item) (s1 s2 : Sl) (l1 l2 : List Int) (h1 : SlRep rInt m s1 l1) (h2 : SlRep rInt m s2 l2) : TCall Try.prog 9 ⟨[s1.v, s2.v]⟩ m L (Ret (.bool (decide (l1 = l2))) m L) := by
  have hl1 := h1.len
  have hl2 := h2.len
  have hs1 := h1.small rfl
  unfold TCall
  refine TCallX.enter Try.func9 rfl 26 rfl ?_
  repeat (first|refine q1 ?_|refine q3 ?_|refine q4 tab rfl rfl ?_|refine q5 ?_|refine q6 ?_)
  refine TC.condN rfl (fun hn => ?_) (fun hn => ?_)
  · repeat (first|refine q1 ?_|refine q3 ?_|refine q4 tab rfl rfl ?_|refine q5 ?_|refine q6 ?_|refine q8 ?_|refine q15 ?_)
    refine retQ_ret rfl (by repeat (exact List.Sublist.refl _)) ⟨rfl, rfl, ?_⟩
    rw [decide_eq_false]
    intro e
    subst e
    exact hn (by omega)
  · have hll : l1.length = l2.length := by omega
    repeat (first|refine q1 ?_|refine q2 ?_|refine q3 ?_|refine q4 tab rfl rfl ?_|refine q5 ?_|refine q6 ?_|refine q13 ?_)
    refine TC.loopK (ι := Nat) [0, 1] rfl (fun k => [(5, .int .i64 (k : Int))]) (fun _ => m) (fun _ => L) (fun k => k ≤ l1.length ∧ l1.take k = l2.take k) (fun k => l1.length - k) 0 (by repeat (first|exact trivial|refine And.intro rfl ?_)) rfl (by repeat (exact List.Sublist.refl _)) ⟨Nat.zero_le _, rfl⟩ ?_
    rintro k ⟨hk, hI⟩
    repeat (first|refine q1 ?_|refine q3 ?_|refine q4 tab rfl rfl ?_|refine q5 ?_|refine q6 ?_)
    refine TC.condP rfl (fun hlt' => ?_) (fun hlt' => ?_)
    · have hlt : k < l1.length := by omega
      have hx1 : l1[k]? = some l1[k] := by simp [hlt]
      have hx2 : l2[k]? = some (l2[k]'(by omega)) := by simp [show k < l2.length by omega]
      have ht1 : l1.take (k + 1) = l1.take k ++ [l1[k]] := List.take_succ_eq_append_getElem hlt
      have ht2 : l2.take (k + 1) = l2.take k ++ [l2[k]'(by omega)] := List.take_succ_eq_append_getElem (by omega)
      generalize l1[k] = a at hx1 ht1
      generalize (l2[k]'(by omega)) = c at hx2 ht2
      repeat (first|refine q1 ?_|refine q2 ?_|refine q6 ?_|refine q13 ?_)
      refine TC.draw0 [] mixed 9 rfl ?_
      refine DO.pure tab (by repeat (first|exact Calm.ret|refine Calm.then ?_|refine Calm.block ?_)) (by kernel_rfl) [0, 1] (by kernel_rfl) rfl ?_
      refine DO.index tab rInt 2 k h1 (by repeat (first|exact Calm.ret|refine Calm.then ?_|refine Calm.block ?_)) (by kernel_rfl) (by kernel_rfl) rfl rfl rfl rfl rfl rfl rfl (by first | rfl | omega) rfl hx1 ?_
      rintro b1 i1 v1 hv1 hA1; obtain rfl := (show v1 = a from hv1)
      (refine DO.loadA (k := 0) tab 3 hA1 (by repeat (first|exact Calm.ret|refine Calm.then ?_|refine Calm.block ?_)) (by kernel_rfl) (by kernel_rfl) rfl rfl rfl rfl rfl rfl rfl ?_)
      refine DO.pure tab (by repeat (first|exact Calm.ret|refine Calm.then ?_|refine Calm.block ?_)) (by kernel_rfl) [4, 5] (by kernel_rfl) rfl ?_
      refine DO.index tab rInt 6 k h2 (by repeat (first|exact Calm.ret|refine Calm.then ?_|refine Calm.block ?_)) (by kernel_rfl) (by kernel_rfl) rfl rfl rfl rfl rfl rfl rfl (by first | rfl | omega) rfl hx2 ?_
      rintro b2 i2 v2 hv2 hA2; obtain rfl := (show v2 = c from hv2)
      (refine DO.loadA (k := 0) tab 7 hA2 (by repeat (first|exact Calm.ret|refine Calm.then ?_|refine Calm.block ?_)) (by kernel_rfl) (by kernel_rfl) rfl rfl rfl rfl rfl rfl rfl ?_)
      refine DO.pure tab (by repeat (first|exact Calm.ret|refine Calm.then ?_|refine Calm.block ?_)) (by kernel_rfl) [8] (by kernel_rfl) rfl ?_
      (refine DO.nil0 (by kernel_rfl) ?_)
      rotate_left 1
      repeat (refine q6 ?_)
      refine TC.condN rfl (fun hne => ?_) (fun hne => ?_)
      · repeat (first|refine q1 ?_|refine q3 ?_|refine q4 tab rfl rfl ?_|refine q5 ?_|refine q6 ?_|refine q8 ?_|refine q9 ?_|refine q15 ?_)
        refine retQ_ret rfl (by repeat (exact List.Sublist.refl _)) ⟨rfl, rfl, ?_⟩
        rw [decide_eq_false]
        intro e
        subst e
        rw [hx1] at hx2
        exact hne (by simpa using hx2)
      · have he : v1 = v2 := by simpa using hne
        repeat (first|refine q3 ?_|refine q4 tab rfl rfl ?_|refine q6 ?_|refine q7 ?_|refine q13 ?_)
        refine TO.step rfl (OT.arith (r' := ((k + 1 : Nat) : Int)) rfl rfl rfl rfl rfl rfl rfl (by omega) ?_)
        repeat (first|refine q4 tab rfl rfl ?_|refine q5 ?_|refine q6 ?_)
        exact ⟨k + 1, (by repeat (first|exact trivial|refine And.intro rfl ?_)), (by repeat (first|exact trivial|refine And.intro rfl ?_)), rfl, rfl, (by repeat (exact List.Sublist.refl _)), ⟨by omega, by rw [ht1, ht2, hI, he]⟩, by omega⟩
    · repeat (first|refine q1 ?_|refine q3 ?_|refine q4 tab rfl rfl ?_|refine q5 ?_|refine q6 ?_|refine q10 ?_|refine q11 ?_|refine q14 ?_|refine q15 ?_)
      refine retQ_ret rfl (by repeat (exact List.Sublist.refl _)) ⟨rfl, rfl, ?_⟩
      rw [List.take_of_length_le (by omega), List.take_of_length_le (by omega)] at hI
      rw [decide_eq_true hI]

def rg0 : List Rg := [⟨0, 3⟩, ⟨1, 2⟩]
theorem slots0 : SlotsR rg0 [0, 1] 2 := by
  unfold SlotsR
  rw [if_neg (by decide)]
  refine ⟨[0, 1], ⟨[⟨3, 0⟩, ⟨2, 1⟩], [], 2, [0, 1]⟩, ⟨by decide, by decide⟩, ?_, rfl, rfl⟩
  refine .cons (b := ⟨[⟨3, 0⟩], [], 1, [0, 0]⟩) ⟨0, ⟨fun _ => ⟨rfl, rfl, rfl⟩, fun h => absurd rfl h⟩, rfl, rfl⟩ ?_
  exact .cons ⟨1, ⟨fun _ => ⟨rfl, rfl, rfl⟩, fun h => absurd rfl h⟩, rfl, rfl⟩ (.nil _)
set_option maxHeartbeats 1000000 in
theorem awake_law (m : Mem) (L : List Item) : TCall Try.prog 8 ⟨[]⟩ m L (Made m L fun r m' => r = .bool true) := by
  unfold TCall
  refine TCallX.enter Try.func8 rfl 29 rfl ?_
  repeat (first|refine q1 ?_|refine q3 ?_|refine q4 tab rfl rfl ?_|refine q5 ?_|refine q6 ?_)
  refine TO.step rfl (OT.lit tab rfl rfl rfl rfl (fun bl => ?_))
  refine TO.freeze fun m1 hm1 hA => ?_
  have hs : SlRep rRg m1 ⟨some ⟨bl, 0, none⟩, 2, 2⟩ rg0 := ⟨rfl, Nat.le_refl _, show 2 * 16 ≤ 140737488355328 by decide, rg0, ⟨rfl, rfl, trivial⟩, .inr ⟨bl, 0, rfl, hA⟩⟩
  skip
  refine TO.step rfl (OT.call rfl rfl rfl rfl rfl rfl goes7 ((assign_law m1 _ _ rg0 hs).x ?_));
  rintro _ m2 _ ⟨hm2, rfl, t, s, n, rfl, ht, hR⟩
  obtain ⟨rfl, rfl⟩ := hR.det slots0
  have hc : checkM rg0 = 0 := by decide
  rw [hc]
  obtain ⟨ta, tl, tc⟩ := t
  have hl := ht.len
  simp only [List.length_cons, List.length_nil] at hl
  subst hl
  repeat (first|refine q1 ?_|refine q3 ?_|refine q4 tab rfl rfl ?_|refine q5 ?_|refine q6 ?_)
  refine TO.step rfl (OT.index tab rInt 1 ht rfl rfl rfl rfl rfl (by first | rfl | omega | (simp only; omega)) rfl (rfl : ([0, 1] : List Int)[1]? = some 1) ?_)
  rintro b3 i3 hd3 hrd3 hA3
  obtain rfl := (show hd3 = 1 from hrd3)
  (refine TO.step rfl (OT.loadA0 tab hA3 rfl rfl rfl rfl rfl ?_))
  repeat (first|refine q4 tab rfl rfl ?_|refine q5 ?_|refine q6 ?_|refine q15 ?_)
  refine retQ_ret rfl (by repeat (exact List.Sublist.refl _)) ⟨Mem.le_trans hm1 hm2, rfl, rfl⟩
/-- later, as1 the machine counts -/
def wR (n : Int) (r : Rg) : Rg := ⟨IntKind.i64.wrap (r.frm + n), IntKind.i64.wrap (r.to + n)⟩
theorem wR_sh {n : Int} (hn : 0 ≤ n ∧ n < 65536) {l : List Rg} (h0 : checkM l = 0) (ht : ∀ x ∈ l, x.to ≤ 1099511627776) : l.map (wR n) = l.map (shR n) := by
  apply List.map_congr_left
  intro x hx
  have hb : badR x = false := by
    unfold checkM at h0
    split at h0
    · cases h0
    · split at h0
      · cases h0
      · rename_i h2
        cases e : badR x with
        | false => rfl
        | true => exact absurd (List.any_eq_true.2 ⟨x, hx, e⟩) h2
  simp only [badR, Bool.or_eq_false_iff, decide_eq_false_iff_not] at hb
  have := ht x hx
  unfold wR shR
  rw [wrap64_in (by omega) (by omega), wrap64_in (by omega) (by omega)]
set_option maxHeartbeats 2000000 in
theorem moved_law (m : Mem) (L : List Item) (ss : Sl) (l : List Rg) (hss : SlRep rRg m ss l) (n : Int) (hn : 0 ≤ n ∧ n < 65536) :
    TCall Try.prog 3 ⟨[ss.v, .int .u16 n]⟩ m L (Made m L fun r m' => r = .bool true) := by
  have hl := hss.len
  have hq := hss.small rfl
  have hfit : ss.len * 16 ≤ 140737488355328 := hss.fit
  unfold TCall
  refine TCallX.enter Try.func3 rfl 78 rfl ?_
  repeat (first|refine q1 ?_|refine q3 ?_|refine q4 tab rfl rfl ?_|refine q5 ?_|refine q6 ?_)
  refine TO.step rfl (OT.call rfl rfl rfl rfl rfl rfl goes7 ((assign_law m _ ss l hss).x ?_));
  rintro _ m1 _ ⟨hm1, rfl, t, s, nn, rfl, ht, hR⟩
  have hss1 := hss.mono hm1
  repeat (first|refine q1 ?_|refine q3 ?_|refine q4 tab rfl rfl ?_|refine q5 ?_|refine q6 ?_)
  refine TO.step rfl (OT.lit tab rfl rfl rfl rfl (fun bz => ?_))
  repeat (first|refine q1 ?_|refine q2 ?_|refine q3 ?_|refine q4 tab rfl rfl ?_|refine q5 ?_|refine q6 ?_)
  refine TC.growL (size := 2) bz ?_
  refine TC.loopK (ι := Grow) [0, 1, 5, 6, 7] rfl (fun x => [(9, .int .i64 (x.k : Int)), (8, x.s.v)]) (fun x => x.m) (fun x => tok x.s 2 :: L) (fun x => x.k ≤ l.length ∧ m1 ≤ x.m ∧ Own x.s ∧ SlRep rRg x.m x.s ((l.take x.k).map (wR n)) ∧ ∀ y ∈ l.take x.k, y.to ≤ 1099511627776) (fun x => l.length - x.k) ⟨0, ⟨some ⟨bz, 0, none⟩, 0, 0⟩, m1⟩ (by repeat (first|exact trivial|refine And.intro rfl ?_)) rfl (by repeat (first|exact List.Sublist.refl _|refine List.Sublist.cons_cons _ ?_|refine List.Sublist.cons _ ?_)) ⟨Nat.zero_le _, Mem.le_refl _, Own.lit _ _ _, SlRep.lit0 _ _ _, fun y hy => by simp at hy⟩ ?_
  rintro ⟨k, sg, m2⟩ ⟨hk, hm2, hog, hsg, hT⟩
  simp only at hk hm2 hog hsg hT ⊢
  have hss2 := hss1.mono hm2
  repeat (first|refine q1 ?_|refine q3 ?_|refine q4 tab rfl rfl ?_|refine q5 ?_|refine q6 ?_)
  refine TC.condP rfl (fun hlt' => ?_) (fun hlt' => ?_)
  · have hlt : k < l.length := by omega
    have hx : l[k]? = some l[k] := by simp [hlt]
    have hxt : l.take (k + 1) = l.take k ++ [l[k]] := List.take_succ_eq_append_getElem hlt
    generalize l[k] = x at hx hxt
    repeat (first|refine q1 ?_|refine q2 ?_|refine q3 ?_|refine q4 tab rfl rfl ?_|refine q6 ?_|refine q13 ?_)
    refine TO.step rfl (OT.index tab rRg k hss2 rfl rfl rfl rfl rfl (by first | rfl | omega | (simp only; omega)) rfl hx ?_)
    rintro b2 i2 x2 hf2 hA2
    obtain rfl := (show x2 = x from hf2)
    repeat (refine q4 tab rfl rfl ?_)
    (refine TO.step rfl (OT.loadA tab hA2 rfl rfl rfl rfl rfl ?_))
    repeat (first|refine q4 tab rfl rfl ?_|refine q5 ?_|refine q6 ?_)
    refine TC.condP rfl (fun hbig => ?_) (fun hbig => ?_)
    · repeat (first|refine q1 ?_|refine q3 ?_)
      refine TO.step rfl (OT.call rfl rfl rfl rfl rfl rfl goes8 ((awake_law _ _).x ?_));
      rintro _ m8 _ ⟨hm8, rfl, rfl⟩
      repeat (first|refine q4 tab rfl rfl ?_|refine q5 ?_|refine q6 ?_|refine q8 ?_|refine q9 ?_|refine q15 ?_)
      refine retQ_ret rfl (by repeat (first|exact List.Sublist.refl _|refine List.Sublist.cons _ ?_)) ⟨Mem.le_trans hm1 (Mem.le_trans hm2 hm8), rfl, rfl⟩
    · repeat (first|refine q6 ?_|refine q13 ?_)
      refine TC.draw [] mixed 21 rfl [] (tok sg 2 :: L) (by first | exact List.Perm.refl _ | (rw [List.append_nil]; exact List.Perm.refl _)) ?_
      refine DO.pure tab (by repeat (first|exact Calm.ret|refine Calm.then ?_|refine Calm.block ?_)) (by kernel_rfl) [0, 1, 2] (by kernel_rfl) rfl ?_
      refine DO.index tab rRg 3 k hss2 (by repeat (first|exact Calm.ret|refine Calm.then ?_|refine Calm.block ?_)) (by kernel_rfl) (by kernel_rfl) rfl rfl rfl rfl rfl rfl rfl (by first | rfl | omega) rfl hx ?_
      rintro b3 i3 x3 hf3 hA3; obtain rfl := (show x3 = x2 from hf3)
      refine DO.pure tab (by repeat (first|exact Calm.ret|refine Calm.then ?_|refine Calm.block ?_)) (by kernel_rfl) [4] (by kernel_rfl) rfl ?_
      (refine DO.loadA tab 5 hA3 (by repeat (first|exact Calm.ret|refine Calm.then ?_|refine Calm.block ?_)) (by kernel_rfl) (by kernel_rfl) rfl rfl rfl rfl rfl rfl rfl ?_)
      refine DO.pure tab (by repeat (first|exact Calm.ret|refine Calm.then ?_|refine Calm.block ?_)) (by kernel_rfl) [6] (by kernel_rfl) rfl ?_
      refine DO.conv (r := n) tab 7 (by repeat (first|exact Calm.ret|refine Calm.then ?_|refine Calm.block ?_)) (by kernel_rfl) (by kernel_rfl) rfl rfl rfl rfl rfl rfl rfl rfl (wrap64_in (by omega) (by omega)) ?_
      refine DO.arithK (r' := IntKind.i64.wrap (x3.frm + n)) 8 (by repeat (first|exact Calm.ret|refine Calm.then ?_|refine Calm.block ?_)) (by kernel_rfl) (by kernel_rfl) rfl rfl rfl rfl rfl rfl rfl rfl rfl ?_
      refine DO.pure tab (by repeat (first|exact Calm.ret|refine Calm.then ?_|refine Calm.block ?_)) (by kernel_rfl) [9, 10] (by kernel_rfl) rfl ?_
      refine DO.index tab rRg 11 k hss2 (by repeat (first|exact Calm.ret|refine Calm.then ?_|refine Calm.block ?_)) (by kernel_rfl) (by kernel_rfl) rfl rfl rfl rfl rfl rfl rfl (by first | rfl | omega) rfl hx ?_
      rintro b4 i4 x4 hf4 hA4; obtain rfl := (show x4 = x3 from hf4)
      refine DO.pure tab (by repeat (first|exact Calm.ret|refine Calm.then ?_|refine Calm.block ?_)) (by kernel_rfl) [12] (by kernel_rfl) rfl ?_
      (refine DO.loadA tab 13 hA4 (by repeat (first|exact Calm.ret|refine Calm.then ?_|refine Calm.block ?_)) (by kernel_rfl) (by kernel_rfl) rfl rfl rfl rfl rfl rfl rfl ?_)
      refine DO.pure tab (by repeat (first|exact Calm.ret|refine Calm.then ?_|refine Calm.block ?_)) (by kernel_rfl) [14] (by kernel_rfl) rfl ?_
      refine DO.conv (r := n) tab 15 (by repeat (first|exact Calm.ret|refine Calm.then ?_|refine Calm.block ?_)) (by kernel_rfl) (by kernel_rfl) rfl rfl rfl rfl rfl rfl rfl rfl (wrap64_in (by omega) (by omega)) ?_
      refine DO.arithK (r' := IntKind.i64.wrap (x4.to + n)) 16 (by repeat (first|exact Calm.ret|refine Calm.then ?_|refine Calm.block ?_)) (by kernel_rfl) (by kernel_rfl) rfl rfl rfl rfl rfl rfl rfl rfl rfl ?_
      refine DO.pure tab (by repeat (first|exact Calm.ret|refine Calm.then ?_|refine Calm.block ?_)) (by kernel_rfl) [17] (by kernel_rfl) rfl ?_
      refine DO.run 18 rfl rfl (by kernel_rfl) rfl ?_
      refine OT.lit tab rfl rfl rfl rfl (fun bl => ?_); refine ⟨Mem.le_refl _, .cells bl 0 (rRg.enc (wR n x4)) :: tok sg 2 :: L, List.Perm.refl _, ?_⟩
      refine DO.run 19 rfl rfl (by kernel_rfl) rfl ?_
      refine OT.append1 tab rRg 0 (hd' := wR n x4) (a := wR n x4) hsg hog rfl rfl rfl rfl rfl rfl rfl rfl (by simp only [rRg, List.length_map, List.length_take]; omega) (fun s' m3 hm3 hs' ho' => ?_); refine ⟨hm3, tok s' 2 :: L, List.Perm.refl _, ?_⟩
      refine DO.pure tab (by repeat (first|exact Calm.ret|refine Calm.then ?_|refine Calm.block ?_)) (by kernel_rfl) [20] (by kernel_rfl) rfl ?_
      (refine DO.nil (by kernel_rfl) ?_)
      rotate_left 1
      repeat (first|refine q3 ?_|refine q4 tab rfl rfl ?_|refine q6 ?_|refine q7 ?_)
      refine TO.step rfl (OT.arith (r' := ((k + 1 : Nat) : Int)) rfl rfl rfl rfl rfl rfl rfl (by omega) ?_)
      repeat (first|refine q4 tab rfl rfl ?_|refine q5 ?_|refine q6 ?_)
      refine ⟨⟨k + 1, s', m3⟩, (by repeat (first|exact trivial|refine And.intro rfl ?_)), (by repeat (first|exact trivial|refine And.intro rfl ?_)), rfl, rfl, (by repeat (exact List.Sublist.refl _)), ⟨by simp only; omega, Mem.le_trans hm2 hm3, ho', ?_, fun y hy => ?_⟩, by simp only; omega⟩
      · simp only
        rw [hxt, List.map_append]
        exact hs'
      · simp only at hy
        rw [hxt] at hy
        rcases List.mem_append.1 hy with hy | hy
        · exact hT y hy
        · simp only [List.mem_singleton] at hy
          subst hy; omega
  · have hkl : k = l.length := by omega
    subst hkl
    rw [List.take_length] at hsg hT
    repeat (first|refine q1 ?_|refine q3 ?_|refine q6 ?_|refine q10 ?_|refine q11 ?_|refine q14 ?_)
    refine TO.step rfl (OT.call rfl rfl rfl rfl rfl rfl goes8 ((awake_law m2 _).x ?_));
    rintro _ m4 _ ⟨hm4, rfl, rfl⟩
    repeat (first|refine q4 tab rfl rfl ?_|refine q5 ?_|refine q6 ?_)
    refine TC.condN rfl (fun hb => ?_) (fun hb => ?_)
    · repeat (first|refine q1 ?_|refine q3 ?_)
      refine TO.step rfl (OT.call rfl rfl rfl rfl rfl rfl goes8 ((awake_law _ _).x ?_));
      rintro _ m8 _ ⟨hm8, rfl, rfl⟩
      repeat (first|refine q4 tab rfl rfl ?_|refine q5 ?_|refine q6 ?_|refine q8 ?_|refine q15 ?_)
      refine retQ_ret rfl (by repeat (first|exact List.Sublist.refl _|refine List.Sublist.cons _ ?_)) ⟨Mem.le_trans hm1 (Mem.le_trans hm2 (Mem.le_trans hm4 hm8)), rfl, rfl⟩
    · have h0 : checkM l = 0 := by simpa using hb
      rw [wR_sh hn h0 hT] at hsg
      repeat (first|refine q1 ?_|refine q3 ?_|refine q4 tab rfl rfl ?_|refine q6 ?_|refine q13 ?_)
      refine TO.step rfl (OT.call rfl rfl rfl rfl rfl rfl goes7 ((assign_law m4 _ sg _ (hsg.mono hm4)).x ?_));
      rintro _ m5 _ ⟨hm5, rfl, t2, s2, n2, rfl, ht2, hR2⟩
      obtain ⟨rfl, rfl⟩ := hR2.det (hR.sh h0 hn.1)
      rw [check_sh h0 hn.1]
      have hnn : decide (n2 = n2) = true := decide_eq_true rfl
      repeat (first|refine q1 ?_|refine q3 ?_|refine q4 tab rfl rfl ?_|refine q5 ?_|refine q6 ?_)
      simp only [hnn]
      repeat (refine q4 tab rfl rfl ?_)
      refine TO.step rfl (OT.call rfl rfl rfl rfl rfl rfl goes9 ((same_law m5 _ t t2 s2 s2 (((ht.mono hm2).mono hm4).mono hm5) ht2).x ?_));
      rintro _ _ _ ⟨rfl, rfl, rfl⟩
      have hea : decide (s2 = s2) = true := decide_eq_true rfl
      simp only [hea]
      repeat (first|refine q4 tab rfl rfl ?_|refine q5 ?_|refine q6 ?_|refine q15 ?_)
      refine retQ_ret rfl (by repeat (first|exact List.Sublist.refl _|refine List.Sublist.cons _ ?_)) ⟨Mem.le_trans hm1 (Mem.le_trans hm2 (Mem.le_trans hm4 hm5)), rfl, rfl⟩
end Go.Sep

/-
  Slots, plainly: ranges that follow one another, once and twice.
-/
set_option linter.unusedVariables false
set_option linter.unusedSimpArgs false
namespace Go.Sep
def endA : List Int → Int → Int
  | [], a => a
  | x :: xs, a => endA xs (a + (x + 1))
def rgs : List Int → Int → List Rg
  | [], _ => []
  | x :: xs, a => ⟨a, a + (x + 1)⟩ :: rgs xs (a + (x + 1))
theorem rgs_len : ∀ (xs : List Int) (a : Int), (rgs xs a).length = xs.length
  | [], _ => rfl
  | x :: xs, a => by simp [rgs, rgs_len xs]
theorem rgs_snoc : ∀ (xs : List Int) (a x : Int), rgs (xs ++ [x]) a = rgs xs a ++ [⟨endA xs a, endA xs a + (x + 1)⟩]
  | [], a, x => rfl
  | y :: xs, a, x => by simp [rgs, endA, rgs_snoc xs]
theorem endA_snoc : ∀ (xs : List Int) (a x : Int), endA (xs ++ [x]) a = endA xs a + (x + 1)
  | [], a, x => rfl
  | y :: xs, a, x => by simp [endA, endA_snoc xs]
theorem rgs_at : ∀ (xs : List Int) (a : Int) (k : Nat) (x : Int), xs[k]? = some x → (rgs xs a)[k]? = some ⟨endA (xs.take k) a, endA (xs.take (k + 1)) a⟩
  | [], a, k, x, h => by simp at h
  | y :: xs, a, 0, x, h => by simp [rgs, endA]
  | y :: xs, a, k + 1, x, h => by
    have := rgs_at xs (a + (y + 1)) k x (by simpa using h)
    simpa [rgs, endA] using this
/-- where range k begins -/
def bgn (xs : List Int) (k : Nat) : Int := endA (xs.take k) 0
theorem bgn_succ {xs : List Int} {k : Nat} {x : Int} (h : xs[k]? = some x) : bgn xs (k + 1) = bgn xs k + (x + 1) := by
  unfold bgn
  rw [List.take_add_one, h]
  exact endA_snoc _ _ _
theorem bgn_lt {xs : List Int} (hx : ∀ x ∈ xs, 0 ≤ x) : ∀ {i j : Nat}, i < j → j ≤ xs.length → bgn xs i < bgn xs j := by
  intro i j hij hj
  induction j with
  | zero => omega
  | succ j ih =>
    have hg : xs[j]? = some xs[j] := by simp [show j < xs.length by omega]
    have h1 := bgn_succ hg
    have h2 := hx _ (List.getElem_mem (show j < xs.length by omega))
    by_cases e : i = j
    · subst e; omega
    · have := ih (by omega) (by omega)
      omega
theorem bgn_nonneg {xs : List Int} (hx : ∀ x ∈ xs, 0 ≤ x) {i : Nat} (hi : i ≤ xs.length) : 0 ≤ bgn xs i := by
  by_cases e : i = 0
  · rw [e]; simp [bgn, endA]
  · have := bgn_lt hx (i := 0) (j := i) (by omega) hi
    have h0 : bgn xs 0 = 0 := by simp [bgn, endA]
    omega
theorem rgs_get {xs : List Int} {k : Nat} (h : k < xs.length) : (rgs xs 0)[k]? = some ⟨bgn xs k, bgn xs (k + 1)⟩ := rgs_at xs 0 k xs[k] (by simp [h])
theorem rgD_one {xs : List Int} {k : Nat} (h : k < xs.length) : rgD (rgs xs 0) k = ⟨bgn xs k, bgn xs (k + 1)⟩ := by unfold rgD; rw [rgs_get h]; rfl
theorem rgD_two {xs : List Int} {k : Nat} (h : k < xs.length) : rgD (rgs xs 0 ++ rgs xs 0) k = ⟨bgn xs k, bgn xs (k + 1)⟩ ∧ rgD (rgs xs 0 ++ rgs xs 0) (xs.length + k) = ⟨bgn xs k, bgn xs (k + 1)⟩ := by
  have hl := rgs_len xs 0
  constructor
  · unfold rgD; rw [List.getElem?_append_left (by omega), rgs_get h]; rfl
  · unfold rgD; rw [List.getElem?_append_right (by omega), hl, Nat.add_sub_cancel_left, rgs_get h]; rfl
theorem no_bad {xs : List Int} (hx : ∀ x ∈ xs, 0 ≤ x) : ∀ r ∈ rgs xs 0, badR r = false := fun r hr => by
  obtain ⟨k, hk⟩ := List.getElem?_of_mem hr
  have hkl : k < xs.length := by have := (List.getElem?_eq_some_iff.1 hk).1; rw [rgs_len] at this; exact this
  rw [rgs_get hkl] at hk
  simp only [Option.some.injEq] at hk
  subst hk
  have h1 := bgn_lt hx (i := k) (j := k + 1) (by omega) hkl
  have h2 := bgn_nonneg hx (i := k) (by omega)
  simp only [badR, Bool.or_eq_false_iff, decide_eq_false_iff_not]
  omega
theorem check_one {xs : List Int} (hx : ∀ x ∈ xs, 0 ≤ x) (hl : xs.length ≤ 200) : checkM (rgs xs 0) = 0 := by
  unfold checkM
  rw [if_neg (by rw [rgs_len]; omega), if_neg]
  intro h
  obtain ⟨r, hr, hb⟩ := List.any_eq_true.1 h
  rw [no_bad hx r hr] at hb; cases hb
theorem check_two {xs : List Int} (hx : ∀ x ∈ xs, 0 ≤ x) (hl : xs.length ≤ 200) : checkM (rgs xs 0 ++ rgs xs 0) = 0 := by
  unfold checkM
  rw [if_neg (by rw [List.length_append, rgs_len]; omega), if_neg]
  intro h
  obtain ⟨r, hr, hb⟩ := List.any_eq_true.1 h
  rcases List.mem_append.1 hr with hr | hr
  · rw [no_bad hx r hr] at hb; cases hb
  · rw [no_bad hx r hr] at hb; cases hb
theorem set_rep {n i : Nat} {x : Int} : (List.replicate n x).set i x = List.replicate n x := by
  apply List.ext_getElem?
  intro k
  rw [List.getElem?_set]
  split
  · rename_i e; subst e
    rw [List.getElem?_replicate]
    simp
  · rfl
/-! once -/
def ord1 (k : Nat) : List Int := (List.range k).map fun i : Nat => (i : Int)
theorem ord1_succ (k : Nat) : ord1 (k + 1) = ord1 k ++ [(k : Int)] := by simp [ord1, List.range_succ]
def st1 (xs : List Int) (k : Nat) : AS := ⟨if k = 0 then [] else [⟨bgn xs k, 0⟩], [], if k = 0 then 0 else 1, List.replicate xs.length 0⟩
theorem step1 {xs : List Int} (hx : ∀ x ∈ xs, 0 ≤ x) {k : Nat} (h : k < xs.length) : StepR (rgs xs 0) (st1 xs k) (k : Int) (st1 xs (k + 1)) := by
  have hf : fromOf (rgs xs 0) (k : Int) = bgn xs k := by unfold fromOf; rw [Int.toNat_natCast, rgD_one h]
  refine ⟨⟨0, ?_, ?_, ?_⟩⟩
  · rw [hf]
    by_cases e : k = 0
    · subst e
      exact ⟨fun _ => ⟨rfl, rfl, rfl⟩, fun h => absurd rfl h⟩
    · have e1 : freeAt (st1 xs k) (bgn xs k) = [0] := by simp [freeAt, st1, e]
      rw [e1]
      refine ⟨fun h => (by cases h), fun _ => ⟨by simp, by simp, ?_, by simp [st1]⟩⟩
      simp [st1, e]
  · rw [hf, Int.toNat_natCast, rgD_one h]
    by_cases e : k = 0
    · subst e; simp [st1, holdAt]
    · simp [st1, holdAt, e]
  · simp only [st1]
    rw [set_rep]
theorem all1 {xs : List Int} (hx : ∀ x ∈ xs, 0 ≤ x) : ∀ k, k ≤ xs.length → AllR (rgs xs 0) (ord1 k) (as0 (rgs xs 0)) (st1 xs k)
  | 0, _ => by
    have e : as0 (rgs xs 0) = st1 xs 0 := by simp [as0, st1, rgs_len]
    rw [e]; exact .nil _
  | k + 1, h => by
    rw [ord1_succ]
    exact (all1 hx k (by omega)).snoc (step1 hx (by omega))
theorem slots_one {xs : List Int} (hx : ∀ x ∈ xs, 0 ≤ x) (hl : xs.length ≤ 200) : SlotsR (rgs xs 0) (List.replicate xs.length 0) (if xs.length = 0 then 0 else 1) := by
  unfold SlotsR
  rw [if_neg (by simpa using check_one hx hl)]
  refine ⟨ord1 xs.length, st1 xs xs.length, ⟨by rw [rgs_len]; exact .refl _, ?_⟩, all1 hx _ (Nat.le_refl _), rfl, rfl⟩
  unfold ord1
  rw [List.pairwise_map]
  refine List.pairwise_lt_range.imp_of_mem fun {a b} ha hb hab => ?_
  have ha := List.mem_range.1 ha
  have hb := List.mem_range.1 hb
  have := bgn_lt hx hab (by omega)
  unfold ltR fromOf
  rw [Int.toNat_natCast, Int.toNat_natCast, rgD_one ha, rgD_one hb, decide_eq_true this]
  rfl
/-! twice -/
def ord2 (n : Nat) : Nat → List Int
  | 0 => []
  | k + 1 => ord2 n k ++ [(k : Int), ((n + k : Nat) : Int)]
def st2 (xs : List Int) (k : Nat) : AS := ⟨if k = 0 then [] else [⟨bgn xs k, 0⟩, ⟨bgn xs k, 1⟩], [], if k = 0 then 0 else 2, List.replicate xs.length 0 ++ (List.replicate k 1 ++ List.replicate (xs.length - k) 0)⟩
def st2h (xs : List Int) (k : Nat) : AS := ⟨[⟨bgn xs (k + 1), 0⟩], if k = 0 then [] else [1], if k = 0 then 1 else 2, List.replicate xs.length 0 ++ (List.replicate k 1 ++ List.replicate (xs.length - k) 0)⟩
theorem step2a {xs : List Int} (hx : ∀ x ∈ xs, 0 ≤ x) {k : Nat} (h : k < xs.length) : StepR (rgs xs 0 ++ rgs xs 0) (st2 xs k) (k : Int) (st2h xs k) := by
  have hf : fromOf (rgs xs 0 ++ rgs xs 0) (k : Int) = bgn xs k := by unfold fromOf; rw [Int.toNat_natCast, (rgD_two h).1]
  refine ⟨⟨0, ?_, ?_, ?_⟩⟩
  · rw [hf]
    by_cases e : k = 0
    · subst e
      exact ⟨fun _ => ⟨rfl, rfl, rfl⟩, fun h => absurd rfl h⟩
    · have e1 : freeAt (st2 xs k) (bgn xs k) = [0, 1] := by simp [freeAt, st2, e]
      rw [e1]
      refine ⟨fun h => (by cases h), fun _ => ⟨by simp, by simp, ?_, ?_⟩⟩
      · simp [st2, st2h, e]
      · simp [st2h, e]
  · rw [hf, Int.toNat_natCast, (rgD_two h).1]
    by_cases e : k = 0
    · subst e; simp [st2, st2h, holdAt]
    · simp [st2, st2h, holdAt, e]
  · simp only [st2, st2h, Int.toNat_natCast]
    rw [List.set_append_left _ _ (by simpa using h), set_rep]
theorem set_mid {n k : Nat} (h : k < n) : (List.replicate k (1 : Int) ++ List.replicate (n - k) 0).set k 1 = List.replicate (k + 1) 1 ++ List.replicate (n - (k + 1)) 0 := by
  rw [List.set_append_right _ _ (by simp), List.length_replicate, Nat.sub_self, show n - k = (n - (k + 1)) + 1 by omega, List.replicate_succ, List.set_cons_zero, List.replicate_succ' (n := k), List.append_assoc]
  rfl
theorem step2b {xs : List Int} (hx : ∀ x ∈ xs, 0 ≤ x) {k : Nat} (h : k < xs.length) : StepR (rgs xs 0 ++ rgs xs 0) (st2h xs k) ((xs.length + k : Nat) : Int) (st2 xs (k + 1)) := by
  have hf : fromOf (rgs xs 0 ++ rgs xs 0) ((xs.length + k : Nat) : Int) = bgn xs k := by unfold fromOf; rw [Int.toNat_natCast, (rgD_two h).2]
  have hlt := bgn_lt hx (i := k) (j := k + 1) (by omega) h
  have hnle : ¬ bgn xs (k + 1) ≤ bgn xs k := by omega
  refine ⟨⟨1, ?_, ?_, ?_⟩⟩
  · rw [hf]
    by_cases e : k = 0
    · subst e
      have e1 : freeAt (st2h xs 0) (bgn xs 0) = [] := by simp [freeAt, st2h, hnle]
      rw [e1]
      exact ⟨fun _ => ⟨rfl, rfl, rfl⟩, fun h => absurd rfl h⟩
    · have e1 : freeAt (st2h xs k) (bgn xs k) = [1] := by simp [freeAt, st2h, e, hnle]
      rw [e1]
      refine ⟨fun h => (by cases h), fun _ => ⟨by simp, by simp, ?_, by simp [st2]⟩⟩
      simp [st2, st2h, e]
  · rw [hf, Int.toNat_natCast, (rgD_two h).2]
    simp [st2, st2h, holdAt, hnle]
  · simp only [st2, st2h, Int.toNat_natCast]
    rw [List.set_append_right _ _ (by simp), List.length_replicate, Nat.add_sub_cancel_left, set_mid h]
theorem all2 {xs : List Int} (hx : ∀ x ∈ xs, 0 ≤ x) : ∀ k, k ≤ xs.length → AllR (rgs xs 0 ++ rgs xs 0) (ord2 xs.length k) (as0 (rgs xs 0 ++ rgs xs 0)) (st2 xs k)
  | 0, _ => by
    have e : as0 (rgs xs 0 ++ rgs xs 0) = st2 xs 0 := by simp [as0, st2, rgs_len]
    rw [e]; exact .nil _
  | k + 1, h => by
    have h1 := ((all2 hx k (by omega)).snoc (step2a hx (by omega))).snoc (step2b hx (by omega))
    rw [List.append_assoc] at h1
    exact h1
theorem ord2_perm (n : Nat) : ∀ k, k ≤ n → (ord2 n k).Perm ((List.range k).map (fun i : Nat => (i : Int)) ++ (List.range k).map (fun i : Nat => ((n + i : Nat) : Int)))
  | 0, _ => .refl _
  | k + 1, h => by
    rw [ord2, List.range_succ, List.map_append, List.map_append]
    refine ((ord2_perm n k (by omega)).append_right _).trans ?_
    simp only [List.map_cons, List.map_nil]
    rw [List.append_assoc, List.append_assoc]
    refine List.Perm.append_left _ ?_
    have h1 : ((List.range k).map (fun i : Nat => ((n + i : Nat) : Int)) ++ [(k : Int), ((n + k : Nat) : Int)]).Perm ([(k : Int)] ++ ((List.range k).map (fun i : Nat => ((n + i : Nat) : Int)) ++ [((n + k : Nat) : Int)])) := by
      have := List.perm_append_comm_assoc ((List.range k).map (fun i : Nat => ((n + i : Nat) : Int))) [(k : Int)] [((n + k : Nat) : Int)]
      exact this
    exact h1
theorem range_two (n : Nat) : (List.range (n + n)).map (fun i : Nat => (i : Int)) = (List.range n).map (fun i : Nat => (i : Int)) ++ (List.range n).map (fun i : Nat => ((n + i : Nat) : Int)) := by
  rw [List.range_add, List.map_append, List.map_map]
  rfl
theorem ord2_mem {n k : Nat} {x : Int} (h : x ∈ ord2 n k) : ∃ i, i < k ∧ (x = (i : Int) ∨ x = ((n + i : Nat) : Int)) := by
  induction k with
  | zero => cases h
  | succ k ih =>
    rw [ord2] at h
    rcases List.mem_append.1 h with h | h
    · obtain ⟨i, h1, h2⟩ := ih h
      exact ⟨i, by omega, h2⟩
    · simp only [List.mem_cons, List.not_mem_nil, or_false] at h
      exact ⟨k, by omega, h⟩
theorem ord2_pair {xs : List Int} (hx : ∀ x ∈ xs, 0 ≤ x) : ∀ k, k ≤ xs.length → (ord2 xs.length k).Pairwise fun a b => ltR (rgs xs 0 ++ rgs xs 0) a b = true
  | 0, _ => .nil
  | k + 1, h => by
    rw [ord2, List.pairwise_append]
    have hf1 : ∀ i, i < xs.length → fromOf (rgs xs 0 ++ rgs xs 0) (i : Int) = bgn xs i := fun i hi => by unfold fromOf; rw [Int.toNat_natCast, (rgD_two hi).1]
    have hf2 : ∀ i, i < xs.length → fromOf (rgs xs 0 ++ rgs xs 0) ((xs.length + i : Nat) : Int) = bgn xs i := fun i hi => by unfold fromOf; rw [Int.toNat_natCast, (rgD_two hi).2]
    refine ⟨ord2_pair hx k (by omega), ?_, fun a ha b hb => ?_⟩
    · refine List.pairwise_cons.2 ⟨fun b hb => ?_, List.pairwise_singleton _ _⟩
      simp only [List.mem_singleton] at hb
      subst hb
      unfold ltR
      rw [hf1 k (by omega), hf2 k (by omega)]
      simp
      omega
    · obtain ⟨i, hi, hai⟩ := ord2_mem ha
      have hfa : fromOf (rgs xs 0 ++ rgs xs 0) a = bgn xs i := by
        rcases hai with e | e
        · rw [e]; exact hf1 i (by omega)
        · rw [e]; exact hf2 i (by omega)
      have hfb : fromOf (rgs xs 0 ++ rgs xs 0) b = bgn xs k := by
        simp only [List.mem_cons, List.not_mem_nil, or_false] at hb
        rcases hb with e | e
        · rw [e]; exact hf1 k (by omega)
        · rw [e]; exact hf2 k (by omega)
      unfold ltR
      rw [hfa, hfb, decide_eq_true (bgn_lt hx hi (by omega))]
      rfl
theorem slots_two {xs : List Int} (hx : ∀ x ∈ xs, 0 ≤ x) (hl : xs.length ≤ 200) : SlotsR (rgs xs 0 ++ rgs xs 0) (List.replicate xs.length 0 ++ List.replicate xs.length 1) (if xs.length = 0 then 0 else 2) := by
  unfold SlotsR
  rw [if_neg (by simpa using check_two hx hl)]
  refine ⟨ord2 xs.length xs.length, st2 xs xs.length, ⟨?_, ord2_pair hx _ (Nat.le_refl _)⟩, all2 hx _ (Nat.le_refl _), by simp [st2], rfl⟩
  rw [List.length_append, rgs_len, range_two]
  exact ord2_perm _ _ (Nat.le_refl _)
end Go.Sep
