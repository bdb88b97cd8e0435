/-
  Walks of layer 13: the definition's Groups.
-/
import Derived.Test.YtopkiglcemcjnaaCxClosW
set_option linter.unusedVariables false
set_option linter.unusedSimpArgs false
namespace Go.Sep
open Go.Proofs
attribute [local irreducible] TC TO OT TCallX TCall DO DOt thenQ blockQ retQ At

@[reducible] def rBools : R Sl (List Bool) := rSl rBool

def badB (C : Nat → Nat → Bool) (dn : Nat → Bool) (f g : Nat) : Bool := C f g && !dn g && !decide (g = f) && !C g f
def rdyK (C : Nat → Nat → Bool) (dn : Nat → Bool) (f k : Nat) : Bool := (List.range k).all fun g => !badB C dn f g
theorem rdyK_succ (C : Nat → Nat → Bool) (dn : Nat → Bool) (f k : Nat) : rdyK C dn f (k + 1) = (rdyK C dn f k && !badB C dn f k) := by
  simp [rdyK, List.range_succ]
theorem rdyK_all (n : Nat) (C : Nat → Nat → Bool) (dn : Nat → Bool) (f : Nat) : rdyK C dn f n = readyB n C dn f := rfl
def inC (C : Nat → Nat → Bool) (f g : Nat) : Bool := decide (g = f) || (C f g && C g f)
def clsK (C : Nat → Nat → Bool) (f k : Nat) : List Int := ((List.range k).filter fun g => inC C f g).map fun g : Nat => (g : Int)
theorem clsK_succ (C : Nat → Nat → Bool) (f k : Nat) : clsK C f (k + 1) = if inC C f k then clsK C f k ++ [(k : Int)] else clsK C f k := by
  unfold clsK
  rw [List.range_succ, List.filter_append, List.map_append]
  by_cases h : inC C f k = true <;> simp [h]
theorem clsK_all (n : Nat) (C : Nat → Nat → Bool) (f : Nat) : clsK C f n = clsB n C f := rfl
theorem clsK_len (C : Nat → Nat → Bool) (f k : Nat) : (clsK C f k).length ≤ k := by
  unfold clsK
  rw [List.length_map]
  exact Nat.le_trans (List.length_filter_le _ _) (by simp)
theorem clsB_has {n : Nat} {C : Nat → Nat → Bool} {f v : Nat} (hv : v < n) : (clsB n C f).contains (v : Int) = inC C f v := by
  rw [Bool.eq_iff_iff, List.contains_iff_mem, ← clsK_all]
  simp only [clsK, List.mem_map, List.mem_filter, List.mem_range]
  constructor
  · rintro ⟨a, ⟨_, h2⟩, h3⟩
    have : a = v := by omega
    rw [← this]; exact h2
  · intro h
    exact ⟨v, ⟨hv, h⟩, rfl⟩
theorem inB_snoc (out : List (List Int)) (r : List Int) (v : Nat) : inB (out ++ [r]) v = (inB out v || r.contains (v : Int)) := by
  simp [inB]

theorem falses_le {out : List Bool} {k : Nat} : falses (out.set k true) ≤ falses out := by
  cases h : out[k]? with
  | none =>
    have : out.length ≤ k := by simpa using h
    rw [List.set_eq_of_length_le this]; exact Nat.le_refl _
  | some v =>
    cases v with
    | false => have := falses_set h; omega
    | true => rw [set_selfV h]; exact Nat.le_refl _
theorem falses_replicate (n : Nat) : falses (List.replicate n false) = n := by simp [falses]

structure RG where
  out : List (List Int)
  so : Sl
  D : List Bool
  m : Mem

structure RG2 where
  f : Nat
  nx : Int

structure RG4 where
  k : Nat
  sg : Sl
  D : List Bool
  m : Mem

/-- in the midst of a group -/
structure RGI (n : Nat) (C : Nat → Nat → Bool) (out : List (List Int)) (D0 : List Bool) (f k : Nat) (D : List Bool) : Prop where
  len : D.length = n
  val : ∀ v, v < n → D[v]? = some (inB out v || (decide (v < k) && inC C f v))
  fal : falses D + (if f < k then 1 else 0) ≤ falses D0

theorem RGI.put {n : Nat} {C : Nat → Nat → Bool} {out : List (List Int)} {D0 D : List Bool} {f k : Nat} (h : RGI n C out D0 f k D) (hk : k < n) (hin : inC C f k = true) (h0 : inB out f = false) : RGI n C out D0 f (k + 1) (D.set k true) := by
  have hl := h.len
  have hf := h.fal
  refine ⟨by simp [hl], fun v hv => ?_, ?_⟩
  · rw [List.getElem?_set]
    by_cases e : k = v
    · subst e
      rw [if_pos rfl, if_pos (by omega), hin]
      simp
    · rw [if_neg e, h.val v hv]
      have : decide (v < k + 1) = decide (v < k) := by rw [decide_eq_decide]; omega
      rw [this]
  · by_cases e : f = k
    · subst e
      have hd := h.val f hk
      rw [h0] at hd
      simp only [Nat.lt_irrefl, decide_false, Bool.false_and, Bool.or_self] at hd
      have := falses_set hd
      rw [if_neg (Nat.lt_irrefl _)] at hf
      rw [if_pos (by omega)]
      omega
    · have := falses_le (out := D) (k := k)
      by_cases h1 : f < k
      · rw [if_pos h1] at hf; rw [if_pos (by omega)]; omega
      · rw [if_neg h1] at hf; rw [if_neg (by omega)]; omega
theorem RGI.skip {n : Nat} {C : Nat → Nat → Bool} {out : List (List Int)} {D0 D : List Bool} {f k : Nat} (h : RGI n C out D0 f k D) (hout : inC C f k = false) : RGI n C out D0 f (k + 1) D := by
  have hne : f ≠ k := fun e => by subst e; simp [inC] at hout
  have hf := h.fal
  refine ⟨h.len, fun v hv => ?_, ?_⟩
  · rw [h.val v hv]
    by_cases e : v = k
    · subst e; rw [hout]; simp
    · have : decide (v < k + 1) = decide (v < k) := by rw [decide_eq_decide]; omega
      rw [this]
  · by_cases h1 : f < k
    · rw [if_pos h1] at hf; rw [if_pos (by omega)]; omega
    · rw [if_neg h1] at hf; rw [if_neg (by omega)]; omega

set_option maxHeartbeats 4000000 in
theorem groups_def (m : Mem) (L : List Item) (hh : HHier) (h : Hier) (hr : HierRep m hh h) (hsm : Small h) (hg : Good h) :
    TCall Try.prog 15 ⟨[hierV hh]⟩ m L (Made m L fun r m' => ∃ (t : Sl) (gs : List (List Int)) (C : Nat → Nat → Bool) (j : Nat), r = t.v ∧ SlRep rInts m' t gs ∧ (∀ K, refG h.funcs.toNat C (K + j) [] = gs) ∧ ∀ i j, i < h.funcs.toNat → j < h.funcs.toNat → (C i j = true ↔ Path1 (graphM h) i j)) := by
  have hfu := hr.funcs
  have hn := hg.funcs
  have hn2 := hsm.1
  unfold TCall
  refine TCallX.enter Try.func15 rfl 111 rfl ?_
  repeat (first | refine TC.seq ?_ | refine TC.block ?_ | refine TC.region ?_ | refine TO.pureP tab rfl rfl ?_ | refine TO.nil ?_ | refine thenQ_n ?_ | refine blockQ_n ?_ | refine thenQ_r ?_ | refine blockQ_r ?_ | refine thenQ_x ?_ | refine blockQ_hit ?_ | refine blockQ_miss rfl ?_ | refine TC.skip ?_ | refine TC.exit ?_ | refine TC.ret ?_ | refine TC.cond_t rfl ?_ | refine TC.cond_f rfl ?_)
  refine TO.step rfl (OT.box rfl rfl rfl rfl rfl (fun b => ?_))
  repeat (first | (first | refine TC.seq ?_ | refine TC.block ?_ | refine TC.region ?_ | refine TO.pureP tab rfl rfl ?_ | refine TO.nil ?_ | refine thenQ_n ?_ | refine blockQ_n ?_ | refine thenQ_r ?_ | refine blockQ_r ?_ | refine thenQ_x ?_ | refine blockQ_hit ?_ | refine blockQ_miss rfl ?_ | refine TC.skip ?_ | refine TC.exit ?_ | refine TC.ret ?_ | refine TC.cond_t rfl ?_ | refine TC.cond_f rfl ?_) | (first | refine TO.step rfl (OT.loadL tab 0 rfl rfl rfl rfl rfl rfl ?_) | refine TO.step rfl (OT.loadL0 tab 0 rfl rfl rfl rfl rfl rfl ?_) | refine TO.step rfl (OT.loadL tab 1 rfl rfl rfl rfl rfl rfl ?_) | refine TO.step rfl (OT.loadL0 tab 1 rfl rfl rfl rfl rfl rfl ?_) | refine TO.step rfl (OT.loadL tab 2 rfl rfl rfl rfl rfl rfl ?_) | refine TO.step rfl (OT.loadL0 tab 2 rfl rfl rfl rfl rfl rfl ?_) | refine TO.step rfl (OT.loadL tab 3 rfl rfl rfl rfl rfl rfl ?_) | refine TO.step rfl (OT.loadL0 tab 3 rfl rfl rfl rfl rfl rfl ?_) | refine TO.step rfl (OT.loadL tab 4 rfl rfl rfl rfl rfl rfl ?_) | refine TO.step rfl (OT.loadL0 tab 4 rfl rfl rfl rfl rfl rfl ?_) | refine TO.step rfl (OT.loadL tab 5 rfl rfl rfl rfl rfl rfl ?_) | refine TO.step rfl (OT.loadL0 tab 5 rfl rfl rfl rfl rfl rfl ?_) | refine TO.step rfl (OT.loadL tab 6 rfl rfl rfl rfl rfl rfl ?_) | refine TO.step rfl (OT.loadL0 tab 6 rfl rfl rfl rfl rfl rfl ?_) | refine TO.step rfl (OT.loadL tab 7 rfl rfl rfl rfl rfl rfl ?_) | refine TO.step rfl (OT.loadL0 tab 7 rfl rfl rfl rfl rfl rfl ?_) | refine TO.step rfl (OT.loadL tab 8 rfl rfl rfl rfl rfl rfl ?_) | refine TO.step rfl (OT.loadL0 tab 8 rfl rfl rfl rfl rfl rfl ?_) | refine TO.step rfl (OT.loadL tab 9 rfl rfl rfl rfl rfl rfl ?_) | refine TO.step rfl (OT.loadL0 tab 9 rfl rfl rfl rfl rfl rfl ?_)))
  refine TO.step rfl (OT.call rfl rfl rfl rfl rfl rfl goes16 ((closure_ref m _ hh h hr hsm hg).x ?_));
  rintro _ m1 _ ⟨hm1, rfl, tc, Cm, rfl, htc, hsq, hC⟩
  repeat (first | (first | refine TC.seq ?_ | refine TC.block ?_ | refine TC.region ?_ | refine TO.pureP tab rfl rfl ?_ | refine TO.nil ?_ | refine thenQ_n ?_ | refine blockQ_n ?_ | refine thenQ_r ?_ | refine blockQ_r ?_ | refine thenQ_x ?_ | refine blockQ_hit ?_ | refine blockQ_miss rfl ?_ | refine TC.skip ?_ | refine TC.exit ?_ | refine TC.ret ?_ | refine TC.cond_t rfl ?_ | refine TC.cond_f rfl ?_) | (first | refine TO.step rfl (OT.loadL tab 0 rfl rfl rfl rfl rfl rfl ?_) | refine TO.step rfl (OT.loadL0 tab 0 rfl rfl rfl rfl rfl rfl ?_) | refine TO.step rfl (OT.loadL tab 1 rfl rfl rfl rfl rfl rfl ?_) | refine TO.step rfl (OT.loadL0 tab 1 rfl rfl rfl rfl rfl rfl ?_) | refine TO.step rfl (OT.loadL tab 2 rfl rfl rfl rfl rfl rfl ?_) | refine TO.step rfl (OT.loadL0 tab 2 rfl rfl rfl rfl rfl rfl ?_) | refine TO.step rfl (OT.loadL tab 3 rfl rfl rfl rfl rfl rfl ?_) | refine TO.step rfl (OT.loadL0 tab 3 rfl rfl rfl rfl rfl rfl ?_) | refine TO.step rfl (OT.loadL tab 4 rfl rfl rfl rfl rfl rfl ?_) | refine TO.step rfl (OT.loadL0 tab 4 rfl rfl rfl rfl rfl rfl ?_) | refine TO.step rfl (OT.loadL tab 5 rfl rfl rfl rfl rfl rfl ?_) | refine TO.step rfl (OT.loadL0 tab 5 rfl rfl rfl rfl rfl rfl ?_) | refine TO.step rfl (OT.loadL tab 6 rfl rfl rfl rfl rfl rfl ?_) | refine TO.step rfl (OT.loadL0 tab 6 rfl rfl rfl rfl rfl rfl ?_) | refine TO.step rfl (OT.loadL tab 7 rfl rfl rfl rfl rfl rfl ?_) | refine TO.step rfl (OT.loadL0 tab 7 rfl rfl rfl rfl rfl rfl ?_) | refine TO.step rfl (OT.loadL tab 8 rfl rfl rfl rfl rfl rfl ?_) | refine TO.step rfl (OT.loadL0 tab 8 rfl rfl rfl rfl rfl rfl ?_) | refine TO.step rfl (OT.loadL tab 9 rfl rfl rfl rfl rfl rfl ?_) | refine TO.step rfl (OT.loadL0 tab 9 rfl rfl rfl rfl rfl rfl ?_)))
  refine TO.step rfl (OT.makeM tab Value.bool false h.funcs.toNat (by omega) rfl rfl rfl rfl rfl rfl rfl rfl (show h.funcs.toNat * 1 ≤ 281474976710656 by omega) rfl (fun bd => ?_))
  repeat (first | refine TC.seq ?_ | refine TC.block ?_ | refine TC.region ?_ | refine TO.pureP tab rfl rfl ?_ | refine TO.nil ?_ | refine thenQ_n ?_ | refine blockQ_n ?_ | refine thenQ_r ?_ | refine blockQ_r ?_ | refine thenQ_x ?_ | refine blockQ_hit ?_ | refine blockQ_miss rfl ?_ | refine TC.skip ?_ | refine TC.exit ?_ | refine TC.ret ?_ | refine TC.cond_t rfl ?_ | refine TC.cond_f rfl ?_)
  refine TO.step rfl (OT.lit tab rfl rfl rfl rfl (fun bl => ?_))
  refine TO.drop (List.sublist_cons_self _ _) ?_
  repeat (first | refine TC.seq ?_ | refine TC.block ?_ | refine TC.region ?_ | refine TO.pureP tab rfl rfl ?_ | refine TO.nil ?_ | refine thenQ_n ?_ | refine blockQ_n ?_ | refine thenQ_r ?_ | refine blockQ_r ?_ | refine thenQ_x ?_ | refine blockQ_hit ?_ | refine blockQ_miss rfl ?_ | refine TC.skip ?_ | refine TC.exit ?_ | refine TC.ret ?_ | refine TC.cond_t rfl ?_ | refine TC.cond_f rfl ?_)
  refine TC.growL bl 1 ?_
  refine TC.loopK (ι := RG) [1, 3, 4] rfl (fun x => [(5, x.so.v)]) (fun x => x.m) (fun x => tok x.so 1 :: .cells bd 0 (x.D.map Value.bool) :: .cells b 0 (hierC hh) :: L)
    (fun x => m1 ≤ x.m ∧ x.D.length = h.funcs.toNat ∧ (∀ v, v < h.funcs.toNat → x.D[v]? = some (inB x.out v)) ∧ Own x.so ∧ SlRep rInts x.m x.so x.out ∧ x.out.length + falses x.D ≤ h.funcs.toNat ∧ ∃ j, ∀ K, refG h.funcs.toNat (cat Cm) (K + j) [] = refG h.funcs.toNat (cat Cm) K x.out) (fun x => falses x.D) ⟨[], ⟨some ⟨bl, 0, none⟩, 0, 0⟩, List.replicate h.funcs.toNat false, m1⟩ (by repeat (first | exact trivial | refine And.intro rfl ?_)) rfl (List.Sublist.refl _)
    ⟨Mem.le_refl _, by simp, fun v hv => by simp [inB, hv], Own.lit _ _ _, SlRep.lit0 _ _ _, by rw [falses_replicate]; simp, 0, fun K => rfl⟩ ?_
  rintro ⟨out, so, D, m2⟩ ⟨hm2, hDl, hD, hown, hso, hfal, j0, hj0⟩
  simp only at hm2 hDl hD hown hso hfal hj0 ⊢
  have htc2 := htc.mono hm2
  repeat (first | refine TC.seq ?_ | refine TC.region ?_ | refine TO.pureP tab rfl rfl ?_ | refine TO.nil ?_ | refine thenQ_n ?_ | refine blockQ_n ?_ | refine thenQ_r ?_ | refine blockQ_r ?_ | refine thenQ_x ?_ | refine blockQ_hit ?_ | refine blockQ_miss rfl ?_ | refine TC.skip ?_ | refine TC.exit ?_ | refine TC.ret ?_ | refine TC.cond_t rfl ?_ | refine TC.cond_f rfl ?_)
  refine TC.block ?_
  repeat (first | refine TC.seq ?_ | refine TC.region ?_ | refine TO.pureP tab rfl rfl ?_ | refine TO.nil ?_ | refine thenQ_n ?_ | refine blockQ_n ?_ | refine thenQ_r ?_ | refine blockQ_r ?_ | refine thenQ_x ?_ | refine blockQ_hit ?_ | refine blockQ_miss rfl ?_ | refine TC.skip ?_ | refine TC.exit ?_ | refine TC.ret ?_ | refine TC.cond_t rfl ?_ | refine TC.cond_f rfl ?_)
  refine TC.cutT (ι := RG2) [1, 3, 4, 5] rfl (fun x => [(6, .int .i64 x.nx)]) (fun _ => m2) (fun _ => tok so 1 :: .cells bd 0 (D.map Value.bool) :: .cells b 0 (hierC hh) :: L)
    (fun x => (x.nx = -1 ∧ nextB h.funcs.toNat (cat Cm) (inB out) = none) ∨ (0 ≤ x.nx ∧ x.nx < h.funcs ∧ nextB h.funcs.toNat (cat Cm) (inB out) = some x.nx.toNat)) ?_ ?_
  · refine TC.block ?_
    refine TC.loopK (ι := RG2) [1, 3, 4, 5] rfl (fun x => [(7, .int .i64 (x.f : Int)), (6, .int .i64 x.nx)]) (fun _ => m2) (fun x => tok so 1 :: .cells bd 0 (D.map Value.bool) :: .cells b 0 (hierC hh) :: L)
      (fun x => x.f ≤ h.funcs.toNat ∧ ((x.nx = -1 ∧ ∀ v, v < x.f → (!inB out v && readyB h.funcs.toNat (cat Cm) (inB out) v) = false) ∨ (0 ≤ x.nx ∧ x.nx < h.funcs ∧ nextB h.funcs.toNat (cat Cm) (inB out) = some x.nx.toNat))) (fun x => h.funcs.toNat - x.f) ⟨0, -1⟩ (by repeat (first | exact trivial | refine And.intro rfl ?_)) rfl (List.Sublist.refl _)
      ⟨Nat.zero_le _, .inl ⟨rfl, fun v hv => absurd hv (Nat.not_lt_zero _)⟩⟩ ?_
    rintro ⟨f, nx⟩ ⟨hf, hnx⟩
    simp only at hf hnx ⊢
    repeat (first | (first | refine TC.seq ?_ | refine TC.block ?_ | refine TC.region ?_ | refine TO.pureP tab rfl rfl ?_ | refine TO.nil ?_ | refine thenQ_n ?_ | refine blockQ_n ?_ | refine thenQ_r ?_ | refine blockQ_r ?_ | refine thenQ_x ?_ | refine blockQ_hit ?_ | refine blockQ_miss rfl ?_ | refine TC.skip ?_ | refine TC.exit ?_ | refine TC.ret ?_ | refine TC.cond_t rfl ?_ | refine TC.cond_f rfl ?_) | (first | refine TO.step rfl (OT.loadL tab 0 rfl rfl rfl rfl rfl rfl ?_) | refine TO.step rfl (OT.loadL0 tab 0 rfl rfl rfl rfl rfl rfl ?_) | refine TO.step rfl (OT.loadL tab 1 rfl rfl rfl rfl rfl rfl ?_) | refine TO.step rfl (OT.loadL0 tab 1 rfl rfl rfl rfl rfl rfl ?_) | refine TO.step rfl (OT.loadL tab 2 rfl rfl rfl rfl rfl rfl ?_) | refine TO.step rfl (OT.loadL0 tab 2 rfl rfl rfl rfl rfl rfl ?_) | refine TO.step rfl (OT.loadL tab 3 rfl rfl rfl rfl rfl rfl ?_) | refine TO.step rfl (OT.loadL0 tab 3 rfl rfl rfl rfl rfl rfl ?_) | refine TO.step rfl (OT.loadL tab 4 rfl rfl rfl rfl rfl rfl ?_) | refine TO.step rfl (OT.loadL0 tab 4 rfl rfl rfl rfl rfl rfl ?_) | refine TO.step rfl (OT.loadL tab 5 rfl rfl rfl rfl rfl rfl ?_) | refine TO.step rfl (OT.loadL0 tab 5 rfl rfl rfl rfl rfl rfl ?_) | refine TO.step rfl (OT.loadL tab 6 rfl rfl rfl rfl rfl rfl ?_) | refine TO.step rfl (OT.loadL0 tab 6 rfl rfl rfl rfl rfl rfl ?_) | refine TO.step rfl (OT.loadL tab 7 rfl rfl rfl rfl rfl rfl ?_) | refine TO.step rfl (OT.loadL0 tab 7 rfl rfl rfl rfl rfl rfl ?_) | refine TO.step rfl (OT.loadL tab 8 rfl rfl rfl rfl rfl rfl ?_) | refine TO.step rfl (OT.loadL0 tab 8 rfl rfl rfl rfl rfl rfl ?_) | refine TO.step rfl (OT.loadL tab 9 rfl rfl rfl rfl rfl rfl ?_) | refine TO.step rfl (OT.loadL0 tab 9 rfl rfl rfl rfl rfl rfl ?_)))
    (first | refine TO.splitP rfl rfl (fun hf1 => ?_) (fun hf1 => ?_) | refine TO.splitN rfl rfl (fun hf1 => ?_) (fun hf1 => ?_) | refine TO.split rfl rfl (fun hf1 => ?_) (fun hf1 => ?_))
    · have hfn : f < h.funcs.toNat := by omega
      repeat (first | refine TC.seq ?_ | refine TC.block ?_ | refine TC.region ?_ | refine TO.pureP tab rfl rfl ?_ | refine TO.nil ?_ | refine thenQ_n ?_ | refine blockQ_n ?_ | refine thenQ_r ?_ | refine blockQ_r ?_ | refine thenQ_x ?_ | refine blockQ_hit ?_ | refine blockQ_miss rfl ?_ | refine TC.skip ?_ | refine TC.exit ?_ | refine TC.ret ?_ | refine TC.cond_t rfl ?_ | refine TC.cond_f rfl ?_)
      refine TC.condP rfl (fun hneg => ?_) (fun hneg => ?_)
      · obtain ⟨rfl, hlow⟩ : nx = -1 ∧ ∀ v, v < f → (!inB out v && readyB h.funcs.toNat (cat Cm) (inB out) v) = false := by
          rcases hnx with h1 | h1
          · exact h1
          · omega
        have hDf := hD f hfn
        repeat (first | refine TC.seq ?_ | refine TC.block ?_ | refine TC.region ?_ | refine TO.pureP tab rfl rfl ?_ | refine TO.nil ?_ | refine thenQ_n ?_ | refine blockQ_n ?_ | refine thenQ_r ?_ | refine blockQ_r ?_ | refine thenQ_x ?_ | refine blockQ_hit ?_ | refine blockQ_miss rfl ?_ | refine TC.skip ?_ | refine TC.exit ?_ | refine TC.ret ?_ | refine TC.cond_t rfl ?_ | refine TC.cond_f rfl ?_)
        refine TO.step rfl (OT.indexP (sz := 1) tab f rfl rfl rfl rfl rfl rfl rfl hfn ?_)
        refine TO.step rfl (OT.loadM tab 1 Value.bool hDf rfl rfl rfl rfl rfl rfl ?_)
        repeat (first | refine TC.seq ?_ | refine TC.block ?_ | refine TC.region ?_ | refine TO.pureP tab rfl rfl ?_ | refine TO.nil ?_ | refine thenQ_n ?_ | refine blockQ_n ?_ | refine thenQ_r ?_ | refine blockQ_r ?_ | refine thenQ_x ?_ | refine blockQ_hit ?_ | refine blockQ_miss rfl ?_ | refine TC.skip ?_ | refine TC.exit ?_ | refine TC.ret ?_ | refine TC.cond_t rfl ?_ | refine TC.cond_f rfl ?_)
        refine TC.cond rfl (fun hdf => ?_) (fun hdf => ?_)
        · repeat (first | refine TC.seq ?_ | refine TC.block ?_ | refine TC.region ?_ | refine TO.pureP tab rfl rfl ?_ | refine TO.nil ?_ | refine thenQ_n ?_ | refine blockQ_n ?_ | refine thenQ_r ?_ | refine blockQ_r ?_ | refine thenQ_x ?_ | refine blockQ_hit ?_ | refine blockQ_miss rfl ?_ | refine TC.skip ?_ | refine TC.exit ?_ | refine TC.ret ?_ | refine TC.cond_t rfl ?_ | refine TC.cond_f rfl ?_)
          refine TO.step rfl (OT.arith (r' := ((f + 1 : Nat) : Int)) rfl rfl rfl rfl rfl rfl rfl (by omega) ?_)
          repeat (first | refine TC.seq ?_ | refine TC.block ?_ | refine TC.region ?_ | refine TO.pureP tab rfl rfl ?_ | refine TO.nil ?_ | refine thenQ_n ?_ | refine blockQ_n ?_ | refine thenQ_r ?_ | refine blockQ_r ?_ | refine thenQ_x ?_ | refine blockQ_hit ?_ | refine blockQ_miss rfl ?_ | refine TC.skip ?_ | refine TC.exit ?_ | refine TC.ret ?_ | refine TC.cond_t rfl ?_ | refine TC.cond_f rfl ?_)
          refine ⟨⟨f + 1, -1⟩, (by repeat (first | exact trivial | refine And.intro rfl ?_)), (by repeat (first | exact trivial | refine And.intro rfl ?_)), rfl, rfl, (by repeat (first | exact List.Sublist.refl _ | exact List.sublist_append_left _ _ | refine List.Sublist.cons_cons _ ?_ | refine List.Sublist.cons _ ?_)), ⟨by simp only; omega, .inl ⟨rfl, fun v hv => ?_⟩⟩, by simp only; omega⟩
          by_cases e : v = f
          · subst e; rw [hdf]; rfl
          · exact hlow v (by simp only at hv; omega)
        · repeat (first | refine TC.seq ?_ | refine TC.block ?_ | refine TC.region ?_ | refine TO.pureP tab rfl rfl ?_ | refine TO.nil ?_ | refine thenQ_n ?_ | refine blockQ_n ?_ | refine thenQ_r ?_ | refine blockQ_r ?_ | refine thenQ_x ?_ | refine blockQ_hit ?_ | refine blockQ_miss rfl ?_ | refine TC.skip ?_ | refine TC.exit ?_ | refine TC.ret ?_ | refine TC.cond_t rfl ?_ | refine TC.cond_f rfl ?_)
          refine TC.loopK (ι := Nat) [1, 3, 4, 5, 6, 7] rfl (fun k => [(9, .int .i64 (k : Int)), (8, .bool (rdyK (cat Cm) (inB out) f k))]) (fun _ => m2) (fun _ => tok so 1 :: .cells bd 0 (D.map Value.bool) :: .cells b 0 (hierC hh) :: L) (fun k => k ≤ h.funcs.toNat) (fun k => h.funcs.toNat - k) 0 (by repeat (first | exact trivial | refine And.intro rfl ?_)) rfl (List.Sublist.refl _) (Nat.zero_le _) ?_
          intro k hk
          repeat (first | (first | refine TC.seq ?_ | refine TC.block ?_ | refine TC.region ?_ | refine TO.pureP tab rfl rfl ?_ | refine TO.nil ?_ | refine thenQ_n ?_ | refine blockQ_n ?_ | refine thenQ_r ?_ | refine blockQ_r ?_ | refine thenQ_x ?_ | refine blockQ_hit ?_ | refine blockQ_miss rfl ?_ | refine TC.skip ?_ | refine TC.exit ?_ | refine TC.ret ?_ | refine TC.cond_t rfl ?_ | refine TC.cond_f rfl ?_) | (first | refine TO.step rfl (OT.loadL tab 0 rfl rfl rfl rfl rfl rfl ?_) | refine TO.step rfl (OT.loadL0 tab 0 rfl rfl rfl rfl rfl rfl ?_) | refine TO.step rfl (OT.loadL tab 1 rfl rfl rfl rfl rfl rfl ?_) | refine TO.step rfl (OT.loadL0 tab 1 rfl rfl rfl rfl rfl rfl ?_) | refine TO.step rfl (OT.loadL tab 2 rfl rfl rfl rfl rfl rfl ?_) | refine TO.step rfl (OT.loadL0 tab 2 rfl rfl rfl rfl rfl rfl ?_) | refine TO.step rfl (OT.loadL tab 3 rfl rfl rfl rfl rfl rfl ?_) | refine TO.step rfl (OT.loadL0 tab 3 rfl rfl rfl rfl rfl rfl ?_) | refine TO.step rfl (OT.loadL tab 4 rfl rfl rfl rfl rfl rfl ?_) | refine TO.step rfl (OT.loadL0 tab 4 rfl rfl rfl rfl rfl rfl ?_) | refine TO.step rfl (OT.loadL tab 5 rfl rfl rfl rfl rfl rfl ?_) | refine TO.step rfl (OT.loadL0 tab 5 rfl rfl rfl rfl rfl rfl ?_) | refine TO.step rfl (OT.loadL tab 6 rfl rfl rfl rfl rfl rfl ?_) | refine TO.step rfl (OT.loadL0 tab 6 rfl rfl rfl rfl rfl rfl ?_) | refine TO.step rfl (OT.loadL tab 7 rfl rfl rfl rfl rfl rfl ?_) | refine TO.step rfl (OT.loadL0 tab 7 rfl rfl rfl rfl rfl rfl ?_) | refine TO.step rfl (OT.loadL tab 8 rfl rfl rfl rfl rfl rfl ?_) | refine TO.step rfl (OT.loadL0 tab 8 rfl rfl rfl rfl rfl rfl ?_) | refine TO.step rfl (OT.loadL tab 9 rfl rfl rfl rfl rfl rfl ?_) | refine TO.step rfl (OT.loadL0 tab 9 rfl rfl rfl rfl rfl rfl ?_)))
          refine TC.condP rfl (fun hk1 => ?_) (fun hk1 => ?_)
          · have hkn : k < h.funcs.toNat := by omega
            have hDk := hD k hkn
            have hsuc := rdyK_succ (cat Cm) (inB out) f k
            obtain ⟨r1, hr1, hr2, hr3⟩ := hsq.get (i := f) (j := k) hfn hkn
            obtain ⟨r2, hr4, hr5, hr6⟩ := hsq.get (i := k) (j := f) hkn hfn
            have hbad : badB (cat Cm) (inB out) f k = (cat Cm f k && !inB out k && !decide (k = f) && !cat Cm k f) := rfl
            generalize cat Cm f k = c1 at hr3 hbad
            generalize cat Cm k f = c2 at hr6 hbad
            generalize inB out k = c3 at hDk hbad
            repeat (first | refine TC.seq ?_ | refine TC.block ?_ | refine TC.region ?_ | refine TO.pureP tab rfl rfl ?_ | refine TO.nil ?_ | refine thenQ_n ?_ | refine blockQ_n ?_ | refine thenQ_r ?_ | refine blockQ_r ?_ | refine thenQ_x ?_ | refine blockQ_hit ?_ | refine blockQ_miss rfl ?_ | refine TC.skip ?_ | refine TC.exit ?_ | refine TC.ret ?_ | refine TC.cond_t rfl ?_ | refine TC.cond_f rfl ?_)
            refine TO.step rfl (OT.index tab rBools f htc2 rfl rfl rfl rfl rfl (by first | rfl | omega) rfl hr1 ?_)
            rintro b1 i1 hd1 hrd1 hA1
            (first | refine TO.step rfl (OT.loadA tab hA1 rfl rfl rfl rfl rfl ?_) | refine TO.step rfl (OT.loadA0 tab hA1 rfl rfl rfl rfl rfl ?_))
            repeat (first | refine TC.seq ?_ | refine TC.block ?_ | refine TC.region ?_ | refine TO.pureP tab rfl rfl ?_ | refine TO.nil ?_ | refine thenQ_n ?_ | refine blockQ_n ?_ | refine thenQ_r ?_ | refine blockQ_r ?_ | refine thenQ_x ?_ | refine blockQ_hit ?_ | refine blockQ_miss rfl ?_ | refine TC.skip ?_ | refine TC.exit ?_ | refine TC.ret ?_ | refine TC.cond_t rfl ?_ | refine TC.cond_f rfl ?_)
            refine TO.step rfl (OT.index tab rBool k hrd1 rfl rfl rfl rfl rfl (by first | rfl | omega) rfl hr3 ?_)
            rintro b2 i2 hd2 hrd2 hA2
            obtain rfl := (show hd2 = c1 from hrd2)
            (first | refine TO.step rfl (OT.loadA tab hA2 rfl rfl rfl rfl rfl ?_) | refine TO.step rfl (OT.loadA0 tab hA2 rfl rfl rfl rfl rfl ?_))
            repeat (first | refine TC.seq ?_ | refine TC.block ?_ | refine TC.region ?_ | refine TO.pureP tab rfl rfl ?_ | refine TO.nil ?_ | refine thenQ_n ?_ | refine blockQ_n ?_ | refine thenQ_r ?_ | refine blockQ_r ?_ | refine thenQ_x ?_ | refine blockQ_hit ?_ | refine blockQ_miss rfl ?_ | refine TC.skip ?_ | refine TC.exit ?_ | refine TC.ret ?_ | refine TC.cond_t rfl ?_ | refine TC.cond_f rfl ?_)
            (first | refine TO.splitP rfl rfl (fun hq1 => ?_) (fun hq1 => ?_) | refine TO.splitN rfl rfl (fun hq1 => ?_) (fun hq1 => ?_) | refine TO.split rfl rfl (fun hq1 => ?_) (fun hq1 => ?_))
            · repeat (first | refine TC.seq ?_ | refine TC.block ?_ | refine TC.region ?_ | refine TO.pureP tab rfl rfl ?_ | refine TO.nil ?_ | refine thenQ_n ?_ | refine blockQ_n ?_ | refine thenQ_r ?_ | refine blockQ_r ?_ | refine thenQ_x ?_ | refine blockQ_hit ?_ | refine blockQ_miss rfl ?_ | refine TC.skip ?_ | refine TC.exit ?_ | refine TC.ret ?_ | refine TC.cond_t rfl ?_ | refine TC.cond_f rfl ?_)
              refine TO.step rfl (OT.indexP (sz := 1) tab k rfl rfl rfl rfl rfl rfl rfl hkn ?_)
              refine TO.step rfl (OT.loadM tab 1 Value.bool hDk rfl rfl rfl rfl rfl rfl ?_)
              repeat (first | refine TC.seq ?_ | refine TC.block ?_ | refine TC.region ?_ | refine TO.pureP tab rfl rfl ?_ | refine TO.nil ?_ | refine thenQ_n ?_ | refine blockQ_n ?_ | refine thenQ_r ?_ | refine blockQ_r ?_ | refine thenQ_x ?_ | refine blockQ_hit ?_ | refine blockQ_miss rfl ?_ | refine TC.skip ?_ | refine TC.exit ?_ | refine TC.ret ?_ | refine TC.cond_t rfl ?_ | refine TC.cond_f rfl ?_)
              (first | refine TO.splitP rfl rfl (fun hq2 => ?_) (fun hq2 => ?_) | refine TO.splitN rfl rfl (fun hq2 => ?_) (fun hq2 => ?_) | refine TO.split rfl rfl (fun hq2 => ?_) (fun hq2 => ?_))
              · repeat (first | refine TC.seq ?_ | refine TC.block ?_ | refine TC.region ?_ | refine TO.pureP tab rfl rfl ?_ | refine TO.nil ?_ | refine thenQ_n ?_ | refine blockQ_n ?_ | refine thenQ_r ?_ | refine blockQ_r ?_ | refine thenQ_x ?_ | refine blockQ_hit ?_ | refine blockQ_miss rfl ?_ | refine TC.skip ?_ | refine TC.exit ?_ | refine TC.ret ?_ | refine TC.cond_t rfl ?_ | refine TC.cond_f rfl ?_)
                (first | refine TO.splitP rfl rfl (fun hq3 => ?_) (fun hq3 => ?_) | refine TO.splitN rfl rfl (fun hq3 => ?_) (fun hq3 => ?_) | refine TO.split rfl rfl (fun hq3 => ?_) (fun hq3 => ?_))
                · have hne : ¬ k = f := fun e => hq3 (by rw [e])
                  repeat (first | refine TC.seq ?_ | refine TC.block ?_ | refine TC.region ?_ | refine TO.pureP tab rfl rfl ?_ | refine TO.nil ?_ | refine thenQ_n ?_ | refine blockQ_n ?_ | refine thenQ_r ?_ | refine blockQ_r ?_ | refine thenQ_x ?_ | refine blockQ_hit ?_ | refine blockQ_miss rfl ?_ | refine TC.skip ?_ | refine TC.exit ?_ | refine TC.ret ?_ | refine TC.cond_t rfl ?_ | refine TC.cond_f rfl ?_)
                  refine TO.step rfl (OT.index tab rBools k htc2 rfl rfl rfl rfl rfl (by first | rfl | omega) rfl hr4 ?_)
                  rintro b3 i3 hd3 hrd3 hA3
                  (first | refine TO.step rfl (OT.loadA tab hA3 rfl rfl rfl rfl rfl ?_) | refine TO.step rfl (OT.loadA0 tab hA3 rfl rfl rfl rfl rfl ?_))
                  repeat (first | refine TC.seq ?_ | refine TC.block ?_ | refine TC.region ?_ | refine TO.pureP tab rfl rfl ?_ | refine TO.nil ?_ | refine thenQ_n ?_ | refine blockQ_n ?_ | refine thenQ_r ?_ | refine blockQ_r ?_ | refine thenQ_x ?_ | refine blockQ_hit ?_ | refine blockQ_miss rfl ?_ | refine TC.skip ?_ | refine TC.exit ?_ | refine TC.ret ?_ | refine TC.cond_t rfl ?_ | refine TC.cond_f rfl ?_)
                  refine TO.step rfl (OT.index tab rBool f hrd3 rfl rfl rfl rfl rfl (by first | rfl | omega) rfl hr6 ?_)
                  rintro b4 i4 hd4 hrd4 hA4
                  obtain rfl := (show hd4 = c2 from hrd4)
                  (first | refine TO.step rfl (OT.loadA tab hA4 rfl rfl rfl rfl rfl ?_) | refine TO.step rfl (OT.loadA0 tab hA4 rfl rfl rfl rfl rfl ?_))
                  repeat (first | refine TC.seq ?_ | refine TC.block ?_ | refine TC.region ?_ | refine TO.pureP tab rfl rfl ?_ | refine TO.nil ?_ | refine thenQ_n ?_ | refine blockQ_n ?_ | refine thenQ_r ?_ | refine blockQ_r ?_ | refine thenQ_x ?_ | refine blockQ_hit ?_ | refine blockQ_miss rfl ?_ | refine TC.skip ?_ | refine TC.exit ?_ | refine TC.ret ?_ | refine TC.cond_t rfl ?_ | refine TC.cond_f rfl ?_)
                  refine TC.cond rfl (fun hq4 => ?_) (fun hq4 => ?_)
                  · have hb : badB (cat Cm) (inB out) f k = true := by rw [hbad]; simp [hq1, hq2, hq4, hne]
                    rw [hb] at hsuc
                    simp only [Bool.not_true, Bool.and_false] at hsuc
                    repeat (first | refine TC.seq ?_ | refine TC.block ?_ | refine TC.region ?_ | refine TO.pureP tab rfl rfl ?_ | refine TO.nil ?_ | refine thenQ_n ?_ | refine blockQ_n ?_ | refine thenQ_r ?_ | refine blockQ_r ?_ | refine thenQ_x ?_ | refine blockQ_hit ?_ | refine blockQ_miss rfl ?_ | refine TC.skip ?_ | refine TC.exit ?_ | refine TC.ret ?_ | refine TC.cond_t rfl ?_ | refine TC.cond_f rfl ?_)
                    refine TO.step rfl (OT.arith (r' := ((k + 1 : Nat) : Int)) rfl rfl rfl rfl rfl rfl rfl (by omega) ?_)
                    repeat (first | refine TC.seq ?_ | refine TC.block ?_ | refine TC.region ?_ | refine TO.pureP tab rfl rfl ?_ | refine TO.nil ?_ | refine thenQ_n ?_ | refine blockQ_n ?_ | refine thenQ_r ?_ | refine blockQ_r ?_ | refine thenQ_x ?_ | refine blockQ_hit ?_ | refine blockQ_miss rfl ?_ | refine TC.skip ?_ | refine TC.exit ?_ | refine TC.ret ?_ | refine TC.cond_t rfl ?_ | refine TC.cond_f rfl ?_)
                    exact ⟨k + 1, ⟨rfl, by rw [hsuc]; rfl, trivial⟩, (by repeat (first | exact trivial | refine And.intro rfl ?_)), rfl, rfl, (by repeat (first | exact List.Sublist.refl _ | exact List.sublist_append_left _ _ | refine List.Sublist.cons_cons _ ?_ | refine List.Sublist.cons _ ?_)), by omega, by omega⟩
                  · have hb : badB (cat Cm) (inB out) f k = false := by rw [hbad]; simp [hq4]
                    rw [hb] at hsuc
                    simp only [Bool.not_false, Bool.and_true] at hsuc
                    repeat (first | refine TC.seq ?_ | refine TC.block ?_ | refine TC.region ?_ | refine TO.pureP tab rfl rfl ?_ | refine TO.nil ?_ | refine thenQ_n ?_ | refine blockQ_n ?_ | refine thenQ_r ?_ | refine blockQ_r ?_ | refine thenQ_x ?_ | refine blockQ_hit ?_ | refine blockQ_miss rfl ?_ | refine TC.skip ?_ | refine TC.exit ?_ | refine TC.ret ?_ | refine TC.cond_t rfl ?_ | refine TC.cond_f rfl ?_)
                    refine TO.step rfl (OT.arith (r' := ((k + 1 : Nat) : Int)) rfl rfl rfl rfl rfl rfl rfl (by omega) ?_)
                    repeat (first | refine TC.seq ?_ | refine TC.block ?_ | refine TC.region ?_ | refine TO.pureP tab rfl rfl ?_ | refine TO.nil ?_ | refine thenQ_n ?_ | refine blockQ_n ?_ | refine thenQ_r ?_ | refine blockQ_r ?_ | refine thenQ_x ?_ | refine blockQ_hit ?_ | refine blockQ_miss rfl ?_ | refine TC.skip ?_ | refine TC.exit ?_ | refine TC.ret ?_ | refine TC.cond_t rfl ?_ | refine TC.cond_f rfl ?_)
                    exact ⟨k + 1, ⟨rfl, by rw [hsuc]; rfl, trivial⟩, (by repeat (first | exact trivial | refine And.intro rfl ?_)), rfl, rfl, (by repeat (first | exact List.Sublist.refl _ | exact List.sublist_append_left _ _ | refine List.Sublist.cons_cons _ ?_ | refine List.Sublist.cons _ ?_)), by omega, by omega⟩
                · have hne : k = f := by omega
                  have hb : badB (cat Cm) (inB out) f k = false := by rw [hbad]; simp [hne]
                  rw [hb] at hsuc
                  simp only [Bool.not_false, Bool.and_true] at hsuc
                  repeat (first | refine TC.seq ?_ | refine TC.block ?_ | refine TC.region ?_ | refine TO.pureP tab rfl rfl ?_ | refine TO.nil ?_ | refine thenQ_n ?_ | refine blockQ_n ?_ | refine thenQ_r ?_ | refine blockQ_r ?_ | refine thenQ_x ?_ | refine blockQ_hit ?_ | refine blockQ_miss rfl ?_ | refine TC.skip ?_ | refine TC.exit ?_ | refine TC.ret ?_ | refine TC.cond_t rfl ?_ | refine TC.cond_f rfl ?_)
                  refine TO.step rfl (OT.arith (r' := ((k + 1 : Nat) : Int)) rfl rfl rfl rfl rfl rfl rfl (by omega) ?_)
                  repeat (first | refine TC.seq ?_ | refine TC.block ?_ | refine TC.region ?_ | refine TO.pureP tab rfl rfl ?_ | refine TO.nil ?_ | refine thenQ_n ?_ | refine blockQ_n ?_ | refine thenQ_r ?_ | refine blockQ_r ?_ | refine thenQ_x ?_ | refine blockQ_hit ?_ | refine blockQ_miss rfl ?_ | refine TC.skip ?_ | refine TC.exit ?_ | refine TC.ret ?_ | refine TC.cond_t rfl ?_ | refine TC.cond_f rfl ?_)
                  exact ⟨k + 1, ⟨rfl, by rw [hsuc]; rfl, trivial⟩, (by repeat (first | exact trivial | refine And.intro rfl ?_)), rfl, rfl, (by repeat (first | exact List.Sublist.refl _ | exact List.sublist_append_left _ _ | refine List.Sublist.cons_cons _ ?_ | refine List.Sublist.cons _ ?_)), by omega, by omega⟩
              · 
                have hb : badB (cat Cm) (inB out) f k = false := by rw [hbad]; simp [hq2]
                rw [hb] at hsuc
                simp only [Bool.not_false, Bool.and_true] at hsuc
                repeat (first | refine TC.seq ?_ | refine TC.block ?_ | refine TC.region ?_ | refine TO.pureP tab rfl rfl ?_ | refine TO.nil ?_ | refine thenQ_n ?_ | refine blockQ_n ?_ | refine thenQ_r ?_ | refine blockQ_r ?_ | refine thenQ_x ?_ | refine blockQ_hit ?_ | refine blockQ_miss rfl ?_ | refine TC.skip ?_ | refine TC.exit ?_ | refine TC.ret ?_ | refine TC.cond_t rfl ?_ | refine TC.cond_f rfl ?_)
                refine TO.step rfl (OT.arith (r' := ((k + 1 : Nat) : Int)) rfl rfl rfl rfl rfl rfl rfl (by omega) ?_)
                repeat (first | refine TC.seq ?_ | refine TC.block ?_ | refine TC.region ?_ | refine TO.pureP tab rfl rfl ?_ | refine TO.nil ?_ | refine thenQ_n ?_ | refine blockQ_n ?_ | refine thenQ_r ?_ | refine blockQ_r ?_ | refine thenQ_x ?_ | refine blockQ_hit ?_ | refine blockQ_miss rfl ?_ | refine TC.skip ?_ | refine TC.exit ?_ | refine TC.ret ?_ | refine TC.cond_t rfl ?_ | refine TC.cond_f rfl ?_)
                exact ⟨k + 1, ⟨rfl, by rw [hsuc]; rfl, trivial⟩, (by repeat (first | exact trivial | refine And.intro rfl ?_)), rfl, rfl, (by repeat (first | exact List.Sublist.refl _ | exact List.sublist_append_left _ _ | refine List.Sublist.cons_cons _ ?_ | refine List.Sublist.cons _ ?_)), by omega, by omega⟩
            · 
              have hb : badB (cat Cm) (inB out) f k = false := by rw [hbad]; simp [hq1]
              rw [hb] at hsuc
              simp only [Bool.not_false, Bool.and_true] at hsuc
              repeat (first | refine TC.seq ?_ | refine TC.block ?_ | refine TC.region ?_ | refine TO.pureP tab rfl rfl ?_ | refine TO.nil ?_ | refine thenQ_n ?_ | refine blockQ_n ?_ | refine thenQ_r ?_ | refine blockQ_r ?_ | refine thenQ_x ?_ | refine blockQ_hit ?_ | refine blockQ_miss rfl ?_ | refine TC.skip ?_ | refine TC.exit ?_ | refine TC.ret ?_ | refine TC.cond_t rfl ?_ | refine TC.cond_f rfl ?_)
              refine TO.step rfl (OT.arith (r' := ((k + 1 : Nat) : Int)) rfl rfl rfl rfl rfl rfl rfl (by omega) ?_)
              repeat (first | refine TC.seq ?_ | refine TC.block ?_ | refine TC.region ?_ | refine TO.pureP tab rfl rfl ?_ | refine TO.nil ?_ | refine thenQ_n ?_ | refine blockQ_n ?_ | refine thenQ_r ?_ | refine blockQ_r ?_ | refine thenQ_x ?_ | refine blockQ_hit ?_ | refine blockQ_miss rfl ?_ | refine TC.skip ?_ | refine TC.exit ?_ | refine TC.ret ?_ | refine TC.cond_t rfl ?_ | refine TC.cond_f rfl ?_)
              exact ⟨k + 1, ⟨rfl, by rw [hsuc]; rfl, trivial⟩, (by repeat (first | exact trivial | refine And.intro rfl ?_)), rfl, rfl, (by repeat (first | exact List.Sublist.refl _ | exact List.sublist_append_left _ _ | refine List.Sublist.cons_cons _ ?_ | refine List.Sublist.cons _ ?_)), by omega, by omega⟩
          · have hkn : k = h.funcs.toNat := by omega
            subst hkn
            rw [rdyK_all]
            repeat (first | refine TC.seq ?_ | refine TC.block ?_ | refine TC.region ?_ | refine TO.pureP tab rfl rfl ?_ | refine TO.nil ?_ | refine thenQ_n ?_ | refine blockQ_n ?_ | refine thenQ_r ?_ | refine blockQ_r ?_ | refine thenQ_x ?_ | refine blockQ_hit ?_ | refine blockQ_miss rfl ?_ | refine TC.skip ?_ | refine TC.exit ?_ | refine TC.ret ?_ | refine TC.cond_t rfl ?_ | refine TC.cond_f rfl ?_)
            refine TC.cond rfl (fun hrd => ?_) (fun hrd => ?_)
            · have hnext : nextB h.funcs.toNat (cat Cm) (inB out) = some f := find_range hfn (by rw [hdf, hrd]; rfl) hlow
              repeat (first | refine TC.seq ?_ | refine TC.block ?_ | refine TC.region ?_ | refine TO.pureP tab rfl rfl ?_ | refine TO.nil ?_ | refine thenQ_n ?_ | refine blockQ_n ?_ | refine thenQ_r ?_ | refine blockQ_r ?_ | refine thenQ_x ?_ | refine blockQ_hit ?_ | refine blockQ_miss rfl ?_ | refine TC.skip ?_ | refine TC.exit ?_ | refine TC.ret ?_ | refine TC.cond_t rfl ?_ | refine TC.cond_f rfl ?_)
              refine TO.step rfl (OT.arith (r' := ((f + 1 : Nat) : Int)) rfl rfl rfl rfl rfl rfl rfl (by omega) ?_)
              repeat (first | refine TC.seq ?_ | refine TC.block ?_ | refine TC.region ?_ | refine TO.pureP tab rfl rfl ?_ | refine TO.nil ?_ | refine thenQ_n ?_ | refine blockQ_n ?_ | refine thenQ_r ?_ | refine blockQ_r ?_ | refine thenQ_x ?_ | refine blockQ_hit ?_ | refine blockQ_miss rfl ?_ | refine TC.skip ?_ | refine TC.exit ?_ | refine TC.ret ?_ | refine TC.cond_t rfl ?_ | refine TC.cond_f rfl ?_)
              exact ⟨⟨f + 1, f⟩, (by repeat (first | exact trivial | refine And.intro rfl ?_)), (by repeat (first | exact trivial | refine And.intro rfl ?_)), rfl, rfl, (by repeat (first | exact List.Sublist.refl _ | exact List.sublist_append_left _ _ | refine List.Sublist.cons_cons _ ?_ | refine List.Sublist.cons _ ?_)), ⟨by simp only; omega, .inr ⟨by simp only; omega, by simp only; omega, by simpa using hnext⟩⟩, by simp only; omega⟩
            · repeat (first | refine TC.seq ?_ | refine TC.block ?_ | refine TC.region ?_ | refine TO.pureP tab rfl rfl ?_ | refine TO.nil ?_ | refine thenQ_n ?_ | refine blockQ_n ?_ | refine thenQ_r ?_ | refine blockQ_r ?_ | refine thenQ_x ?_ | refine blockQ_hit ?_ | refine blockQ_miss rfl ?_ | refine TC.skip ?_ | refine TC.exit ?_ | refine TC.ret ?_ | refine TC.cond_t rfl ?_ | refine TC.cond_f rfl ?_)
              refine TO.step rfl (OT.arith (r' := ((f + 1 : Nat) : Int)) rfl rfl rfl rfl rfl rfl rfl (by omega) ?_)
              repeat (first | refine TC.seq ?_ | refine TC.block ?_ | refine TC.region ?_ | refine TO.pureP tab rfl rfl ?_ | refine TO.nil ?_ | refine thenQ_n ?_ | refine blockQ_n ?_ | refine thenQ_r ?_ | refine blockQ_r ?_ | refine thenQ_x ?_ | refine blockQ_hit ?_ | refine blockQ_miss rfl ?_ | refine TC.skip ?_ | refine TC.exit ?_ | refine TC.ret ?_ | refine TC.cond_t rfl ?_ | refine TC.cond_f rfl ?_)
              refine ⟨⟨f + 1, -1⟩, (by repeat (first | exact trivial | refine And.intro rfl ?_)), (by repeat (first | exact trivial | refine And.intro rfl ?_)), rfl, rfl, (by repeat (first | exact List.Sublist.refl _ | exact List.sublist_append_left _ _ | refine List.Sublist.cons_cons _ ?_ | refine List.Sublist.cons _ ?_)), ⟨by simp only; omega, .inl ⟨rfl, fun v hv => ?_⟩⟩, by simp only; omega⟩
              by_cases e : v = f
              · subst e; rw [hrd]; simp
              · exact hlow v (by simp only at hv; omega)
      · have hnx2 : 0 ≤ nx ∧ nx < h.funcs ∧ nextB h.funcs.toNat (cat Cm) (inB out) = some nx.toNat := by
          rcases hnx with h1 | h1
          · omega
          · exact h1
        repeat (first | refine TC.seq ?_ | refine TC.block ?_ | refine TC.region ?_ | refine TO.pureP tab rfl rfl ?_ | refine TO.nil ?_ | refine thenQ_n ?_ | refine blockQ_n ?_ | refine thenQ_r ?_ | refine blockQ_r ?_ | refine thenQ_x ?_ | refine blockQ_hit ?_ | refine blockQ_miss rfl ?_ | refine TC.skip ?_ | refine TC.exit ?_ | refine TC.ret ?_ | refine TC.cond_t rfl ?_ | refine TC.cond_f rfl ?_)
        exact ⟨⟨0, nx⟩, (by repeat (first | exact trivial | refine And.intro rfl ?_)), (by repeat (first | exact trivial | refine And.intro rfl ?_)), rfl, rfl, (by repeat (first | exact List.Sublist.refl _ | exact List.sublist_append_left _ _ | refine List.Sublist.cons_cons _ ?_ | refine List.Sublist.cons _ ?_)), .inr hnx2⟩
    · repeat (first | refine TC.seq ?_ | refine TC.block ?_ | refine TC.region ?_ | refine TO.pureP tab rfl rfl ?_ | refine TO.nil ?_ | refine thenQ_n ?_ | refine blockQ_n ?_ | refine thenQ_r ?_ | refine blockQ_r ?_ | refine thenQ_x ?_ | refine blockQ_hit ?_ | refine blockQ_miss rfl ?_ | refine TC.skip ?_ | refine TC.exit ?_ | refine TC.ret ?_ | refine TC.cond_t rfl ?_ | refine TC.cond_f rfl ?_)
      refine ⟨⟨0, nx⟩, (by repeat (first | exact trivial | refine And.intro rfl ?_)), (by repeat (first | exact trivial | refine And.intro rfl ?_)), rfl, rfl, (by repeat (first | exact List.Sublist.refl _ | exact List.sublist_append_left _ _ | refine List.Sublist.cons_cons _ ?_ | refine List.Sublist.cons _ ?_)), ?_⟩
      rcases hnx with ⟨h1, h2⟩ | h1
      · left
        refine ⟨h1, ?_⟩
        unfold nextB
        rw [List.find?_eq_none]
        intro v hv
        have := h2 v (by have := List.mem_range.1 hv; omega)
        rw [this]; decide
      · exact .inr h1
  rintro ⟨_, nx⟩ hnx
  simp only at hnx ⊢
  repeat (first | refine TC.seq ?_ | refine TC.block ?_ | refine TC.region ?_ | refine TO.pureP tab rfl rfl ?_ | refine TO.nil ?_ | refine thenQ_n ?_ | refine blockQ_n ?_ | refine thenQ_r ?_ | refine blockQ_r ?_ | refine thenQ_x ?_ | refine blockQ_hit ?_ | refine blockQ_miss rfl ?_ | refine TC.skip ?_ | refine TC.exit ?_ | refine TC.ret ?_ | refine TC.cond_t rfl ?_ | refine TC.cond_f rfl ?_)
  refine TC.condP rfl (fun hneg => ?_) (fun hneg => ?_)
  · have hnone : nextB h.funcs.toNat (cat Cm) (inB out) = none := by
      rcases hnx with h1 | h1
      · exact h1.2
      · omega
    repeat (first | refine TC.seq ?_ | refine TC.block ?_ | refine TC.region ?_ | refine TO.pureP tab rfl rfl ?_ | refine TO.nil ?_ | refine thenQ_n ?_ | refine blockQ_n ?_ | refine thenQ_r ?_ | refine blockQ_r ?_ | refine thenQ_x ?_ | refine blockQ_hit ?_ | refine blockQ_miss rfl ?_ | refine TC.skip ?_ | refine TC.exit ?_ | refine TC.ret ?_ | refine TC.cond_t rfl ?_ | refine TC.cond_f rfl ?_)
    refine retQ_ret rfl (by repeat (first | exact List.Sublist.refl _ | exact List.sublist_append_left _ _ | refine List.Sublist.cons_cons _ ?_ | refine List.Sublist.cons _ ?_)) ⟨Mem.le_trans hm1 hm2, rfl, so, out, cat Cm, j0, rfl, hso, fun K => ?_, hC⟩
    rw [hj0 K]
    cases K with
    | zero => rfl
    | succ K => rw [refG, hnone]
  obtain ⟨hx0, hx1, hnext⟩ : 0 ≤ nx ∧ nx < h.funcs ∧ nextB h.funcs.toNat (cat Cm) (inB out) = some nx.toNat := by
    rcases hnx with h1 | h1
    · omega
    · exact h1
  obtain ⟨f, rfl⟩ : ∃ f : Nat, nx = (f : Int) := ⟨nx.toNat, by omega⟩
  simp only [Int.toNat_natCast] at hnext
  have hfn : f < h.funcs.toNat := by omega
  have h0 : inB out f = false := by
    have := List.find?_some hnext
    simp only [Bool.and_eq_true, Bool.not_eq_true'] at this
    exact this.1
  repeat (first | refine TC.seq ?_ | refine TC.block ?_ | refine TC.region ?_ | refine TO.pureP tab rfl rfl ?_ | refine TO.nil ?_ | refine thenQ_n ?_ | refine blockQ_n ?_ | refine thenQ_r ?_ | refine blockQ_r ?_ | refine thenQ_x ?_ | refine blockQ_hit ?_ | refine blockQ_miss rfl ?_ | refine TC.skip ?_ | refine TC.exit ?_ | refine TC.ret ?_ | refine TC.cond_t rfl ?_ | refine TC.cond_f rfl ?_)
  refine TO.step rfl (OT.lit tab rfl rfl rfl rfl (fun bl2 => ?_))
  refine TO.drop (List.sublist_cons_self _ _) ?_
  repeat (first | refine TC.seq ?_ | refine TC.block ?_ | refine TC.region ?_ | refine TO.pureP tab rfl rfl ?_ | refine TO.nil ?_ | refine thenQ_n ?_ | refine blockQ_n ?_ | refine thenQ_r ?_ | refine blockQ_r ?_ | refine thenQ_x ?_ | refine blockQ_hit ?_ | refine blockQ_miss rfl ?_ | refine TC.skip ?_ | refine TC.exit ?_ | refine TC.ret ?_ | refine TC.cond_t rfl ?_ | refine TC.cond_f rfl ?_)
  refine TC.growL bl2 1 ?_
  refine TC.loopK (ι := RG4) [1, 3, 4, 5, 6] rfl (fun x => [(11, .int .i64 (x.k : Int)), (10, x.sg.v)]) (fun x => x.m) (fun x => tok x.sg 1 :: tok so 1 :: .cells bd 0 (x.D.map Value.bool) :: .cells b 0 (hierC hh) :: L)
    (fun x => x.k ≤ h.funcs.toNat ∧ m2 ≤ x.m ∧ RGI h.funcs.toNat (cat Cm) out D f x.k x.D ∧ Own x.sg ∧ SlRep rInt x.m x.sg (clsK (cat Cm) f x.k)) (fun x => h.funcs.toNat - x.k) ⟨0, ⟨some ⟨bl2, 0, none⟩, 0, 0⟩, D, m2⟩ (by repeat (first | exact trivial | refine And.intro rfl ?_)) rfl (List.Sublist.refl _)
    ⟨Nat.zero_le _, Mem.le_refl _, ⟨hDl, fun v hv => by rw [hD v hv]; simp, by simp⟩, Own.lit _ _ _, SlRep.lit0 _ _ _⟩ ?_
  rintro ⟨k, sg, D1, m3⟩ ⟨hk, hm3, hI, hown3, hsg⟩
  simp only at hk hm3 hI hown3 hsg ⊢
  have hD1l := hI.len
  have hcl := clsK_len (cat Cm) f k
  have htc3 := htc2.mono hm3
  repeat (first | (first | refine TC.seq ?_ | refine TC.block ?_ | refine TC.region ?_ | refine TO.pureP tab rfl rfl ?_ | refine TO.nil ?_ | refine thenQ_n ?_ | refine blockQ_n ?_ | refine thenQ_r ?_ | refine blockQ_r ?_ | refine thenQ_x ?_ | refine blockQ_hit ?_ | refine blockQ_miss rfl ?_ | refine TC.skip ?_ | refine TC.exit ?_ | refine TC.ret ?_ | refine TC.cond_t rfl ?_ | refine TC.cond_f rfl ?_) | (first | refine TO.step rfl (OT.loadL tab 0 rfl rfl rfl rfl rfl rfl ?_) | refine TO.step rfl (OT.loadL0 tab 0 rfl rfl rfl rfl rfl rfl ?_) | refine TO.step rfl (OT.loadL tab 1 rfl rfl rfl rfl rfl rfl ?_) | refine TO.step rfl (OT.loadL0 tab 1 rfl rfl rfl rfl rfl rfl ?_) | refine TO.step rfl (OT.loadL tab 2 rfl rfl rfl rfl rfl rfl ?_) | refine TO.step rfl (OT.loadL0 tab 2 rfl rfl rfl rfl rfl rfl ?_) | refine TO.step rfl (OT.loadL tab 3 rfl rfl rfl rfl rfl rfl ?_) | refine TO.step rfl (OT.loadL0 tab 3 rfl rfl rfl rfl rfl rfl ?_) | refine TO.step rfl (OT.loadL tab 4 rfl rfl rfl rfl rfl rfl ?_) | refine TO.step rfl (OT.loadL0 tab 4 rfl rfl rfl rfl rfl rfl ?_) | refine TO.step rfl (OT.loadL tab 5 rfl rfl rfl rfl rfl rfl ?_) | refine TO.step rfl (OT.loadL0 tab 5 rfl rfl rfl rfl rfl rfl ?_) | refine TO.step rfl (OT.loadL tab 6 rfl rfl rfl rfl rfl rfl ?_) | refine TO.step rfl (OT.loadL0 tab 6 rfl rfl rfl rfl rfl rfl ?_) | refine TO.step rfl (OT.loadL tab 7 rfl rfl rfl rfl rfl rfl ?_) | refine TO.step rfl (OT.loadL0 tab 7 rfl rfl rfl rfl rfl rfl ?_) | refine TO.step rfl (OT.loadL tab 8 rfl rfl rfl rfl rfl rfl ?_) | refine TO.step rfl (OT.loadL0 tab 8 rfl rfl rfl rfl rfl rfl ?_) | refine TO.step rfl (OT.loadL tab 9 rfl rfl rfl rfl rfl rfl ?_) | refine TO.step rfl (OT.loadL0 tab 9 rfl rfl rfl rfl rfl rfl ?_)))
  refine TC.condP rfl (fun hk1 => ?_) (fun hk1 => ?_)
  · have hkn : k < h.funcs.toNat := by omega
    obtain ⟨r1, hr1, hr2, hr3⟩ := hsq.get (i := f) (j := k) hfn hkn
    obtain ⟨r2, hr4, hr5, hr6⟩ := hsq.get (i := k) (j := f) hkn hfn
    have hinc : inC (cat Cm) f k = (decide (k = f) || (cat Cm f k && cat Cm k f)) := rfl
    generalize cat Cm f k = c1 at hr3 hinc
    generalize cat Cm k f = c2 at hr6 hinc
    repeat (first | refine TC.seq ?_ | refine TC.block ?_ | refine TC.region ?_ | refine TO.pureP tab rfl rfl ?_ | refine TO.nil ?_ | refine thenQ_n ?_ | refine blockQ_n ?_ | refine thenQ_r ?_ | refine blockQ_r ?_ | refine thenQ_x ?_ | refine blockQ_hit ?_ | refine blockQ_miss rfl ?_ | refine TC.skip ?_ | refine TC.exit ?_ | refine TC.ret ?_ | refine TC.cond_t rfl ?_ | refine TC.cond_f rfl ?_)
    (first | refine TO.splitP rfl rfl (fun hq0 => ?_) (fun hq0 => ?_) | refine TO.splitN rfl rfl (fun hq0 => ?_) (fun hq0 => ?_) | refine TO.split rfl rfl (fun hq0 => ?_) (fun hq0 => ?_))
    · have he : k = f := by omega
      have hin : inC (cat Cm) f k = true := by rw [hinc]; simp [he]
      have hI2 := hI.put hkn hin h0
      have hcs2 : clsK (cat Cm) f (k + 1) = clsK (cat Cm) f k ++ [(k : Int)] := by rw [clsK_succ, if_pos hin]
      repeat (first | refine TC.seq ?_ | refine TC.block ?_ | refine TC.region ?_ | refine TO.pureP tab rfl rfl ?_ | refine TO.nil ?_ | refine thenQ_n ?_ | refine blockQ_n ?_ | refine thenQ_r ?_ | refine blockQ_r ?_ | refine thenQ_x ?_ | refine blockQ_hit ?_ | refine blockQ_miss rfl ?_ | refine TC.skip ?_ | refine TC.exit ?_ | refine TC.ret ?_ | refine TC.cond_t rfl ?_ | refine TC.cond_f rfl ?_)
      refine TO.step rfl (OT.lit tab rfl rfl rfl rfl (fun bl3 => ?_))
      refine TO.step rfl (OT.append1 tab rInt 0 (hd' := (k : Int)) (a := (k : Int)) hsg hown3 rfl rfl rfl rfl rfl rfl rfl rfl (by simp only [rInt]; omega) (fun sg2 m4 hm4 hsg2 hown4 => ?_))
      repeat (first | refine TC.seq ?_ | refine TC.block ?_ | refine TC.region ?_ | refine TO.pureP tab rfl rfl ?_ | refine TO.nil ?_ | refine thenQ_n ?_ | refine blockQ_n ?_ | refine thenQ_r ?_ | refine blockQ_r ?_ | refine thenQ_x ?_ | refine blockQ_hit ?_ | refine blockQ_miss rfl ?_ | refine TC.skip ?_ | refine TC.exit ?_ | refine TC.ret ?_ | refine TC.cond_t rfl ?_ | refine TC.cond_f rfl ?_)
      refine TO.step rfl (OT.indexP (sz := 1) tab k rfl rfl rfl rfl rfl rfl rfl hkn ?_)
      refine TO.step rfl (OT.storeM tab 2 Value.bool true rfl rfl rfl rfl rfl rfl rfl (by omega) ?_)
      repeat (first | refine TC.seq ?_ | refine TC.block ?_ | refine TC.region ?_ | refine TO.pureP tab rfl rfl ?_ | refine TO.nil ?_ | refine thenQ_n ?_ | refine blockQ_n ?_ | refine thenQ_r ?_ | refine blockQ_r ?_ | refine thenQ_x ?_ | refine blockQ_hit ?_ | refine blockQ_miss rfl ?_ | refine TC.skip ?_ | refine TC.exit ?_ | refine TC.ret ?_ | refine TC.cond_t rfl ?_ | refine TC.cond_f rfl ?_)
      refine TO.step rfl (OT.arith (r' := ((k + 1 : Nat) : Int)) rfl rfl rfl rfl rfl rfl rfl (by omega) ?_)
      repeat (first | refine TC.seq ?_ | refine TC.block ?_ | refine TC.region ?_ | refine TO.pureP tab rfl rfl ?_ | refine TO.nil ?_ | refine thenQ_n ?_ | refine blockQ_n ?_ | refine thenQ_r ?_ | refine blockQ_r ?_ | refine thenQ_x ?_ | refine blockQ_hit ?_ | refine blockQ_miss rfl ?_ | refine TC.skip ?_ | refine TC.exit ?_ | refine TC.ret ?_ | refine TC.cond_t rfl ?_ | refine TC.cond_f rfl ?_)
      exact ⟨⟨k + 1, sg2, D1.set k true, m4⟩, (by repeat (first | exact trivial | refine And.intro rfl ?_)), (by repeat (first | exact trivial | refine And.intro rfl ?_)), rfl, rfl, List.Sublist.refl _, ⟨by simp only; omega, Mem.le_trans hm3 hm4, hI2, hown4, by simp only; rw [hcs2]; exact hsg2⟩, by simp only; omega⟩
    · have hne : ¬ k = f := fun e => hq0 (by rw [e])
      repeat (first | refine TC.seq ?_ | refine TC.block ?_ | refine TC.region ?_ | refine TO.pureP tab rfl rfl ?_ | refine TO.nil ?_ | refine thenQ_n ?_ | refine blockQ_n ?_ | refine thenQ_r ?_ | refine blockQ_r ?_ | refine thenQ_x ?_ | refine blockQ_hit ?_ | refine blockQ_miss rfl ?_ | refine TC.skip ?_ | refine TC.exit ?_ | refine TC.ret ?_ | refine TC.cond_t rfl ?_ | refine TC.cond_f rfl ?_)
      refine TO.step rfl (OT.index tab rBools f htc3 rfl rfl rfl rfl rfl (by first | rfl | omega) rfl hr1 ?_)
      rintro b1 i1 hd1 hrd1 hA1
      (first | refine TO.step rfl (OT.loadA tab hA1 rfl rfl rfl rfl rfl ?_) | refine TO.step rfl (OT.loadA0 tab hA1 rfl rfl rfl rfl rfl ?_))
      repeat (first | refine TC.seq ?_ | refine TC.block ?_ | refine TC.region ?_ | refine TO.pureP tab rfl rfl ?_ | refine TO.nil ?_ | refine thenQ_n ?_ | refine blockQ_n ?_ | refine thenQ_r ?_ | refine blockQ_r ?_ | refine thenQ_x ?_ | refine blockQ_hit ?_ | refine blockQ_miss rfl ?_ | refine TC.skip ?_ | refine TC.exit ?_ | refine TC.ret ?_ | refine TC.cond_t rfl ?_ | refine TC.cond_f rfl ?_)
      refine TO.step rfl (OT.index tab rBool k hrd1 rfl rfl rfl rfl rfl (by first | rfl | omega) rfl hr3 ?_)
      rintro b2 i2 hd2 hrd2 hA2
      obtain rfl := (show hd2 = c1 from hrd2)
      (first | refine TO.step rfl (OT.loadA tab hA2 rfl rfl rfl rfl rfl ?_) | refine TO.step rfl (OT.loadA0 tab hA2 rfl rfl rfl rfl rfl ?_))
      repeat (first | refine TC.seq ?_ | refine TC.block ?_ | refine TC.region ?_ | refine TO.pureP tab rfl rfl ?_ | refine TO.nil ?_ | refine thenQ_n ?_ | refine blockQ_n ?_ | refine thenQ_r ?_ | refine blockQ_r ?_ | refine thenQ_x ?_ | refine blockQ_hit ?_ | refine blockQ_miss rfl ?_ | refine TC.skip ?_ | refine TC.exit ?_ | refine TC.ret ?_ | refine TC.cond_t rfl ?_ | refine TC.cond_f rfl ?_)
      (first | refine TO.splitP rfl rfl (fun hq1 => ?_) (fun hq1 => ?_) | refine TO.splitN rfl rfl (fun hq1 => ?_) (fun hq1 => ?_) | refine TO.split rfl rfl (fun hq1 => ?_) (fun hq1 => ?_))
      · repeat (first | refine TC.seq ?_ | refine TC.block ?_ | refine TC.region ?_ | refine TO.pureP tab rfl rfl ?_ | refine TO.nil ?_ | refine thenQ_n ?_ | refine blockQ_n ?_ | refine thenQ_r ?_ | refine blockQ_r ?_ | refine thenQ_x ?_ | refine blockQ_hit ?_ | refine blockQ_miss rfl ?_ | refine TC.skip ?_ | refine TC.exit ?_ | refine TC.ret ?_ | refine TC.cond_t rfl ?_ | refine TC.cond_f rfl ?_)
        refine TO.step rfl (OT.index tab rBools k htc3 rfl rfl rfl rfl rfl (by first | rfl | omega) rfl hr4 ?_)
        rintro b3 i3 hd3 hrd3 hA3
        (first | refine TO.step rfl (OT.loadA tab hA3 rfl rfl rfl rfl rfl ?_) | refine TO.step rfl (OT.loadA0 tab hA3 rfl rfl rfl rfl rfl ?_))
        repeat (first | refine TC.seq ?_ | refine TC.block ?_ | refine TC.region ?_ | refine TO.pureP tab rfl rfl ?_ | refine TO.nil ?_ | refine thenQ_n ?_ | refine blockQ_n ?_ | refine thenQ_r ?_ | refine blockQ_r ?_ | refine thenQ_x ?_ | refine blockQ_hit ?_ | refine blockQ_miss rfl ?_ | refine TC.skip ?_ | refine TC.exit ?_ | refine TC.ret ?_ | refine TC.cond_t rfl ?_ | refine TC.cond_f rfl ?_)
        refine TO.step rfl (OT.index tab rBool f hrd3 rfl rfl rfl rfl rfl (by first | rfl | omega) rfl hr6 ?_)
        rintro b4 i4 hd4 hrd4 hA4
        obtain rfl := (show hd4 = c2 from hrd4)
        (first | refine TO.step rfl (OT.loadA tab hA4 rfl rfl rfl rfl rfl ?_) | refine TO.step rfl (OT.loadA0 tab hA4 rfl rfl rfl rfl rfl ?_))
        repeat (first | refine TC.seq ?_ | refine TC.block ?_ | refine TC.region ?_ | refine TO.pureP tab rfl rfl ?_ | refine TO.nil ?_ | refine thenQ_n ?_ | refine blockQ_n ?_ | refine thenQ_r ?_ | refine blockQ_r ?_ | refine thenQ_x ?_ | refine blockQ_hit ?_ | refine blockQ_miss rfl ?_ | refine TC.skip ?_ | refine TC.exit ?_ | refine TC.ret ?_ | refine TC.cond_t rfl ?_ | refine TC.cond_f rfl ?_)
        refine TC.cond rfl (fun hq4 => ?_) (fun hq4 => ?_)
        · 
          have hin : inC (cat Cm) f k = true := by rw [hinc]; simp [hq1, hq4]
          have hI2 := hI.put hkn hin h0
          have hcs2 : clsK (cat Cm) f (k + 1) = clsK (cat Cm) f k ++ [(k : Int)] := by rw [clsK_succ, if_pos hin]
          repeat (first | refine TC.seq ?_ | refine TC.block ?_ | refine TC.region ?_ | refine TO.pureP tab rfl rfl ?_ | refine TO.nil ?_ | refine thenQ_n ?_ | refine blockQ_n ?_ | refine thenQ_r ?_ | refine blockQ_r ?_ | refine thenQ_x ?_ | refine blockQ_hit ?_ | refine blockQ_miss rfl ?_ | refine TC.skip ?_ | refine TC.exit ?_ | refine TC.ret ?_ | refine TC.cond_t rfl ?_ | refine TC.cond_f rfl ?_)
          refine TO.step rfl (OT.lit tab rfl rfl rfl rfl (fun bl3 => ?_))
          refine TO.step rfl (OT.append1 tab rInt 0 (hd' := (k : Int)) (a := (k : Int)) hsg hown3 rfl rfl rfl rfl rfl rfl rfl rfl (by simp only [rInt]; omega) (fun sg2 m4 hm4 hsg2 hown4 => ?_))
          repeat (first | refine TC.seq ?_ | refine TC.block ?_ | refine TC.region ?_ | refine TO.pureP tab rfl rfl ?_ | refine TO.nil ?_ | refine thenQ_n ?_ | refine blockQ_n ?_ | refine thenQ_r ?_ | refine blockQ_r ?_ | refine thenQ_x ?_ | refine blockQ_hit ?_ | refine blockQ_miss rfl ?_ | refine TC.skip ?_ | refine TC.exit ?_ | refine TC.ret ?_ | refine TC.cond_t rfl ?_ | refine TC.cond_f rfl ?_)
          refine TO.step rfl (OT.indexP (sz := 1) tab k rfl rfl rfl rfl rfl rfl rfl hkn ?_)
          refine TO.step rfl (OT.storeM tab 2 Value.bool true rfl rfl rfl rfl rfl rfl rfl (by omega) ?_)
          repeat (first | refine TC.seq ?_ | refine TC.block ?_ | refine TC.region ?_ | refine TO.pureP tab rfl rfl ?_ | refine TO.nil ?_ | refine thenQ_n ?_ | refine blockQ_n ?_ | refine thenQ_r ?_ | refine blockQ_r ?_ | refine thenQ_x ?_ | refine blockQ_hit ?_ | refine blockQ_miss rfl ?_ | refine TC.skip ?_ | refine TC.exit ?_ | refine TC.ret ?_ | refine TC.cond_t rfl ?_ | refine TC.cond_f rfl ?_)
          refine TO.step rfl (OT.arith (r' := ((k + 1 : Nat) : Int)) rfl rfl rfl rfl rfl rfl rfl (by omega) ?_)
          repeat (first | refine TC.seq ?_ | refine TC.block ?_ | refine TC.region ?_ | refine TO.pureP tab rfl rfl ?_ | refine TO.nil ?_ | refine thenQ_n ?_ | refine blockQ_n ?_ | refine thenQ_r ?_ | refine blockQ_r ?_ | refine thenQ_x ?_ | refine blockQ_hit ?_ | refine blockQ_miss rfl ?_ | refine TC.skip ?_ | refine TC.exit ?_ | refine TC.ret ?_ | refine TC.cond_t rfl ?_ | refine TC.cond_f rfl ?_)
          exact ⟨⟨k + 1, sg2, D1.set k true, m4⟩, (by repeat (first | exact trivial | refine And.intro rfl ?_)), (by repeat (first | exact trivial | refine And.intro rfl ?_)), rfl, rfl, List.Sublist.refl _, ⟨by simp only; omega, Mem.le_trans hm3 hm4, hI2, hown4, by simp only; rw [hcs2]; exact hsg2⟩, by simp only; omega⟩
        · 
          have hin : inC (cat Cm) f k = false := by rw [hinc]; simp [hq4, hne]
          have hI2 := hI.skip hin
          have hcs2 : clsK (cat Cm) f (k + 1) = clsK (cat Cm) f k := by rw [clsK_succ, if_neg (by rw [hin]; decide)]
          repeat (first | refine TC.seq ?_ | refine TC.block ?_ | refine TC.region ?_ | refine TO.pureP tab rfl rfl ?_ | refine TO.nil ?_ | refine thenQ_n ?_ | refine blockQ_n ?_ | refine thenQ_r ?_ | refine blockQ_r ?_ | refine thenQ_x ?_ | refine blockQ_hit ?_ | refine blockQ_miss rfl ?_ | refine TC.skip ?_ | refine TC.exit ?_ | refine TC.ret ?_ | refine TC.cond_t rfl ?_ | refine TC.cond_f rfl ?_)
          refine TO.step rfl (OT.arith (r' := ((k + 1 : Nat) : Int)) rfl rfl rfl rfl rfl rfl rfl (by omega) ?_)
          repeat (first | refine TC.seq ?_ | refine TC.block ?_ | refine TC.region ?_ | refine TO.pureP tab rfl rfl ?_ | refine TO.nil ?_ | refine thenQ_n ?_ | refine blockQ_n ?_ | refine thenQ_r ?_ | refine blockQ_r ?_ | refine thenQ_x ?_ | refine blockQ_hit ?_ | refine blockQ_miss rfl ?_ | refine TC.skip ?_ | refine TC.exit ?_ | refine TC.ret ?_ | refine TC.cond_t rfl ?_ | refine TC.cond_f rfl ?_)
          exact ⟨⟨k + 1, sg, D1, m3⟩, (by repeat (first | exact trivial | refine And.intro rfl ?_)), (by repeat (first | exact trivial | refine And.intro rfl ?_)), rfl, rfl, List.Sublist.refl _, ⟨by simp only; omega, hm3, hI2, hown3, by simp only; rw [hcs2]; exact hsg⟩, by simp only; omega⟩
      · 
        have hin : inC (cat Cm) f k = false := by rw [hinc]; simp [hq1, hne]
        have hI2 := hI.skip hin
        have hcs2 : clsK (cat Cm) f (k + 1) = clsK (cat Cm) f k := by rw [clsK_succ, if_neg (by rw [hin]; decide)]
        repeat (first | refine TC.seq ?_ | refine TC.block ?_ | refine TC.region ?_ | refine TO.pureP tab rfl rfl ?_ | refine TO.nil ?_ | refine thenQ_n ?_ | refine blockQ_n ?_ | refine thenQ_r ?_ | refine blockQ_r ?_ | refine thenQ_x ?_ | refine blockQ_hit ?_ | refine blockQ_miss rfl ?_ | refine TC.skip ?_ | refine TC.exit ?_ | refine TC.ret ?_ | refine TC.cond_t rfl ?_ | refine TC.cond_f rfl ?_)
        refine TO.step rfl (OT.arith (r' := ((k + 1 : Nat) : Int)) rfl rfl rfl rfl rfl rfl rfl (by omega) ?_)
        repeat (first | refine TC.seq ?_ | refine TC.block ?_ | refine TC.region ?_ | refine TO.pureP tab rfl rfl ?_ | refine TO.nil ?_ | refine thenQ_n ?_ | refine blockQ_n ?_ | refine thenQ_r ?_ | refine blockQ_r ?_ | refine thenQ_x ?_ | refine blockQ_hit ?_ | refine blockQ_miss rfl ?_ | refine TC.skip ?_ | refine TC.exit ?_ | refine TC.ret ?_ | refine TC.cond_t rfl ?_ | refine TC.cond_f rfl ?_)
        exact ⟨⟨k + 1, sg, D1, m3⟩, (by repeat (first | exact trivial | refine And.intro rfl ?_)), (by repeat (first | exact trivial | refine And.intro rfl ?_)), rfl, rfl, List.Sublist.refl _, ⟨by simp only; omega, hm3, hI2, hown3, by simp only; rw [hcs2]; exact hsg⟩, by simp only; omega⟩
  · have hkn : k = h.funcs.toNat := by omega
    subst hkn
    rw [clsK_all] at hsg
    have hfl := hI.fal
    rw [if_pos hfn] at hfl
    have hso3 := hso.mono hm3
    repeat (first | refine TC.seq ?_ | refine TC.block ?_ | refine TC.region ?_ | refine TO.pureP tab rfl rfl ?_ | refine TO.nil ?_ | refine thenQ_n ?_ | refine blockQ_n ?_ | refine thenQ_r ?_ | refine blockQ_r ?_ | refine thenQ_x ?_ | refine blockQ_hit ?_ | refine blockQ_miss rfl ?_ | refine TC.skip ?_ | refine TC.exit ?_ | refine TC.ret ?_ | refine TC.cond_t rfl ?_ | refine TC.cond_f rfl ?_)
    refine TO.step rfl (OT.lit tab rfl rfl rfl rfl (fun bl3 => ?_))
    refine TO.step rfl (OT.append1 tab rInts 1 (hd' := sg) (a := clsB h.funcs.toNat (cat Cm) f) hso3 hown hsg rfl rfl rfl rfl rfl rfl rfl (by simp only [rInts, rSl]; omega) (fun so2 m4 hm4 hso2 hown2 => ?_))
    repeat (first | refine TC.seq ?_ | refine TC.block ?_ | refine TC.region ?_ | refine TO.pureP tab rfl rfl ?_ | refine TO.nil ?_ | refine thenQ_n ?_ | refine blockQ_n ?_ | refine thenQ_r ?_ | refine blockQ_r ?_ | refine thenQ_x ?_ | refine blockQ_hit ?_ | refine blockQ_miss rfl ?_ | refine TC.skip ?_ | refine TC.exit ?_ | refine TC.ret ?_ | refine TC.cond_t rfl ?_ | refine TC.cond_f rfl ?_)
    refine ⟨⟨out ++ [clsB h.funcs.toNat (cat Cm) f], so2, D1, m4⟩, (by repeat (first | exact trivial | refine And.intro rfl ?_)), (by repeat (first | exact trivial | refine And.intro rfl ?_)), rfl, rfl, (by repeat (first | exact List.Sublist.refl _ | exact List.sublist_append_left _ _ | refine List.Sublist.cons_cons _ ?_ | refine List.Sublist.cons _ ?_)), ⟨Mem.le_trans hm2 (Mem.le_trans hm3 hm4), hD1l, fun v hv => ?_, hown2, hso2, by simp only [List.length_append, List.length_singleton]; omega, j0 + 1, fun K => ?_⟩, by simp only; omega⟩
    · simp only
      rw [hI.val v hv, inB_snoc, clsB_has hv]
      simp [hv]
    · simp only
      rw [show K + (j0 + 1) = (K + 1) + j0 by omega, hj0 (K + 1), refG, hnext]
end Go.Sep
