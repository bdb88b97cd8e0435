/-
  The walk of the document's Sound.
-/
import Derived.Test.YtlpcakplpnpaeaaB7
set_option linter.unusedVariables false
set_option linter.unusedSimpArgs false
namespace Go.Sep
open Go.Proofs
attribute [local irreducible] TC TO OT TCallX TCall DO DOt thenQ blockQ retQ At

theorem basicOf_pos (s : Str) : decide (0 < basicOf s) = !decide (basicOf s = 0) := by
  unfold basicOf
  repeat' split
  all_goals rfl
theorem idxP_hit {α : Type} : ∀ (l r : List α) (p : α → Bool) (k : Nat), l.any p = true → idxP (l ++ r) p k = idxP l p k
  | [], r, p, k, h => by simp at h
  | x :: xs, r, p, k, h => by
    by_cases e : p x = true
    · simp [idxP, e]
    · simp only [List.cons_append, idxP, if_neg e]
      exact idxP_hit xs r p (k + 1) (by simpa [e] using h)
theorem idxP_miss {α : Type} : ∀ (l r : List α) (p : α → Bool) (k : Nat), l.any p = false → idxP (l ++ r) p k = idxP r p (k + l.length)
  | [], r, p, k, h => by simp
  | x :: xs, r, p, k, h => by
    have e : ¬ p x = true := by
      intro e
      simp [e] at h
    simp only [List.cons_append, idxP, if_neg e]
    rw [idxP_miss xs r p (k + 1) (by simpa [e] using h), List.length_cons]
    congr 1; omega
theorem idxD_dup {l : List Decl} {k : Nat} (h : k < l.length) : decide (idxD l l[k].name < (k : Int)) = hasD (l.take k) l[k].name := by
  have hsp : l = l.take k ++ l[k] :: l.drop (k + 1) := by rw [← List.drop_eq_getElem_cons h, List.take_append_drop]
  have hlen : (l.take k).length = k := by simp; omega
  generalize hn : l[k].name = n
  have hc := congrArg (fun z => idxP z (fun d : Decl => decide (d.name = n)) 0) hsp
  cases hh : hasD (l.take k) n with
  | true =>
    have e : idxD l n = idxD (l.take k) n := hc.trans (idxP_hit _ _ _ _ hh)
    obtain ⟨j, h1, h2, _⟩ := idxD_get hh
    have := (List.getElem?_eq_some_iff.1 h2).1
    rw [e, h1]
    exact decide_eq_true (by omega)
  | false =>
    have e : idxD l n = (k : Int) := by
      refine hc.trans ?_
      rw [idxP_miss _ _ _ _ hh, idxP, if_pos (by simp [hn]), hlen, Nat.zero_add]
    rw [e]
    exact decide_eq_false (by omega)
theorem names_twice {l : List Decl} {k : Nat} (h : k < l.length) (hm : hasD (l.take k) l[k].name = true) : ¬ (l.map Decl.name).Nodup := fun hc => by
  have h1 : ((l.take (k + 1)).map Decl.name).Nodup := hc.sublist ((List.take_sublist _ _).map _)
  rw [((names_snoc l k h).1 h1).2] at hm
  cases hm

set_option maxHeartbeats 4000000 in
theorem sound_def (m : Mem) (L : List Item) (s : Sl) (l : List Decl) (hs : SlRep rDecl m s l) (hB : TblS l) : TCall Try.prog 19 ⟨[s.v]⟩ m L (Ret (.int .i64 (soundE l)) m L) := by
  refine TCall.forget ?_
  have hl := hs.len
  have hsm := hs.small rfl
  unfold TCall
  refine TCallX.enter Try.func19 rfl 179 rfl ?_
  repeat (first|refine q1 ?_|refine q3 ?_|refine q4 tab rfl rfl ?_|refine q5 ?_|refine q6 ?_)
  refine TC.condP rfl (fun eL => ?_) (fun eL => ?_)
  · repeat (first|refine q1 ?_|refine q3 ?_|refine q4 tab rfl rfl ?_|refine q5 ?_|refine q6 ?_|refine q8 ?_|refine q15 ?_)
    refine retQ_ret rfl (by repeat (exact List.Sublist.refl _)) ⟨Mem.le_refl _, rfl, ?_⟩
    rw [soundE_large (largeB_len (by omega))]
  · repeat (first|refine q1 ?_|refine q2 ?_|refine q3 ?_|refine q4 tab rfl rfl ?_|refine q5 ?_|refine q6 ?_|refine q13 ?_)
    refine TC.loopK (ι := Nat) [0] rfl (fun k => [(3, .int .i64 (k : Int))]) (fun _ => m) (fun _ => L) (fun k => k ≤ l.length ∧ (l.take k).any bigD = false) (fun k => l.length - k) 0 (by repeat (first|exact trivial|refine And.intro rfl ?_)) rfl (by repeat (exact List.Sublist.refl _)) ⟨Nat.zero_le _, rfl⟩ ?_
    rintro k ⟨hk, hI⟩
    repeat (first|refine q1 ?_|refine q3 ?_|refine q4 tab rfl rfl ?_|refine q5 ?_|refine q6 ?_)
    refine TC.condP rfl (fun h => ?_) (fun h => ?_)
    · have hlt : k < l.length := by omega
      have hx : l[k]? = some l[k] := by simp [hlt]
      repeat (first|refine q1 ?_|refine q2 ?_|refine q3 ?_|refine q4 tab rfl rfl ?_|refine q6 ?_|refine q13 ?_)
      refine TO.step rfl (OT.index tab rDecl k hs rfl rfl rfl rfl rfl (by first | rfl | omega) rfl hx ?_)
      rintro b' i' hd hrd hA
      have hf1 := hrd.fields.len
      repeat (refine q4 tab rfl rfl ?_)
      (refine TO.step rfl (OT.loadA tab hA rfl rfl rfl rfl rfl ?_))
      repeat (refine q4 tab rfl rfl ?_)
      (refine TO.splitP rfl rfl (fun e1 => ?_) (fun e1 => ?_))
      · repeat (first|refine q1 ?_|refine q3 ?_|refine q4 tab rfl rfl ?_|refine q5 ?_|refine q6 ?_|refine q8 ?_|refine q9 ?_|refine q15 ?_|refine q16 rfl ?_)
        refine retQ_ret rfl (by repeat (exact List.Sublist.refl _)) ⟨Mem.le_refl _, rfl, ?_⟩
        rw [soundE_large (largeB_any (any_hit hlt (by rw [bigD, decide_eq_true (show 64 < l[k].fields.length by omega)]; rfl)))]
      · repeat (refine q4 tab rfl rfl ?_)
        refine TO.step rfl (OT.index tab rDecl k hs rfl rfl rfl rfl rfl (by first | rfl | omega) rfl hx ?_)
        rintro b2 i2 hd2 hrd2 hA2
        have hm1 := hrd2.methods.len
        repeat (refine q4 tab rfl rfl ?_)
        (refine TO.step rfl (OT.loadA tab hA2 rfl rfl rfl rfl rfl ?_))
        repeat (first|refine q4 tab rfl rfl ?_|refine q5 ?_|refine q6 ?_)
        refine TC.condP rfl (fun e2 => ?_) (fun e2 => ?_)
        · repeat (first|refine q1 ?_|refine q3 ?_|refine q4 tab rfl rfl ?_|refine q5 ?_|refine q6 ?_|refine q8 ?_|refine q9 ?_|refine q15 ?_)
          refine retQ_ret rfl (by repeat (exact List.Sublist.refl _)) ⟨Mem.le_refl _, rfl, ?_⟩
          rw [soundE_large (largeB_any (any_hit hlt (by rw [bigD, decide_eq_true (show 64 < l[k].methods.length by omega), Bool.or_true])))]
        · repeat (first|refine q3 ?_|refine q4 tab rfl rfl ?_|refine q6 ?_|refine q7 ?_|refine q13 ?_)
          refine TO.step rfl (OT.arith (r' := ((k + 1 : Nat) : Int)) rfl rfl rfl rfl rfl rfl rfl (by omega) ?_)
          repeat (first|refine q4 tab rfl rfl ?_|refine q5 ?_|refine q6 ?_)
          exact ⟨k + 1, (by repeat (first|exact trivial|refine And.intro rfl ?_)), (by repeat (first|exact trivial|refine And.intro rfl ?_)), rfl, rfl, (by repeat (exact List.Sublist.refl _)), ⟨by omega, any_take hlt hI (by rw [bigD, decide_eq_false (show ¬ 64 < l[k].fields.length by omega), decide_eq_false (show ¬ 64 < l[k].methods.length by omega)]; rfl)⟩, by omega⟩
    · rw [List.take_of_length_le (by omega)] at hI
      have hbig : largeB l = false := largeB_no (by omega) hI
      have hsml : ∀ d ∈ l, d.fields.length ≤ 64 ∧ d.methods.length ≤ 64 := fun d hd => by
        have := List.any_eq_false.1 hI d hd
        simp only [bigD, Bool.or_eq_true, decide_eq_true_eq] at this
        omega
      clear hI h hk
      repeat (first|refine q1 ?_|refine q2 ?_|refine q3 ?_|refine q4 tab rfl rfl ?_|refine q5 ?_|refine q6 ?_|refine q10 ?_|refine q11 ?_|refine q14 ?_)
      refine TC.loopK (ι := Nat × Mem) [0] rfl (fun x => [(4, .int .i64 (x.1 : Int))]) (fun x => x.2) (fun _ => L) (fun x => x.1 ≤ l.length ∧ m ≤ x.2 ∧ (l.take x.1).any formD = false) (fun x => l.length - x.1) (0, m) (by repeat (first|exact trivial|refine And.intro rfl ?_)) rfl (by repeat (exact List.Sublist.refl _)) ⟨Nat.zero_le _, Mem.le_refl _, rfl⟩ ?_
      rintro ⟨k, m1⟩ ⟨hk, hm1, hI⟩
      simp only at hk hm1 hI ⊢
      repeat (first|refine q1 ?_|refine q3 ?_|refine q4 tab rfl rfl ?_|refine q5 ?_|refine q6 ?_)
      refine TC.condP rfl (fun h => ?_) (fun h => ?_)
      · have hlt : k < l.length := by omega
        have hx : l[k]? = some l[k] := by simp [hlt]
        have hmem := List.getElem_mem hlt
        have hdS := hB _ hmem
        have hd64 := hsml _ hmem
        have hs1 := hs.mono hm1
        repeat (first|refine q1 ?_|refine q2 ?_|refine q3 ?_|refine q4 tab rfl rfl ?_|refine q6 ?_|refine q13 ?_)
        refine TO.step rfl (OT.index tab rDecl k hs1 rfl rfl rfl rfl rfl (by first | rfl | omega) rfl hx ?_)
        rintro b' i' hd hrd hA
        have hn1 := hrd.name
        have hi1 := hrd.iface
        have hf1 := hrd.fields.len
        have hm1' := hrd.methods.len
        have hnl := hdS.name
        (refine TO.step rfl (OT.loadA0 tab hA rfl rfl rfl rfl rfl ?_))
        skip
        refine TO.step rfl (OT.alloc tab rfl rfl rfl rfl (fun b6 => ?_))
        skip
        (refine TO.step rfl (OT.storeL0 tab 0 rfl rfl rfl rfl rfl rfl rfl rfl ?_))
        refine TO.nil ?_
        refine thenQ_n ?_
        refine TC.seq ?_
        refine TC.seq ?_
        refine TC.cutT (ι := Bool) [0, 4, 5] rfl (fun v => [(67, .bool v)]) (fun _ => m1) (fun _ => .cells b6 0 (declC hd) :: L) (fun v => v = headD l[k]) ?_ (fun v hv => ?_)
        · repeat (first|(first|refine q3 ?_|refine q4 tab rfl rfl ?_)|(refine qs rfl (ql tab 0 rfl rfl rfl rfl rfl rfl ?_)))
          refine TO.step rfl (OT.call rfl rfl rfl rfl rfl rfl goes51 ((name_ref _ _ hd.name (by rw [hn1]; omega)).x ?_));
          rintro _ _ _ ⟨rfl, rfl, rfl⟩
          repeat (refine q4 tab rfl rfl ?_)
          refine TO.split (b := !isName hd.name) rfl rfl (fun e1 => ?_) (fun e1 => ?_)
          · repeat (first|refine q4 tab rfl rfl ?_|refine q5 ?_|refine q6 ?_)
            exact ⟨true, (by repeat (first|exact trivial|refine And.intro rfl ?_)), (by repeat (first|exact trivial|refine And.intro rfl ?_)), rfl, rfl, (by repeat (exact List.Sublist.refl _)), by rw [headD, ← hn1, e1]; rfl⟩
          · repeat (first|(refine q4 tab rfl rfl ?_)|(refine qs rfl (ql tab 0 rfl rfl rfl rfl rfl rfl ?_)))
            refine TO.step rfl (OT.call rfl rfl rfl rfl rfl rfl goes52 ((basic_ref _ _ hd.name).x ?_));
            rintro _ _ _ ⟨rfl, rfl, rfl⟩
            repeat (refine q4 tab rfl rfl ?_)
            (refine TO.splitP rfl rfl (fun e2 => ?_) (fun e2 => ?_))
            · repeat (first|refine q4 tab rfl rfl ?_|refine q5 ?_|refine q6 ?_)
              exact ⟨true, (by repeat (first|exact trivial|refine And.intro rfl ?_)), (by repeat (first|exact trivial|refine And.intro rfl ?_)), rfl, rfl, (by repeat (exact List.Sublist.refl _)), by rw [headD, ← hn1, e1, ← basicOf_pos, decide_eq_true e2]; rfl⟩
            · repeat (first|(refine q4 tab rfl rfl ?_)|(refine qs rfl (ql tab 0 rfl rfl rfl rfl rfl rfl ?_)))
              refine TO.split (b := hd.iface) rfl rfl (fun e3 => ?_) (fun e3 => ?_)
              · repeat (first|(first|refine q4 tab rfl rfl ?_|refine q5 ?_|refine q6 ?_)|(refine qs rfl (ql tab 0 rfl rfl rfl rfl rfl rfl ?_)))
                refine ⟨decide ((0 : Int) < (hd.fields.len : Int)), (by repeat (first|exact trivial|refine And.intro rfl ?_)), (by repeat (first|exact trivial|refine And.intro rfl ?_)), rfl, rfl, (by repeat (exact List.Sublist.refl _)), ?_⟩
                rw [headD, ← hn1, e1, ← basicOf_pos, decide_eq_false e2, ← hi1, e3, hf1]
                simp
              · repeat (first|refine q4 tab rfl rfl ?_|refine q5 ?_|refine q6 ?_)
                exact ⟨false, (by repeat (first|exact trivial|refine And.intro rfl ?_)), (by repeat (first|exact trivial|refine And.intro rfl ?_)), rfl, rfl, (by repeat (exact List.Sublist.refl _)), by rw [headD, ← hn1, e1, ← basicOf_pos, decide_eq_false e2, ← hi1, e3]; rfl⟩
        · refine TC.cond (t := v) rfl (fun e => ?_) (fun e => ?_)
          · subst e
            repeat (first|refine q1 ?_|refine q3 ?_|refine q4 tab rfl rfl ?_|refine q5 ?_|refine q6 ?_|refine q8 ?_|refine q9 ?_|refine q15 ?_)
            refine retQ_ret rfl (by repeat (first|exact List.Sublist.refl _|refine List.Sublist.cons _ ?_)) ⟨hm1, rfl, ?_⟩
            rw [soundE_form hbig (any_hit hlt (by rw [formD, ← hv]; rfl))]
          · subst e
            repeat (first|(first|refine q1 ?_|refine q3 ?_|refine q6 ?_|refine q13 ?_)|(refine qs rfl (qz tab 0 rfl rfl rfl rfl rfl rfl ?_)))
            refine TO.step rfl (OT.call rfl rfl rfl rfl rfl rfl goes53 ((members_ref _ _ hd l[k] hrd hdS).x ?_));
            rintro _ m3 _ ⟨hm3, rfl, u, rfl, hu⟩
            have hul := hu.len
            have hus := hu.small rfl
            have hm03 := Mem.le_trans hm1 hm3
            repeat (first|refine q1 ?_|refine q2 ?_|refine q3 ?_|refine q4 tab rfl rfl ?_|refine q5 ?_|refine q6 ?_)
            refine TC.loopK (ι := Nat) [0, 4, 5, 6] rfl (fun j => [(7, .int .i64 (j : Int))]) (fun _ => m3) (fun _ => .cells b6 0 (declC hd) :: L) (fun j => j ≤ l[k].all.length ∧ NoI (badF l[k].fields.length) l[k].all j) (fun j => l[k].all.length - j) 0 (by repeat (first|exact trivial|refine And.intro rfl ?_)) rfl (by repeat (exact List.Sublist.refl _)) ⟨Nat.zero_le _, fun j x hj => by omega⟩ ?_
            rintro j ⟨hj, hJ⟩
            repeat (first|refine q1 ?_|refine q3 ?_|refine q4 tab rfl rfl ?_|refine q5 ?_|refine q6 ?_)
            refine TC.condP rfl (fun h2 => ?_) (fun h2 => ?_)
            · have hjl : j < l[k].all.length := by omega
              have hxj : l[k].all[j]? = some l[k].all[j] := by simp [hjl]
              have hfS := hdS.all _ (List.getElem_mem hjl)
              repeat (first|refine q1 ?_|refine q2 ?_|refine q3 ?_|refine q4 tab rfl rfl ?_|refine q6 ?_|refine q13 ?_)
              refine TO.step rfl (OT.index tab rField j hu rfl rfl rfl rfl rfl (by first | rfl | omega) rfl hxj ?_)
              rintro b2 i2 hf hrf hA2
              have hft := hrf.type
              have hfk := hft.kind
              repeat (refine q4 tab rfl rfl ?_)
              (refine TO.step rfl (OT.loadA tab hA2 rfl rfl rfl rfl rfl ?_))
              skip
              refine TO.step rfl (OT.alloc tab rfl rfl rfl rfl (fun b8 => ?_))
              skip
              (refine TO.step rfl (OT.storeL0 tab 0 rfl rfl rfl rfl rfl rfl rfl rfl ?_))
              refine TO.nil ?_
              refine thenQ_n ?_
              refine TC.seq ?_
              refine TC.cutT (ι := Bool) [0, 4, 5, 6, 7, 8] rfl (fun v => [(109, .bool v)]) (fun _ => m3) (fun _ => .cells b6 0 (declC hd) :: L) (fun v => v = badF l[k].fields.length j l[k].all[j]) ?_ (fun v hv => ?_)
              · repeat (first|refine q3 ?_|refine q4 tab rfl rfl ?_)
                refine TO.step rfl (OT.index tab rField j hu rfl rfl rfl rfl rfl (by first | rfl | omega) rfl hxj ?_)
                rintro b3 i3 hf3 hrf3 hA3
                have hfn := hrf3.name
                repeat (refine q4 tab rfl rfl ?_)
                (refine TO.step rfl (OT.loadA tab hA3 rfl rfl rfl rfl rfl ?_))
                skip
                refine TO.step rfl (OT.call rfl rfl rfl rfl rfl rfl goes51 ((name_ref _ _ hf3.name (by rw [hfn]; omega)).x ?_));
                rintro _ _ _ ⟨rfl, rfl, rfl⟩
                repeat (refine q4 tab rfl rfl ?_)
                refine TO.split (b := !isName hf3.name) rfl rfl (fun e1 => ?_) (fun e1 => ?_)
                · repeat (first|refine q4 tab rfl rfl ?_|refine q5 ?_|refine q6 ?_)
                  exact ⟨true, (by repeat (first|exact trivial|refine And.intro rfl ?_)), (by repeat (first|exact trivial|refine And.intro rfl ?_)), rfl, rfl, (by repeat (first|exact List.Sublist.refl _|refine List.Sublist.cons _ ?_)), by rw [badF, ← hfn, e1]; rfl⟩
                · repeat ((refine qs rfl (qz tab 0 rfl rfl rfl rfl rfl rfl ?_)))
                  refine TO.step rfl (OT.call rfl rfl rfl rfl rfl rfl goes42 ((isSound_ref _ _ _ hf.type hft (by omega)).x ?_));
                  rintro _ _ _ ⟨rfl, rfl, rfl⟩
                  repeat (refine q4 tab rfl rfl ?_)
                  refine TO.split (b := !l[k].all[j].type.sound) rfl rfl (fun e2 => ?_) (fun e2 => ?_)
                  · repeat (first|refine q4 tab rfl rfl ?_|refine q5 ?_|refine q6 ?_)
                    exact ⟨true, (by repeat (first|exact trivial|refine And.intro rfl ?_)), (by repeat (first|exact trivial|refine And.intro rfl ?_)), rfl, rfl, (by repeat (first|exact List.Sublist.refl _|refine List.Sublist.cons _ ?_)), by rw [badF, ← hfn, e1, e2]; rfl⟩
                  · repeat (first|(refine q4 tab rfl rfl ?_)|(refine qs rfl (ql tab 0 rfl rfl rfl rfl rfl rfl ?_)))
                    (refine TO.splitP rfl rfl (fun e3 => ?_) (fun e3 => ?_))
                    · repeat (first|refine q4 tab rfl rfl ?_|refine q5 ?_|refine q6 ?_)
                      exact ⟨true, (by repeat (first|exact trivial|refine And.intro rfl ?_)), (by repeat (first|exact trivial|refine And.intro rfl ?_)), rfl, rfl, (by repeat (first|exact List.Sublist.refl _|refine List.Sublist.cons _ ?_)), by rw [badF, ← hfn, e1, e2, ← hfk, decide_eq_true e3]; rfl⟩
                    · repeat (first|(refine q4 tab rfl rfl ?_)|(refine qs rfl (ql tab 1 rfl rfl rfl rfl rfl rfl ?_)))
                      (refine TO.splitP rfl rfl (fun e4 => ?_) (fun e4 => ?_))
                      · repeat (first|(first|refine q4 tab rfl rfl ?_|refine q5 ?_|refine q6 ?_)|(refine qs rfl (ql tab 0 rfl rfl rfl rfl rfl rfl ?_)))
                        refine ⟨!decide (hf.type.kind = 7), (by repeat (first|exact trivial|refine And.intro rfl ?_)), (by repeat (first|exact trivial|refine And.intro rfl ?_)), rfl, rfl, (by repeat (first|exact List.Sublist.refl _|refine List.Sublist.cons _ ?_)), ?_⟩
                        rw [badF, ← hfn, e1, e2, ← hfk, decide_eq_false e3, decide_eq_true (show l[k].fields.length ≤ j by omega)]
                        rfl
                      · repeat (first|refine q4 tab rfl rfl ?_|refine q5 ?_|refine q6 ?_)
                        refine ⟨false, (by repeat (first|exact trivial|refine And.intro rfl ?_)), (by repeat (first|exact trivial|refine And.intro rfl ?_)), rfl, rfl, (by repeat (first|exact List.Sublist.refl _|refine List.Sublist.cons _ ?_)), ?_⟩
                        rw [badF, ← hfn, e1, e2, ← hfk, decide_eq_false e3, decide_eq_false (show ¬ l[k].fields.length ≤ j by omega)]
                        rfl
              · refine TC.cond (t := v) rfl (fun e => ?_) (fun e => ?_)
                · subst e
                  repeat (first|refine q1 ?_|refine q3 ?_|refine q4 tab rfl rfl ?_|refine q5 ?_|refine q6 ?_|refine q8 ?_|refine q9 ?_|refine q15 ?_)
                  refine retQ_ret rfl (by repeat (first|exact List.Sublist.refl _|refine List.Sublist.cons _ ?_)) ⟨hm03, rfl, ?_⟩
                  rw [soundE_form hbig (any_hit hlt (by rw [formD, anyI_yes hxj hv.symm, Bool.or_true]))]
                · subst e
                  repeat (first|refine q3 ?_|refine q4 tab rfl rfl ?_|refine q6 ?_|refine q7 ?_|refine q13 ?_)
                  refine TO.step rfl (OT.arith (r' := ((j + 1 : Nat) : Int)) rfl rfl rfl rfl rfl rfl rfl (by omega) ?_)
                  repeat (first|refine q4 tab rfl rfl ?_|refine q5 ?_|refine q6 ?_)
                  exact ⟨j + 1, (by repeat (first|exact trivial|refine And.intro rfl ?_)), (by repeat (first|exact trivial|refine And.intro rfl ?_)), rfl, rfl, (by repeat (exact List.Sublist.refl _)), ⟨by omega, hJ.step hjl hv.symm⟩, by omega⟩
            · repeat (first|refine q3 ?_|refine q4 tab rfl rfl ?_|refine q6 ?_|refine q7 ?_|refine q10 ?_|refine q11 ?_|refine q14 ?_)
              refine TO.step rfl (OT.arith (r' := ((k + 1 : Nat) : Int)) rfl rfl rfl rfl rfl rfl rfl (by omega) ?_)
              repeat (first|refine q4 tab rfl rfl ?_|refine q5 ?_|refine q6 ?_)
              exact ⟨(k + 1, m3), (by repeat (first|exact trivial|refine And.intro rfl ?_)), (by repeat (first|exact trivial|refine And.intro rfl ?_)), rfl, rfl, (by repeat (first|exact List.Sublist.refl _|refine List.Sublist.cons _ ?_)), ⟨by simp only; omega, hm03, any_take hlt hI (by rw [formD, ← hv, hJ.all (by omega)]; rfl)⟩, by simp only; omega⟩
      · rw [List.take_of_length_le (by omega)] at hI
        have hform : l.any formD = false := hI
        have hfin : ∀ d ∈ l, ∀ (j : Nat) (hj : j < d.all.length), badF d.fields.length j d.all[j] = false := fun d hd j hj => by
          have h1 := List.any_eq_false.1 hform d hd
          simp only [formD, Bool.or_eq_true, not_or, Bool.not_eq_true] at h1
          cases hc : badF d.fields.length j d.all[j] with
          | false => rfl
          | true =>
            have := anyI_yes (p := badF d.fields.length) (l := d.all) (j := j) (x := d.all[j]) (by simp [hj]) hc
            rw [h1.2] at this; cases this
        clear hI h hk
        repeat (first|refine q1 ?_|refine q2 ?_|refine q3 ?_|refine q4 tab rfl rfl ?_|refine q5 ?_|refine q6 ?_|refine q10 ?_|refine q11 ?_|refine q14 ?_)
        refine TC.loopK (ι := Nat × Mem) [0] rfl (fun x => [(9, .int .i64 (x.1 : Int))]) (fun x => x.2) (fun _ => L) (fun x => x.1 ≤ l.length ∧ m ≤ x.2 ∧ ((l.take x.1).map Decl.name).Nodup ∧ (l.take x.1).any (typeD l) = false) (fun x => l.length - x.1) (0, m1) (by repeat (first|exact trivial|refine And.intro rfl ?_)) rfl (by repeat (exact List.Sublist.refl _)) ⟨Nat.zero_le _, hm1, List.nodup_nil, rfl⟩ ?_
        rintro ⟨k, m3⟩ ⟨hk, hm3, hN, hI⟩
        simp only at hk hm3 hN hI ⊢
        repeat (first|refine q1 ?_|refine q3 ?_|refine q4 tab rfl rfl ?_|refine q5 ?_|refine q6 ?_)
        refine TC.condP rfl (fun h => ?_) (fun h => ?_)
        · have hlt : k < l.length := by omega
          have hx : l[k]? = some l[k] := by simp [hlt]
          have hmem := List.getElem_mem hlt
          have hdS := hB _ hmem
          have hs3 := hs.mono hm3
          have hdup := idxD_dup hlt
          repeat (first|refine q1 ?_|refine q2 ?_|refine q3 ?_|refine q4 tab rfl rfl ?_|refine q6 ?_|refine q13 ?_)
          refine TO.step rfl (OT.index tab rDecl k hs3 rfl rfl rfl rfl rfl (by first | rfl | omega) rfl hx ?_)
          rintro b' i' hd hrd hA
          have hn1 := hrd.name
          repeat (refine q4 tab rfl rfl ?_)
          (refine TO.step rfl (OT.loadA tab hA rfl rfl rfl rfl rfl ?_))
          skip
          refine TO.step rfl (OT.call rfl rfl rfl rfl rfl rfl goes26 ((find_ref _ _ s l hd.name hs3).x ?_));
          rintro _ _ _ ⟨rfl, rfl, rfl⟩
          rw [hn1]
          repeat (first|refine q4 tab rfl rfl ?_|refine q5 ?_|refine q6 ?_)
          refine TC.condP rfl (fun e1 => ?_) (fun e1 => ?_)
          · rw [decide_eq_true e1] at hdup
            repeat (first|refine q1 ?_|refine q3 ?_|refine q4 tab rfl rfl ?_|refine q5 ?_|refine q6 ?_|refine q8 ?_|refine q9 ?_|refine q15 ?_)
            refine retQ_ret rfl (by repeat (exact List.Sublist.refl _)) ⟨hm3, rfl, ?_⟩
            rw [soundE_type hbig hform (by rw [typeB, decide_eq_false (names_twice hlt hdup.symm)]; rfl)]
          · rw [decide_eq_false e1] at hdup
            repeat (first|refine q1 ?_|refine q3 ?_|refine q4 tab rfl rfl ?_|refine q6 ?_|refine q13 ?_)
            refine TO.step rfl (OT.index tab rDecl k hs3 rfl rfl rfl rfl rfl (by first | rfl | omega) rfl hx ?_)
            rintro b2 i2 hd2 hrd2 hA2
            (refine TO.step rfl (OT.loadA0 tab hA2 rfl rfl rfl rfl rfl ?_))
            skip
            refine TO.step rfl (OT.call rfl rfl rfl rfl rfl rfl goes53 ((members_ref _ _ hd2 l[k] hrd2 hdS).x ?_));
            rintro _ m5 _ ⟨hm5, rfl, u, rfl, hu⟩
            have hul := hu.len
            have hus := hu.small rfl
            have hm05 := Mem.le_trans hm3 hm5
            have hs5 := hs.mono hm05
            repeat (first|refine q1 ?_|refine q2 ?_|refine q3 ?_|refine q4 tab rfl rfl ?_|refine q5 ?_|refine q6 ?_)
            refine TC.loopK (ι := Nat) [0, 9, 10] rfl (fun j => [(11, .int .i64 (j : Int))]) (fun _ => m5) (fun _ => L) (fun j => j ≤ l[k].all.length ∧ ((l[k].all.take j).map Fld.name).Nodup ∧ NoI (badK l l[k].fields.length) l[k].all j) (fun j => l[k].all.length - j) 0 (by repeat (first|exact trivial|refine And.intro rfl ?_)) rfl (by repeat (exact List.Sublist.refl _)) ⟨Nat.zero_le _, List.nodup_nil, fun j x hj => by omega⟩ ?_
            rintro j ⟨hj, hNj, hJ⟩
            repeat (first|refine q1 ?_|refine q3 ?_|refine q4 tab rfl rfl ?_|refine q5 ?_|refine q6 ?_)
            refine TC.condP rfl (fun h2 => ?_) (fun h2 => ?_)
            · have hjl : j < l[k].all.length := by omega
              have hxj : l[k].all[j]? = some l[k].all[j] := by simp [hjl]
              have hfS := hdS.all _ (List.getElem_mem hjl)
              have hgood := hfin _ hmem j hjl
              have hkn : tknown (hasD l) l[k].all[j].type = allB (hasD l) l[k].all[j].type := by
                simp only [badF, Bool.or_eq_false_iff, Bool.not_eq_false'] at hgood
                rw [tknown_all _ _ (sound_formed hgood.2.1), hgood.2.2.1]; rfl
              repeat (first|refine q1 ?_|refine q2 ?_|refine q3 ?_|refine q4 tab rfl rfl ?_|refine q5 ?_|refine q6 ?_|refine q13 ?_)
              refine TC.loopK (ι := Nat) [0, 9, 10, 11] rfl (fun i => [(12, .int .i64 (i : Int))]) (fun _ => m5) (fun _ => L) (fun i => i ≤ j ∧ l[k].all[j].name ∉ (l[k].all.take i).map Fld.name) (fun i => j - i) 0 (by repeat (first|exact trivial|refine And.intro rfl ?_)) rfl (by repeat (exact List.Sublist.refl _)) ⟨Nat.zero_le _, by simp⟩ ?_
              rintro i ⟨hi, hnot⟩
              repeat (first|refine q1 ?_|refine q3 ?_|refine q4 tab rfl rfl ?_|refine q5 ?_|refine q6 ?_)
              refine TC.condP rfl (fun h3 => ?_) (fun h3 => ?_)
              · have hil : i < l[k].all.length := by omega
                have hxi : l[k].all[i]? = some l[k].all[i] := by simp [hil]
                repeat (first|refine q1 ?_|refine q2 ?_|refine q6 ?_|refine q13 ?_)
                refine TC.draw0 [] mixed 11 rfl ?_
                refine DO.pure tab (by repeat (first|exact Calm.ret|refine Calm.then ?_|refine Calm.block ?_)) (by kernel_rfl) [0, 1] (by kernel_rfl) rfl ?_
                refine DO.index tab rField 2 i hu (by repeat (first|exact Calm.ret|refine Calm.then ?_|refine Calm.block ?_)) (by kernel_rfl) (by kernel_rfl) rfl rfl rfl rfl rfl rfl rfl (by first | rfl | omega) rfl hxi ?_
                rintro b3 i3 hf3 hrf3 hA3
                refine DO.pure tab (by repeat (first|exact Calm.ret|refine Calm.then ?_|refine Calm.block ?_)) (by kernel_rfl) [3] (by kernel_rfl) rfl ?_
                (refine DO.loadA tab 4 hA3 (by repeat (first|exact Calm.ret|refine Calm.then ?_|refine Calm.block ?_)) (by kernel_rfl) (by kernel_rfl) rfl rfl rfl rfl rfl rfl rfl ?_)
                refine DO.pure tab (by repeat (first|exact Calm.ret|refine Calm.then ?_|refine Calm.block ?_)) (by kernel_rfl) [5, 6] (by kernel_rfl) rfl ?_
                refine DO.index tab rField 7 j hu (by repeat (first|exact Calm.ret|refine Calm.then ?_|refine Calm.block ?_)) (by kernel_rfl) (by kernel_rfl) rfl rfl rfl rfl rfl rfl rfl (by first | rfl | omega) rfl hxj ?_
                rintro b4 i4 hf4 hrf4 hA4
                refine DO.pure tab (by repeat (first|exact Calm.ret|refine Calm.then ?_|refine Calm.block ?_)) (by kernel_rfl) [8] (by kernel_rfl) rfl ?_
                (refine DO.loadA tab 9 hA4 (by repeat (first|exact Calm.ret|refine Calm.then ?_|refine Calm.block ?_)) (by kernel_rfl) (by kernel_rfl) rfl rfl rfl rfl rfl rfl rfl ?_)
                refine DO.pure tab (by repeat (first|exact Calm.ret|refine Calm.then ?_|refine Calm.block ?_)) (by kernel_rfl) [10] (by kernel_rfl) rfl ?_
                (refine DO.nil0 (by kernel_rfl) ?_)
                rotate_left 1
                refine thenQ_n ?_
                have hfn3 := hrf3.name
                have hfn4 := hrf4.name
                skip
                refine TC.condP rfl (fun e5 => ?_) (fun e5 => ?_)
                · repeat (first|refine q1 ?_|refine q3 ?_|refine q4 tab rfl rfl ?_|refine q5 ?_|refine q6 ?_|refine q8 ?_|refine q9 ?_|refine q15 ?_)
                  refine retQ_ret rfl (by repeat (exact List.Sublist.refl _)) ⟨hm05, rfl, ?_⟩
                  have : l[k].all[j].name ∈ (l[k].all.take j).map Fld.name := List.mem_map.2 ⟨l[k].all[i], List.mem_take_iff_getElem.2 ⟨i, by omega, rfl⟩, by rw [← hfn3, ← hfn4, e5]⟩
                  rw [soundE_type hbig hform (by rw [typeB, any_hit hlt (by rw [typeD, decide_eq_false (fnames_twice hjl this)]; rfl), Bool.or_true])]
                · repeat (first|refine q3 ?_|refine q4 tab rfl rfl ?_|refine q6 ?_|refine q7 ?_|refine q13 ?_)
                  refine TO.step rfl (OT.arith (r' := ((i + 1 : Nat) : Int)) rfl rfl rfl rfl rfl rfl rfl (by omega) ?_)
                  repeat (first|refine q4 tab rfl rfl ?_|refine q5 ?_|refine q6 ?_)
                  exact ⟨i + 1, (by repeat (first|exact trivial|refine And.intro rfl ?_)), (by repeat (first|exact trivial|refine And.intro rfl ?_)), rfl, rfl, (by repeat (exact List.Sublist.refl _)), ⟨by omega, by
                    rw [List.take_succ_eq_append_getElem hil, List.map_append, List.mem_append, not_or]
                    refine ⟨hnot, ?_⟩
                    simp only [List.map_cons, List.map_nil, List.mem_singleton]
                    rw [← hfn3, ← hfn4]
                    exact fun q => e5 q.symm⟩, by omega⟩
              · have hij : i = j := by omega
                subst hij
                repeat (first|refine q1 ?_|refine q3 ?_|refine q4 tab rfl rfl ?_|refine q6 ?_|refine q10 ?_|refine q11 ?_|refine q14 ?_)
                refine TO.step rfl (OT.index tab rField i hu rfl rfl rfl rfl rfl (by first | rfl | omega) rfl hxj ?_)
                rintro b3 i3 hf3 hrf3 hA3
                have hft3 := hrf3.type
                repeat (refine q4 tab rfl rfl ?_)
                (refine TO.step rfl (OT.loadA tab hA3 rfl rfl rfl rfl rfl ?_))
                skip
                refine TO.step rfl (OT.call rfl rfl rfl rfl rfl rfl goes54 ((all_ref _ _ _ s l hs5 hf3.type hft3).x ?_));
                rintro _ _ _ ⟨rfl, rfl, rfl⟩
                rw [← hkn]
                repeat (refine q4 tab rfl rfl ?_)
                refine TO.split (b := !tknown (hasD l) l[k].all[i].type) rfl rfl (fun e6 => ?_) (fun e6 => ?_)
                · repeat (first|refine q1 ?_|refine q3 ?_|refine q4 tab rfl rfl ?_|refine q5 ?_|refine q6 ?_|refine q8 ?_|refine q9 ?_|refine q15 ?_|refine q16 rfl ?_)
                  refine retQ_ret rfl (by repeat (exact List.Sublist.refl _)) ⟨hm05, rfl, ?_⟩
                  rw [soundE_type hbig hform (by rw [typeB, any_hit hlt (by rw [typeD, anyI_yes hxj (by rw [badK, e6]; rfl), Bool.or_true]), Bool.or_true])]
                · repeat (refine q4 tab rfl rfl ?_)
                  refine TO.step rfl (OT.index tab rDecl k hs5 rfl rfl rfl rfl rfl (by first | rfl | omega) rfl hx ?_)
                  rintro b4 i4 hd4 hrd4 hA4
                  have hf4 := hrd4.fields.len
                  repeat (refine q4 tab rfl rfl ?_)
                  (refine TO.step rfl (OT.loadA tab hA4 rfl rfl rfl rfl rfl ?_))
                  repeat (refine q4 tab rfl rfl ?_)
                  (refine TO.splitP rfl rfl (fun e7 => ?_) (fun e7 => ?_))
                  · repeat (refine q4 tab rfl rfl ?_)
                    refine TO.step rfl (OT.index tab rField i hu rfl rfl rfl rfl rfl (by first | rfl | omega) rfl hxj ?_)
                    rintro b5 i5 hf5 hrf5 hA5
                    repeat (refine q4 tab rfl rfl ?_)
                    (refine TO.step rfl (OT.loadA tab hA5 rfl rfl rfl rfl rfl ?_))
                    skip
                    refine TO.step rfl (OT.call rfl rfl rfl rfl rfl rfl goes55 ((isStruct_ref _ _ _ s l hs5 hf5.type hrf5.type).x ?_));
                    rintro _ _ _ ⟨rfl, rfl, rfl⟩
                    repeat (first|refine q4 tab rfl rfl ?_|refine q5 ?_|refine q6 ?_)
                    refine TC.cond (t := isStructD l l[k].all[i].type) rfl (fun e8 => ?_) (fun e8 => ?_)
                    · repeat (first|refine q1 ?_|refine q3 ?_|refine q4 tab rfl rfl ?_|refine q5 ?_|refine q6 ?_|refine q8 ?_|refine q9 ?_|refine q15 ?_)
                      refine retQ_ret rfl (by repeat (exact List.Sublist.refl _)) ⟨hm05, rfl, ?_⟩
                      rw [soundE_type hbig hform (by rw [typeB, any_hit hlt (by rw [typeD, anyI_yes hxj (by rw [badK, e6, e8, decide_eq_true (show i < l[k].fields.length by omega)]; rfl), Bool.or_true]), Bool.or_true])]
                    · repeat (first|refine q3 ?_|refine q4 tab rfl rfl ?_|refine q6 ?_|refine q7 ?_|refine q13 ?_)
                      refine TO.step rfl (OT.arith (r' := ((i + 1 : Nat) : Int)) rfl rfl rfl rfl rfl rfl rfl (by omega) ?_)
                      repeat (first|refine q4 tab rfl rfl ?_|refine q5 ?_|refine q6 ?_)
                      exact ⟨i + 1, (by repeat (first|exact trivial|refine And.intro rfl ?_)), (by repeat (first|exact trivial|refine And.intro rfl ?_)), rfl, rfl, (by repeat (exact List.Sublist.refl _)), ⟨by omega, (fnames_snoc _ i hjl).2 ⟨hNj, hnot⟩, hJ.step hjl (by rw [badK, e6, e8, Bool.and_false]; rfl)⟩, by omega⟩
                  · repeat (first|refine q3 ?_|refine q4 tab rfl rfl ?_|refine q5 ?_|refine q6 ?_|refine q7 ?_|refine q13 ?_|refine q17 rfl ?_)
                    refine TO.step rfl (OT.arith (r' := ((i + 1 : Nat) : Int)) rfl rfl rfl rfl rfl rfl rfl (by omega) ?_)
                    repeat (first|refine q4 tab rfl rfl ?_|refine q5 ?_|refine q6 ?_)
                    exact ⟨i + 1, (by repeat (first|exact trivial|refine And.intro rfl ?_)), (by repeat (first|exact trivial|refine And.intro rfl ?_)), rfl, rfl, (by repeat (exact List.Sublist.refl _)), ⟨by omega, (fnames_snoc _ i hjl).2 ⟨hNj, hnot⟩, hJ.step hjl (by rw [badK, e6, decide_eq_false (show ¬ i < l[k].fields.length by omega)]; rfl)⟩, by omega⟩
            · rw [List.take_of_length_le (by omega)] at hNj
              repeat (first|refine q3 ?_|refine q4 tab rfl rfl ?_|refine q6 ?_|refine q7 ?_|refine q10 ?_|refine q11 ?_|refine q14 ?_)
              refine TO.step rfl (OT.arith (r' := ((k + 1 : Nat) : Int)) rfl rfl rfl rfl rfl rfl rfl (by omega) ?_)
              repeat (first|refine q4 tab rfl rfl ?_|refine q5 ?_|refine q6 ?_)
              exact ⟨(k + 1, m5), (by repeat (first|exact trivial|refine And.intro rfl ?_)), (by repeat (first|exact trivial|refine And.intro rfl ?_)), rfl, rfl, (by repeat (exact List.Sublist.refl _)), ⟨by simp only; omega, hm05, (names_snoc l k hlt).2 ⟨hN, hdup.symm⟩, any_take hlt hI (by rw [typeD, decide_eq_true hNj, hJ.all (by omega)]; rfl)⟩, by simp only; omega⟩
        · rw [List.take_of_length_le (by omega)] at hI hN
          repeat (first|refine q1 ?_|refine q3 ?_|refine q4 tab rfl rfl ?_|refine q5 ?_|refine q6 ?_|refine q10 ?_|refine q11 ?_|refine q14 ?_|refine q15 ?_)
          refine retQ_ret rfl (by repeat (exact List.Sublist.refl _)) ⟨hm3, rfl, ?_⟩
          rw [soundE_ok hbig hform (by rw [typeB, decide_eq_true hN, hI]; rfl)]
end Go.Sep

/-
  The walks of open and Known.
-/
set_option linter.unusedVariables false
set_option linter.unusedSimpArgs false
namespace Go.Sep
open Go.Proofs
attribute [local irreducible] TC TO OT TCallX TCall DO DOt thenQ blockQ retQ At

theorem soundE_zero {l : List Decl} (h : soundE l = 0) : largeB l = false ∧ l.any formD = false ∧ typeB l = false := by
  unfold soundE at h
  split at h
  · omega
  · rename_i h1
    split at h
    · omega
    · rename_i h2
      split at h
      · omega
      · rename_i h3
        exact ⟨by simpa using h1, by simpa using h2, by simpa using h3⟩
theorem soundE_nodup {l : List Decl} (h : soundE l = 0) : (l.map Decl.name).Nodup := by
  have := (soundE_zero h).2.2
  rw [typeB, Bool.or_eq_false_iff] at this
  simpa using this.1
def okD (l : List Decl) (ts : List Tree) : Bool := decide (soundE l = 0) && ts.all Tree.sound
attribute [local irreducible] soundE
/-- the table that open makes, or nil -/
@[reducible] def MadeO (m : Mem) (L : List Item) (l : List Decl) (ts : List Tree) : Value → Mem → List Item → Prop :=
  Made m L fun r m' => (okD l ts = true ∧ ∃ b es c, r = .map (some b) ∧ m'.o b = some (mapO kStr es c) ∧ TblRep m' es l) ∨ (okD l ts = false ∧ r = .map none)
set_option maxHeartbeats 800000 in
theorem open_law (m : Mem) (L : List Item) (s : Sl) (l : List Decl) (hs : SlRep rDecl m s l) (hS : TblS l) (t : Sl) (ts : List Tree) (ht : SlRep rTree m t ts) (hB : ∀ a ∈ ts, a.bulk ≤ 1048576) : TCall Try.prog 56 ⟨[s.v, t.v]⟩ m L (MadeO m L l ts) := by
  unfold TCall
  refine TCallX.enter Try.func56 rfl 14 rfl ?_
  repeat (first|refine q1 ?_|refine q3 ?_|refine q4 tab rfl rfl ?_|refine q5 ?_|refine q6 ?_)
  refine TO.step rfl (OT.call rfl rfl rfl rfl rfl rfl goes18 ((sound_tbl m L s l hs hS).x ?_));
  rintro _ _ _ ⟨rfl, rfl, rfl⟩
  repeat (refine q4 tab rfl rfl ?_)
  (refine TO.splitN rfl rfl (fun e1 => ?_) (fun e1 => ?_))
  · repeat (first|refine q1 ?_|refine q3 ?_|refine q4 tab rfl rfl ?_|refine q5 ?_|refine q6 ?_|refine q8 ?_|refine q15 ?_|refine q16 rfl ?_)
    refine retQ_ret rfl (by repeat (exact List.Sublist.refl _)) ⟨Mem.le_refl _, rfl, .inr ⟨by rw [okD, decide_eq_false e1]; rfl, rfl⟩⟩
  · repeat (refine q4 tab rfl rfl ?_)
    refine TO.step rfl (OT.call rfl rfl rfl rfl rfl rfl goes92 ((containsFunc_type m L t ts (fun a => !a.sound) 93 [] goes93 ht (fun h a ha hr => not_sound m L h a (rTree_iff.1 hr) (hB a ha))).x ?_));
    rintro _ _ _ ⟨rfl, rfl, rfl⟩
    repeat (first|refine q4 tab rfl rfl ?_|refine q5 ?_|refine q6 ?_)
    refine TC.cond (t := ts.any fun a => !a.sound) rfl (fun e2 => ?_) (fun e2 => ?_)
    · repeat (first|refine q1 ?_|refine q3 ?_|refine q4 tab rfl rfl ?_|refine q5 ?_|refine q6 ?_|refine q8 ?_|refine q15 ?_)
      have : ts.all Tree.sound = false := by
        rw [← Bool.not_eq_true, List.all_eq_true]
        intro hc
        obtain ⟨a, ha, hn⟩ := List.any_eq_true.1 e2
        rw [hc a ha] at hn; cases hn
      refine retQ_ret rfl (by repeat (exact List.Sublist.refl _)) ⟨Mem.le_refl _, rfl, .inr ⟨by rw [okD, this, Bool.and_false], rfl⟩⟩
    · have : ts.all Tree.sound = true := List.all_eq_true.2 fun a ha => by simpa using List.any_eq_false.1 e2 a ha
      repeat (first|refine q1 ?_|refine q3 ?_|refine q4 tab rfl rfl ?_|refine q6 ?_|refine q13 ?_)
      refine TO.step rfl (OT.call rfl rfl rfl rfl rfl rfl goes48 ((newTable_law m L s l hs).x ?_));
      rintro _ m1 _ ⟨hm1, rfl, b, es, c, rfl, ho, hT⟩
      repeat (first|refine q4 tab rfl rfl ?_|refine q5 ?_|refine q6 ?_|refine q15 ?_)
      refine retQ_ret rfl (by repeat (exact List.Sublist.refl _)) ⟨hm1, rfl, .inl ⟨by rw [okD, this, decide_eq_true e1]; rfl, b, es, c, rfl, ho, hT.rep (soundE_nodup e1)⟩⟩

def knownB (l : List Decl) (a : Tree) : Bool := okD l [a] && tknown (hasD l) a

set_option maxHeartbeats 800000 in
theorem known_law (a : Tree) (m : Mem) (L : List Item) (s : Sl) (l : List Decl) (hs : SlRep rDecl m s l) (hS : TblS l) (h : HTree) (hr : TreeRep m h a) (hB : a.bulk ≤ 1048576) : TCall Try.prog 20 ⟨[s.v, treeV h]⟩ m L (Ret (.bool (knownB l a)) m L) := by
  refine TCall.forget ?_
  unfold TCall
  refine TCallX.enter Try.func20 rfl 17 rfl ?_
  repeat (first|refine q1 ?_|refine q3 ?_)
  refine TO.step rfl (OT.box rfl rfl rfl rfl rfl (fun b => ?_))
  repeat (first|(first|refine q1 ?_|refine q3 ?_|refine q4 tab rfl rfl ?_|refine q5 ?_|refine q6 ?_)|(refine qs rfl (qz tab 0 rfl rfl rfl rfl rfl rfl ?_)))
  refine TO.step rfl (OT.lit tab rfl rfl rfl rfl (fun b2 => ?_))
  refine TO.freeze fun m1 hm1 hA1 => ?_
  skip
  refine TO.step rfl (OT.call rfl rfl rfl rfl rfl rfl goes56 ((open_law m1 _ s l (hs.mono hm1) hS _ [a] (slT1 (h := h) hA1 (hr.mono hm1)) (fun x hx => by rw [List.mem_singleton.1 hx]; exact hB)).x ?_));
  rintro _ m2 _ ⟨hm2, rfl, ⟨ok, bt, es, c, rfl, ho, hT⟩ | ⟨ok, rfl⟩⟩
  · repeat (first|refine q1 ?_|refine q3 ?_|refine q4 tab rfl rfl ?_|refine q5 ?_|refine q6 ?_)
    refine TO.step rfl (OT.mapNe tab kStr (r := some bt) rfl rfl rfl rfl rfl rfl ?_)
    repeat (first|(refine q4 tab rfl rfl ?_)|(refine qs rfl (qz tab 0 rfl rfl rfl rfl rfl rfl ?_)))
    refine TO.step rfl (OT.call rfl rfl rfl rfl rfl rfl goes49 ((tknown_law bt c es hT.ok a m2 _ h ((hr.mono hm1).mono hm2) ho).x ?_));
    rintro _ _ _ ⟨rfl, rfl, rfl⟩
    repeat (first|refine q4 tab rfl rfl ?_|refine q5 ?_|refine q6 ?_|refine q15 ?_)
    refine retQ_ret rfl (by repeat (first|exact List.Sublist.refl _|refine List.Sublist.cons _ ?_)) ⟨Mem.le_trans hm1 hm2, rfl, ?_⟩
    rw [knownB, ok, hT.hasF]; rfl
  · repeat (first|refine q1 ?_|refine q3 ?_|refine q4 tab rfl rfl ?_|refine q5 ?_|refine q6 ?_)
    refine TO.step rfl (OT.mapNe tab kStr (r := none) rfl rfl rfl rfl rfl rfl ?_)
    repeat ((first|refine q4 tab rfl rfl ?_|refine q5 ?_|refine q6 ?_|refine q15 ?_))
    refine retQ_ret rfl (by repeat (first|exact List.Sublist.refl _|refine List.Sublist.cons _ ?_)) ⟨Mem.le_trans hm1 hm2, rfl, ?_⟩
    rw [knownB, ok]; rfl

theorem knownD_eq {l : List Decl} {a : Tree} (h : a.sound = true) : knownD l a = tknown (hasD l) a := (tknown_all _ _ (sound_formed h)).symm

set_option maxHeartbeats 800000 in
theorem known_def (a : Tree) (m : Mem) (L : List Item) (s : Sl) (l : List Decl) (hs : SlRep rDecl m s l) (hS : TblS l) (h : HTree) (hr : TreeRep m h a) (hB : a.bulk ≤ 1048576) : TCall Try.prog 21 ⟨[s.v, treeV h]⟩ m L (Ret (.bool (knownB l a)) m L) := by
  unfold TCall
  refine TCallX.enter Try.func21 rfl 17 rfl ?_
  repeat (first|refine q1 ?_|refine q3 ?_)
  refine TO.step rfl (OT.box rfl rfl rfl rfl rfl (fun b => ?_))
  repeat (first|refine q1 ?_|refine q3 ?_|refine q4 tab rfl rfl ?_|refine q5 ?_|refine q6 ?_)
  refine TO.step rfl (OT.call rfl rfl rfl rfl rfl rfl goes19 ((sound_def m _ s l hs hS).x ?_));
  rintro _ _ _ ⟨rfl, rfl, rfl⟩
  repeat (refine q4 tab rfl rfl ?_)
  (refine TO.splitP rfl rfl (fun e1 => ?_) (fun e1 => ?_))
  · repeat ((refine qs rfl (qz tab 0 rfl rfl rfl rfl rfl rfl ?_)))
    refine TO.step rfl (OT.call rfl rfl rfl rfl rfl rfl goes42 ((isSound_ref a m _ h hr hB).x ?_));
    rintro _ _ _ ⟨rfl, rfl, rfl⟩
    repeat (refine q4 tab rfl rfl ?_)
    refine TO.split (b := a.sound) rfl rfl (fun e2 => ?_) (fun e2 => ?_)
    · repeat (first|(refine q4 tab rfl rfl ?_)|(refine qs rfl (qz tab 0 rfl rfl rfl rfl rfl rfl ?_)))
      refine TO.step rfl (OT.call rfl rfl rfl rfl rfl rfl goes57 ((known_ref a m _ s l hs h hr).x ?_));
      rintro _ _ _ ⟨rfl, rfl, rfl⟩
      repeat (first|refine q4 tab rfl rfl ?_|refine q5 ?_|refine q6 ?_|refine q15 ?_)
      refine retQ_ret rfl (by repeat (first|exact List.Sublist.refl _|refine List.Sublist.cons _ ?_)) ⟨rfl, rfl, ?_⟩
      rw [knownB, okD, decide_eq_true e1, List.all_cons, e2, knownD_eq e2]; rfl
    · repeat (first|refine q4 tab rfl rfl ?_|refine q5 ?_|refine q6 ?_|refine q15 ?_)
      refine retQ_ret rfl (by repeat (first|exact List.Sublist.refl _|refine List.Sublist.cons _ ?_)) ⟨rfl, rfl, ?_⟩
      rw [knownB, okD, decide_eq_true e1, List.all_cons, e2]; rfl
  · repeat (first|refine q4 tab rfl rfl ?_|refine q5 ?_|refine q6 ?_|refine q15 ?_)
    refine retQ_ret rfl (by repeat (first|exact List.Sublist.refl _|refine List.Sublist.cons _ ?_)) ⟨rfl, rfl, ?_⟩
    rw [knownB, okD, decide_eq_false e1]; rfl

set_option maxHeartbeats 1600000 in
theorem typesSound_law (a : Tree) (m : Mem) (L : List Item) (s : Sl) (l : List Decl) (hs : SlRep rDecl m s l) (hS : TblS l) (h : HTree) (hr : TreeRep m h a) (hB : a.bulk ≤ 1048576) : TCall Try.prog 5 ⟨[s.v, treeV h]⟩ m L (Ret (.bool true) m L) := by
  unfold TCall
  refine TCallX.enter Try.func5 rfl 22 rfl ?_
  repeat (first|refine q1 ?_|refine q3 ?_)
  refine TO.step rfl (OT.box rfl rfl rfl rfl rfl (fun b => ?_))
  repeat (first|refine q1 ?_|refine q4 tab rfl rfl ?_|refine q5 ?_|refine q6 ?_)
  refine TC.draw0 [] mixed 18 rfl ?_
  refine DO.run 0 rfl rfl (by kernel_rfl) rfl (OT.call rfl rfl rfl rfl rfl rfl goes12 ((awake_law _ _).x ?_))
  rintro _ _ _ ⟨rfl, rfl, rfl⟩; refine ⟨Mem.le_refl _, _, List.Perm.refl _, ?_⟩
  refine DO.pure tab (by repeat (first|exact Calm.ret|refine Calm.then ?_)) (by kernel_rfl) [1, 2, 4] (by kernel_rfl) rfl ?_
  refine DO.run 3 rfl rfl (by kernel_rfl) rfl (OT.call rfl rfl rfl rfl rfl rfl goes18 ((sound_tbl _ _ s l hs hS).x ?_))
  rintro _ _ _ ⟨rfl, rfl, rfl⟩; refine ⟨Mem.le_refl _, _, List.Perm.refl _, ?_⟩
  refine DO.run 5 rfl rfl (by kernel_rfl) rfl (OT.call rfl rfl rfl rfl rfl rfl goes19 ((sound_def _ _ s l hs hS).x ?_))
  rintro _ _ _ ⟨rfl, rfl, rfl⟩; refine ⟨Mem.le_refl _, _, List.Perm.refl _, ?_⟩
  refine DO.run 6 rfl rfl (by kernel_rfl) rfl ?_; refine OT.pureC (v' := .bool true) tab rfl rfl rfl (congrArg Value.bool (decide_eq_true rfl)) ?_; refine ⟨Mem.le_refl _, _, List.Perm.refl _, ?_⟩
  refine DO.pure tab (by repeat (first|exact Calm.ret|refine Calm.then ?_)) (by kernel_rfl) [7, 8, 9] (by kernel_rfl) rfl ?_
  (refine DO.loadL (k := 0) tab 10 0 (by repeat (first|exact Calm.ret|refine Calm.then ?_)) (by kernel_rfl) (by kernel_rfl) rfl rfl rfl rfl rfl rfl rfl rfl ?_)
  refine DO.pure tab (by repeat (first|exact Calm.ret|refine Calm.then ?_)) (by kernel_rfl) [12] (by kernel_rfl) rfl ?_
  (refine DO.loadL (k := 0) tab 13 0 (by repeat (first|exact Calm.ret|refine Calm.then ?_)) (by kernel_rfl) (by kernel_rfl) rfl rfl rfl rfl rfl rfl rfl rfl ?_)
  refine DO.run 11 rfl rfl (by kernel_rfl) rfl (OT.call rfl rfl rfl rfl rfl rfl goes20 ((known_law a _ _ s l hs hS h hr hB).x ?_))
  rintro _ _ _ ⟨rfl, rfl, rfl⟩; refine ⟨Mem.le_refl _, _, List.Perm.refl _, ?_⟩
  refine DO.run 14 rfl rfl (by kernel_rfl) rfl (OT.call rfl rfl rfl rfl rfl rfl goes21 ((known_def a _ _ s l hs hS h hr hB).x ?_))
  rintro _ _ _ ⟨rfl, rfl, rfl⟩; refine ⟨Mem.le_refl _, _, List.Perm.refl _, ?_⟩
  refine DO.run 15 rfl rfl (by kernel_rfl) rfl ?_; refine OT.eqBool tab rfl rfl rfl rfl rfl rfl ?_; rw [beq_self_eq_true]; refine ⟨Mem.le_refl _, _, List.Perm.refl _, ?_⟩
  refine DO.pure tab (by repeat (first|exact Calm.ret|refine Calm.then ?_)) (by kernel_rfl) [16, 17] (by kernel_rfl) rfl ?_
  (refine DO.nil0 (by kernel_rfl) ?_)
  rotate_left 1
  refine thenQ_n ?_
  repeat (refine q15 ?_)
  refine retQ_ret rfl (by repeat (first|exact List.Sublist.refl _|refine List.Sublist.cons _ ?_)) ⟨rfl, rfl, ?_⟩
  rfl
end Go.Sep

/-
  The walks of Assignable and Comparable.
-/
set_option linter.unusedVariables false
set_option linter.unusedSimpArgs false
namespace Go.Sep
open Go.Proofs
attribute [local irreducible] TC TO OT TCallX TCall DO DOt thenQ blockQ retQ At

def kid0 (t : Tree) : Tree := t.kids.headD zeroT
theorem sound_kids {a : Tree} (h : a.sound = true) (h5 : a.kind = 5) : a.kids.length = 1 := by
  have := sound_formed h
  rw [formed_eq, Bool.and_eq_true, Bool.and_eq_true, kindB_5 (.inl h5)] at this
  exact of_decide_eq_true this.2.2
theorem sound_kind {a : Tree} (h : a.sound = true) : 1 ≤ a.kind ∧ a.kind ≤ 8 := by
  have := sound_formed h
  rw [formed_eq, Bool.and_eq_true, Bool.and_eq_true] at this
  have hk := this.2.2
  unfold kindB at hk
  split at hk
  · omega
  split at hk
  · omega
  split at hk
  · omega
  split at hk
  · omega
  · cases hk
theorem one_kid {a : Tree} (h : a.kids.length = 1) : a.kids = [kid0 a] := by
  unfold kid0
  match hk : a.kids, h with
  | [k], _ => rfl
theorem toStruct_kid {l : List Decl} {a : Tree} (h : a.kids.length = 1) : toStructD l a = (decide (a.kind = 5) && isStructD l (kid0 a)) := by
  rw [toStructD, one_kid h]

def tassignB (l : List Decl) (a b : Tree) : Bool := tknown (hasD l) b && (if a.kind = 8 then nilableD l b else (teq a b || (isIfaceD l b && (toStructD l a && hasMD l (kid0 a).name b.name))))

set_option maxHeartbeats 1600000 in
theorem tassign_law (a c : Tree) (hkid : a.kind = 5 → a.kids.length = 1) (bt cc : Nat) (es : Ents Str) (l : List Decl) (m : Mem) (L : List Item) (h g : HTree) (hr : TreeRep m h a) (gr : TreeRep m g c) (ho : m.o bt = some (mapO kStr es cc)) (hT : TblRep m es l) :
    TCall Try.prog 58 ⟨[.map (some bt), treeV h, treeV g]⟩ m L (Ret (.bool (tassignB l a c)) m L) := by
  obtain ⟨h1, h2, h3, h4⟩ := id hr
  have g2 := gr.name
  unfold TCall
  refine TCallX.enter Try.func58 rfl 50 rfl ?_
  unfold tassignB
  rw [← h1, ← g2]
  repeat (first|refine q1 ?_|refine q3 ?_)
  refine TO.step rfl (OT.box rfl rfl rfl rfl rfl (fun b => ?_))
  skip
  refine TO.step rfl (OT.box rfl rfl rfl rfl rfl (fun b2 => ?_))
  repeat (first|(first|refine q1 ?_|refine q2 ?_|refine q3 ?_|refine q4 tab rfl rfl ?_|refine q5 ?_|refine q6 ?_)|(refine qs rfl (qz tab 0 rfl rfl rfl rfl rfl rfl ?_)))
  refine TO.step rfl (OT.call rfl rfl rfl rfl rfl rfl goes49 ((tknown_law bt cc es hT.ok c _ _ g gr ho).x ?_));
  rintro _ _ _ ⟨rfl, rfl, rfl⟩
  rw [hT.hasF]
  repeat (first|refine q4 tab rfl rfl ?_|refine q5 ?_|refine q6 ?_)
  refine TC.cond (t := !tknown (hasD l) c) rfl (fun e1 => ?_) (fun e1 => ?_)
  · rw [Bool.not_eq_true'] at e1
    repeat (first|refine q1 ?_|refine q3 ?_|refine q4 tab rfl rfl ?_|refine q5 ?_|refine q6 ?_|refine q8 ?_|refine q9 ?_|refine q15 ?_)
    refine retQ_ret rfl (by repeat (first|exact List.Sublist.refl _|refine List.Sublist.cons _ ?_)) ⟨rfl, rfl, ?_⟩
    rw [e1]; rfl
  · rw [Bool.not_eq_false'] at e1
    repeat (first|(first|refine q1 ?_|refine q3 ?_|refine q4 tab rfl rfl ?_|refine q5 ?_|refine q6 ?_)|(refine qs rfl (ql tab 1 rfl rfl rfl rfl rfl rfl ?_)))
    refine TC.condP rfl (fun e2 => ?_) (fun e2 => ?_)
    · repeat (first|(first|refine q1 ?_|refine q3 ?_|refine q4 tab rfl rfl ?_)|(refine qs rfl (qz tab 0 rfl rfl rfl rfl rfl rfl ?_)))
      refine TO.step rfl (OT.call rfl rfl rfl rfl rfl rfl goes94 ((nilable_law c bt cc es l _ _ g gr ho hT).x ?_));
      rintro _ _ _ ⟨rfl, rfl, rfl⟩
      repeat (first|refine q4 tab rfl rfl ?_|refine q5 ?_|refine q6 ?_|refine q8 ?_|refine q9 ?_|refine q15 ?_)
      refine retQ_ret rfl (by repeat (first|exact List.Sublist.refl _|refine List.Sublist.cons _ ?_)) ⟨rfl, rfl, ?_⟩
      rw [e1, if_pos e2]; rfl
    · repeat (first|(first|refine q1 ?_|refine q3 ?_)|(first|refine qs rfl (qz tab 0 rfl rfl rfl rfl rfl rfl ?_)|refine qs rfl (qz tab 1 rfl rfl rfl rfl rfl rfl ?_)))
      refine TO.step rfl (OT.call rfl rfl rfl rfl rfl rfl goes41 ((equal_law a c _ _ h g hr gr).x ?_));
      rintro _ _ _ ⟨rfl, rfl, rfl⟩
      repeat (first|refine q4 tab rfl rfl ?_|refine q5 ?_|refine q6 ?_)
      refine TC.cond (t := teq a c) rfl (fun e3 => ?_) (fun e3 => ?_)
      · repeat (first|refine q1 ?_|refine q3 ?_|refine q4 tab rfl rfl ?_|refine q5 ?_|refine q6 ?_|refine q8 ?_|refine q9 ?_|refine q15 ?_)
        refine retQ_ret rfl (by repeat (first|exact List.Sublist.refl _|refine List.Sublist.cons _ ?_)) ⟨rfl, rfl, ?_⟩
        rw [e1, if_neg e2, e3]; rfl
      · rw [e1, if_neg e2, e3]
        have hx0 : a.kind = 5 → a.kids[0]? = some (kid0 a) := fun e => by rw [one_kid (hkid e)]; rfl
        have hts : a.kind = 5 → toStructD l a = isStructD l (kid0 a) := fun e => by rw [toStruct_kid (hkid e), decide_eq_true e]; rfl
        repeat (first|refine q1 ?_|refine q6 ?_|refine q7 ?_|refine q13 ?_)
        refine TC.draw0 [] mixed 28 rfl ?_
        refine DO.pure tab (by repeat (first|exact Calm.ret|refine Calm.then ?_)) (by kernel_rfl) [0] (by kernel_rfl) rfl ?_
        (refine DO.loadL (k := 0) tab 1 0 (by repeat (first|exact Calm.ret|refine Calm.then ?_)) (by kernel_rfl) (by kernel_rfl) rfl rfl rfl rfl rfl rfl rfl rfl ?_)
        refine DO.run 2 rfl rfl (by kernel_rfl) rfl (OT.call rfl rfl rfl rfl rfl rfl goes95 ((tiface_law c bt cc es l _ _ g gr ho hT).x ?_))
        rintro _ _ _ ⟨rfl, rfl, rfl⟩; refine ⟨Mem.le_refl _, _, List.Perm.refl _, ?_⟩
        refine DO.pure tab (by repeat (first|exact Calm.ret|refine Calm.then ?_)) (by kernel_rfl) [3] (by kernel_rfl) rfl ?_
        (refine DO.split (d := 26) rfl (fun hg3 => ?_) (fun hg3 => ?_))
        refine DO.pure tab (by repeat (first|exact Calm.ret|refine Calm.then ?_)) (by kernel_rfl) [4] (by kernel_rfl) rfl ?_
        (refine DO.loadL tab 5 1 (by repeat (first|exact Calm.ret|refine Calm.then ?_)) (by kernel_rfl) (by kernel_rfl) rfl rfl rfl rfl rfl rfl rfl rfl ?_)
        refine DO.pure tab (by repeat (first|exact Calm.ret|refine Calm.then ?_)) (by kernel_rfl) [6, 7, 8] (by kernel_rfl) rfl ?_
        (refine DO.splitP (d := 31) rfl (fun hg8 => ?_) (fun hg8 => ?_))
        refine DO.pure tab (by repeat (first|exact Calm.ret|refine Calm.then ?_)) (by kernel_rfl) [9, 10] (by kernel_rfl) rfl ?_
        (refine DO.loadL tab 11 1 (by repeat (first|exact Calm.ret|refine Calm.then ?_)) (by kernel_rfl) (by kernel_rfl) rfl rfl rfl rfl rfl rfl rfl rfl ?_)
        refine DO.index tab rTree 12 0 h4 (by repeat (first|exact Calm.ret|refine Calm.then ?_)) (by kernel_rfl) (by kernel_rfl) rfl rfl rfl rfl rfl rfl rfl (by first | rfl | omega) rfl (hx0 (h1.symm.trans hg8)) ?_
        rintro b' i' h' hrd hA
        (refine DO.loadA (k := 0) tab 13 hA (by repeat (first|exact Calm.ret|refine Calm.then ?_)) (by kernel_rfl) (by kernel_rfl) rfl rfl rfl rfl rfl rfl rfl ?_)
        refine DO.run 14 rfl rfl (by kernel_rfl) rfl (OT.call rfl rfl rfl rfl rfl rfl goes50 ((tstruct_law (kid0 a) bt cc es l _ _ h' (rTree_iff.1 hrd) ho hT).x ?_))
        rintro _ _ _ ⟨rfl, rfl, rfl⟩; refine ⟨Mem.le_refl _, _, List.Perm.refl _, ?_⟩
        refine DO.pure tab (by repeat (first|exact Calm.ret|refine Calm.then ?_)) (by kernel_rfl) [15, 16] (by kernel_rfl) rfl ?_
        (refine DO.split (d := 39) rfl (fun hg16 => ?_) (fun hg16 => ?_))
        refine DO.pure tab (by repeat (first|exact Calm.ret|refine Calm.then ?_)) (by kernel_rfl) [17, 18] (by kernel_rfl) rfl ?_
        (refine DO.loadL tab 19 1 (by repeat (first|exact Calm.ret|refine Calm.then ?_)) (by kernel_rfl) (by kernel_rfl) rfl rfl rfl rfl rfl rfl rfl rfl ?_)
        refine DO.index tab rTree 20 0 h4 (by repeat (first|exact Calm.ret|refine Calm.then ?_)) (by kernel_rfl) (by kernel_rfl) rfl rfl rfl rfl rfl rfl rfl (by first | rfl | omega) rfl (hx0 (h1.symm.trans hg8)) ?_
        rintro b3 i3 h3' hrd3 hA3; have hn3 := (rTree_iff.1 hrd3).name
        refine DO.pure tab (by repeat (first|exact Calm.ret|refine Calm.then ?_)) (by kernel_rfl) [21] (by kernel_rfl) rfl ?_
        (refine DO.loadA tab 22 hA3 (by repeat (first|exact Calm.ret|refine Calm.then ?_)) (by kernel_rfl) (by kernel_rfl) rfl rfl rfl rfl rfl rfl rfl ?_)
        refine DO.pure tab (by repeat (first|exact Calm.ret|refine Calm.then ?_)) (by kernel_rfl) [23] (by kernel_rfl) rfl ?_
        (refine DO.loadL tab 24 0 (by repeat (first|exact Calm.ret|refine Calm.then ?_)) (by kernel_rfl) (by kernel_rfl) rfl rfl rfl rfl rfl rfl rfl rfl ?_)
        refine DO.run 25 rfl rfl (by kernel_rfl) rfl (OT.call rfl rfl rfl rfl rfl rfl goes96 ((has_law h3'.name g.name bt cc es l _ _ ho hT).x ?_))
        rintro _ _ _ ⟨rfl, rfl, rfl⟩; refine ⟨Mem.le_refl _, _, List.Perm.refl _, ?_⟩
        refine DO.pure tab (by repeat (first|exact Calm.ret|refine Calm.then ?_)) (by kernel_rfl) [26, 27] (by kernel_rfl) rfl ?_
        (refine DO.nil0 (by kernel_rfl) ?_)
        rotate_left 1
        refine DO.pure tab (by repeat (first|exact Calm.ret|refine Calm.then ?_)) (by kernel_rfl) [17, 18, 19, 20, 21, 22, 23, 24, 25, 26, 27] (by kernel_rfl) rfl ?_
        (refine DO.nil0 (by kernel_rfl) ?_)
        rotate_left 1
        refine DO.pure tab (by repeat (first|exact Calm.ret|refine Calm.then ?_)) (by kernel_rfl) [9, 10, 11, 12, 13, 14, 15, 16, 17, 18, 19, 20, 21, 22, 23, 24, 25, 26, 27] (by kernel_rfl) rfl ?_
        (refine DO.nil0 (by kernel_rfl) ?_)
        rotate_left 1
        refine DO.pure tab (by repeat (first|exact Calm.ret|refine Calm.then ?_)) (by kernel_rfl) [4, 5, 6, 7, 8, 9, 10, 11, 12, 13, 14, 15, 16, 17, 18, 19, 20, 21, 22, 23, 24, 25, 26, 27] (by kernel_rfl) rfl ?_
        (refine DO.nil0 (by kernel_rfl) ?_)
        rotate_left 1
        · refine thenQ_n ?_
          repeat (refine q15 ?_)
          refine retQ_ret rfl (by repeat (first|exact List.Sublist.refl _|refine List.Sublist.cons _ ?_)) ⟨rfl, rfl, ?_⟩
          rw [hg3, hts (h1.symm.trans hg8), hg16, hn3]; rfl
        · refine thenQ_n ?_
          repeat (refine q15 ?_)
          refine retQ_ret rfl (by repeat (first|exact List.Sublist.refl _|refine List.Sublist.cons _ ?_)) ⟨rfl, rfl, ?_⟩
          rw [hg3, hts (h1.symm.trans hg8), hg16]; rfl
        · refine thenQ_n ?_
          repeat (refine q15 ?_)
          refine retQ_ret rfl (by repeat (first|exact List.Sublist.refl _|refine List.Sublist.cons _ ?_)) ⟨rfl, rfl, ?_⟩
          have : toStructD l a = false := by rw [toStructD, decide_eq_false (fun e => hg8 (h1.trans e))]; rfl
          rw [hg3, this]; rfl
        · refine thenQ_n ?_
          repeat (refine q15 ?_)
          refine retQ_ret rfl (by repeat (first|exact List.Sublist.refl _|refine List.Sublist.cons _ ?_)) ⟨rfl, rfl, ?_⟩
          rw [hg3]; rfl

def assignB (l : List Decl) (a b : Tree) : Bool := okD l [a, b] && (tassignB l a b && (decide (a.kind = 8) || tknown (hasD l) a))
theorem okD_two {l : List Decl} {a b : Tree} : okD l [a, b] = (decide (soundE l = 0) && (a.sound && b.sound)) := by simp [okD]

set_option maxHeartbeats 1600000 in
theorem assign_law (a c : Tree) (m : Mem) (L : List Item) (s : Sl) (l : List Decl) (hs : SlRep rDecl m s l) (hS : TblS l) (h g : HTree) (hr : TreeRep m h a) (gr : TreeRep m g c) (hB : a.bulk ≤ 1048576) (gB : c.bulk ≤ 1048576) : TCall Try.prog 22 ⟨[s.v, treeV h, treeV g]⟩ m L (Ret (.bool (assignB l a c)) m L) := by
  have h1 := hr.kind
  refine TCall.forget ?_
  unfold TCall
  refine TCallX.enter Try.func22 rfl 31 rfl ?_
  repeat (first|refine q1 ?_|refine q3 ?_)
  refine TO.step rfl (OT.box rfl rfl rfl rfl rfl (fun b => ?_))
  skip
  refine TO.step rfl (OT.box rfl rfl rfl rfl rfl (fun b2 => ?_))
  repeat (first|(first|refine q1 ?_|refine q3 ?_|refine q4 tab rfl rfl ?_|refine q5 ?_|refine q6 ?_)|(first|refine qs rfl (qz tab 0 rfl rfl rfl rfl rfl rfl ?_)|refine qs rfl (qz tab 1 rfl rfl rfl rfl rfl rfl ?_)))
  refine TO.step rfl (OT.lit tab rfl rfl rfl rfl (fun b3 => ?_))
  refine TO.freeze fun m1 hm1 hA1 => ?_
  skip
  refine TO.step rfl (OT.call rfl rfl rfl rfl rfl rfl goes56 ((open_law m1 _ s l (hs.mono hm1) hS _ [a, c] (slT2 (h := h) (h' := g) hA1 (hr.mono hm1) (gr.mono hm1)) (fun x hx => by simp only [List.mem_cons, List.not_mem_nil, or_false] at hx; rcases hx with rfl | rfl; exact hB; exact gB)).x ?_));
  rintro _ m2 _ ⟨hm2, rfl, ⟨ok, bt, es, cc, rfl, ho, hT⟩ | ⟨ok, rfl⟩⟩
  · have hm := Mem.le_trans hm1 hm2
    have hok := ok
    rw [okD_two, Bool.and_eq_true, Bool.and_eq_true] at hok
    repeat (first|refine q1 ?_|refine q3 ?_|refine q4 tab rfl rfl ?_|refine q5 ?_|refine q6 ?_)
    refine TO.step rfl (OT.mapNe tab kStr (r := some bt) rfl rfl rfl rfl rfl rfl ?_)
    repeat (first|(refine q4 tab rfl rfl ?_)|(first|refine qs rfl (qz tab 0 rfl rfl rfl rfl rfl rfl ?_)|refine qs rfl (qz tab 1 rfl rfl rfl rfl rfl rfl ?_)))
    refine TO.step rfl (OT.call rfl rfl rfl rfl rfl rfl goes58 ((tassign_law a c (sound_kids hok.2.1) bt cc es l m2 _ h g (hr.mono hm) (gr.mono hm) ho hT).x ?_));
    rintro _ _ _ ⟨rfl, rfl, rfl⟩
    repeat (refine q4 tab rfl rfl ?_)
    refine TO.split (b := tassignB l a c) rfl rfl (fun e1 => ?_) (fun e1 => ?_)
    · repeat (first|(refine q4 tab rfl rfl ?_)|(refine qs rfl (ql tab 1 rfl rfl rfl rfl rfl rfl ?_)))
      (refine TO.splitP rfl rfl (fun e2 => ?_) (fun e2 => ?_))
      · repeat (first|refine q4 tab rfl rfl ?_|refine q5 ?_|refine q6 ?_|refine q15 ?_)
        refine retQ_ret rfl (by repeat (first|exact List.Sublist.refl _|refine List.Sublist.cons _ ?_)) ⟨hm, rfl, ?_⟩
        rw [assignB, ok, e1, ← h1, decide_eq_true e2]; rfl
      · repeat (first|(refine q4 tab rfl rfl ?_)|(refine qs rfl (qz tab 1 rfl rfl rfl rfl rfl rfl ?_)))
        refine TO.step rfl (OT.call rfl rfl rfl rfl rfl rfl goes49 ((tknown_law bt cc es hT.ok a _ _ h (hr.mono hm) ho).x ?_));
        rintro _ _ _ ⟨rfl, rfl, rfl⟩
        rw [hT.hasF]
        repeat (first|refine q4 tab rfl rfl ?_|refine q5 ?_|refine q6 ?_|refine q15 ?_)
        refine retQ_ret rfl (by repeat (first|exact List.Sublist.refl _|refine List.Sublist.cons _ ?_)) ⟨hm, rfl, ?_⟩
        rw [assignB, ok, e1, ← h1, decide_eq_false e2]; rfl
    · repeat (first|refine q4 tab rfl rfl ?_|refine q5 ?_|refine q6 ?_|refine q15 ?_)
      refine retQ_ret rfl (by repeat (first|exact List.Sublist.refl _|refine List.Sublist.cons _ ?_)) ⟨hm, rfl, ?_⟩
      rw [assignB, ok, e1]; rfl
  · repeat (first|refine q1 ?_|refine q3 ?_|refine q4 tab rfl rfl ?_|refine q5 ?_|refine q6 ?_)
    refine TO.step rfl (OT.mapNe tab kStr (r := none) rfl rfl rfl rfl rfl rfl ?_)
    repeat ((first|refine q4 tab rfl rfl ?_|refine q5 ?_|refine q6 ?_|refine q15 ?_))
    refine retQ_ret rfl (by repeat (first|exact List.Sublist.refl _|refine List.Sublist.cons _ ?_)) ⟨Mem.le_trans hm1 hm2, rfl, ?_⟩
    rw [assignB, ok]; rfl

def simpleD (l : List Decl) (a : Tree) : Bool := decide (a.kind ≤ 3) || (decide (a.kind = 5) || isIfaceD l a)
def tcompB (l : List Decl) (a b : Tree) : Bool :=
  if a.kind = 8 then !decide (b.kind = 8) && (tknown (hasD l) b && nilableD l b) else if b.kind = 8 then tknown (hasD l) a && nilableD l a
  else (teq a b && tknown (hasD l) a) && simpleD l a
def compB (l : List Decl) (a b : Tree) : Bool := okD l [a, b] && tcompB l a b

set_option maxHeartbeats 1600000 in
theorem tcomp_law (a c : Tree) (bt cc : Nat) (es : Ents Str) (l : List Decl) (m : Mem) (L : List Item) (h g : HTree) (hr : TreeRep m h a) (gr : TreeRep m g c) (ho : m.o bt = some (mapO kStr es cc)) (hT : TblRep m es l) :
    TCall Try.prog 60 ⟨[.map (some bt), treeV h, treeV g]⟩ m L (Ret (.bool (tcompB l a c)) m L) := by
  have h1 := hr.kind
  have g1 := gr.kind
  unfold TCall
  refine TCallX.enter Try.func60 rfl 60 rfl ?_
  unfold tcompB simpleD
  rw [← h1, ← g1]
  repeat (first|refine q1 ?_|refine q3 ?_)
  refine TO.step rfl (OT.box rfl rfl rfl rfl rfl (fun b => ?_))
  skip
  refine TO.step rfl (OT.box rfl rfl rfl rfl rfl (fun b2 => ?_))
  repeat (first|(first|refine q1 ?_|refine q2 ?_|refine q3 ?_|refine q4 tab rfl rfl ?_|refine q5 ?_|refine q6 ?_)|(refine qs rfl (ql tab 1 rfl rfl rfl rfl rfl rfl ?_)))
  refine TC.condP rfl (fun e1 => ?_) (fun e1 => ?_)
  · rw [if_pos e1]
    repeat (first|(first|refine q1 ?_|refine q3 ?_|refine q4 tab rfl rfl ?_)|(refine qs rfl (ql tab 0 rfl rfl rfl rfl rfl rfl ?_)))
    (refine TO.splitN rfl rfl (fun e2 => ?_) (fun e2 => ?_))
    · repeat (first|(refine q4 tab rfl rfl ?_)|(refine qs rfl (qz tab 0 rfl rfl rfl rfl rfl rfl ?_)))
      refine TO.step rfl (OT.call rfl rfl rfl rfl rfl rfl goes49 ((tknown_law bt cc es hT.ok c _ _ g gr ho).x ?_));
      rintro _ _ _ ⟨rfl, rfl, rfl⟩
      rw [hT.hasF]
      repeat (refine q4 tab rfl rfl ?_)
      refine TO.split (b := tknown (hasD l) c) rfl rfl (fun e3 => ?_) (fun e3 => ?_)
      · repeat (first|(refine q4 tab rfl rfl ?_)|(refine qs rfl (qz tab 0 rfl rfl rfl rfl rfl rfl ?_)))
        refine TO.step rfl (OT.call rfl rfl rfl rfl rfl rfl goes94 ((nilable_law c bt cc es l _ _ g gr ho hT).x ?_));
        rintro _ _ _ ⟨rfl, rfl, rfl⟩
        repeat (first|refine q4 tab rfl rfl ?_|refine q5 ?_|refine q6 ?_|refine q8 ?_|refine q9 ?_|refine q15 ?_)
        refine retQ_ret rfl (by repeat (first|exact List.Sublist.refl _|refine List.Sublist.cons _ ?_)) ⟨rfl, rfl, ?_⟩
        rw [decide_eq_false e2, e3]; rfl
      · repeat (first|refine q4 tab rfl rfl ?_|refine q5 ?_|refine q6 ?_|refine q8 ?_|refine q9 ?_|refine q15 ?_)
        refine retQ_ret rfl (by repeat (first|exact List.Sublist.refl _|refine List.Sublist.cons _ ?_)) ⟨rfl, rfl, ?_⟩
        rw [decide_eq_false e2, e3]; rfl
    · repeat (first|refine q4 tab rfl rfl ?_|refine q5 ?_|refine q6 ?_|refine q8 ?_|refine q9 ?_|refine q15 ?_)
      refine retQ_ret rfl (by repeat (first|exact List.Sublist.refl _|refine List.Sublist.cons _ ?_)) ⟨rfl, rfl, ?_⟩
      rw [decide_eq_true e2]; rfl
  · rw [if_neg e1]
    repeat (first|(first|refine q1 ?_|refine q3 ?_|refine q4 tab rfl rfl ?_|refine q5 ?_|refine q6 ?_)|(refine qs rfl (ql tab 0 rfl rfl rfl rfl rfl rfl ?_)))
    refine TC.condP rfl (fun e2 => ?_) (fun e2 => ?_)
    · rw [if_pos e2]
      repeat (first|(first|refine q1 ?_|refine q3 ?_|refine q4 tab rfl rfl ?_)|(refine qs rfl (qz tab 1 rfl rfl rfl rfl rfl rfl ?_)))
      refine TO.step rfl (OT.call rfl rfl rfl rfl rfl rfl goes49 ((tknown_law bt cc es hT.ok a _ _ h hr ho).x ?_));
      rintro _ _ _ ⟨rfl, rfl, rfl⟩
      rw [hT.hasF]
      repeat (refine q4 tab rfl rfl ?_)
      refine TO.split (b := tknown (hasD l) a) rfl rfl (fun e3 => ?_) (fun e3 => ?_)
      · repeat (first|(refine q4 tab rfl rfl ?_)|(refine qs rfl (qz tab 1 rfl rfl rfl rfl rfl rfl ?_)))
        refine TO.step rfl (OT.call rfl rfl rfl rfl rfl rfl goes94 ((nilable_law a bt cc es l _ _ h hr ho hT).x ?_));
        rintro _ _ _ ⟨rfl, rfl, rfl⟩
        repeat (first|refine q4 tab rfl rfl ?_|refine q5 ?_|refine q6 ?_|refine q8 ?_|refine q9 ?_|refine q15 ?_)
        refine retQ_ret rfl (by repeat (first|exact List.Sublist.refl _|refine List.Sublist.cons _ ?_)) ⟨rfl, rfl, ?_⟩
        rw [e3]; rfl
      · repeat (first|refine q4 tab rfl rfl ?_|refine q5 ?_|refine q6 ?_|refine q8 ?_|refine q9 ?_|refine q15 ?_)
        refine retQ_ret rfl (by repeat (first|exact List.Sublist.refl _|refine List.Sublist.cons _ ?_)) ⟨rfl, rfl, ?_⟩
        rw [e3]; rfl
    · rw [if_neg e2]
      repeat (first|(first|refine q1 ?_|refine q3 ?_)|(first|refine qs rfl (qz tab 0 rfl rfl rfl rfl rfl rfl ?_)|refine qs rfl (qz tab 1 rfl rfl rfl rfl rfl rfl ?_)))
      refine TO.step rfl (OT.call rfl rfl rfl rfl rfl rfl goes41 ((equal_law a c _ _ h g hr gr).x ?_));
      rintro _ _ _ ⟨rfl, rfl, rfl⟩
      repeat (refine q4 tab rfl rfl ?_)
      refine TO.split (b := !teq a c) rfl rfl (fun e3 => ?_) (fun e3 => ?_)
      · rw [Bool.not_eq_true'] at e3
        repeat (first|refine q1 ?_|refine q3 ?_|refine q4 tab rfl rfl ?_|refine q5 ?_|refine q6 ?_|refine q8 ?_|refine q9 ?_|refine q15 ?_|refine q16 rfl ?_)
        refine retQ_ret rfl (by repeat (first|exact List.Sublist.refl _|refine List.Sublist.cons _ ?_)) ⟨rfl, rfl, ?_⟩
        rw [e3]; rfl
      · rw [Bool.not_eq_false'] at e3
        repeat (first|(refine q4 tab rfl rfl ?_)|(refine qs rfl (qz tab 1 rfl rfl rfl rfl rfl rfl ?_)))
        refine TO.step rfl (OT.call rfl rfl rfl rfl rfl rfl goes49 ((tknown_law bt cc es hT.ok a _ _ h hr ho).x ?_));
        rintro _ _ _ ⟨rfl, rfl, rfl⟩
        rw [hT.hasF]
        repeat (first|refine q4 tab rfl rfl ?_|refine q5 ?_|refine q6 ?_)
        refine TC.cond (t := !tknown (hasD l) a) rfl (fun e4 => ?_) (fun e4 => ?_)
        · rw [Bool.not_eq_true'] at e4
          repeat (first|refine q1 ?_|refine q3 ?_|refine q4 tab rfl rfl ?_|refine q5 ?_|refine q6 ?_|refine q8 ?_|refine q9 ?_|refine q15 ?_)
          refine retQ_ret rfl (by repeat (first|exact List.Sublist.refl _|refine List.Sublist.cons _ ?_)) ⟨rfl, rfl, ?_⟩
          rw [e3, e4]; rfl
        · rw [Bool.not_eq_false'] at e4
          repeat (first|(first|refine q1 ?_|refine q3 ?_|refine q4 tab rfl rfl ?_|refine q6 ?_|refine q7 ?_|refine q13 ?_)|(refine qs rfl (ql tab 1 rfl rfl rfl rfl rfl rfl ?_)))
          (refine TO.splitP rfl rfl (fun e5 => ?_) (fun e5 => ?_))
          · repeat (first|refine q4 tab rfl rfl ?_|refine q5 ?_|refine q6 ?_|refine q15 ?_)
            refine retQ_ret rfl (by repeat (first|exact List.Sublist.refl _|refine List.Sublist.cons _ ?_)) ⟨rfl, rfl, ?_⟩
            rw [e3, e4, decide_eq_true e5]; rfl
          · repeat (first|(refine q4 tab rfl rfl ?_)|(refine qs rfl (ql tab 1 rfl rfl rfl rfl rfl rfl ?_)))
            (refine TO.splitP rfl rfl (fun e6 => ?_) (fun e6 => ?_))
            · repeat (first|refine q4 tab rfl rfl ?_|refine q5 ?_|refine q6 ?_|refine q15 ?_)
              refine retQ_ret rfl (by repeat (first|exact List.Sublist.refl _|refine List.Sublist.cons _ ?_)) ⟨rfl, rfl, ?_⟩
              rw [e3, e4, decide_eq_true e6, decide_eq_false e5]; rfl
            · repeat (first|(refine q4 tab rfl rfl ?_)|(refine qs rfl (qz tab 1 rfl rfl rfl rfl rfl rfl ?_)))
              refine TO.step rfl (OT.call rfl rfl rfl rfl rfl rfl goes95 ((tiface_law a bt cc es l _ _ h hr ho hT).x ?_));
              rintro _ _ _ ⟨rfl, rfl, rfl⟩
              repeat (first|refine q4 tab rfl rfl ?_|refine q5 ?_|refine q6 ?_|refine q15 ?_)
              refine retQ_ret rfl (by repeat (first|exact List.Sublist.refl _|refine List.Sublist.cons _ ?_)) ⟨rfl, rfl, ?_⟩
              rw [e3, e4, decide_eq_false e5, decide_eq_false e6]; rfl

set_option maxHeartbeats 1600000 in
theorem comp_law (a c : Tree) (m : Mem) (L : List Item) (s : Sl) (l : List Decl) (hs : SlRep rDecl m s l) (hS : TblS l) (h g : HTree) (hr : TreeRep m h a) (gr : TreeRep m g c) (hB : a.bulk ≤ 1048576) (gB : c.bulk ≤ 1048576) : TCall Try.prog 24 ⟨[s.v, treeV h, treeV g]⟩ m L (Ret (.bool (compB l a c)) m L) := by
  refine TCall.forget ?_
  unfold TCall
  refine TCallX.enter Try.func24 rfl 21 rfl ?_
  repeat (first|refine q1 ?_|refine q3 ?_)
  refine TO.step rfl (OT.box rfl rfl rfl rfl rfl (fun b => ?_))
  skip
  refine TO.step rfl (OT.box rfl rfl rfl rfl rfl (fun b2 => ?_))
  repeat (first|(first|refine q1 ?_|refine q3 ?_|refine q4 tab rfl rfl ?_|refine q5 ?_|refine q6 ?_)|(first|refine qs rfl (qz tab 0 rfl rfl rfl rfl rfl rfl ?_)|refine qs rfl (qz tab 1 rfl rfl rfl rfl rfl rfl ?_)))
  refine TO.step rfl (OT.lit tab rfl rfl rfl rfl (fun b3 => ?_))
  refine TO.freeze fun m1 hm1 hA1 => ?_
  skip
  refine TO.step rfl (OT.call rfl rfl rfl rfl rfl rfl goes56 ((open_law m1 _ s l (hs.mono hm1) hS _ [a, c] (slT2 (h := h) (h' := g) hA1 (hr.mono hm1) (gr.mono hm1)) (fun x hx => by simp only [List.mem_cons, List.not_mem_nil, or_false] at hx; rcases hx with rfl | rfl; exact hB; exact gB)).x ?_));
  rintro _ m2 _ ⟨hm2, rfl, ⟨ok, bt, es, cc, rfl, ho, hT⟩ | ⟨ok, rfl⟩⟩
  · have hm := Mem.le_trans hm1 hm2
    repeat (first|refine q1 ?_|refine q3 ?_|refine q4 tab rfl rfl ?_|refine q5 ?_|refine q6 ?_)
    refine TO.step rfl (OT.mapNe tab kStr (r := some bt) rfl rfl rfl rfl rfl rfl ?_)
    repeat (first|(refine q4 tab rfl rfl ?_)|(first|refine qs rfl (qz tab 0 rfl rfl rfl rfl rfl rfl ?_)|refine qs rfl (qz tab 1 rfl rfl rfl rfl rfl rfl ?_)))
    refine TO.step rfl (OT.call rfl rfl rfl rfl rfl rfl goes60 ((tcomp_law a c bt cc es l m2 _ h g (hr.mono hm) (gr.mono hm) ho hT).x ?_));
    rintro _ _ _ ⟨rfl, rfl, rfl⟩
    repeat (first|refine q4 tab rfl rfl ?_|refine q5 ?_|refine q6 ?_|refine q15 ?_)
    refine retQ_ret rfl (by repeat (first|exact List.Sublist.refl _|refine List.Sublist.cons _ ?_)) ⟨hm, rfl, ?_⟩
    rw [compB, ok]; rfl
  · repeat (first|refine q1 ?_|refine q3 ?_|refine q4 tab rfl rfl ?_|refine q5 ?_|refine q6 ?_)
    refine TO.step rfl (OT.mapNe tab kStr (r := none) rfl rfl rfl rfl rfl rfl ?_)
    repeat ((first|refine q4 tab rfl rfl ?_|refine q5 ?_|refine q6 ?_|refine q15 ?_))
    refine retQ_ret rfl (by repeat (first|exact List.Sublist.refl _|refine List.Sublist.cons _ ?_)) ⟨Mem.le_trans hm1 hm2, rfl, ?_⟩
    rw [compB, ok]; rfl
end Go.Sep

/-
  The walks of the document's Assignable and Comparable.
-/
set_option linter.unusedVariables false
set_option linter.unusedSimpArgs false
namespace Go.Sep
open Go.Proofs
attribute [local irreducible] TC TO OT TCallX TCall DO DOt thenQ blockQ retQ At

def ofD (l : List Decl) (a : Tree) : Tree := if toStructD l a = true then kid0 a else a
def methodsD (l : List Decl) (a : Tree) : List Fld := if (decide ((ofD l a).kind = 4) && hasD l (ofD l a).name) = true then (theD l (ofD l a).name).methods else []

set_option maxHeartbeats 1600000 in
theorem methodOf_ref (a : Tree) (hkid : a.kind = 5 → a.kids.length = 1) (n : Str) (m : Mem) (L : List Item) (s : Sl) (l : List Decl) (hs : SlRep rDecl m s l) (h : HTree) (hr : TreeRep m h a) : TCall Try.prog 64 ⟨[s.v, treeV h, strV n]⟩ m L (MadeM m L (methodsD l a) n) := by
  obtain ⟨h1, h2, h3, h4⟩ := id hr
  unfold TCall
  refine TCallX.enter Try.func64 rfl 38 rfl ?_
  repeat (first|refine q1 ?_|refine q3 ?_)
  refine TO.step rfl (OT.box rfl rfl rfl rfl rfl (fun b => ?_))
  skip
  refine TO.step rfl (OT.alloc tab rfl rfl rfl rfl (fun b6 => ?_))
  refine TO.pureP tab rfl rfl ?_
  refine TO.nil ?_
  refine thenQ_n ?_
  refine TC.seq ?_
  refine TC.cutT (ι := HTree) [0, 2, 4, 6] rfl (fun _ => []) (fun _ => m) (fun x => .cells b6 0 (treeC ⟨0, [], 0, ⟨none, 0, 0⟩⟩) :: .cells b 0 (treeC x) :: L) (fun x => TreeRep m x (ofD l a)) ?_ (fun x hx => ?_)
  · repeat (first|(first|refine q1 ?_|refine q3 ?_|refine q4 tab rfl rfl ?_)|(refine qs rfl (qz tab 1 rfl rfl rfl rfl rfl rfl ?_)))
    refine TO.step rfl (OT.call rfl rfl rfl rfl rfl rfl goes98 ((toStruct_ref a hkid _ _ s l hs h hr).x ?_));
    rintro _ _ _ ⟨rfl, rfl, rfl⟩
    repeat (first|refine q5 ?_|refine q6 ?_)
    refine TC.cond (t := toStructD l a) rfl (fun e1 => ?_) (fun e1 => ?_)
    · have e5 : a.kind = 5 := by
        rw [toStructD, Bool.and_eq_true] at e1
        exact of_decide_eq_true e1.1
      have hx0 : a.kids[0]? = some (kid0 a) := by rw [one_kid (hkid e5)]; rfl
      repeat (first|(first|refine q3 ?_|refine q4 tab rfl rfl ?_)|(refine qs rfl (ql tab 1 rfl rfl rfl rfl rfl rfl ?_)))
      refine TO.step rfl (OT.index tab rTree 0 h4 rfl rfl rfl rfl rfl (by first | rfl | omega) rfl hx0 ?_)
      rintro b' i' h' hrd hA
      (refine TO.step rfl (OT.loadA0 tab hA rfl rfl rfl rfl rfl ?_))
      skip
      (refine TO.step rfl (OT.storeL0 tab 1 rfl rfl rfl rfl rfl rfl rfl rfl ?_))
      repeat (first|refine q5 ?_|refine q6 ?_)
      exact ⟨h', (by repeat (exact trivial)), (by repeat (first|exact trivial|refine And.intro rfl ?_)), rfl, rfl, (by repeat (exact List.Sublist.refl _)), by rw [ofD, if_pos e1]; exact rTree_iff.1 hrd⟩
    · repeat (first|refine q6 ?_|refine q13 ?_)
      exact ⟨h, (by repeat (exact trivial)), (by repeat (first|exact trivial|refine And.intro rfl ?_)), rfl, rfl, (by repeat (exact List.Sublist.refl _)), by rw [ofD, if_neg (by rw [e1]; simp)]; exact hr⟩
  · have x1 := hx.kind
    have x2 := hx.name
    repeat (first|(first|refine q1 ?_|refine q3 ?_|refine q4 tab rfl rfl ?_)|(refine qs rfl (ql tab 1 rfl rfl rfl rfl rfl rfl ?_)))
    (refine TO.splitN rfl rfl (fun e1 => ?_) (fun e1 => ?_))
    · skip
      repeat (first|refine q1 ?_|refine q3 ?_|refine q4 tab rfl rfl ?_|refine q5 ?_|refine q6 ?_|refine q16 rfl ?_)
      (refine TO.step rfl (OT.storeL0 tab 0 rfl rfl rfl rfl rfl rfl rfl rfl ?_))
      repeat (first|refine q4 tab rfl rfl ?_|refine q5 ?_|refine q6 ?_|refine q8 ?_|refine q15 ?_)
      refine retQ_ret_c tab 0 rfl rfl rfl rfl rfl (L' := L) (by repeat (first|exact List.Sublist.refl _|refine List.Sublist.cons _ ?_)) ⟨Mem.le_refl _, rfl, ⟨0, [], 0, ⟨none, 0, 0⟩⟩, ?_, ?_⟩
      · rw [methodsD, ← x1, ← x2, decide_eq_false e1]; rfl
      · rw [methodsD, ← x1, ← x2, decide_eq_false e1]; exact zeroT_rep _
    · repeat (first|(refine q4 tab rfl rfl ?_)|(refine qs rfl (ql tab 1 rfl rfl rfl rfl rfl rfl ?_)))
      refine TO.step rfl (OT.call rfl rfl rfl rfl rfl rfl goes26 ((find_ref _ _ s l x.name hs).x ?_));
      rintro _ _ _ ⟨rfl, rfl, rfl⟩
      have hlt := idxD_lt l x.name
      repeat (first|refine q4 tab rfl rfl ?_|refine q5 ?_|refine q6 ?_)
      refine TC.condP rfl (fun e3 => ?_) (fun e3 => ?_)
      · have hh : hasD l x.name = false := by rw [decide_eq_true e3] at hlt; simpa using hlt.symm
        repeat (first|refine q1 ?_|refine q3 ?_|refine q4 tab rfl rfl ?_)
        (refine TO.step rfl (OT.storeL0 tab 0 rfl rfl rfl rfl rfl rfl rfl rfl ?_))
        repeat (first|refine q4 tab rfl rfl ?_|refine q5 ?_|refine q6 ?_|refine q8 ?_|refine q15 ?_)
        refine retQ_ret_c tab 0 rfl rfl rfl rfl rfl (L' := L) (by repeat (first|exact List.Sublist.refl _|refine List.Sublist.cons _ ?_)) ⟨Mem.le_refl _, rfl, ⟨0, [], 0, ⟨none, 0, 0⟩⟩, ?_, ?_⟩
        · rw [methodsD, ← x1, ← x2, hh, Bool.and_false]; rfl
        · rw [methodsD, ← x1, ← x2, hh, Bool.and_false]; exact zeroT_rep _
      · have hh : hasD l x.name = true := by rw [decide_eq_false e3] at hlt; simpa using hlt.symm
        obtain ⟨j, w1, w2, w3⟩ := idxD_get hh
        repeat (first|(first|refine q1 ?_|refine q3 ?_|refine q4 tab rfl rfl ?_|refine q6 ?_|refine q13 ?_)|(refine qs rfl (ql tab 1 rfl rfl rfl rfl rfl rfl ?_)))
        refine TO.step rfl (OT.call rfl rfl rfl rfl rfl rfl goes26 ((find_ref _ _ s l x.name hs).x ?_));
        rintro _ _ _ ⟨rfl, rfl, rfl⟩
        skip
        refine TO.step rfl (OT.index tab rDecl j hs rfl rfl rfl rfl rfl (by first | rfl | omega) rfl w2 ?_)
        rintro b' i' hd hrd hA
        repeat (refine q4 tab rfl rfl ?_)
        (refine TO.step rfl (OT.loadA tab hA rfl rfl rfl rfl rfl ?_))
        repeat (refine q4 tab rfl rfl ?_)
        refine TO.step rfl (OT.call rfl rfl rfl rfl rfl rfl goes102 ((member_ref _ _ hd.methods (theD l x.name).methods n hrd.methods).x ?_));
        rintro _ m2 _ ⟨hm2, rfl, ht, rfl, hrt⟩
        repeat (refine q4 tab rfl rfl ?_)
        (refine TO.step rfl (OT.storeL0 tab 0 rfl rfl rfl rfl rfl rfl rfl rfl ?_))
        repeat (first|refine q4 tab rfl rfl ?_|refine q5 ?_|refine q6 ?_|refine q15 ?_)
        refine retQ_ret_c tab 0 rfl rfl rfl rfl rfl (L' := L) (by repeat (first|exact List.Sublist.refl _|refine List.Sublist.cons _ ?_)) ⟨hm2, rfl, ht, ?_, ?_⟩
        · rw [methodsD, ← x1, ← x2, decide_eq_true e1, hh]; rfl
        · rw [methodsD, ← x1, ← x2, decide_eq_true e1, hh]; exact hrt

def givesB (l : List Decl) (a b : Tree) : Bool := tassignB l a b && (decide (a.kind = 8) || tknown (hasD l) a)

set_option maxHeartbeats 3200000 in
theorem gives_ref (a c : Tree) (ha : a.sound = true) (hc : c.sound = true) (m : Mem) (L : List Item) (s : Sl) (l : List Decl) (hs : SlRep rDecl m s l) (h g : HTree) (hr : TreeRep m h a) (gr : TreeRep m g c) : TCall Try.prog 59 ⟨[s.v, treeV h, treeV g]⟩ m L (Ret (.bool (givesB l a c)) m L) := by
  have h1 := hr.kind
  have g2 := gr.name
  have hkid := sound_kids ha
  refine TCall.forget ?_
  unfold TCall
  refine TCallX.enter Try.func59 rfl 75 rfl ?_
  unfold givesB tassignB
  rw [← h1, ← g2]
  repeat (first|refine q1 ?_|refine q3 ?_)
  refine TO.step rfl (OT.box rfl rfl rfl rfl rfl (fun b => ?_))
  skip
  refine TO.step rfl (OT.box rfl rfl rfl rfl rfl (fun b2 => ?_))
  repeat (first|(first|refine q1 ?_|refine q3 ?_|refine q4 tab rfl rfl ?_|refine q5 ?_|refine q6 ?_)|(refine qs rfl (qz tab 0 rfl rfl rfl rfl rfl rfl ?_)))
  refine TO.step rfl (OT.call rfl rfl rfl rfl rfl rfl goes57 ((known_ref c _ _ s l hs g gr).x ?_));
  rintro _ _ _ ⟨rfl, rfl, rfl⟩
  rw [knownD_eq hc]
  repeat (first|refine q4 tab rfl rfl ?_|refine q5 ?_|refine q6 ?_)
  refine TC.cond (t := !tknown (hasD l) c) rfl (fun e1 => ?_) (fun e1 => ?_)
  · rw [Bool.not_eq_true'] at e1
    repeat (first|refine q1 ?_|refine q3 ?_|refine q4 tab rfl rfl ?_|refine q5 ?_|refine q6 ?_|refine q8 ?_|refine q15 ?_)
    refine retQ_ret rfl (by repeat (first|exact List.Sublist.refl _|refine List.Sublist.cons _ ?_)) ⟨Mem.le_refl _, rfl, ?_⟩
    rw [e1]; rfl
  · rw [Bool.not_eq_false'] at e1
    rw [e1]
    repeat (first|(first|refine q1 ?_|refine q3 ?_|refine q4 tab rfl rfl ?_|refine q5 ?_|refine q6 ?_|refine q13 ?_)|(refine qs rfl (ql tab 1 rfl rfl rfl rfl rfl rfl ?_)))
    refine TC.condP rfl (fun e2 => ?_) (fun e2 => ?_)
    · rw [if_pos e2, decide_eq_true e2]
      repeat (first|(first|refine q1 ?_|refine q3 ?_|refine q4 tab rfl rfl ?_)|(refine qs rfl (qz tab 0 rfl rfl rfl rfl rfl rfl ?_)))
      refine TO.step rfl (OT.call rfl rfl rfl rfl rfl rfl goes97 ((nilable_ref c _ _ s l hs g gr).x ?_));
      rintro _ _ _ ⟨rfl, rfl, rfl⟩
      repeat (first|refine q4 tab rfl rfl ?_|refine q5 ?_|refine q6 ?_|refine q8 ?_|refine q15 ?_)
      refine retQ_ret rfl (by repeat (first|exact List.Sublist.refl _|refine List.Sublist.cons _ ?_)) ⟨Mem.le_refl _, rfl, ?_⟩
      simp
    · rw [if_neg e2, decide_eq_false e2]
      repeat (first|(first|refine q1 ?_|refine q3 ?_|refine q4 tab rfl rfl ?_|refine q6 ?_|refine q13 ?_)|(refine qs rfl (qz tab 1 rfl rfl rfl rfl rfl rfl ?_)))
      refine TO.step rfl (OT.call rfl rfl rfl rfl rfl rfl goes57 ((known_ref a _ _ s l hs h hr).x ?_));
      rintro _ _ _ ⟨rfl, rfl, rfl⟩
      rw [knownD_eq ha]
      repeat (first|refine q4 tab rfl rfl ?_|refine q5 ?_|refine q6 ?_)
      refine TC.cond (t := !tknown (hasD l) a) rfl (fun e3 => ?_) (fun e3 => ?_)
      · rw [Bool.not_eq_true'] at e3
        repeat (first|refine q1 ?_|refine q3 ?_|refine q4 tab rfl rfl ?_|refine q5 ?_|refine q6 ?_|refine q8 ?_|refine q15 ?_)
        refine retQ_ret rfl (by repeat (first|exact List.Sublist.refl _|refine List.Sublist.cons _ ?_)) ⟨Mem.le_refl _, rfl, ?_⟩
        rw [e3]; simp
      · rw [Bool.not_eq_false'] at e3
        rw [e3]
        repeat (first|(first|refine q1 ?_|refine q3 ?_|refine q6 ?_|refine q13 ?_)|(first|refine qs rfl (qz tab 0 rfl rfl rfl rfl rfl rfl ?_)|refine qs rfl (qz tab 1 rfl rfl rfl rfl rfl rfl ?_)))
        refine TO.step rfl (OT.call rfl rfl rfl rfl rfl rfl goes13 ((equal_ref a c _ _ h g hr gr).x ?_));
        rintro _ _ _ ⟨rfl, rfl, rfl⟩
        repeat (first|refine q5 ?_|refine q6 ?_)
        refine TC.cond (t := teq a c) rfl (fun e4 => ?_) (fun e4 => ?_)
        · repeat (first|refine q1 ?_|refine q3 ?_|refine q4 tab rfl rfl ?_|refine q5 ?_|refine q6 ?_|refine q8 ?_|refine q15 ?_)
          refine retQ_ret rfl (by repeat (first|exact List.Sublist.refl _|refine List.Sublist.cons _ ?_)) ⟨Mem.le_refl _, rfl, ?_⟩
          rw [e4]; rfl
        · rw [e4]
          repeat (first|(first|refine q1 ?_|refine q3 ?_|refine q4 tab rfl rfl ?_|refine q6 ?_|refine q13 ?_)|(refine qs rfl (qz tab 1 rfl rfl rfl rfl rfl rfl ?_)))
          refine TO.step rfl (OT.call rfl rfl rfl rfl rfl rfl goes98 ((toStruct_ref a hkid _ _ s l hs h hr).x ?_));
          rintro _ _ _ ⟨rfl, rfl, rfl⟩
          repeat (refine q4 tab rfl rfl ?_)
          refine TO.split (b := !toStructD l a) rfl rfl (fun e5 => ?_) (fun e5 => ?_)
          · rw [Bool.not_eq_true'] at e5
            repeat (first|refine q1 ?_|refine q3 ?_|refine q4 tab rfl rfl ?_|refine q5 ?_|refine q6 ?_|refine q8 ?_|refine q15 ?_|refine q16 rfl ?_)
            refine retQ_ret rfl (by repeat (first|exact List.Sublist.refl _|refine List.Sublist.cons _ ?_)) ⟨Mem.le_refl _, rfl, ?_⟩
            rw [e5]; simp
          · rw [Bool.not_eq_false'] at e5
            rw [e5]
            repeat (first|(refine q4 tab rfl rfl ?_)|(refine qs rfl (qz tab 0 rfl rfl rfl rfl rfl rfl ?_)))
            refine TO.step rfl (OT.call rfl rfl rfl rfl rfl rfl goes99 ((isIface_ref c _ _ s l hs g gr).x ?_));
            rintro _ _ _ ⟨rfl, rfl, rfl⟩
            repeat (first|refine q4 tab rfl rfl ?_|refine q5 ?_|refine q6 ?_)
            refine TC.cond (t := !isIfaceD l c) rfl (fun e6 => ?_) (fun e6 => ?_)
            · rw [Bool.not_eq_true'] at e6
              repeat (first|refine q1 ?_|refine q3 ?_|refine q4 tab rfl rfl ?_|refine q5 ?_|refine q6 ?_|refine q8 ?_|refine q15 ?_)
              refine retQ_ret rfl (by repeat (first|exact List.Sublist.refl _|refine List.Sublist.cons _ ?_)) ⟨Mem.le_refl _, rfl, ?_⟩
              rw [e6]; simp
            · rw [Bool.not_eq_false'] at e6
              rw [e6]
              have hhas : hasD l g.name = true := by
                rw [g2]
                rw [isIfaceD, Bool.and_eq_true, Bool.and_eq_true] at e6
                exact e6.2.1
              have hmet : methodsD l a = (theD l (kid0 a).name).methods := by
                have hs5 := e5
                have h5 : a.kind = 5 := by
                  rw [toStructD, Bool.and_eq_true] at hs5
                  exact of_decide_eq_true hs5.1
                rw [toStruct_kid (hkid h5), Bool.and_eq_true, isStructD, Bool.and_eq_true, Bool.and_eq_true] at hs5
                rw [methodsD, ofD, if_pos e5, hs5.2.1, hs5.2.2.1]; rfl
              obtain ⟨j, w1, w2, w3⟩ := idxD_get hhas
              repeat (first|(first|refine q1 ?_|refine q3 ?_|refine q4 tab rfl rfl ?_|refine q6 ?_|refine q13 ?_)|(refine qs rfl (ql tab 0 rfl rfl rfl rfl rfl rfl ?_)))
              refine TO.step rfl (OT.call rfl rfl rfl rfl rfl rfl goes26 ((find_ref _ _ s l g.name hs).x ?_));
              rintro _ _ _ ⟨rfl, rfl, rfl⟩
              skip
              refine TO.step rfl (OT.index tab rDecl j hs rfl rfl rfl rfl rfl (by first | rfl | omega) rfl w2 ?_)
              rintro b' i' hd hrd hA
              have hms := hrd.methods
              have hml := hms.len
              have hmsm := hms.small rfl
              repeat (refine q4 tab rfl rfl ?_)
              (refine TO.step rfl (OT.loadA tab hA rfl rfl rfl rfl rfl ?_))
              repeat (first|refine q1 ?_|refine q2 ?_|refine q3 ?_|refine q4 tab rfl rfl ?_|refine q5 ?_|refine q6 ?_)
              refine TC.loopK (ι := Nat × Mem) [0, 4, 5, 7] rfl (fun x => [(8, .int .i64 (x.1 : Int))]) (fun x => x.2) (fun _ => .cells b2 0 (treeC g) :: .cells b 0 (treeC h) :: L) (fun x => x.1 ≤ (theD l g.name).methods.length ∧ m ≤ x.2 ∧ ((theD l g.name).methods.take x.1).all (givesF (theD l (kid0 a).name).methods) = true) (fun x => (theD l g.name).methods.length - x.1) (0, m) (by repeat (first|exact trivial|refine And.intro rfl ?_)) rfl (by repeat (exact List.Sublist.refl _)) ⟨Nat.zero_le _, Mem.le_refl _, rfl⟩ ?_
              rintro ⟨k, m1⟩ ⟨hk, hm1, hI⟩
              simp only at hk hm1 hI ⊢
              have hms1 := hms.mono hm1
              repeat (first|refine q1 ?_|refine q3 ?_|refine q4 tab rfl rfl ?_|refine q5 ?_|refine q6 ?_)
              refine TC.condP rfl (fun e7 => ?_) (fun e7 => ?_)
              · have hlt : k < (theD l g.name).methods.length := by omega
                have hx : (theD l g.name).methods[k]? = some (theD l g.name).methods[k] := by simp [hlt]
                repeat (first|refine q1 ?_|refine q2 ?_|refine q6 ?_|refine q13 ?_)
                refine TC.draw0 [12, 13] mixed 14 rfl ?_
                refine DO.pure tab (by repeat (first|exact Calm.ret|refine Calm.then ?_|refine Calm.block ?_)) (by kernel_rfl) [0] (by kernel_rfl) rfl ?_
                (refine DO.loadL (k := 0) tab 1 1 (by repeat (first|exact Calm.ret|refine Calm.then ?_|refine Calm.block ?_)) (by kernel_rfl) (by kernel_rfl) rfl rfl rfl rfl rfl rfl rfl rfl ?_)
                refine DO.pure tab (by repeat (first|exact Calm.ret|refine Calm.then ?_|refine Calm.block ?_)) (by kernel_rfl) [2, 3] (by kernel_rfl) rfl ?_
                refine DO.index tab rField 4 k hms1 (by repeat (first|exact Calm.ret|refine Calm.then ?_|refine Calm.block ?_)) (by kernel_rfl) (by kernel_rfl) rfl rfl rfl rfl rfl rfl rfl (by first | rfl | omega) rfl hx ?_
                rintro b5 i5 hf hrf hA5
                refine DO.pure tab (by repeat (first|exact Calm.ret|refine Calm.then ?_|refine Calm.block ?_)) (by kernel_rfl) [5] (by kernel_rfl) rfl ?_
                (refine DO.loadA tab 6 hA5 (by repeat (first|exact Calm.ret|refine Calm.then ?_|refine Calm.block ?_)) (by kernel_rfl) (by kernel_rfl) rfl rfl rfl rfl rfl rfl rfl ?_)
                refine DO.fork 7 [11] (by kernel_rfl) ⟨⟨_, rfl, rfl, rfl, ?_⟩, ⟨_, rfl, rfl, rfl, ?_⟩, trivial⟩
                · refine OT.call rfl rfl rfl rfl rfl rfl goes64 ((methodOf_ref a hkid hf.name m1 _ s l (hs.mono hm1) h (hr.mono hm1)).x ?_)
                  rintro _ m2 _ ⟨hm2, rfl, ht, rfl, hrt⟩
                  refine ⟨hm2, _, List.Perm.refl _, ?_⟩
                  refine DO.pure tab (by repeat (first|exact Calm.ret|refine Calm.then ?_|refine Calm.block ?_)) (by kernel_rfl) [8, 9, 10] (by kernel_rfl) rfl ?_
                  refine DO.run 11 rfl rfl (by kernel_rfl) rfl ?_
                  refine OT.alloc tab rfl rfl rfl rfl (fun b9 => ?_)
                  refine ⟨Mem.le_refl _, [_], perm_mid, ?_⟩
                  have hm02 := Mem.le_trans hm1 hm2
                  have hfn := hrf.name
                  have hms2 := hms1.mono hm2
                  refine DO.tail ?_
                  refine DOt.run 12 rfl rfl (by kernel_rfl) rfl ?_
                  refine OT.perm perm_f2 ?_
                  refine OT.storeL0 tab 0 rfl rfl rfl rfl rfl rfl rfl rfl ?_
                  refine DOt.run 13 rfl rfl (by kernel_rfl) rfl ?_
                  refine OT.pureC tab rfl rfl rfl rfl ?_
                  refine DOt.nil (by kernel_rfl) ?_
                  refine thenQ_n ?_
                  repeat (refine q1 ?_)
                  refine TC.draw0 [] mixed 12 rfl ?_
                  refine DO.pure tab (by repeat (first|exact Calm.ret|refine Calm.then ?_|refine Calm.block ?_)) (by kernel_rfl) [0, 1, 2] (by kernel_rfl) rfl ?_
                  (refine DO.split (d := 65) rfl (fun hg2 => ?_) (fun hg2 => ?_))
                  refine DO.pure tab (by repeat (first|exact Calm.ret|refine Calm.then ?_|refine Calm.block ?_)) (by kernel_rfl) [3, 4, 5, 6, 7, 8, 9, 10, 11] (by kernel_rfl) rfl ?_
                  (refine DO.nil0 (by kernel_rfl) ?_)
                  rotate_left 1
                  (refine DO.loadL (k := 0) tab 3 0 (by repeat (first|exact Calm.ret|refine Calm.then ?_|refine Calm.block ?_)) (by kernel_rfl) (by kernel_rfl) rfl rfl rfl rfl rfl rfl rfl rfl ?_)
                  refine DO.pure tab (by repeat (first|exact Calm.ret|refine Calm.then ?_|refine Calm.block ?_)) (by kernel_rfl) [4, 5] (by kernel_rfl) rfl ?_
                  refine DO.index tab rField 6 k hms2 (by repeat (first|exact Calm.ret|refine Calm.then ?_|refine Calm.block ?_)) (by kernel_rfl) (by kernel_rfl) rfl rfl rfl rfl rfl rfl rfl (by first | rfl | omega) rfl hx ?_
                  rintro b7 i7 hf7 hrf7 hA7
                  refine DO.pure tab (by repeat (first|exact Calm.ret|refine Calm.then ?_|refine Calm.block ?_)) (by kernel_rfl) [7] (by kernel_rfl) rfl ?_
                  (refine DO.loadA tab 8 hA7 (by repeat (first|exact Calm.ret|refine Calm.then ?_|refine Calm.block ?_)) (by kernel_rfl) (by kernel_rfl) rfl rfl rfl rfl rfl rfl rfl ?_)
                  refine DO.run 9 rfl rfl (by kernel_rfl) rfl (OT.call rfl rfl rfl rfl rfl rfl goes13 ((equal_ref _ _ _ _ ht hf7.type hrt hrf7.type).x ?_))
                  rintro _ _ _ ⟨rfl, rfl, rfl⟩; refine ⟨Mem.le_refl _, _, List.Perm.refl _, ?_⟩
                  refine DO.pure tab (by repeat (first|exact Calm.ret|refine Calm.then ?_|refine Calm.block ?_)) (by kernel_rfl) [10, 11] (by kernel_rfl) rfl ?_
                  (refine DO.nil0 (by kernel_rfl) ?_)
                  rotate_left 1
                  · refine thenQ_n ?_
                    repeat (first|refine q1 ?_|refine q3 ?_|refine q4 tab rfl rfl ?_|refine q5 ?_|refine q6 ?_|refine q8 ?_|refine q9 ?_|refine q15 ?_|refine q16 rfl ?_)
                    refine retQ_ret rfl (by repeat (first|exact List.Sublist.refl _|refine List.Sublist.cons _ ?_)) ⟨hm02, rfl, ?_⟩
                    rw [Bool.not_eq_true'] at hg2
                    rw [hasMD, List.all_eq_false.2 ⟨_, List.getElem_mem hlt, by rw [givesF, ← hfn, ← hmet, hg2]; simp⟩]; rfl
                  · refine thenQ_n ?_
                    skip
                    rw [Bool.not_eq_false'] at hg2
                    refine TC.cond (t := !teq (memT (methodsD l a) hf.name) (theD l g.name).methods[k].type) rfl (fun e9 => ?_) (fun e9 => ?_)
                    · rw [Bool.not_eq_true', hfn, hmet] at e9
                      repeat (first|refine q1 ?_|refine q3 ?_|refine q4 tab rfl rfl ?_|refine q5 ?_|refine q6 ?_|refine q8 ?_|refine q9 ?_|refine q15 ?_)
                      refine retQ_ret rfl (by repeat (first|exact List.Sublist.refl _|refine List.Sublist.cons _ ?_)) ⟨hm02, rfl, ?_⟩
                      rw [hasMD, List.all_eq_false.2 ⟨_, List.getElem_mem hlt, by rw [givesF, e9]; simp⟩]; rfl
                    · rw [Bool.not_eq_false', hfn, hmet] at e9
                      rw [hfn, hmet] at hg2
                      repeat (first|refine q3 ?_|refine q4 tab rfl rfl ?_|refine q6 ?_|refine q7 ?_|refine q13 ?_)
                      refine TO.step rfl (OT.arith (r' := ((k + 1 : Nat) : Int)) rfl rfl rfl rfl rfl rfl rfl (by omega) ?_)
                      repeat (first|refine q4 tab rfl rfl ?_|refine q5 ?_|refine q6 ?_)
                      exact ⟨(k + 1, m2), (by repeat (first|exact trivial|refine And.intro rfl ?_)), (by repeat (first|exact trivial|refine And.intro rfl ?_)), rfl, rfl, (by repeat (first|exact List.Sublist.refl _|refine List.Sublist.cons _ ?_)), ⟨by simp only; omega, hm02, by rw [List.take_succ_eq_append_getElem hlt, List.all_append, hI, List.all_cons, givesF, hg2, e9]; rfl⟩, by simp only; omega⟩
                · refine OT.alloc tab rfl rfl rfl rfl (fun b9 => ?_)
                  refine ⟨Mem.le_refl _, [_], perm_mid, ?_⟩
                  refine DO.run 7 rfl rfl (by kernel_rfl) rfl ?_
                  refine OT.call rfl rfl rfl rfl rfl rfl goes64 ((methodOf_ref a hkid hf.name m1 _ s l (hs.mono hm1) h (hr.mono hm1)).x ?_)
                  rintro _ m2 _ ⟨hm2, rfl, ht, rfl, hrt⟩
                  refine ⟨hm2, _, List.Perm.refl _, ?_⟩
                  refine DO.pure tab (by repeat (first|exact Calm.ret|refine Calm.then ?_|refine Calm.block ?_)) (by kernel_rfl) [8, 9, 10] (by kernel_rfl) rfl ?_
                  have hm02 := Mem.le_trans hm1 hm2
                  have hfn := hrf.name
                  have hms2 := hms1.mono hm2
                  refine DO.tail ?_
                  refine DOt.run 12 rfl rfl (by kernel_rfl) rfl ?_
                  refine OT.perm perm_f2 ?_
                  refine OT.storeL0 tab 0 rfl rfl rfl rfl rfl rfl rfl rfl ?_
                  refine DOt.run 13 rfl rfl (by kernel_rfl) rfl ?_
                  refine OT.pureC tab rfl rfl rfl rfl ?_
                  refine DOt.nil (by kernel_rfl) ?_
                  refine thenQ_n ?_
                  repeat (refine q1 ?_)
                  refine TC.draw0 [] mixed 12 rfl ?_
                  refine DO.pure tab (by repeat (first|exact Calm.ret|refine Calm.then ?_|refine Calm.block ?_)) (by kernel_rfl) [0, 1, 2] (by kernel_rfl) rfl ?_
                  (refine DO.split (d := 65) rfl (fun hg2 => ?_) (fun hg2 => ?_))
                  refine DO.pure tab (by repeat (first|exact Calm.ret|refine Calm.then ?_|refine Calm.block ?_)) (by kernel_rfl) [3, 4, 5, 6, 7, 8, 9, 10, 11] (by kernel_rfl) rfl ?_
                  (refine DO.nil0 (by kernel_rfl) ?_)
                  rotate_left 1
                  (refine DO.loadL (k := 0) tab 3 0 (by repeat (first|exact Calm.ret|refine Calm.then ?_|refine Calm.block ?_)) (by kernel_rfl) (by kernel_rfl) rfl rfl rfl rfl rfl rfl rfl rfl ?_)
                  refine DO.pure tab (by repeat (first|exact Calm.ret|refine Calm.then ?_|refine Calm.block ?_)) (by kernel_rfl) [4, 5] (by kernel_rfl) rfl ?_
                  refine DO.index tab rField 6 k hms2 (by repeat (first|exact Calm.ret|refine Calm.then ?_|refine Calm.block ?_)) (by kernel_rfl) (by kernel_rfl) rfl rfl rfl rfl rfl rfl rfl (by first | rfl | omega) rfl hx ?_
                  rintro b7 i7 hf7 hrf7 hA7
                  refine DO.pure tab (by repeat (first|exact Calm.ret|refine Calm.then ?_|refine Calm.block ?_)) (by kernel_rfl) [7] (by kernel_rfl) rfl ?_
                  (refine DO.loadA tab 8 hA7 (by repeat (first|exact Calm.ret|refine Calm.then ?_|refine Calm.block ?_)) (by kernel_rfl) (by kernel_rfl) rfl rfl rfl rfl rfl rfl rfl ?_)
                  refine DO.run 9 rfl rfl (by kernel_rfl) rfl (OT.call rfl rfl rfl rfl rfl rfl goes13 ((equal_ref _ _ _ _ ht hf7.type hrt hrf7.type).x ?_))
                  rintro _ _ _ ⟨rfl, rfl, rfl⟩; refine ⟨Mem.le_refl _, _, List.Perm.refl _, ?_⟩
                  refine DO.pure tab (by repeat (first|exact Calm.ret|refine Calm.then ?_|refine Calm.block ?_)) (by kernel_rfl) [10, 11] (by kernel_rfl) rfl ?_
                  (refine DO.nil0 (by kernel_rfl) ?_)
                  rotate_left 1
                  · refine thenQ_n ?_
                    repeat (first|refine q1 ?_|refine q3 ?_|refine q4 tab rfl rfl ?_|refine q5 ?_|refine q6 ?_|refine q8 ?_|refine q9 ?_|refine q15 ?_|refine q16 rfl ?_)
                    refine retQ_ret rfl (by repeat (first|exact List.Sublist.refl _|refine List.Sublist.cons _ ?_)) ⟨hm02, rfl, ?_⟩
                    rw [Bool.not_eq_true'] at hg2
                    rw [hasMD, List.all_eq_false.2 ⟨_, List.getElem_mem hlt, by rw [givesF, ← hfn, ← hmet, hg2]; simp⟩]; rfl
                  · refine thenQ_n ?_
                    skip
                    rw [Bool.not_eq_false'] at hg2
                    refine TC.cond (t := !teq (memT (methodsD l a) hf.name) (theD l g.name).methods[k].type) rfl (fun e9 => ?_) (fun e9 => ?_)
                    · rw [Bool.not_eq_true', hfn, hmet] at e9
                      repeat (first|refine q1 ?_|refine q3 ?_|refine q4 tab rfl rfl ?_|refine q5 ?_|refine q6 ?_|refine q8 ?_|refine q9 ?_|refine q15 ?_)
                      refine retQ_ret rfl (by repeat (first|exact List.Sublist.refl _|refine List.Sublist.cons _ ?_)) ⟨hm02, rfl, ?_⟩
                      rw [hasMD, List.all_eq_false.2 ⟨_, List.getElem_mem hlt, by rw [givesF, e9]; simp⟩]; rfl
                    · rw [Bool.not_eq_false', hfn, hmet] at e9
                      rw [hfn, hmet] at hg2
                      repeat (first|refine q3 ?_|refine q4 tab rfl rfl ?_|refine q6 ?_|refine q7 ?_|refine q13 ?_)
                      refine TO.step rfl (OT.arith (r' := ((k + 1 : Nat) : Int)) rfl rfl rfl rfl rfl rfl rfl (by omega) ?_)
                      repeat (first|refine q4 tab rfl rfl ?_|refine q5 ?_|refine q6 ?_)
                      exact ⟨(k + 1, m2), (by repeat (first|exact trivial|refine And.intro rfl ?_)), (by repeat (first|exact trivial|refine And.intro rfl ?_)), rfl, rfl, (by repeat (first|exact List.Sublist.refl _|refine List.Sublist.cons _ ?_)), ⟨by simp only; omega, hm02, by rw [List.take_succ_eq_append_getElem hlt, List.all_append, hI, List.all_cons, givesF, hg2, e9]; rfl⟩, by simp only; omega⟩
              · rw [List.take_of_length_le (by omega)] at hI
                repeat (first|refine q1 ?_|refine q3 ?_|refine q4 tab rfl rfl ?_|refine q5 ?_|refine q6 ?_|refine q10 ?_|refine q11 ?_|refine q14 ?_|refine q15 ?_)
                refine retQ_ret rfl (by repeat (first|exact List.Sublist.refl _|refine List.Sublist.cons _ ?_)) ⟨hm1, rfl, ?_⟩
                rw [hasMD, hI]; rfl
end Go.Sep

/-
  The walks of the document's Assignable and Comparable; the laws TypesFit and TypesLaws.
-/
set_option linter.unusedVariables false
set_option linter.unusedSimpArgs false
namespace Go.Sep
open Go.Proofs
attribute [local irreducible] TC TO OT TCallX TCall DO DOt thenQ blockQ retQ At

theorem assignB_gives {l : List Decl} {a b : Tree} : assignB l a b = (decide (soundE l = 0) && (a.sound && (b.sound && givesB l a b))) := by
  rw [assignB, okD_two, givesB]
  cases decide (soundE l = 0) <;> cases a.sound <;> cases b.sound <;> rfl

set_option maxHeartbeats 1600000 in
theorem assign_def (a c : Tree) (m : Mem) (L : List Item) (s : Sl) (l : List Decl) (hs : SlRep rDecl m s l) (hS : TblS l) (h g : HTree) (hr : TreeRep m h a) (gr : TreeRep m g c) (hB : a.bulk ≤ 1048576) (gB : c.bulk ≤ 1048576) : TCall Try.prog 23 ⟨[s.v, treeV h, treeV g]⟩ m L (Ret (.bool (assignB l a c)) m L) := by
  unfold TCall
  refine TCallX.enter Try.func23 rfl 24 rfl ?_
  rw [assignB_gives]
  repeat (first|refine q1 ?_|refine q3 ?_)
  refine TO.step rfl (OT.box rfl rfl rfl rfl rfl (fun b => ?_))
  skip
  refine TO.step rfl (OT.box rfl rfl rfl rfl rfl (fun b2 => ?_))
  repeat (first|refine q1 ?_|refine q3 ?_|refine q4 tab rfl rfl ?_|refine q5 ?_|refine q6 ?_)
  refine TO.step rfl (OT.call rfl rfl rfl rfl rfl rfl goes19 ((sound_def m _ s l hs hS).x ?_));
  rintro _ _ _ ⟨rfl, rfl, rfl⟩
  repeat (refine q4 tab rfl rfl ?_)
  (refine TO.splitP rfl rfl (fun e1 => ?_) (fun e1 => ?_))
  · repeat ((refine qs rfl (qz tab 1 rfl rfl rfl rfl rfl rfl ?_)))
    refine TO.step rfl (OT.call rfl rfl rfl rfl rfl rfl goes42 ((isSound_ref a m _ h hr hB).x ?_));
    rintro _ _ _ ⟨rfl, rfl, rfl⟩
    repeat (refine q4 tab rfl rfl ?_)
    refine TO.split (b := a.sound) rfl rfl (fun e2 => ?_) (fun e2 => ?_)
    · repeat ((refine qs rfl (qz tab 0 rfl rfl rfl rfl rfl rfl ?_)))
      refine TO.step rfl (OT.call rfl rfl rfl rfl rfl rfl goes42 ((isSound_ref c m _ g gr gB).x ?_));
      rintro _ _ _ ⟨rfl, rfl, rfl⟩
      repeat (refine q4 tab rfl rfl ?_)
      refine TO.split (b := c.sound) rfl rfl (fun e3 => ?_) (fun e3 => ?_)
      · repeat (first|(refine q4 tab rfl rfl ?_)|(first|refine qs rfl (qz tab 0 rfl rfl rfl rfl rfl rfl ?_)|refine qs rfl (qz tab 1 rfl rfl rfl rfl rfl rfl ?_)))
        refine TO.step rfl (OT.call rfl rfl rfl rfl rfl rfl goes59 ((gives_ref a c e2 e3 m _ s l hs h g hr gr).x ?_));
        rintro _ _ _ ⟨rfl, rfl, rfl⟩
        repeat (first|refine q4 tab rfl rfl ?_|refine q5 ?_|refine q6 ?_|refine q15 ?_)
        refine retQ_ret rfl (by repeat (first|exact List.Sublist.refl _|refine List.Sublist.cons _ ?_)) ⟨rfl, rfl, ?_⟩
        rw [decide_eq_true e1, e2, e3]; rfl
      · repeat (first|refine q4 tab rfl rfl ?_|refine q5 ?_|refine q6 ?_|refine q15 ?_)
        refine retQ_ret rfl (by repeat (first|exact List.Sublist.refl _|refine List.Sublist.cons _ ?_)) ⟨rfl, rfl, ?_⟩
        rw [decide_eq_true e1, e2, e3]; rfl
    · repeat (first|refine q4 tab rfl rfl ?_|refine q5 ?_|refine q6 ?_|refine q15 ?_)
      refine retQ_ret rfl (by repeat (first|exact List.Sublist.refl _|refine List.Sublist.cons _ ?_)) ⟨rfl, rfl, ?_⟩
      rw [decide_eq_true e1, e2]; rfl
  · repeat (first|refine q4 tab rfl rfl ?_|refine q5 ?_|refine q6 ?_|refine q15 ?_)
    refine retQ_ret rfl (by repeat (first|exact List.Sublist.refl _|refine List.Sublist.cons _ ?_)) ⟨rfl, rfl, ?_⟩
    rw [decide_eq_false e1]; rfl

def dcompB (l : List Decl) (a b : Tree) : Bool := tcompB l a b
theorem compB_conds {l : List Decl} {a b : Tree} : compB l a b = (decide (soundE l = 0) && (a.sound && (b.sound && dcompB l a b))) := by
  rw [compB, okD_two, dcompB]
  cases decide (soundE l = 0) <;> cases a.sound <;> cases b.sound <;> rfl

set_option maxHeartbeats 3200000 in
theorem compares_ref (a c : Tree) (ha : a.sound = true) (hc : c.sound = true) (m : Mem) (L : List Item) (s : Sl) (l : List Decl) (hs : SlRep rDecl m s l) (h g : HTree) (hr : TreeRep m h a) (gr : TreeRep m g c) : TCall Try.prog 61 ⟨[s.v, treeV h, treeV g]⟩ m L (Ret (.bool (dcompB l a c)) m L) := by
  have h1 := hr.kind
  have g1 := gr.kind
  have hk := sound_kind ha
  unfold TCall
  refine TCallX.enter Try.func61 rfl 72 rfl ?_
  unfold dcompB tcompB simpleD
  rw [← h1, ← g1]
  repeat (first|refine q1 ?_|refine q3 ?_)
  refine TO.step rfl (OT.box rfl rfl rfl rfl rfl (fun b => ?_))
  skip
  refine TO.step rfl (OT.box rfl rfl rfl rfl rfl (fun b2 => ?_))
  refine TO.pureP tab rfl rfl ?_
  refine TO.nil ?_
  refine thenQ_n ?_
  refine TC.seq ?_
  refine TC.seq ?_
  refine TC.cutT (ι := Bool) [0, 4, 5] rfl (fun v => [(15, .bool v)]) (fun _ => m) (fun _ => .cells b2 0 (treeC g) :: .cells b 0 (treeC h) :: L) (fun v => v = (decide (h.kind = 8) && decide (g.kind = 8))) ?_ (fun v hv => ?_)
  · repeat (first|(first|refine q3 ?_|refine q4 tab rfl rfl ?_)|(refine qs rfl (ql tab 1 rfl rfl rfl rfl rfl rfl ?_)))
    (refine TO.splitP rfl rfl (fun e1 => ?_) (fun e1 => ?_))
    · repeat (first|(first|refine q4 tab rfl rfl ?_|refine q5 ?_|refine q6 ?_)|(refine qs rfl (ql tab 0 rfl rfl rfl rfl rfl rfl ?_)))
      exact ⟨decide (g.kind = 8), (by repeat (first|exact trivial|refine And.intro rfl ?_)), (by repeat (first|exact trivial|refine And.intro rfl ?_)), rfl, rfl, (by repeat (exact List.Sublist.refl _)), by rw [decide_eq_true e1]; rfl⟩
    · repeat (first|refine q4 tab rfl rfl ?_|refine q5 ?_|refine q6 ?_)
      exact ⟨false, (by repeat (first|exact trivial|refine And.intro rfl ?_)), (by repeat (first|exact trivial|refine And.intro rfl ?_)), rfl, rfl, (by repeat (exact List.Sublist.refl _)), by rw [decide_eq_false e1]; rfl⟩
  · refine TC.cond (t := v) rfl (fun e => ?_) (fun e => ?_)
    · subst e
      have hv := hv.symm
      simp only [Bool.and_eq_true, decide_eq_true_eq] at hv
      repeat (first|refine q1 ?_|refine q3 ?_|refine q4 tab rfl rfl ?_|refine q5 ?_|refine q6 ?_|refine q8 ?_|refine q15 ?_)
      refine retQ_ret rfl (by repeat (first|exact List.Sublist.refl _|refine List.Sublist.cons _ ?_)) ⟨rfl, rfl, ?_⟩
      rw [if_pos hv.1, decide_eq_true hv.2]; rfl
    · subst e
      repeat (first|(first|refine q1 ?_|refine q3 ?_|refine q4 tab rfl rfl ?_|refine q5 ?_|refine q6 ?_|refine q13 ?_)|(refine qs rfl (ql tab 1 rfl rfl rfl rfl rfl rfl ?_)))
      refine TC.condP rfl (fun e1 => ?_) (fun e1 => ?_)
      · have hv := hv.symm
        rw [decide_eq_true e1, Bool.true_and] at hv
        rw [if_pos e1, hv]
        repeat (first|(first|refine q1 ?_|refine q3 ?_|refine q4 tab rfl rfl ?_)|(refine qs rfl (qz tab 0 rfl rfl rfl rfl rfl rfl ?_)))
        refine TO.step rfl (OT.call rfl rfl rfl rfl rfl rfl goes57 ((known_ref c _ _ s l hs g gr).x ?_));
        rintro _ _ _ ⟨rfl, rfl, rfl⟩
        rw [knownD_eq hc]
        repeat (refine q4 tab rfl rfl ?_)
        refine TO.split (b := tknown (hasD l) c) rfl rfl (fun e3 => ?_) (fun e3 => ?_)
        · repeat (first|(refine q4 tab rfl rfl ?_)|(refine qs rfl (qz tab 0 rfl rfl rfl rfl rfl rfl ?_)))
          refine TO.step rfl (OT.call rfl rfl rfl rfl rfl rfl goes97 ((nilable_ref c _ _ s l hs g gr).x ?_));
          rintro _ _ _ ⟨rfl, rfl, rfl⟩
          repeat (first|refine q4 tab rfl rfl ?_|refine q5 ?_|refine q6 ?_|refine q8 ?_|refine q15 ?_)
          refine retQ_ret rfl (by repeat (first|exact List.Sublist.refl _|refine List.Sublist.cons _ ?_)) ⟨rfl, rfl, ?_⟩
          rw [e3]; rfl
        · repeat (first|refine q4 tab rfl rfl ?_|refine q5 ?_|refine q6 ?_|refine q8 ?_|refine q15 ?_)
          refine retQ_ret rfl (by repeat (first|exact List.Sublist.refl _|refine List.Sublist.cons _ ?_)) ⟨rfl, rfl, ?_⟩
          rw [e3]; rfl
      · rw [if_neg e1]
        repeat (first|(first|refine q1 ?_|refine q3 ?_|refine q4 tab rfl rfl ?_|refine q5 ?_|refine q6 ?_|refine q13 ?_)|(refine qs rfl (ql tab 0 rfl rfl rfl rfl rfl rfl ?_)))
        refine TC.condP rfl (fun e2 => ?_) (fun e2 => ?_)
        · rw [if_pos e2]
          repeat (first|(first|refine q1 ?_|refine q3 ?_|refine q4 tab rfl rfl ?_)|(refine qs rfl (qz tab 1 rfl rfl rfl rfl rfl rfl ?_)))
          refine TO.step rfl (OT.call rfl rfl rfl rfl rfl rfl goes57 ((known_ref a _ _ s l hs h hr).x ?_));
          rintro _ _ _ ⟨rfl, rfl, rfl⟩
          rw [knownD_eq ha]
          repeat (refine q4 tab rfl rfl ?_)
          refine TO.split (b := tknown (hasD l) a) rfl rfl (fun e3 => ?_) (fun e3 => ?_)
          · repeat (first|(refine q4 tab rfl rfl ?_)|(refine qs rfl (qz tab 1 rfl rfl rfl rfl rfl rfl ?_)))
            refine TO.step rfl (OT.call rfl rfl rfl rfl rfl rfl goes97 ((nilable_ref a _ _ s l hs h hr).x ?_));
            rintro _ _ _ ⟨rfl, rfl, rfl⟩
            repeat (first|refine q4 tab rfl rfl ?_|refine q5 ?_|refine q6 ?_|refine q8 ?_|refine q15 ?_)
            refine retQ_ret rfl (by repeat (first|exact List.Sublist.refl _|refine List.Sublist.cons _ ?_)) ⟨rfl, rfl, ?_⟩
            rw [e3]; rfl
          · repeat (first|refine q4 tab rfl rfl ?_|refine q5 ?_|refine q6 ?_|refine q8 ?_|refine q15 ?_)
            refine retQ_ret rfl (by repeat (first|exact List.Sublist.refl _|refine List.Sublist.cons _ ?_)) ⟨rfl, rfl, ?_⟩
            rw [e3]; rfl
        · rw [if_neg e2]
          refine TC.skip ?_
          refine thenQ_n ?_
          refine TC.seq ?_
          refine TC.cutT (ι := Bool) [0, 4, 5] rfl (fun v => [(7, .bool v)]) (fun _ => m) (fun _ => .cells b2 0 (treeC g) :: .cells b 0 (treeC h) :: L) (fun v => v = (decide (h.kind ≤ 3) || (decide (h.kind = 5) || isIfaceD l a))) ?_ (fun v hv => ?_)
          · repeat (first|(first|refine q3 ?_|refine q4 tab rfl rfl ?_)|(refine qs rfl (ql tab 1 rfl rfl rfl rfl rfl rfl ?_)))
            (refine TO.splitP rfl rfl (fun d1 => ?_) (fun d1 => ?_))
            · repeat (first|refine q4 tab rfl rfl ?_|refine q5 ?_|refine q6 ?_)
              exact ⟨true, (by repeat (first|exact trivial|refine And.intro rfl ?_)), (by repeat (first|exact trivial|refine And.intro rfl ?_)), rfl, rfl, (by repeat (exact List.Sublist.refl _)), by rw [decide_eq_true (show h.kind ≤ 3 by omega)]; rfl⟩
            · repeat (first|(refine q4 tab rfl rfl ?_)|(refine qs rfl (ql tab 1 rfl rfl rfl rfl rfl rfl ?_)))
              (refine TO.splitP rfl rfl (fun d2 => ?_) (fun d2 => ?_))
              · repeat (first|refine q4 tab rfl rfl ?_|refine q5 ?_|refine q6 ?_)
                exact ⟨true, (by repeat (first|exact trivial|refine And.intro rfl ?_)), (by repeat (first|exact trivial|refine And.intro rfl ?_)), rfl, rfl, (by repeat (exact List.Sublist.refl _)), by rw [decide_eq_true (show h.kind ≤ 3 by omega)]; rfl⟩
              · repeat (first|(refine q4 tab rfl rfl ?_)|(refine qs rfl (ql tab 1 rfl rfl rfl rfl rfl rfl ?_)))
                (refine TO.splitP rfl rfl (fun d3 => ?_) (fun d3 => ?_))
                · repeat (first|refine q4 tab rfl rfl ?_|refine q5 ?_|refine q6 ?_)
                  exact ⟨true, (by repeat (first|exact trivial|refine And.intro rfl ?_)), (by repeat (first|exact trivial|refine And.intro rfl ?_)), rfl, rfl, (by repeat (exact List.Sublist.refl _)), by rw [decide_eq_true (show h.kind ≤ 3 by omega)]; rfl⟩
                · repeat (first|(refine q4 tab rfl rfl ?_)|(refine qs rfl (ql tab 1 rfl rfl rfl rfl rfl rfl ?_)))
                  (refine TO.splitP rfl rfl (fun d5 => ?_) (fun d5 => ?_))
                  · repeat (first|refine q4 tab rfl rfl ?_|refine q5 ?_|refine q6 ?_)
                    exact ⟨true, (by repeat (first|exact trivial|refine And.intro rfl ?_)), (by repeat (first|exact trivial|refine And.intro rfl ?_)), rfl, rfl, (by repeat (exact List.Sublist.refl _)), by rw [decide_eq_true d5]; simp⟩
                  · repeat (first|(refine q4 tab rfl rfl ?_)|(refine qs rfl (qz tab 1 rfl rfl rfl rfl rfl rfl ?_)))
                    refine TO.step rfl (OT.call rfl rfl rfl rfl rfl rfl goes99 ((isIface_ref a _ _ s l hs h hr).x ?_));
                    rintro _ _ _ ⟨rfl, rfl, rfl⟩
                    repeat (first|refine q4 tab rfl rfl ?_|refine q5 ?_|refine q6 ?_)
                    exact ⟨isIfaceD l a, (by repeat (first|exact trivial|refine And.intro rfl ?_)), (by repeat (first|exact trivial|refine And.intro rfl ?_)), rfl, rfl, (by repeat (exact List.Sublist.refl _)), by rw [decide_eq_false d5, decide_eq_false (show ¬ h.kind ≤ 3 by omega)]; rfl⟩
          · rw [← hv]
            repeat (first|(first|refine q1 ?_|refine q3 ?_|refine q4 tab rfl rfl ?_)|(refine qs rfl (qz tab 1 rfl rfl rfl rfl rfl rfl ?_)))
            refine TO.step rfl (OT.call rfl rfl rfl rfl rfl rfl goes57 ((known_ref a _ _ s l hs h hr).x ?_));
            rintro _ _ _ ⟨rfl, rfl, rfl⟩
            rw [knownD_eq ha]
            repeat (refine q4 tab rfl rfl ?_)
            refine TO.split (b := tknown (hasD l) a) rfl rfl (fun e3 => ?_) (fun e3 => ?_)
            · repeat ((first|refine qs rfl (qz tab 0 rfl rfl rfl rfl rfl rfl ?_)|refine qs rfl (qz tab 1 rfl rfl rfl rfl rfl rfl ?_)))
              refine TO.step rfl (OT.call rfl rfl rfl rfl rfl rfl goes13 ((equal_ref a c _ _ h g hr gr).x ?_));
              rintro _ _ _ ⟨rfl, rfl, rfl⟩
              repeat (refine q4 tab rfl rfl ?_)
              refine TO.split (b := teq a c) rfl rfl (fun e4 => ?_) (fun e4 => ?_)
              · repeat (first|refine q4 tab rfl rfl ?_|refine q5 ?_|refine q6 ?_|refine q15 ?_)
                refine retQ_ret rfl (by repeat (first|exact List.Sublist.refl _|refine List.Sublist.cons _ ?_)) ⟨rfl, rfl, ?_⟩
                rw [e3, e4]; rfl
              · repeat (first|refine q4 tab rfl rfl ?_|refine q5 ?_|refine q6 ?_|refine q15 ?_)
                refine retQ_ret rfl (by repeat (first|exact List.Sublist.refl _|refine List.Sublist.cons _ ?_)) ⟨rfl, rfl, ?_⟩
                rw [e4]; rfl
            · repeat (first|refine q4 tab rfl rfl ?_|refine q5 ?_|refine q6 ?_|refine q15 ?_)
              refine retQ_ret rfl (by repeat (first|exact List.Sublist.refl _|refine List.Sublist.cons _ ?_)) ⟨rfl, rfl, ?_⟩
              rw [e3, Bool.and_false]; rfl

set_option maxHeartbeats 1600000 in
theorem comp_def (a c : Tree) (m : Mem) (L : List Item) (s : Sl) (l : List Decl) (hs : SlRep rDecl m s l) (hS : TblS l) (h g : HTree) (hr : TreeRep m h a) (gr : TreeRep m g c) (hB : a.bulk ≤ 1048576) (gB : c.bulk ≤ 1048576) : TCall Try.prog 25 ⟨[s.v, treeV h, treeV g]⟩ m L (Ret (.bool (compB l a c)) m L) := by
  unfold TCall
  refine TCallX.enter Try.func25 rfl 24 rfl ?_
  rw [compB_conds]
  repeat (first|refine q1 ?_|refine q3 ?_)
  refine TO.step rfl (OT.box rfl rfl rfl rfl rfl (fun b => ?_))
  skip
  refine TO.step rfl (OT.box rfl rfl rfl rfl rfl (fun b2 => ?_))
  repeat (first|refine q1 ?_|refine q3 ?_|refine q4 tab rfl rfl ?_|refine q5 ?_|refine q6 ?_)
  refine TO.step rfl (OT.call rfl rfl rfl rfl rfl rfl goes19 ((sound_def m _ s l hs hS).x ?_));
  rintro _ _ _ ⟨rfl, rfl, rfl⟩
  repeat (refine q4 tab rfl rfl ?_)
  (refine TO.splitP rfl rfl (fun e1 => ?_) (fun e1 => ?_))
  · repeat ((refine qs rfl (qz tab 1 rfl rfl rfl rfl rfl rfl ?_)))
    refine TO.step rfl (OT.call rfl rfl rfl rfl rfl rfl goes42 ((isSound_ref a m _ h hr hB).x ?_));
    rintro _ _ _ ⟨rfl, rfl, rfl⟩
    repeat (refine q4 tab rfl rfl ?_)
    refine TO.split (b := a.sound) rfl rfl (fun e2 => ?_) (fun e2 => ?_)
    · repeat ((refine qs rfl (qz tab 0 rfl rfl rfl rfl rfl rfl ?_)))
      refine TO.step rfl (OT.call rfl rfl rfl rfl rfl rfl goes42 ((isSound_ref c m _ g gr gB).x ?_));
      rintro _ _ _ ⟨rfl, rfl, rfl⟩
      repeat (refine q4 tab rfl rfl ?_)
      refine TO.split (b := c.sound) rfl rfl (fun e3 => ?_) (fun e3 => ?_)
      · repeat (first|(refine q4 tab rfl rfl ?_)|(first|refine qs rfl (qz tab 0 rfl rfl rfl rfl rfl rfl ?_)|refine qs rfl (qz tab 1 rfl rfl rfl rfl rfl rfl ?_)))
        refine TO.step rfl (OT.call rfl rfl rfl rfl rfl rfl goes61 ((compares_ref a c e2 e3 m _ s l hs h g hr gr).x ?_));
        rintro _ _ _ ⟨rfl, rfl, rfl⟩
        repeat (first|refine q4 tab rfl rfl ?_|refine q5 ?_|refine q6 ?_|refine q15 ?_)
        refine retQ_ret rfl (by repeat (first|exact List.Sublist.refl _|refine List.Sublist.cons _ ?_)) ⟨rfl, rfl, ?_⟩
        rw [decide_eq_true e1, e2, e3]; rfl
      · repeat (first|refine q4 tab rfl rfl ?_|refine q5 ?_|refine q6 ?_|refine q15 ?_)
        refine retQ_ret rfl (by repeat (first|exact List.Sublist.refl _|refine List.Sublist.cons _ ?_)) ⟨rfl, rfl, ?_⟩
        rw [decide_eq_true e1, e2, e3]; rfl
    · repeat (first|refine q4 tab rfl rfl ?_|refine q5 ?_|refine q6 ?_|refine q15 ?_)
      refine retQ_ret rfl (by repeat (first|exact List.Sublist.refl _|refine List.Sublist.cons _ ?_)) ⟨rfl, rfl, ?_⟩
      rw [decide_eq_true e1, e2]; rfl
  · repeat (first|refine q4 tab rfl rfl ?_|refine q5 ?_|refine q6 ?_|refine q15 ?_)
    refine retQ_ret rfl (by repeat (first|exact List.Sublist.refl _|refine List.Sublist.cons _ ?_)) ⟨rfl, rfl, ?_⟩
    rw [decide_eq_false e1]; rfl

set_option maxHeartbeats 3200000 in
theorem typesFit_law (a c : Tree) (m : Mem) (L : List Item) (s : Sl) (l : List Decl) (hs : SlRep rDecl m s l) (hS : TblS l) (h g : HTree) (hr : TreeRep m h a) (gr : TreeRep m g c) (hB : a.bulk ≤ 1048576) (gB : c.bulk ≤ 1048576) : TCall Try.prog 6 ⟨[s.v, treeV h, treeV g]⟩ m L (Ret (.bool true) m L) := by
  unfold TCall
  refine TCallX.enter Try.func6 rfl 30 rfl ?_
  repeat (first|refine q1 ?_|refine q3 ?_)
  refine TO.step rfl (OT.box rfl rfl rfl rfl rfl (fun b => ?_))
  skip
  refine TO.step rfl (OT.box rfl rfl rfl rfl rfl (fun b2 => ?_))
  repeat (first|refine q1 ?_|refine q4 tab rfl rfl ?_|refine q5 ?_|refine q6 ?_)
  refine TC.draw0 [] mixed 24 rfl ?_
  refine DO.run 0 rfl rfl (by kernel_rfl) rfl (OT.call rfl rfl rfl rfl rfl rfl goes12 ((awake_law _ _).x ?_))
  rintro _ _ _ ⟨rfl, rfl, rfl⟩; refine ⟨Mem.le_refl _, _, List.Perm.refl _, ?_⟩
  refine DO.pure tab (by repeat (first|exact Calm.ret|refine Calm.then ?_)) (by kernel_rfl) [1, 2] (by kernel_rfl) rfl ?_
  (refine DO.loadL (k := 0) tab 3 1 (by repeat (first|exact Calm.ret|refine Calm.then ?_)) (by kernel_rfl) (by kernel_rfl) rfl rfl rfl rfl rfl rfl rfl rfl ?_)
  (refine DO.loadL (k := 0) tab 4 0 (by repeat (first|exact Calm.ret|refine Calm.then ?_)) (by kernel_rfl) (by kernel_rfl) rfl rfl rfl rfl rfl rfl rfl rfl ?_)
  refine DO.pure tab (by repeat (first|exact Calm.ret|refine Calm.then ?_)) (by kernel_rfl) [6] (by kernel_rfl) rfl ?_
  (refine DO.loadL (k := 0) tab 7 1 (by repeat (first|exact Calm.ret|refine Calm.then ?_)) (by kernel_rfl) (by kernel_rfl) rfl rfl rfl rfl rfl rfl rfl rfl ?_)
  (refine DO.loadL (k := 0) tab 8 0 (by repeat (first|exact Calm.ret|refine Calm.then ?_)) (by kernel_rfl) (by kernel_rfl) rfl rfl rfl rfl rfl rfl rfl rfl ?_)
  refine DO.run 5 rfl rfl (by kernel_rfl) rfl (OT.call rfl rfl rfl rfl rfl rfl goes22 ((assign_law a c _ _ s l hs hS h g hr gr hB gB).x ?_))
  rintro _ _ _ ⟨rfl, rfl, rfl⟩; refine ⟨Mem.le_refl _, _, List.Perm.refl _, ?_⟩
  refine DO.run 9 rfl rfl (by kernel_rfl) rfl (OT.call rfl rfl rfl rfl rfl rfl goes23 ((assign_def a c _ _ s l hs hS h g hr gr hB gB).x ?_))
  rintro _ _ _ ⟨rfl, rfl, rfl⟩; refine ⟨Mem.le_refl _, _, List.Perm.refl _, ?_⟩
  refine DO.run 10 rfl rfl (by kernel_rfl) rfl ?_; refine OT.eqBool tab rfl rfl rfl rfl rfl rfl ?_; rw [beq_self_eq_true]; refine ⟨Mem.le_refl _, _, List.Perm.refl _, ?_⟩
  refine DO.pure tab (by repeat (first|exact Calm.ret|refine Calm.then ?_)) (by kernel_rfl) [11, 12, 13] (by kernel_rfl) rfl ?_
  (refine DO.loadL (k := 0) tab 14 1 (by repeat (first|exact Calm.ret|refine Calm.then ?_)) (by kernel_rfl) (by kernel_rfl) rfl rfl rfl rfl rfl rfl rfl rfl ?_)
  (refine DO.loadL (k := 0) tab 15 0 (by repeat (first|exact Calm.ret|refine Calm.then ?_)) (by kernel_rfl) (by kernel_rfl) rfl rfl rfl rfl rfl rfl rfl rfl ?_)
  refine DO.pure tab (by repeat (first|exact Calm.ret|refine Calm.then ?_)) (by kernel_rfl) [17] (by kernel_rfl) rfl ?_
  (refine DO.loadL (k := 0) tab 18 1 (by repeat (first|exact Calm.ret|refine Calm.then ?_)) (by kernel_rfl) (by kernel_rfl) rfl rfl rfl rfl rfl rfl rfl rfl ?_)
  (refine DO.loadL (k := 0) tab 19 0 (by repeat (first|exact Calm.ret|refine Calm.then ?_)) (by kernel_rfl) (by kernel_rfl) rfl rfl rfl rfl rfl rfl rfl rfl ?_)
  refine DO.run 16 rfl rfl (by kernel_rfl) rfl (OT.call rfl rfl rfl rfl rfl rfl goes24 ((comp_law a c _ _ s l hs hS h g hr gr hB gB).x ?_))
  rintro _ _ _ ⟨rfl, rfl, rfl⟩; refine ⟨Mem.le_refl _, _, List.Perm.refl _, ?_⟩
  refine DO.run 20 rfl rfl (by kernel_rfl) rfl (OT.call rfl rfl rfl rfl rfl rfl goes25 ((comp_def a c _ _ s l hs hS h g hr gr hB gB).x ?_))
  rintro _ _ _ ⟨rfl, rfl, rfl⟩; refine ⟨Mem.le_refl _, _, List.Perm.refl _, ?_⟩
  refine DO.run 21 rfl rfl (by kernel_rfl) rfl ?_; refine OT.eqBool tab rfl rfl rfl rfl rfl rfl ?_; rw [beq_self_eq_true]; refine ⟨Mem.le_refl _, _, List.Perm.refl _, ?_⟩
  refine DO.pure tab (by repeat (first|exact Calm.ret|refine Calm.then ?_)) (by kernel_rfl) [22, 23] (by kernel_rfl) rfl ?_
  (refine DO.nil0 (by kernel_rfl) ?_)
  rotate_left 1
  refine thenQ_n ?_
  repeat (refine q15 ?_)
  refine retQ_ret rfl (by repeat (first|exact List.Sublist.refl _|refine List.Sublist.cons _ ?_)) ⟨rfl, rfl, ?_⟩
  rfl

theorem teq_true {a c : Tree} (h : teq a c = true) : a = c := (teq_iff a c).1 h
theorem okD_comm {l : List Decl} {a b : Tree} : okD l [a, b] = okD l [b, a] := by
  rw [okD_two, okD_two, Bool.and_comm a.sound]
theorem comp_comm {l : List Decl} {a b : Tree} : compB l a b = compB l b a := by
  rw [compB, compB, okD_comm]
  cases hok : okD l [b, a] with
  | false => rfl
  | true =>
    rw [Bool.true_and, Bool.true_and, tcompB, tcompB]
    by_cases e1 : a.kind = 8
    · rw [if_pos e1]
      by_cases e2 : b.kind = 8
      · rw [if_pos e2, decide_eq_true e1, decide_eq_true e2]; rfl
      · rw [if_neg e2, if_pos e1, decide_eq_false e2]; rfl
    · rw [if_neg e1]
      by_cases e2 : b.kind = 8
      · rw [if_pos e2, if_pos e2, decide_eq_false e1]; rfl
      · rw [if_neg e2, if_neg e2, if_neg e1, teq_comm b a]
        cases e3 : teq a b with
        | false => rfl
        | true => rw [teq_true e3]
/-- what is assignable both ways is the same -/
theorem assign_both {l : List Decl} {a b : Tree} (h1 : assignB l a b = true) (h2 : assignB l b a = true) : sameB a b = true := by
  have hk1 : a.sound = true ∧ b.sound = true := by
    rw [assignB_gives] at h1
    simp only [Bool.and_eq_true] at h1
    exact ⟨h1.2.1, h1.2.2.1⟩
  rw [assignB] at h1 h2
  simp only [Bool.and_eq_true, tassignB] at h1 h2
  obtain ⟨_, ⟨k1, t1⟩, _⟩ := h1
  obtain ⟨_, ⟨k2, t2⟩, _⟩ := h2
  have n1 : ¬ b.kind = 8 := fun e => by rw [tknown_eq, decide_eq_true e] at k1; simp at k1
  have n2 : ¬ a.kind = 8 := fun e => by rw [tknown_eq, decide_eq_true e] at k2; simp at k2
  rw [if_neg n2] at t1
  rw [if_neg n1] at t2
  cases e : teq a b with
  | true => rw [sameB, hk1.1, hk1.2, e]; rfl
  | false =>
    rw [e, Bool.false_or, Bool.and_eq_true, Bool.and_eq_true] at t1
    rw [teq_comm b a, e, Bool.false_or, Bool.and_eq_true, Bool.and_eq_true] at t2
    have g1 := t1.1
    have g2 := t2.2.1
    rw [isIfaceD, Bool.and_eq_true] at g1
    rw [toStructD, Bool.and_eq_true] at g2
    have := of_decide_eq_true g1.1
    have := of_decide_eq_true g2.1
    omega
theorem assign_self {l : List Decl} {a : Tree} (h1 : knownB l a = true) : assignB l a a = true := by
  rw [knownB, Bool.and_eq_true] at h1
  have hok : okD l [a, a] = true := by
    have := h1.1
    rw [okD, List.all_cons, List.all_nil, Bool.and_true, Bool.and_eq_true] at this
    rw [okD_two, this.1, this.2]; rfl
  have n1 : ¬ a.kind = 8 := fun e => by have := h1.2; rw [tknown_eq, decide_eq_true e] at this; simp at this
  rw [assignB, hok, tassignB, h1.2, if_neg n1, teq_refl]
  simp

set_option maxHeartbeats 3200000 in
theorem typesLaws_law (a c : Tree) (m : Mem) (L : List Item) (s : Sl) (l : List Decl) (hs : SlRep rDecl m s l) (hS : TblS l) (h g : HTree) (hr : TreeRep m h a) (gr : TreeRep m g c) (hB : a.bulk ≤ 1048576) (gB : c.bulk ≤ 1048576) : TCall Try.prog 7 ⟨[s.v, treeV h, treeV g]⟩ m L (Ret (.bool true) m L) := by
  unfold TCall
  refine TCallX.enter Try.func7 rfl 50 rfl ?_
  repeat (first|refine q1 ?_|refine q3 ?_)
  refine TO.step rfl (OT.box rfl rfl rfl rfl rfl (fun b => ?_))
  skip
  refine TO.step rfl (OT.box rfl rfl rfl rfl rfl (fun b2 => ?_))
  repeat (first|refine q1 ?_|refine q3 ?_|refine q4 tab rfl rfl ?_|refine q5 ?_|refine q6 ?_)
  refine TO.step rfl (OT.call rfl rfl rfl rfl rfl rfl goes12 ((awake_law _ _).x ?_));
  rintro _ _ _ ⟨rfl, rfl, rfl⟩
  repeat (first|(first|refine q1 ?_|refine q3 ?_|refine q4 tab rfl rfl ?_|refine q5 ?_|refine q6 ?_|refine q13 ?_|refine q17 rfl ?_)|(refine qs rfl (qz tab 1 rfl rfl rfl rfl rfl rfl ?_)))
  refine TO.step rfl (OT.call rfl rfl rfl rfl rfl rfl goes20 ((known_law a _ _ s l hs hS h hr hB).x ?_));
  rintro _ _ _ ⟨rfl, rfl, rfl⟩
  repeat (refine q4 tab rfl rfl ?_)
  refine TO.split (b := knownB l a) rfl rfl (fun e1 => ?_) (fun e1 => ?_)
  · repeat (refine q4 tab rfl rfl ?_)
    refine TO.step rfl (OT.call rfl rfl rfl rfl rfl rfl goes18 ((sound_tbl _ _ s l hs hS).x ?_));
    rintro _ _ _ ⟨rfl, rfl, rfl⟩
    repeat (refine q4 tab rfl rfl ?_)
    (refine TO.splitP rfl rfl (fun e2 => ?_) (fun e2 => ?_))
    · repeat (first|(refine q4 tab rfl rfl ?_)|(refine qs rfl (qz tab 1 rfl rfl rfl rfl rfl rfl ?_)))
      refine TO.step rfl (OT.call rfl rfl rfl rfl rfl rfl goes22 ((assign_law a a _ _ s l hs hS h h hr hr hB hB).x ?_));
      rintro _ _ _ ⟨rfl, rfl, rfl⟩
      rw [assign_self e1]
      repeat (first|refine q1 ?_|refine q4 tab rfl rfl ?_|refine q5 ?_|refine q6 ?_|refine q13 ?_|refine q17 rfl ?_)
      skip
      refine TC.draw0 [] mixed 9 rfl ?_
      refine DO.pure tab (by repeat (first|exact Calm.ret|refine Calm.then ?_)) (by kernel_rfl) [0] (by kernel_rfl) rfl ?_
      (refine DO.loadL (k := 0) tab 1 1 (by repeat (first|exact Calm.ret|refine Calm.then ?_)) (by kernel_rfl) (by kernel_rfl) rfl rfl rfl rfl rfl rfl rfl rfl ?_)
      (refine DO.loadL (k := 0) tab 2 0 (by repeat (first|exact Calm.ret|refine Calm.then ?_)) (by kernel_rfl) (by kernel_rfl) rfl rfl rfl rfl rfl rfl rfl rfl ?_)
      refine DO.pure tab (by repeat (first|exact Calm.ret|refine Calm.then ?_)) (by kernel_rfl) [4] (by kernel_rfl) rfl ?_
      (refine DO.loadL (k := 0) tab 5 0 (by repeat (first|exact Calm.ret|refine Calm.then ?_)) (by kernel_rfl) (by kernel_rfl) rfl rfl rfl rfl rfl rfl rfl rfl ?_)
      (refine DO.loadL (k := 0) tab 6 1 (by repeat (first|exact Calm.ret|refine Calm.then ?_)) (by kernel_rfl) (by kernel_rfl) rfl rfl rfl rfl rfl rfl rfl rfl ?_)
      refine DO.run 3 rfl rfl (by kernel_rfl) rfl (OT.call rfl rfl rfl rfl rfl rfl goes24 ((comp_law a c _ _ s l hs hS h g hr gr hB gB).x ?_))
      rintro _ _ _ ⟨rfl, rfl, rfl⟩; refine ⟨Mem.le_refl _, _, List.Perm.refl _, ?_⟩
      refine DO.run 7 rfl rfl (by kernel_rfl) rfl (OT.call rfl rfl rfl rfl rfl rfl goes24 ((comp_law c a _ _ s l hs hS g h gr hr gB hB).x ?_))
      rintro _ _ _ ⟨rfl, rfl, rfl⟩; refine ⟨Mem.le_refl _, _, List.Perm.refl _, ?_⟩
      refine DO.run 8 rfl rfl (by kernel_rfl) rfl ?_; rw [comp_comm (a := c) (b := a)]; refine OT.neqBool tab rfl rfl rfl rfl rfl rfl ?_; rw [beq_self_eq_true]; refine ⟨Mem.le_refl _, _, List.Perm.refl _, ?_⟩
      (refine DO.nil0 (by kernel_rfl) ?_)
      rotate_left 1
      refine thenQ_n ?_
      repeat (first|(first|refine q1 ?_|refine q3 ?_|refine q4 tab rfl rfl ?_|refine q6 ?_|refine q13 ?_|refine q17 rfl ?_)|(first|refine qs rfl (qz tab 0 rfl rfl rfl rfl rfl rfl ?_)|refine qs rfl (qz tab 1 rfl rfl rfl rfl rfl rfl ?_)))
      refine TO.step rfl (OT.call rfl rfl rfl rfl rfl rfl goes22 ((assign_law a c _ _ s l hs hS h g hr gr hB gB).x ?_));
      rintro _ _ _ ⟨rfl, rfl, rfl⟩
      repeat (refine q4 tab rfl rfl ?_)
      refine TO.split (b := !assignB l a c) rfl rfl (fun d1 => ?_) (fun d1 => ?_)
      · repeat (first|refine q4 tab rfl rfl ?_|refine q5 ?_|refine q6 ?_|refine q15 ?_)
        refine retQ_ret rfl (by repeat (first|exact List.Sublist.refl _|refine List.Sublist.cons _ ?_)) ⟨rfl, rfl, ?_⟩
        rfl
      · rw [Bool.not_eq_false'] at d1
        repeat (first|(refine q4 tab rfl rfl ?_)|(first|refine qs rfl (qz tab 0 rfl rfl rfl rfl rfl rfl ?_)|refine qs rfl (qz tab 1 rfl rfl rfl rfl rfl rfl ?_)))
        refine TO.step rfl (OT.call rfl rfl rfl rfl rfl rfl goes22 ((assign_law c a _ _ s l hs hS g h gr hr gB hB).x ?_));
        rintro _ _ _ ⟨rfl, rfl, rfl⟩
        repeat (refine q4 tab rfl rfl ?_)
        refine TO.split (b := !assignB l c a) rfl rfl (fun d2 => ?_) (fun d2 => ?_)
        · repeat (first|refine q4 tab rfl rfl ?_|refine q5 ?_|refine q6 ?_|refine q15 ?_)
          refine retQ_ret rfl (by repeat (first|exact List.Sublist.refl _|refine List.Sublist.cons _ ?_)) ⟨rfl, rfl, ?_⟩
          rfl
        · rw [Bool.not_eq_false'] at d2
          repeat ((first|refine qs rfl (qz tab 0 rfl rfl rfl rfl rfl rfl ?_)|refine qs rfl (qz tab 1 rfl rfl rfl rfl rfl rfl ?_)))
          refine TO.step rfl (OT.call rfl rfl rfl rfl rfl rfl goes14 ((same_law a c _ _ h g hr gr hB gB).x ?_));
          rintro _ _ _ ⟨rfl, rfl, rfl⟩
          repeat (first|refine q4 tab rfl rfl ?_|refine q5 ?_|refine q6 ?_|refine q15 ?_)
          refine retQ_ret rfl (by repeat (first|exact List.Sublist.refl _|refine List.Sublist.cons _ ?_)) ⟨rfl, rfl, ?_⟩
          rw [assign_both d1 d2]
    · skip
      repeat (first|refine q1 ?_|refine q4 tab rfl rfl ?_|refine q5 ?_|refine q6 ?_|refine q13 ?_|refine q17 rfl ?_)
      refine TC.draw0 [] mixed 9 rfl ?_
      refine DO.pure tab (by repeat (first|exact Calm.ret|refine Calm.then ?_)) (by kernel_rfl) [0] (by kernel_rfl) rfl ?_
      (refine DO.loadL (k := 0) tab 1 1 (by repeat (first|exact Calm.ret|refine Calm.then ?_)) (by kernel_rfl) (by kernel_rfl) rfl rfl rfl rfl rfl rfl rfl rfl ?_)
      (refine DO.loadL (k := 0) tab 2 0 (by repeat (first|exact Calm.ret|refine Calm.then ?_)) (by kernel_rfl) (by kernel_rfl) rfl rfl rfl rfl rfl rfl rfl rfl ?_)
      refine DO.pure tab (by repeat (first|exact Calm.ret|refine Calm.then ?_)) (by kernel_rfl) [4] (by kernel_rfl) rfl ?_
      (refine DO.loadL (k := 0) tab 5 0 (by repeat (first|exact Calm.ret|refine Calm.then ?_)) (by kernel_rfl) (by kernel_rfl) rfl rfl rfl rfl rfl rfl rfl rfl ?_)
      (refine DO.loadL (k := 0) tab 6 1 (by repeat (first|exact Calm.ret|refine Calm.then ?_)) (by kernel_rfl) (by kernel_rfl) rfl rfl rfl rfl rfl rfl rfl rfl ?_)
      refine DO.run 3 rfl rfl (by kernel_rfl) rfl (OT.call rfl rfl rfl rfl rfl rfl goes24 ((comp_law a c _ _ s l hs hS h g hr gr hB gB).x ?_))
      rintro _ _ _ ⟨rfl, rfl, rfl⟩; refine ⟨Mem.le_refl _, _, List.Perm.refl _, ?_⟩
      refine DO.run 7 rfl rfl (by kernel_rfl) rfl (OT.call rfl rfl rfl rfl rfl rfl goes24 ((comp_law c a _ _ s l hs hS g h gr hr gB hB).x ?_))
      rintro _ _ _ ⟨rfl, rfl, rfl⟩; refine ⟨Mem.le_refl _, _, List.Perm.refl _, ?_⟩
      refine DO.run 8 rfl rfl (by kernel_rfl) rfl ?_; rw [comp_comm (a := c) (b := a)]; refine OT.neqBool tab rfl rfl rfl rfl rfl rfl ?_; rw [beq_self_eq_true]; refine ⟨Mem.le_refl _, _, List.Perm.refl _, ?_⟩
      (refine DO.nil0 (by kernel_rfl) ?_)
      rotate_left 1
      refine thenQ_n ?_
      repeat (first|(first|refine q1 ?_|refine q3 ?_|refine q4 tab rfl rfl ?_|refine q6 ?_|refine q13 ?_|refine q17 rfl ?_)|(first|refine qs rfl (qz tab 0 rfl rfl rfl rfl rfl rfl ?_)|refine qs rfl (qz tab 1 rfl rfl rfl rfl rfl rfl ?_)))
      refine TO.step rfl (OT.call rfl rfl rfl rfl rfl rfl goes22 ((assign_law a c _ _ s l hs hS h g hr gr hB gB).x ?_));
      rintro _ _ _ ⟨rfl, rfl, rfl⟩
      repeat (refine q4 tab rfl rfl ?_)
      refine TO.split (b := !assignB l a c) rfl rfl (fun d1 => ?_) (fun d1 => ?_)
      · repeat (first|refine q4 tab rfl rfl ?_|refine q5 ?_|refine q6 ?_|refine q15 ?_)
        refine retQ_ret rfl (by repeat (first|exact List.Sublist.refl _|refine List.Sublist.cons _ ?_)) ⟨rfl, rfl, ?_⟩
        rfl
      · rw [Bool.not_eq_false'] at d1
        repeat (first|(refine q4 tab rfl rfl ?_)|(first|refine qs rfl (qz tab 0 rfl rfl rfl rfl rfl rfl ?_)|refine qs rfl (qz tab 1 rfl rfl rfl rfl rfl rfl ?_)))
        refine TO.step rfl (OT.call rfl rfl rfl rfl rfl rfl goes22 ((assign_law c a _ _ s l hs hS g h gr hr gB hB).x ?_));
        rintro _ _ _ ⟨rfl, rfl, rfl⟩
        repeat (refine q4 tab rfl rfl ?_)
        refine TO.split (b := !assignB l c a) rfl rfl (fun d2 => ?_) (fun d2 => ?_)
        · repeat (first|refine q4 tab rfl rfl ?_|refine q5 ?_|refine q6 ?_|refine q15 ?_)
          refine retQ_ret rfl (by repeat (first|exact List.Sublist.refl _|refine List.Sublist.cons _ ?_)) ⟨rfl, rfl, ?_⟩
          rfl
        · rw [Bool.not_eq_false'] at d2
          repeat ((first|refine qs rfl (qz tab 0 rfl rfl rfl rfl rfl rfl ?_)|refine qs rfl (qz tab 1 rfl rfl rfl rfl rfl rfl ?_)))
          refine TO.step rfl (OT.call rfl rfl rfl rfl rfl rfl goes14 ((same_law a c _ _ h g hr gr hB gB).x ?_));
          rintro _ _ _ ⟨rfl, rfl, rfl⟩
          repeat (first|refine q4 tab rfl rfl ?_|refine q5 ?_|refine q6 ?_|refine q15 ?_)
          refine retQ_ret rfl (by repeat (first|exact List.Sublist.refl _|refine List.Sublist.cons _ ?_)) ⟨rfl, rfl, ?_⟩
          rw [assign_both d1 d2]
  · skip
    repeat (first|refine q1 ?_|refine q4 tab rfl rfl ?_|refine q5 ?_|refine q6 ?_|refine q13 ?_|refine q17 rfl ?_)
    refine TC.draw0 [] mixed 9 rfl ?_
    refine DO.pure tab (by repeat (first|exact Calm.ret|refine Calm.then ?_)) (by kernel_rfl) [0] (by kernel_rfl) rfl ?_
    (refine DO.loadL (k := 0) tab 1 1 (by repeat (first|exact Calm.ret|refine Calm.then ?_)) (by kernel_rfl) (by kernel_rfl) rfl rfl rfl rfl rfl rfl rfl rfl ?_)
    (refine DO.loadL (k := 0) tab 2 0 (by repeat (first|exact Calm.ret|refine Calm.then ?_)) (by kernel_rfl) (by kernel_rfl) rfl rfl rfl rfl rfl rfl rfl rfl ?_)
    refine DO.pure tab (by repeat (first|exact Calm.ret|refine Calm.then ?_)) (by kernel_rfl) [4] (by kernel_rfl) rfl ?_
    (refine DO.loadL (k := 0) tab 5 0 (by repeat (first|exact Calm.ret|refine Calm.then ?_)) (by kernel_rfl) (by kernel_rfl) rfl rfl rfl rfl rfl rfl rfl rfl ?_)
    (refine DO.loadL (k := 0) tab 6 1 (by repeat (first|exact Calm.ret|refine Calm.then ?_)) (by kernel_rfl) (by kernel_rfl) rfl rfl rfl rfl rfl rfl rfl rfl ?_)
    refine DO.run 3 rfl rfl (by kernel_rfl) rfl (OT.call rfl rfl rfl rfl rfl rfl goes24 ((comp_law a c _ _ s l hs hS h g hr gr hB gB).x ?_))
    rintro _ _ _ ⟨rfl, rfl, rfl⟩; refine ⟨Mem.le_refl _, _, List.Perm.refl _, ?_⟩
    refine DO.run 7 rfl rfl (by kernel_rfl) rfl (OT.call rfl rfl rfl rfl rfl rfl goes24 ((comp_law c a _ _ s l hs hS g h gr hr gB hB).x ?_))
    rintro _ _ _ ⟨rfl, rfl, rfl⟩; refine ⟨Mem.le_refl _, _, List.Perm.refl _, ?_⟩
    refine DO.run 8 rfl rfl (by kernel_rfl) rfl ?_; rw [comp_comm (a := c) (b := a)]; refine OT.neqBool tab rfl rfl rfl rfl rfl rfl ?_; rw [beq_self_eq_true]; refine ⟨Mem.le_refl _, _, List.Perm.refl _, ?_⟩
    (refine DO.nil0 (by kernel_rfl) ?_)
    rotate_left 1
    refine thenQ_n ?_
    repeat (first|(first|refine q1 ?_|refine q3 ?_|refine q4 tab rfl rfl ?_|refine q6 ?_|refine q13 ?_|refine q17 rfl ?_)|(first|refine qs rfl (qz tab 0 rfl rfl rfl rfl rfl rfl ?_)|refine qs rfl (qz tab 1 rfl rfl rfl rfl rfl rfl ?_)))
    refine TO.step rfl (OT.call rfl rfl rfl rfl rfl rfl goes22 ((assign_law a c _ _ s l hs hS h g hr gr hB gB).x ?_));
    rintro _ _ _ ⟨rfl, rfl, rfl⟩
    repeat (refine q4 tab rfl rfl ?_)
    refine TO.split (b := !assignB l a c) rfl rfl (fun d1 => ?_) (fun d1 => ?_)
    · repeat (first|refine q4 tab rfl rfl ?_|refine q5 ?_|refine q6 ?_|refine q15 ?_)
      refine retQ_ret rfl (by repeat (first|exact List.Sublist.refl _|refine List.Sublist.cons _ ?_)) ⟨rfl, rfl, ?_⟩
      rfl
    · rw [Bool.not_eq_false'] at d1
      repeat (first|(refine q4 tab rfl rfl ?_)|(first|refine qs rfl (qz tab 0 rfl rfl rfl rfl rfl rfl ?_)|refine qs rfl (qz tab 1 rfl rfl rfl rfl rfl rfl ?_)))
      refine TO.step rfl (OT.call rfl rfl rfl rfl rfl rfl goes22 ((assign_law c a _ _ s l hs hS g h gr hr gB hB).x ?_));
      rintro _ _ _ ⟨rfl, rfl, rfl⟩
      repeat (refine q4 tab rfl rfl ?_)
      refine TO.split (b := !assignB l c a) rfl rfl (fun d2 => ?_) (fun d2 => ?_)
      · repeat (first|refine q4 tab rfl rfl ?_|refine q5 ?_|refine q6 ?_|refine q15 ?_)
        refine retQ_ret rfl (by repeat (first|exact List.Sublist.refl _|refine List.Sublist.cons _ ?_)) ⟨rfl, rfl, ?_⟩
        rfl
      · rw [Bool.not_eq_false'] at d2
        repeat ((first|refine qs rfl (qz tab 0 rfl rfl rfl rfl rfl rfl ?_)|refine qs rfl (qz tab 1 rfl rfl rfl rfl rfl rfl ?_)))
        refine TO.step rfl (OT.call rfl rfl rfl rfl rfl rfl goes14 ((same_law a c _ _ h g hr gr hB gB).x ?_));
        rintro _ _ _ ⟨rfl, rfl, rfl⟩
        repeat (first|refine q4 tab rfl rfl ?_|refine q5 ?_|refine q6 ?_|refine q15 ?_)
        refine retQ_ret rfl (by repeat (first|exact List.Sublist.refl _|refine List.Sublist.cons _ ?_)) ⟨rfl, rfl, ?_⟩
        rw [assign_both d1 d2]
end Go.Sep

/-
  The law TypesAdds: a further declaration.
-/
set_option linter.unusedVariables false
set_option linter.unusedSimpArgs false
namespace Go.Sep
open Go.Proofs
attribute [local irreducible] TC TO OT TCallX TCall DO DOt thenQ blockQ retQ At

mutual
def namedB (n : Str) : Tree → Bool
  | .mk _ x _ ks => decide (x = n) || namedBL n ks
def namedBL (n : Str) : List Tree → Bool
  | [] => false
  | t :: ts => namedB n t || namedBL n ts
end
theorem namedB_eq (n : Str) (a : Tree) : namedB n a = (decide (a.name = n) || namedBL n a.kids) := by
  obtain ⟨_, _, _, _⟩ := a
  rfl
theorem namedBL_eq (n : Str) : ∀ l : List Tree, namedBL n l = l.any (namedB n)
  | [] => rfl
  | t :: ts => by rw [namedBL, namedBL_eq n ts, List.any_cons]
theorem namedB_no {n : Str} {a : Tree} (h : namedB n a = false) : ¬ a.name = n ∧ ∀ k ∈ a.kids, namedB n k = false := by
  rw [namedB_eq, Bool.or_eq_false_iff, namedBL_eq] at h
  exact ⟨of_decide_eq_false h.1, fun k hk => by simpa using List.any_eq_false.1 h.2 k hk⟩

set_option maxHeartbeats 800000 in
theorem namedIn_law (n : Str) (a : Tree) : ∀ (m : Mem) (L : List Item) (h : HTree) (hr : TreeRep m h a), TCall Try.prog 27 ⟨[treeV h, strV n]⟩ m L (Ret (.bool (namedB n a)) m L) := by
  induction a using Tree.ind with
  | h a ih =>
  intro m L h hr
  obtain ⟨h1, h2, h3, h4⟩ := hr
  have hl := h4.len
  have hsm := h4.small rfl
  rw [namedB_eq, namedBL_eq, ← h2]
  unfold TCall
  refine TCallX.enter Try.func27 rfl 24 rfl ?_
  repeat (first|refine q1 ?_|refine q3 ?_)
  refine TO.step rfl (OT.box rfl rfl rfl rfl rfl (fun b => ?_))
  repeat (first|(first|refine q1 ?_|refine q3 ?_|refine q4 tab rfl rfl ?_|refine q5 ?_|refine q6 ?_)|(refine qs rfl (ql tab 0 rfl rfl rfl rfl rfl rfl ?_)))
  refine TC.condP rfl (fun e1 => ?_) (fun e1 => ?_)
  · repeat (first|refine q1 ?_|refine q3 ?_|refine q4 tab rfl rfl ?_|refine q5 ?_|refine q6 ?_|refine q8 ?_|refine q15 ?_)
    refine retQ_ret rfl (by repeat (first|exact List.Sublist.refl _|refine List.Sublist.cons _ ?_)) ⟨rfl, rfl, ?_⟩
    rw [decide_eq_true e1]; rfl
  · repeat (first|refine q1 ?_|refine q2 ?_|refine q3 ?_|refine q4 tab rfl rfl ?_|refine q5 ?_|refine q6 ?_|refine q13 ?_)
    refine TC.loopK (ι := Nat) [1, 2] rfl (fun k => [(5, .int .i64 (k : Int))]) (fun _ => m) (fun _ => .cells b 0 (treeC h) :: L) (fun k => k ≤ a.kids.length ∧ (a.kids.take k).any (namedB n) = false) (fun k => a.kids.length - k) 0 (by repeat (first|exact trivial|refine And.intro rfl ?_)) rfl (by repeat (exact List.Sublist.refl _)) ⟨Nat.zero_le _, rfl⟩ ?_
    rintro k ⟨hk, hI⟩
    repeat (first|(first|refine q1 ?_|refine q3 ?_|refine q4 tab rfl rfl ?_|refine q5 ?_|refine q6 ?_)|(refine qs rfl (ql tab 0 rfl rfl rfl rfl rfl rfl ?_)))
    refine TC.condP rfl (fun hlt' => ?_) (fun hlt' => ?_)
    · have hlt : k < a.kids.length := by omega
      have hx : a.kids[k]? = some a.kids[k] := by simp [hlt]
      have hmem := List.getElem_mem hlt
      repeat (first|(first|refine q1 ?_|refine q2 ?_|refine q3 ?_|refine q4 tab rfl rfl ?_|refine q6 ?_|refine q13 ?_)|(refine qs rfl (ql tab 0 rfl rfl rfl rfl rfl rfl ?_)))
      refine TO.step rfl (OT.index tab rTree k h4 rfl rfl rfl rfl rfl (by first | rfl | omega) rfl hx ?_)
      rintro b' i' h' hrd hA
      (refine TO.step rfl (OT.loadA0 tab hA rfl rfl rfl rfl rfl ?_))
      repeat (refine q4 tab rfl rfl ?_)
      refine TO.step rfl (OT.call rfl rfl rfl rfl rfl rfl goes27 ((ih _ hmem _ _ h' (rTree_iff.1 hrd)).x ?_));
      rintro _ _ _ ⟨rfl, rfl, rfl⟩
      repeat (first|refine q5 ?_|refine q6 ?_)
      refine TC.cond (t := namedB n a.kids[k]) rfl (fun e9 => ?_) (fun e9 => ?_)
      · repeat (first|refine q1 ?_|refine q3 ?_|refine q4 tab rfl rfl ?_|refine q5 ?_|refine q6 ?_|refine q8 ?_|refine q9 ?_|refine q15 ?_)
        refine retQ_ret rfl (by repeat (first|exact List.Sublist.refl _|refine List.Sublist.cons _ ?_)) ⟨rfl, rfl, ?_⟩
        rw [any_hit hlt e9, Bool.or_true]
      · repeat (first|refine q3 ?_|refine q4 tab rfl rfl ?_|refine q6 ?_|refine q7 ?_|refine q13 ?_)
        refine TO.step rfl (OT.arith (r' := ((k + 1 : Nat) : Int)) rfl rfl rfl rfl rfl rfl rfl (by omega) ?_)
        repeat (first|refine q4 tab rfl rfl ?_|refine q5 ?_|refine q6 ?_)
        exact ⟨k + 1, (by repeat (first|exact trivial|refine And.intro rfl ?_)), (by repeat (first|exact trivial|refine And.intro rfl ?_)), rfl, rfl, (by repeat (exact List.Sublist.refl _)), ⟨by omega, any_take hlt hI e9⟩, by omega⟩
    · rw [List.take_of_length_le (by omega)] at hI
      repeat (first|refine q1 ?_|refine q3 ?_|refine q4 tab rfl rfl ?_|refine q5 ?_|refine q6 ?_|refine q10 ?_|refine q11 ?_|refine q14 ?_|refine q15 ?_)
      refine retQ_ret rfl (by repeat (first|exact List.Sublist.refl _|refine List.Sublist.cons _ ?_)) ⟨rfl, rfl, ?_⟩
      rw [decide_eq_false e1, hI]; rfl

/-! the plain law -/
def furS : Str := [70, 117, 114, 116, 104, 101, 114, 84, 121, 112, 101]
def furD : Decl := ⟨furS, false, [⟨[102], .mk 1 [] 0 []⟩], []⟩
section
variable {l : List Decl} (hno : hasD l furS = false)
theorem more_has {n : Str} (h : ¬ n = furS) : hasD (l ++ [furD]) n = hasD l n := by
  rw [has_snoc, decide_eq_false (show ¬ furD.name = n from fun e => h e.symm), Bool.or_false]
theorem more_the {n : Str} (h : ¬ n = furS) : theD (l ++ [furD]) n = theD l n := by
  rw [theD, find_snoc, if_neg (show ¬ furD.name = n from fun e => h e.symm), Option.or_none]; rfl
mutual
theorem more_known (l : List Decl) : ∀ a : Tree, namedB furS a = false → tknown (hasD (l ++ [furD])) a = tknown (hasD l) a
  | .mk k n u ks, h => by
    rw [namedB, Bool.or_eq_false_iff] at h
    rw [tknown, tknown, more_knownL l ks h.2, more_has (of_decide_eq_false h.1)]
theorem more_knownL (l : List Decl) : ∀ ks : List Tree, namedBL furS ks = false → tknownL (hasD (l ++ [furD])) ks = tknownL (hasD l) ks
  | [], _ => rfl
  | t :: ts, h => by
    rw [namedBL, Bool.or_eq_false_iff] at h
    rw [tknownL, tknownL, more_known l t h.1, more_knownL l ts h.2]
end
mutual
theorem more_up (l : List Decl) : ∀ a : Tree, tknown (hasD l) a = true → tknown (hasD (l ++ [furD])) a = true
  | .mk k n u ks, h => by
    rw [tknown] at h ⊢
    simp only [Bool.and_eq_true, Bool.or_eq_true] at h ⊢
    refine ⟨?_, h.2.1, more_upL l ks h.2.2⟩
    rcases h.1 with h | h
    · exact .inl h
    · right; rw [has_snoc, h]; rfl
theorem more_upL (l : List Decl) : ∀ ks : List Tree, tknownL (hasD l) ks = true → tknownL (hasD (l ++ [furD])) ks = true
  | [], _ => rfl
  | t :: ts, h => by
    rw [tknownL, Bool.and_eq_true] at h
    rw [tknownL, more_up l t h.1, more_upL l ts h.2]; rfl
end
theorem more_struct {a : Tree} (h : ¬ a.name = furS) : isStructD (l ++ [furD]) a = isStructD l a := by rw [isStructD, isStructD, more_has h, more_the h]
theorem more_iface {a : Tree} (h : ¬ a.name = furS) : isIfaceD (l ++ [furD]) a = isIfaceD l a := by rw [isIfaceD, isIfaceD, more_has h, more_the h]
theorem more_nilable {a : Tree} (h : ¬ a.name = furS) : nilableD (l ++ [furD]) a = nilableD l a := by rw [nilableD, nilableD, more_iface h]
theorem furD_form : formD furD = false := by decide +kernel
theorem furD_type (l : List Decl) : typeD l furD = false := by
  rw [typeD]
  have h1 : (furD.all.map Fld.name).Nodup := by decide
  rw [decide_eq_true h1]
  rfl
include hno in
theorem more_sound (hz : soundE l = 0) (hl : ¬ 1024 ≤ l.length) : soundE (l ++ [furD]) = 0 := by
  obtain ⟨h1, h2, h3⟩ := soundE_zero hz
  refine soundE_ok ?_ ?_ ?_
  · rw [largeB, Bool.or_eq_false_iff] at h1 ⊢
    refine ⟨decide_eq_false (by rw [List.length_append]; simp only [List.length_cons, List.length_nil]; omega), ?_⟩
    rw [List.any_append, h1.2]; rfl
  · rw [List.any_append, h2, List.any_cons, furD_form]; rfl
  · rw [typeB, Bool.or_eq_false_iff] at h3 ⊢
    have hnd : (l.map Decl.name).Nodup := by simpa using h3.1
    refine ⟨?_, ?_⟩
    · have : ((l ++ [furD]).map Decl.name).Nodup := by
        have := (names_snoc (l ++ [furD]) l.length (by simp)).2 ⟨by simpa using hnd, by
          have e : (l ++ [furD])[l.length]'(by simp) = furD := by simp
          rw [e, List.take_left]
          exact hno⟩
        rwa [List.take_of_length_le (by simp)] at this
      rw [decide_eq_true this]; rfl
    · rw [List.any_append, List.any_cons, furD_type, List.any_nil, Bool.or_false, Bool.or_false]
      refine List.any_eq_false.2 fun d hd => ?_
      have h4 := List.any_eq_false.1 h3.2 d hd
      simp only [typeD, Bool.or_eq_true, not_or, Bool.not_eq_true] at h4 ⊢
      refine ⟨h4.1, anyI_no fun j f hf => ?_⟩
      have h5 : badK l d.fields.length j f = false := by
        cases hc : badK l d.fields.length j f with
        | false => rfl
        | true => have := anyI_yes hf hc; rw [h4.2] at this; cases this
      rw [badK, Bool.or_eq_false_iff] at h5 ⊢
      have hk : tknown (hasD l) f.type = true := by simpa using h5.1
      refine ⟨by rw [more_up l _ hk]; rfl, ?_⟩
      by_cases e : f.type.name = furS
      · have hs0 : isStructD (l ++ [furD]) f.type = false := by
          rw [isStructD]
          by_cases e4 : f.type.kind = 4
          · rw [tknown_eq, decide_eq_true e4, e, hno] at hk
            cases hk
          · rw [decide_eq_false e4]; rfl
        rw [hs0, Bool.and_false]
      · rw [more_struct e]; exact h5.2
include hno in
theorem more_ok (hz : soundE l = 0) (hl : ¬ 1024 ≤ l.length) (ts : List Tree) : okD (l ++ [furD]) ts = okD l ts := by
  rw [okD, okD, hz, more_sound hno hz hl]
theorem kid0_named {a : Tree} (h : namedB furS a = false) : ¬ (kid0 a).name = furS := by
  have := (namedB_no h).2
  unfold kid0
  match hk : a.kids with
  | [] => intro e; cases e
  | k :: ks =>
    rw [hk] at this
    exact (namedB_no (this k (List.mem_cons_self ..))).1
theorem more_toStruct {a : Tree} (h : namedB furS a = false) : toStructD (l ++ [furD]) a = toStructD l a := by
  rw [toStructD, toStructD]
  have := kid0_named h
  unfold kid0 at this
  match hk : a.kids with
  | [] => rfl
  | k :: ks =>
    rw [hk] at this
    have this : ¬ k.name = furS := this
    simp only
    rw [more_struct this]
include hno in
theorem more_assign (hz : soundE l = 0) (hl : ¬ 1024 ≤ l.length) {a b : Tree} (ha : namedB furS a = false) (hb : namedB furS b = false) : assignB (l ++ [furD]) a b = assignB l a b := by
  have nb := (namedB_no hb).1
  rw [assignB, assignB, more_ok hno hz hl, tassignB, tassignB, more_known l a ha, more_known l b hb, more_nilable nb, more_iface nb, more_toStruct ha, hasMD, hasMD, more_the nb, more_the (kid0_named ha)]
include hno in
theorem more_comp (hz : soundE l = 0) (hl : ¬ 1024 ≤ l.length) {a b : Tree} (ha : namedB furS a = false) (hb : namedB furS b = false) : compB (l ++ [furD]) a b = compB l a b := by
  have na := (namedB_no ha).1
  have nb := (namedB_no hb).1
  rw [compB, compB, more_ok hno hz hl, tcompB, tcompB, more_known l a ha, more_known l b hb, more_nilable nb, more_nilable na, simpleD, simpleD, more_iface na]
include hno in
theorem more_knownB (hz : soundE l = 0) (hl : ¬ 1024 ≤ l.length) {a : Tree} (ha : namedB furS a = false) : knownB (l ++ [furD]) a = knownB l a := by
  rw [knownB, knownB, more_ok hno hz hl, more_known l a ha]
end
theorem furD_small : furD.small := ⟨by decide, by decide, by decide, fun f hf => by
  obtain rfl : f = ⟨[102], .mk 1 [] 0 []⟩ := by simpa [furD, Decl.all] using hf
  exact ⟨by decide, by decide⟩⟩
theorem TblS.snoc {l : List Decl} (h : TblS l) : TblS (l ++ [furD]) := fun d hd => by
  rcases List.mem_append.1 hd with hd | hd
  · exact h d hd
  · rw [List.mem_singleton.1 hd]; exact furD_small

set_option maxHeartbeats 3200000 in
theorem typesAdds_law (a c : Tree) (m : Mem) (L : List Item) (s : Sl) (l : List Decl) (hs : SlRep rDecl m s l) (hlen : l.length ≤ 1048576) (hS : TblS l) (h g : HTree) (hr : TreeRep m h a) (gr : TreeRep m g c) (hB : a.bulk ≤ 1048576) (gB : c.bulk ≤ 1048576) : TCall Try.prog 8 ⟨[s.v, treeV h, treeV g]⟩ m L (Ret (.bool true) m L) := by
  refine TCall.forget ?_
  have hl := hs.len
  have hge := idxD_ge l furS
  unfold TCall
  refine TCallX.enter Try.func8 rfl 79 rfl ?_
  repeat (first|refine q1 ?_|refine q3 ?_)
  refine TO.step rfl (OT.box rfl rfl rfl rfl rfl (fun b => ?_))
  skip
  refine TO.step rfl (OT.box rfl rfl rfl rfl rfl (fun b2 => ?_))
  refine TO.pureP tab rfl rfl ?_
  refine TO.nil ?_
  refine thenQ_n ?_
  refine TC.seq ?_
  refine TC.seq ?_
  refine TC.cutT (ι := Bool) [0, 4, 5] rfl (fun v => [(33, .bool v)]) (fun _ => m) (fun _ => .cells b2 0 (treeC g) :: .cells b 0 (treeC h) :: L) (fun v => v = false → (soundE l = 0 ∧ ¬ 1024 ≤ l.length ∧ hasD l furS = false ∧ namedB furS a = false ∧ namedB furS c = false)) ?_ (fun v hv => ?_)
  · repeat (refine q3 ?_)
    refine TO.step rfl (OT.call rfl rfl rfl rfl rfl rfl goes12 ((awake_law _ _).x ?_));
    rintro _ _ _ ⟨rfl, rfl, rfl⟩
    repeat (refine q4 tab rfl rfl ?_)
    refine TO.step rfl (OT.call rfl rfl rfl rfl rfl rfl goes18 ((sound_tbl _ _ s l hs hS).x ?_));
    rintro _ _ _ ⟨rfl, rfl, rfl⟩
    repeat (refine q4 tab rfl rfl ?_)
    (refine TO.splitN rfl rfl (fun e1 => ?_) (fun e1 => ?_))
    · repeat (first|refine q4 tab rfl rfl ?_|refine q5 ?_|refine q6 ?_)
      exact ⟨true, (by repeat (first|exact trivial|refine And.intro rfl ?_)), (by repeat (first|exact trivial|refine And.intro rfl ?_)), rfl, rfl, (by repeat (exact List.Sublist.refl _)), fun e => by cases e⟩
    · repeat (refine q4 tab rfl rfl ?_)
      (refine TO.splitP rfl rfl (fun e2 => ?_) (fun e2 => ?_))
      · repeat (first|refine q4 tab rfl rfl ?_|refine q5 ?_|refine q6 ?_)
        exact ⟨true, (by repeat (first|exact trivial|refine And.intro rfl ?_)), (by repeat (first|exact trivial|refine And.intro rfl ?_)), rfl, rfl, (by repeat (exact List.Sublist.refl _)), fun e => by cases e⟩
      · repeat (refine q4 tab rfl rfl ?_)
        refine TO.step rfl (OT.call rfl rfl rfl rfl rfl rfl goes26 ((find_ref _ _ s l furS hs).x ?_));
        rintro _ _ _ ⟨rfl, rfl, rfl⟩
        repeat (refine q4 tab rfl rfl ?_)
        (refine TO.splitP rfl rfl (fun e3 => ?_) (fun e3 => ?_))
        · repeat (first|refine q4 tab rfl rfl ?_|refine q5 ?_|refine q6 ?_)
          exact ⟨true, (by repeat (first|exact trivial|refine And.intro rfl ?_)), (by repeat (first|exact trivial|refine And.intro rfl ?_)), rfl, rfl, (by repeat (exact List.Sublist.refl _)), fun e => by cases e⟩
        · repeat ((refine qs rfl (qz tab 1 rfl rfl rfl rfl rfl rfl ?_)))
          refine TO.step rfl (OT.call rfl rfl rfl rfl rfl rfl goes27 ((namedIn_law furS a _ _ h hr).x ?_));
          rintro _ _ _ ⟨rfl, rfl, rfl⟩
          repeat (refine q4 tab rfl rfl ?_)
          refine TO.split (b := namedB furS a) rfl rfl (fun e4 => ?_) (fun e4 => ?_)
          · repeat (first|refine q4 tab rfl rfl ?_|refine q5 ?_|refine q6 ?_)
            exact ⟨true, (by repeat (first|exact trivial|refine And.intro rfl ?_)), (by repeat (first|exact trivial|refine And.intro rfl ?_)), rfl, rfl, (by repeat (exact List.Sublist.refl _)), fun e => by cases e⟩
          · repeat ((refine qs rfl (qz tab 0 rfl rfl rfl rfl rfl rfl ?_)))
            refine TO.step rfl (OT.call rfl rfl rfl rfl rfl rfl goes27 ((namedIn_law furS c _ _ g gr).x ?_));
            rintro _ _ _ ⟨rfl, rfl, rfl⟩
            repeat (first|refine q4 tab rfl rfl ?_|refine q5 ?_|refine q6 ?_)
            rw [decide_eq_false e3] at hge
            exact ⟨namedB furS c, (by repeat (first|exact trivial|refine And.intro rfl ?_)), (by repeat (first|exact trivial|refine And.intro rfl ?_)), rfl, rfl, (by repeat (exact List.Sublist.refl _)), fun e => ⟨by omega, by omega, hge.symm, e4, e⟩⟩
  · refine TC.cond (t := v) rfl (fun e => ?_) (fun e => ?_)
    · subst e
      repeat (first|refine q1 ?_|refine q3 ?_)
      refine TO.step rfl (OT.call rfl rfl rfl rfl rfl rfl goes12 ((awake_law _ _).x ?_));
      rintro _ _ _ ⟨rfl, rfl, rfl⟩
      repeat (first|refine q4 tab rfl rfl ?_|refine q5 ?_|refine q6 ?_|refine q8 ?_|refine q15 ?_)
      refine retQ_ret rfl (by repeat (first|exact List.Sublist.refl _|refine List.Sublist.cons _ ?_)) ⟨Mem.le_refl _, rfl, rfl⟩
    · obtain ⟨hz, hlt, hno, na, nc⟩ := hv e
      subst e
      clear hv hge
      repeat (first|refine q1 ?_|refine q3 ?_|refine q6 ?_|refine q13 ?_)
      refine TO.step rfl (OT.lit tab rfl rfl rfl rfl (fun bl => ?_))
      repeat (refine q4 tab rfl rfl ?_)
      refine TO.drop (L' := .cells b2 0 (treeC g) :: .cells b 0 (treeC h) :: L) (List.sublist_cons_self _ _) ?_
      refine TO.growL (size := rDecl.size) bl ?_
      refine TO.step rfl (OT.append tab rDecl 0 (SlRep.lit0 rDecl _ bl) (Own.lit bl 0 0) hs rfl rfl rfl rfl rfl rfl rfl (by simp only [List.length_nil, rDecl]; omega) (fun s1 m1 hm1 hs1 ho1 => ?_))
      rw [List.nil_append] at hs1
      repeat (refine q4 tab rfl rfl ?_)
      refine TO.step rfl (OT.lit tab rfl rfl rfl rfl (fun bf => ?_))
      refine TO.freeze fun m2 hm2 hbf => ?_
      repeat (refine q4 tab rfl rfl ?_)
      refine TO.step rfl (OT.lit tab rfl rfl rfl rfl (fun bd => ?_))
      refine TO.freeze fun m3 hm3 hbd => ?_
      have hm03 := Mem.le_trans hm1 (Mem.le_trans hm2 hm3)
      have hf : SlRep rField m3 ⟨some ⟨bf, 0, none⟩, 1, 1⟩ furD.fields := SlRep.one (r := rField) (h := ⟨[102], ⟨1, [], 0, ⟨none, 0, 0⟩⟩⟩) (hbf.mono hm3) ⟨rfl, TreeRep.leaf _ _ _ _⟩ (by decide)
      have hd : SlRep rDecl m3 ⟨some ⟨bd, 0, none⟩, 1, 1⟩ [furD] := SlRep.one (r := rDecl) (h := ⟨furS, false, ⟨some ⟨bf, 0, none⟩, 1, 1⟩, ⟨none, 0, 0⟩⟩) hbd ⟨rfl, rfl, hf, SlRep.nil _ _⟩ (by decide)
      skip
      refine TO.step rfl (OT.append tab rDecl 0 (hs1.mono (Mem.le_trans hm2 hm3)) ho1 hd rfl rfl rfl rfl rfl rfl rfl (by simp only [List.length_cons, List.length_nil, rDecl]; omega) (fun s4 m4 hm4 hs4 ho4 => ?_))
      have hm04 := Mem.le_trans hm03 hm4
      have hS4 := hS.snoc
      have hs0 := hs.mono hm04
      have hr4 := hr.mono hm04
      have gr4 := gr.mono hm04
      have qa := more_assign hno hz hlt na nc
      have qc := more_comp hno hz hlt na nc
      have qk := more_knownB hno hz hlt na
      have qz' := more_sound hno hz hlt
      refine TO.drop (L' := .cells b2 0 (treeC g) :: .cells b 0 (treeC h) :: L) (List.sublist_cons_self _ _) ?_
      repeat (first|refine q1 ?_|refine q4 tab rfl rfl ?_|refine q5 ?_|refine q6 ?_)
      refine TC.draw0 [] mixed 21 rfl ?_
      refine DO.pure tab (by repeat (first|exact Calm.ret|refine Calm.then ?_)) (by kernel_rfl) [0] (by kernel_rfl) rfl ?_
      (refine DO.loadL (k := 0) tab 1 1 (by repeat (first|exact Calm.ret|refine Calm.then ?_)) (by kernel_rfl) (by kernel_rfl) rfl rfl rfl rfl rfl rfl rfl rfl ?_)
      (refine DO.loadL (k := 0) tab 2 0 (by repeat (first|exact Calm.ret|refine Calm.then ?_)) (by kernel_rfl) (by kernel_rfl) rfl rfl rfl rfl rfl rfl rfl rfl ?_)
      refine DO.pure tab (by repeat (first|exact Calm.ret|refine Calm.then ?_)) (by kernel_rfl) [4] (by kernel_rfl) rfl ?_
      (refine DO.loadL (k := 0) tab 5 1 (by repeat (first|exact Calm.ret|refine Calm.then ?_)) (by kernel_rfl) (by kernel_rfl) rfl rfl rfl rfl rfl rfl rfl rfl ?_)
      (refine DO.loadL (k := 0) tab 6 0 (by repeat (first|exact Calm.ret|refine Calm.then ?_)) (by kernel_rfl) (by kernel_rfl) rfl rfl rfl rfl rfl rfl rfl rfl ?_)
      refine DO.run 3 rfl rfl (by kernel_rfl) rfl (OT.call rfl rfl rfl rfl rfl rfl goes22 ((assign_law a c _ _ s l hs0 hS h g hr4 gr4 hB gB).x ?_))
      rintro _ _ _ ⟨rfl, rfl, rfl⟩; refine ⟨Mem.le_refl _, _, List.Perm.refl _, ?_⟩
      refine DO.run 7 rfl rfl (by kernel_rfl) rfl (OT.call rfl rfl rfl rfl rfl rfl goes22 ((assign_law a c _ _ s4 (l ++ [furD]) hs4 hS4 h g hr4 gr4 hB gB).x ?_))
      rintro _ _ _ ⟨rfl, rfl, rfl⟩; refine ⟨Mem.le_refl _, _, List.Perm.refl _, ?_⟩
      refine DO.run 8 rfl rfl (by kernel_rfl) rfl ?_; rw [qa]; refine OT.eqBool tab rfl rfl rfl rfl rfl rfl ?_; rw [beq_self_eq_true]; refine ⟨Mem.le_refl _, _, List.Perm.refl _, ?_⟩
      refine DO.pure tab (by repeat (first|exact Calm.ret|refine Calm.then ?_)) (by kernel_rfl) [9, 10] (by kernel_rfl) rfl ?_
      (refine DO.loadL (k := 0) tab 11 1 (by repeat (first|exact Calm.ret|refine Calm.then ?_)) (by kernel_rfl) (by kernel_rfl) rfl rfl rfl rfl rfl rfl rfl rfl ?_)
      (refine DO.loadL (k := 0) tab 12 0 (by repeat (first|exact Calm.ret|refine Calm.then ?_)) (by kernel_rfl) (by kernel_rfl) rfl rfl rfl rfl rfl rfl rfl rfl ?_)
      refine DO.pure tab (by repeat (first|exact Calm.ret|refine Calm.then ?_)) (by kernel_rfl) [14] (by kernel_rfl) rfl ?_
      (refine DO.loadL (k := 0) tab 15 1 (by repeat (first|exact Calm.ret|refine Calm.then ?_)) (by kernel_rfl) (by kernel_rfl) rfl rfl rfl rfl rfl rfl rfl rfl ?_)
      (refine DO.loadL (k := 0) tab 16 0 (by repeat (first|exact Calm.ret|refine Calm.then ?_)) (by kernel_rfl) (by kernel_rfl) rfl rfl rfl rfl rfl rfl rfl rfl ?_)
      refine DO.run 13 rfl rfl (by kernel_rfl) rfl (OT.call rfl rfl rfl rfl rfl rfl goes24 ((comp_law a c _ _ s l hs0 hS h g hr4 gr4 hB gB).x ?_))
      rintro _ _ _ ⟨rfl, rfl, rfl⟩; refine ⟨Mem.le_refl _, _, List.Perm.refl _, ?_⟩
      refine DO.run 17 rfl rfl (by kernel_rfl) rfl (OT.call rfl rfl rfl rfl rfl rfl goes24 ((comp_law a c _ _ s4 (l ++ [furD]) hs4 hS4 h g hr4 gr4 hB gB).x ?_))
      rintro _ _ _ ⟨rfl, rfl, rfl⟩; refine ⟨Mem.le_refl _, _, List.Perm.refl _, ?_⟩
      refine DO.run 18 rfl rfl (by kernel_rfl) rfl ?_; rw [qc]; refine OT.eqBool tab rfl rfl rfl rfl rfl rfl ?_; rw [beq_self_eq_true]; refine ⟨Mem.le_refl _, _, List.Perm.refl _, ?_⟩
      refine DO.pure tab (by repeat (first|exact Calm.ret|refine Calm.then ?_)) (by kernel_rfl) [19, 20] (by kernel_rfl) rfl ?_
      (refine DO.nil0 (by kernel_rfl) ?_)
      rotate_left 1
      refine thenQ_n ?_
      repeat (refine q1 ?_)
      refine TC.draw0 [] mixed 16 rfl ?_
      refine DO.pure tab (by repeat (first|exact Calm.ret|refine Calm.then ?_)) (by kernel_rfl) [0] (by kernel_rfl) rfl ?_
      refine DO.run 1 rfl rfl (by kernel_rfl) rfl (OT.call rfl rfl rfl rfl rfl rfl goes18 ((sound_tbl _ _ s4 (l ++ [furD]) hs4 hS4).x ?_))
      rintro _ _ _ ⟨rfl, rfl, rfl⟩; refine ⟨Mem.le_refl _, _, List.Perm.refl _, ?_⟩
      refine DO.run 2 rfl rfl (by kernel_rfl) rfl ?_; refine OT.pureC (v' := .bool true) tab rfl rfl rfl (congrArg Value.bool (decide_eq_true qz')) ?_; refine ⟨Mem.le_refl _, _, List.Perm.refl _, ?_⟩
      refine DO.pure tab (by repeat (first|exact Calm.ret|refine Calm.then ?_)) (by kernel_rfl) [3, 4, 5, 6, 7] (by kernel_rfl) rfl ?_
      (refine DO.loadL (k := 0) tab 8 1 (by repeat (first|exact Calm.ret|refine Calm.then ?_)) (by kernel_rfl) (by kernel_rfl) rfl rfl rfl rfl rfl rfl rfl rfl ?_)
      refine DO.pure tab (by repeat (first|exact Calm.ret|refine Calm.then ?_)) (by kernel_rfl) [10] (by kernel_rfl) rfl ?_
      (refine DO.loadL (k := 0) tab 11 1 (by repeat (first|exact Calm.ret|refine Calm.then ?_)) (by kernel_rfl) (by kernel_rfl) rfl rfl rfl rfl rfl rfl rfl rfl ?_)
      refine DO.run 9 rfl rfl (by kernel_rfl) rfl (OT.call rfl rfl rfl rfl rfl rfl goes20 ((known_law a _ _ s l hs0 hS h hr4 hB).x ?_))
      rintro _ _ _ ⟨rfl, rfl, rfl⟩; refine ⟨Mem.le_refl _, _, List.Perm.refl _, ?_⟩
      refine DO.run 12 rfl rfl (by kernel_rfl) rfl (OT.call rfl rfl rfl rfl rfl rfl goes20 ((known_law a _ _ s4 (l ++ [furD]) hs4 hS4 h hr4 hB).x ?_))
      rintro _ _ _ ⟨rfl, rfl, rfl⟩; refine ⟨Mem.le_refl _, _, List.Perm.refl _, ?_⟩
      refine DO.run 13 rfl rfl (by kernel_rfl) rfl ?_; rw [qk]; refine OT.eqBool tab rfl rfl rfl rfl rfl rfl ?_; rw [beq_self_eq_true]; refine ⟨Mem.le_refl _, _, List.Perm.refl _, ?_⟩
      refine DO.pure tab (by repeat (first|exact Calm.ret|refine Calm.then ?_)) (by kernel_rfl) [14, 15] (by kernel_rfl) rfl ?_
      (refine DO.nil0 (by kernel_rfl) ?_)
      rotate_left 1
      refine thenQ_n ?_
      repeat (refine q15 ?_)
      refine retQ_ret rfl (by repeat (first|exact List.Sublist.refl _|refine List.Sublist.cons _ ?_)) ⟨hm04, rfl, rfl⟩
end Go.Sep
